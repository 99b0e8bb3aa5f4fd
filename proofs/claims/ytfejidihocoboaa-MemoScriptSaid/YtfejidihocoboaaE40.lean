/- Merged: E18 E40 -/
import Derived.Test.YtfejidihocoboaaE11
import Derived.Test.YtfejidihocoboaaHeld
import Derived.Laws.MakeOwn
import Derived.Lib.AppendZerosOnto
import Derived.Lib.Overlaps
import Derived.Laws.NewBlocks
import Derived.Test.YtfejidihocoboaaHeldL
import Derived.Test.YtfejidihocoboaaTrF
import Derived.Test.YtfejidihocoboaaTrB
import Derived.Test.YtfejidihocoboaaFL
import Derived.Test.YtfejidihocoboaaTrC
import Derived.Test.YtfejidihocoboaaI12
import Derived.Deep.LoopGhost
import Derived.Test.YtfejidihocoboaaSp1
set_option linter.unusedVariables false
set_option linter.unusedSimpArgs false
/- E18 -/
namespace Go.Proofs.Ytfejidihocoboaa
open Go Go.RowKit
theorem spl_take {l cs : List Value} {o k : Nat} (h : o ≤ l.length) (hk : k ≤ o) : (l.take o ++ (cs ++ l.drop (o + cs.length))).take k = l.take k := by
  rw [List.take_append_of_le_length (by rw [List.length_take]; omega), List.take_take, Nat.min_eq_left hk]
theorem spl_get {l cs : List Value} {o : Nat} (h : o ≤ l.length) : (l.take o ++ (cs ++ l.drop (o + cs.length))).take (o + cs.length) = l.take o ++ cs := by
  rw [← List.append_assoc]
  exact List.take_left' (by rw [List.length_append, List.length_take, Nat.min_eq_left h])
theorem spl_len {l cs : List Value} {o : Nat} (h : o + cs.length ≤ l.length) : (l.take o ++ (cs ++ l.drop (o + cs.length))).length = l.length := by
  simp only [List.length_append, List.length_take, List.length_drop]; omega
theorem run_copy_atK {P : Program} {w : World} (dT sT ty elem : TypeId) (k : Nat) (hu : P.underlying dT = some (.slice elem)) (hsz : (P.info? elem).map (·.size) = some k)
    (g off dLen dCap : Nat) (ad : Addr) (sLen sCap : Nat) (cur : List Value) (t : TypeId) (hg : w.heap[g]? = some (.cells cur.toArray t (0, 0))) (cs : List Value) (hn : cs.length = Nat.min sLen dLen * k)
    (hsrc : ∀ j v, cs[j]? = some v → w.cell? (ad.add j) = some v) (hfit : off + cs.length ≤ cur.length) (h1 : ∀ v ∈ cs, v.oneCell' = true) :
    ∃ w', (Builtin.copy_ #[dT, sT] ty #[.slice (some ⟨g, off, none⟩) dLen dCap, .slice (some ad) sLen sCap]).run P w = .ok (goInt (Nat.min sLen dLen)) w' ∧ Hid (w'.heap[g]? = some (.cells (cur.take off ++ (cs ++ cur.drop (off + cs.length))).toArray t (0, 0))) ∧ Hid (Ext (At g) w w') := by
  have hrun := run_copy_rowK (P := P) w dT sT ty elem k g off dLen dCap ad sLen sCap cur.toArray t cs hu hsz hg hn hsrc (by simpa using hfit) h1
  exact ⟨_, hrun, Lib.hid (by simpa using setRow_heap w g _ _ t _ hg), Lib.hid ⟨rfl, rfl, rfl, by simp [World.setRow], fun i hi hne => setRow_other w g i _ (fun e => hne e)⟩⟩
end Go.Proofs.Ytfejidihocoboaa

/- E40 -/
namespace Go.Proofs.Ytfejidihocoboaa
open Go Go.RowKit
theorem Row.or {M M' : Nat → Prop} {w : World} {s n : Nat} {sl : Value} {vs : List Value} (h1 : Row M w s sl n vs) (h2 : Row M' w s sl n vs) : Row (fun b => M b ∨ M' b) w s sl n vs := by
  obtain ⟨e1, e2, a, cap, rfl, e4, h1⟩ := h1
  obtain ⟨-, -, a', cap', e5, -, h2⟩ := h2
  simp only [Value.slice.injEq, true_and] at e5
  obtain ⟨rfl, rfl⟩ := e5
  refine ⟨e1, e2, a, cap, rfl, e4, ?_⟩
  rcases h1 with h1 | ⟨b, off, rfl, q1, q2, q3⟩
  · exact .inl h1
  · rcases h2 with h2 | ⟨b', off', e6, -, q4, -⟩
    · exact .inl h2
    · simp only [Option.some.injEq, Addr.mk.injEq, and_true] at e6
      obtain ⟨rfl, rfl⟩ := e6
      exact .inr ⟨b, off, rfl, q1, fun e => e.elim q2 q4, q3⟩
theorem SetAt.or {M M' : Nat → Prop} {w : World} {sl : Value} {x m : Nat} (h1 : SetAt M w sl x m) (h2 : SetAt M' w sl x m) : SetAt (fun b => M b ∨ M' b) w sl x m := ⟨⟨h1.words.row.or h2.words.row, h1.words.lt⟩, h1.hw, h1.hm⟩
end Go.Proofs.Ytfejidihocoboaa

/- E40 -/
namespace Go.Proofs.Ytfejidihocoboaa
open Go Go.RowKit
theorem Ints.slice {M : Nat → Prop} {w : World} {sl : Value} {l : List Int} (h : Ints M w .i64 sl l) : ∃ a c, sl = .slice a l.length c := Row.slice h
theorem Ints.len {M : Nat → Prop} {w : World} {sl : Value} {l : List Int} (h : Ints M w .i64 sl l) : l.length ≤ 9223372036854775807 := by
  exact h.2.1
end Go.Proofs.Ytfejidihocoboaa

/- E40 -/
namespace Go.Proofs.Ytfejidihocoboaa
open Go Go.RowKit
theorem flat_take {β : Type} (K : EK β) (L : List β) (i : Nat) : (L.flatMap K.cells).take (i * K.s) = (L.take i).flatMap K.cells := by
  induction L generalizing i with
  | nil => simp
  | cons b L ih =>
    cases i with
    | zero => simp
    | succ i =>
      rw [List.flatMap_cons, List.take_succ_cons, List.flatMap_cons, List.take_append, K.len, show (i + 1) * K.s - K.s = i * K.s from by rw [Nat.add_mul]; omega, ih, List.take_of_length_le (by rw [K.len, Nat.add_mul]; omega)]
theorem flat_drop {β : Type} (K : EK β) (L : List β) (i : Nat) : (L.flatMap K.cells).drop (i * K.s) = (L.drop i).flatMap K.cells := by
  induction L generalizing i with
  | nil => simp
  | cons b L ih =>
    cases i with
    | zero => simp
    | succ i =>
      rw [List.flatMap_cons, List.drop_succ_cons, List.drop_append, K.len, show (i + 1) * K.s - K.s = i * K.s from by rw [Nat.add_mul]; omega, ih, List.drop_of_length_le (by rw [K.len, Nat.add_mul]; omega), List.nil_append]
end Go.Proofs.Ytfejidihocoboaa

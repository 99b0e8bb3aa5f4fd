/- Merged: I16 I12 -/
import Derived.Test.YtfejidihocoboaaFL
import Derived.Test.YtfejidihocoboaaTrC
import Derived.Test.YtfejidihocoboaaHeldL
import Derived.Test.YtfejidihocoboaaTrF
import Derived.Test.YtfejidihocoboaaHeld
import Derived.Test.YtfejidihocoboaaTrB
import Derived.Deep.LoopGhost
set_option linter.unusedVariables false
set_option linter.unusedSimpArgs false
/- I16 -/
namespace Go.Proofs.Ytfejidihocoboaa
open Go Go.RowKit
structure SysD where
  w : Nat
  deps : List (List Nat)
  trs : List TrD
  bnd : List Nat
def rowD (rs : List Nat) (k : Nat) : Nat := (rs[k]?).getD 0
def trD (S : SysD) (i : Nat) : TrD := (S.trs[i]?).getD ⟨S.w, 0, 0, []⟩
/-! ### right sides -/
def stepR (S : SysD) (vs : List Nat) (out m : Nat) : Nat := orN out (applyT (trD S m) (rowD vs m))
/-! ### the rounds -/
/-! ### systems in memory -/
end Go.Proofs.Ytfejidihocoboaa

/- I16 -/
namespace Go.Proofs.Ytfejidihocoboaa
open Go Go.RowKit
/-! ### two lists under way -/
def HA (X : Nat) (vB vC : Value) : Nat → Prop := fun b => b ≤ X ∨ vB.ownBlock = some b ∨ vC.ownBlock = some b
end Go.Proofs.Ytfejidihocoboaa

/- I16 -/
namespace Go.Proofs.Ytfejidihocoboaa
open Go Go.RowKit
abbrev LA := List (Int × RawT × Value × Value × Value)
end Go.Proofs.Ytfejidihocoboaa

/- I16 -/
namespace Go.Proofs.Ytfejidihocoboaa
open Go Go.RowKit
def HP (P : Nat → Prop) (vB vC : Value) : Nat → Prop := fun b => P b ∨ vB.ownBlock = some b ∨ vC.ownBlock = some b
end Go.Proofs.Ytfejidihocoboaa

/- I12 -/
namespace Go.Proofs.Ytfejidihocoboaa
open Go Go.RowKit
theorem flat_set_get {β : Type} (K : EK β) (p : β) : ∀ (L : List β) (i n : Nat), i < L.length → ((L.set i p).flatMap K.cells)[n]? = if i * K.s ≤ n ∧ n < i * K.s + K.s then (K.cells p)[n - i * K.s]? else (L.flatMap K.cells)[n]?
  | [], _, _, h => absurd h (Nat.not_lt_zero _)
  | q :: L, 0, n, _ => by
    rw [List.set_cons_zero, List.flatMap_cons, List.flatMap_cons, List.getElem?_append, List.getElem?_append, K.len, K.len]
    by_cases h : n < K.s
    · rw [if_pos h, if_pos ⟨by omega, by omega⟩]; simp
    · rw [if_neg h, if_neg (by omega), if_neg h]
  | q :: L, i + 1, n, h => by
    have ih := flat_set_get K p L i (n - K.s) (by simpa using h)
    rw [List.set_cons_succ, List.flatMap_cons, List.flatMap_cons, List.getElem?_append, List.getElem?_append, K.len]
    have e : (i + 1) * K.s = i * K.s + K.s := Nat.succ_mul _ _
    by_cases h2 : n < K.s
    · rw [if_pos h2, if_pos h2, if_neg (by omega)]
    · rw [if_neg h2, if_neg h2, ih]
      by_cases h3 : i * K.s ≤ n - K.s ∧ n - K.s < i * K.s + K.s
      · rw [if_pos h3, if_pos (by omega), e, show n - K.s - i * K.s = n - (i * K.s + K.s) by omega]
      · rw [if_neg h3, if_neg (by omega)]
def setAll (xs : List Value) (o : Nat) : List Value → List Value
  | [] => xs
  | u :: us => setAll (xs.set o u) (o + 1) us
theorem setAll_get : ∀ (us xs : List Value) (o n : Nat), o + us.length ≤ xs.length → (setAll xs o us)[n]? = if o ≤ n ∧ n < o + us.length then us[n - o]? else xs[n]?
  | [], xs, o, n, _ => by rw [setAll, if_neg (by simp)]
  | u :: us, xs, o, n, h => by
    simp only [List.length_cons] at h ⊢
    rw [setAll, setAll_get us (xs.set o u) (o + 1) n (by rw [List.length_set]; omega)]
    by_cases h1 : o + 1 ≤ n ∧ n < o + 1 + us.length
    · rw [if_pos h1, if_pos (by omega), show n - o = (n - (o + 1)) + 1 by omega, List.getElem?_cons_succ]
    · rw [if_neg h1]
      by_cases h2 : n = o
      · subst h2
        rw [if_pos (by omega), List.getElem?_set_self (by omega)]; simp
      · rw [if_neg (by omega), List.getElem?_set_ne (by omega)]
theorem flat_len2 {β : Type} (K : EK β) : ∀ L : List β, (L.flatMap K.cells).length = L.length * K.s
  | [] => by simp
  | q :: L => by rw [List.flatMap_cons, List.length_append, K.len, flat_len2 K L, List.length_cons, Nat.succ_mul]; omega
theorem mul_in {i n s : Nat} (hi : i < n) : i * s + s ≤ n * s := by
  have := Nat.mul_le_mul_right s (Nat.succ_le_of_lt hi)
  rwa [Nat.succ_mul] at this
theorem flat_setAll {β : Type} (K : EK β) (L : List β) (i : Nat) (p : β) (hi : i < L.length) : setAll (L.flatMap K.cells) (i * K.s) (K.cells p) = (L.set i p).flatMap K.cells := by
  refine List.ext_getElem? (fun n => ?_)
  rw [flat_set_get K p L i n hi, setAll_get _ _ _ _ (by rw [K.len, flat_len2]; exact mul_in hi), K.len]
def storeAll (w : World) (g o : Nat) : List Value → World
  | [] => w
  | u :: us => storeAll (w.setCell ⟨g, o, none⟩ u) g (o + 1) us
theorem storeAll_ext : ∀ (us : List Value) (w : World) (g o : Nat), Ext (At g) w (storeAll w g o us)
  | [], w, g, o => Ext.refl _ _
  | u :: us, w, g, o => ((Ext.refl (At g) w).setAt o u).trans (storeAll_ext us _ g (o + 1))
theorem storeAll_own {e : TypeId} {size n base g cap : Nat} : ∀ (us xs : List Value) (w : World) (o : Nat), w.ownsRow base e size (.slice (some ⟨g, 0, none⟩) n cap) n xs → (storeAll w g o us).ownsRow base e size (.slice (some ⟨g, 0, none⟩) n cap) n (setAll xs o us)
  | [], _, _, _, h => h
  | u :: us, xs, w, o, h => storeAll_own us _ _ (o + 1) (World.ownsRow.stored (w := w) h o u).1
section
variable {β : Type} {K : EK β} {A : Nat → Prop} {w : World} {base g cap : Nat} {v : Value} {L : List β}
theorem LOwn.shape (h : LOwn K A w base v L) (hn : L.length ≠ 0) : ∃ g cap, v = .slice (some ⟨g, 0, none⟩) L.length cap ∧ base ≤ g ∧ g < w.heap.size := by
  obtain ⟨h1, h2⟩ := h.own
  rcases h2 with ⟨_, h3⟩ | ⟨g, cap, cur, rfl, hb, hg, _⟩
  · exact absurd h3 hn
  · exact ⟨g, cap, rfl, hb, lt_of_block hg⟩
theorem LOwn.cellAt (h : LOwn K A w base (.slice (some ⟨g, 0, none⟩) L.length cap) L) {i j : Nat} (hi : i < L.length) (hj : j < K.s) {u : Value} (hu : (K.cells L[i])[j]? = some u) : w.cell? ⟨g, i * K.s + j, none⟩ = some u := by
  have := mul_in (s := K.s) hi
  rw [World.ownsRow.cellAt h.own _ (by omega), flat_get2 K L i j hi hj]; exact hu
theorem LOwn.putAll (h : LOwn K A w base (.slice (some ⟨g, 0, none⟩) L.length cap) L) {i : Nat} (hi : i < L.length) {p : β} (hp : K.ok (fun b => A b ∨ b = g) w p) : LOwn K A (storeAll w g (i * K.s) (K.cells p)) base (.slice (some ⟨g, 0, none⟩) L.length cap) (L.set i p) := by
  refine ⟨?_, fun q hq => ?_⟩
  · rw [List.length_set, ← flat_setAll K L i p hi]
    exact storeAll_own _ _ _ _ h.own
  · have hq2 : K.ok (fun b => A b ∨ b = g) w q := by
      rcases List.mem_or_eq_of_mem_set hq with hq | rfl
      · exact K.mono (h.ok q hq) (fun i _ e => by
          rcases e with e | rfl
          · exact .inl e
          · exact .inr rfl)
      · exact hp
    refine K.mono (K.ext hq2 (storeAll_ext _ w g _) (fun i _ e => .inr e)) (fun i _ e => ?_)
    rcases e with e | e
    · exact .inl e
    · simp only [Value.ownBlock, Option.some.injEq] at e; exact .inr e.symm
end
end Go.Proofs.Ytfejidihocoboaa

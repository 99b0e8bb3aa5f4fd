/- slices.Insert of one arc. -/
import Derived.Test.YtfejidihocoboaaE11
import Derived.Test.YtfejidihocoboaaHeld
import Derived.Laws.MakeOwn
import Derived.Lib.AppendZerosOnto
import Derived.Lib.Overlaps
import Derived.Laws.NewBlocks
set_option linter.unusedVariables false
set_option linter.unusedSimpArgs false
namespace Go.Proofs.Ytfejidihocoboaa
open Go Go.RowKit
theorem spl_take {l cs : List Value} {o k : Nat} (h : o ≤ l.length) (hk : k ≤ o) : (l.take o ++ (cs ++ l.drop (o + cs.length))).take k = l.take k := by
  rw [List.take_append_of_le_length (by rw [List.length_take]; omega), List.take_take, Nat.min_eq_left hk]
theorem spl_get {l cs : List Value} {o : Nat} (h : o ≤ l.length) : (l.take o ++ (cs ++ l.drop (o + cs.length))).take (o + cs.length) = l.take o ++ cs := by
  rw [← List.append_assoc]
  exact List.take_left' (by rw [List.length_append, List.length_take, Nat.min_eq_left h])
theorem spl_len {l cs : List Value} {o : Nat} (h : o + cs.length ≤ l.length) : (l.take o ++ (cs ++ l.drop (o + cs.length))).length = l.length := by
  simp only [List.length_append, List.length_take, List.length_drop]; omega
theorem run_copy_atK {P : Program} {w : World} (dT sT ty elem : TypeId) (k : Nat) (hu : P.underlying dT = some (.slice elem)) (hsz : (P.info? elem).map (·.size) = some k)
    (g off dLen dCap : Nat) (ad : Addr) (sLen sCap : Nat) (cur : List Value) (t : TypeId) (hg : w.heap[g]? = some (.cells cur.toArray t (0, 0))) (cs : List Value) (hn : cs.length = Nat.min sLen dLen * k)
    (hsrc : ∀ j v, cs[j]? = some v → w.cell? (ad.add j) = some v) (hfit : off + cs.length ≤ cur.length) (h1 : ∀ v ∈ cs, v.oneCell' = true) :
    ∃ w', (Builtin.copy_ #[dT, sT] ty #[.slice (some ⟨g, off, none⟩) dLen dCap, .slice (some ad) sLen sCap]).run P w = .ok (goInt (Nat.min sLen dLen)) w' ∧ Hid (w'.heap[g]? = some (.cells (cur.take off ++ (cs ++ cur.drop (off + cs.length))).toArray t (0, 0))) ∧ Hid (Ext (At g) w w') := by
  have hrun := run_copy_rowK (P := P) w dT sT ty elem k g off dLen dCap ad sLen sCap cur.toArray t cs hu hsz hg hn hsrc (by simpa using hfit) h1
  exact ⟨_, hrun, Lib.hid (by simpa using setRow_heap w g _ _ t _ hg), Lib.hid ⟨rfl, rfl, rfl, by simp [World.setRow], fun i hi hne => setRow_other w g i _ (fun e => hne e)⟩⟩
end Go.Proofs.Ytfejidihocoboaa

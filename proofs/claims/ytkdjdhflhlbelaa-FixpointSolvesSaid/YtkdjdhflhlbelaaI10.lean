/- checks: both sides' Next, IsSolution and IsAbove agree. -/
import Derived.Test.YtkdjdhflhlbelaaI7
set_option linter.unusedVariables false
set_option linter.unusedSimpArgs false
namespace Go.Proofs.Ytkdjdhflhlbelaa
open Go Go.RowKit
/-- values and an error -/
def NextR (E : Int) (wd : Nat) (us : List Nat) (W : World) (e : Ending) (w' : World) : Prop :=
 ∃ a c, e = .returned (.tuple #[.slice a us.length c, .int .i64 E]) ∧ Hid (SetsV No w' (.slice a us.length c) wd us) ∧ Ext No W w'
theorem NextR.err {E : Int} {W w' : World} {e : Ending} (h : ErrPost (.slice none 0 0) E W e w') : NextR E 0 [] W e w' := by
 obtain ⟨rfl, hx⟩ := h
 exact ⟨none, 0, rfl, Lib.hid (LAt.setsV (L := []) (LAt.nil _ _ (Nat.zero_le _)) rfl (Nat.zero_le _) (fun m hm => by cases hm)), hx⟩
theorem NextR.ok {wd : Nat} {us : List Nat} {W w' : World} {e : Ending} (h : SetsEPost No wd us W e w') : NextR 0 wd us W e w' := h
end Go.Proofs.Ytkdjdhflhlbelaa

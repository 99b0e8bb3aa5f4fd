
import Derived.Test.YtjeohlooaiociaaGreatDoorP25
set_option linter.unusedVariables false
set_option linter.unusedSimpArgs false
namespace Go.Proofs.YtjeohlooaiociaaGreatDoor
open Go Go.RowKit Go.ChangeShapes Go.WideShapes Go.Deep
section
variable {H : Type} {enc : TypeId × Value → H} {W : World} {base : Nat} {spare : Nat → Bool} {held : Bool}
set_option maxRecDepth 100000 in
theorem open_proof {r : Reach} {b0 : Nat} {v : Value} {d : DataW H} {p : List MemPlace}
  (hv : Value.okWide Tryz.prog W r b0 29 v) (h : DataW.Trod enc Tryz.prog W base spare held 29 v d p) :
  ∃ (vv vr : Value) (Lv : LS) (R : LD), v = .agg #[vv, vr] ∧ LAt kS No W vv Lv ∧ LAt kD No W vr R := by
 obtain ⟨cs, rfl, hsz⟩ := okWide_struct Tryz.underlying29 hv
 have hsz4 : cs.size = 2 := hsz.trans (by kernel_rfl)
 obtain ⟨n, hf⟩ := open_fields Tryz.underlying29 h
 obtain ⟨l⟩ := cs
 match l, hsz4 with
 | [v0, v1], _ =>
  obtain ⟨x0, h0⟩ := hf 0 _ rfl
  obtain ⟨x1, h1⟩ := hf 1 _ rfl
  have k0 : Tryz.prog.cellsOf 25 = 1 := by kernel_rfl
  have k1 : Tryz.prog.cellsOf 23 = 1 := by kernel_rfl
  simp only [k0] at h0
  simp only [k1] at h1
  obtain ⟨s0, L0, e0, hw0⟩ := open_sets h0
  obtain ⟨s1, L1, e1, hw1⟩ := open_deps h1
  have f0 : v0 = s0 := by simpa [k0] using e0
  have f1 : v1 = s1 := by simpa [k1] using e1
  subst f0 f1
  exact ⟨_, _, L0, L1, rfl, hw0, hw1⟩
end

/- SolveWeb at the web of a valid system. -/
import Derived.Test.YtkdjdhflhlbelaaH6
set_option linter.unusedVariables false
set_option linter.unusedSimpArgs false
namespace Go.Proofs.Ytkdjdhflhlbelaa
open Go Go.RowKit
def SolveWPost (M : Nat → Prop) (S : SysD) (W : World) (e : Ending) (w' : World) : Prop :=
  ∃ (R : Nat) (a : Option Addr) (c : Nat), FixAt S R ∧ e = .returned (.tuple #[.slice a S.deps.length c, .int .i64 0]) ∧ Hid (SetsV M w' (.slice a S.deps.length c) S.w (iterD S R)) ∧ Ext No W w'
set_option maxHeartbeats 1000000 in
theorem solveWeb_any (M : Nat → Prop) (S : SysD) (vb vi : Value) (W : World) (hM : ∀ b, M b → b < W.heap.size) (h : WebAt No W vb vi S) :
    Calls Try.prog 32 #[.agg #[.int .i64 (S.w : Int), vb, vi]] W (SolveWPost M S W) := by
  have H := Lib.hid h
  have HM := Lib.hid hM
  obtain ⟨ab, cb, ai, ci, rfl, rfl⟩ := h.slices
  clear h hM
  go_enter Try.func32, Try.ntmps32
  go_wp2_with fail
  have hx0 : Ext No W (W.alloc (.cells #[.int .i64 (S.w : Int), .slice ab S.deps.length cb, .slice ai S.deps.length ci] 56)) := (Ext.refl _ _).alloc _
  refine (validWeb_yes S _ _ _ (H.out.extNo hx0)).mono ?_
  rintro e1 w1 ⟨rfl, hx1⟩
  have HA := Lib.hid (hx1.blk (alloc_top (w := W) (o := (.cells #[.int .i64 (S.w : Int), .slice ab S.deps.length cb, .slice ai S.deps.length ci] 56)) rfl) no_no)
  have HX := Lib.hid (hx0.transNo hx1)
  clear hx0 hx1
  have cA := cellOf HA.out
  go_wp2_with fail
  clear cA
  refine (roundsW_any M S _ _ W.heap.size _ (fun b hb => Nat.lt_of_lt_of_le (HM.out b hb) HX.out.size) HA.out (H.out.extNo HX.out)).mono ?_
  rintro e2 w2 ⟨R, a2, c2, hR, rfl, hs2, hx2⟩
  have HR := Lib.hid hR
  clear hR
  go_wp2_with fail
  refine ret_ex rfl ?_
  simp [results, Try.results32, go_sem]
  exact ⟨R, a2, c2, HR.out, rfl, hs2, HX.out.transNo hx2⟩
end Go.Proofs.Ytkdjdhflhlbelaa

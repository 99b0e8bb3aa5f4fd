/- Star of both sides at any raw function. -/
import Derived.Test.YtgakojgkkdmabaaDoorSt1
import Derived.Test.YtgakojgkkdmabaaDoorRefI
import Derived.Test.YtgakojgkkdmabaaDoorTr34
set_option linter.unusedVariables false
set_option linter.unusedSimpArgs false
namespace Go.Proofs.YtgakojgkkdmabaaDoor
open Go Go.RowKit

theorem closeQ_congr {w gen gen' : Nat} {rs rs' : List Nat} (h : closeT w gen rs = closeT w gen' rs') : closeQ w gen rs = closeQ w gen' rs' ∧ closeE w gen rs = closeE w gen' rs' := by
  have hc : copTo w gen rs w = copTo w gen' rs' w := congrArg TrD.copies h
  unfold closeQ closeE
  rw [hc, h]
  exact ⟨rfl, rfl⟩
/-- program and reference answer the same pair -/
theorem star_both (r : RawT) (hg : ∀ n ∈ r.gen.words, n < 2 ^ 64) (hk : ∀ n ∈ r.kill.words, n < 2 ^ 64) :
    ∃ (q : RawT) (e0 : Int), ∀ (M : Nat → Prop) (g1 k1 c1 : Value) (W : World), (∀ b, M b → b < W.heap.size) → RawTAt No W g1 k1 c1 r →
      (TabW W → Calls Tryd.prog 27 #[.agg #[.int .i64 r.gen.width, g1, .int .i64 r.kill.width, k1, c1]] W (ResP M q e0 W)) ∧
      Calls Tryd.prog 28 #[.agg #[.int .i64 r.gen.width, g1, .int .i64 r.kill.width, k1, c1]] W (ResP M q e0 W) := by
  by_cases hv : validT r = true
  · obtain ⟨t, ho, rfl⟩ := validT_ex hv hg hk
    obtain ⟨e1, e2⟩ := closeQ_congr (show closeT t.w (closZ t.gen (tabT t) t.w 0) (starTab t t.w) = closeT t.w (closN (rowsN t t.w t.copies.length) t.w t.gen) (starRows t.w (rowsN t t.w t.copies.length) t.w) from star_tab ho)
    refine ⟨closeQ t.w (closZ t.gen (tabT t) t.w 0) (starTab t t.w), closeE t.w (closZ t.gen (tabT t) t.w 0) (starTab t t.w), fun M g1 k1 c1 W hM h => ⟨fun hT => ?_, ?_⟩⟩
    · rw [e1, e2]
      exact (star_any M t g1 k1 c1 W hM hT (h.tr ho)).mono (fun _ _ h => h.res)
    · exact (rstar_any M t g1 k1 c1 W hM (h.tr ho)).mono (fun _ _ h => h.res)
  · have hv : validT r = false := by simpa using hv
    exact ⟨zeroT, 1, fun M g1 k1 c1 W hM h => ⟨fun _ => (star_no r g1 k1 c1 W h hv).mono (fun _ _ h => h.res), (rstar_no r g1 k1 c1 W h hv).mono (fun _ _ h => h.res)⟩⟩
end Go.Proofs.YtgakojgkkdmabaaDoor

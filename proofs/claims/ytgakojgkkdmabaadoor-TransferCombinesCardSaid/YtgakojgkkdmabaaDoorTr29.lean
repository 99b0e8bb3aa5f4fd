/- transfer: matching. -/
import Derived.Test.YtgakojgkkdmabaaDoorTr28
import Derived.Test.YtgakojgkkdmabaaDoorTr6
import Derived.Test.YtgakojgkkdmabaaDoorHeld2
set_option linter.unusedVariables false
set_option linter.unusedSimpArgs false
namespace Go.Proofs.YtgakojgkkdmabaaDoor
open Go Go.RowKit
def matchZ (r1 r2 : RawT) : Int := if validT r1 = true then (if validT r2 = true then (if r1.gen.width = r2.gen.width then 0 else 2) else 1) else 1
theorem open_lo (t : TrD) (sg sk sc : Value) (W : World) (h : TrAt No W sg sk sc t) :
  Calls Tryd.prog 52 #[.agg #[.int .i64 (t.w : Int), sg, .int .i64 (t.w : Int), sk, sc]] W (RowsPost (Lo W.heap.size) t.w t.gen (rowsN t t.w t.copies.length) W) := open_any (Lo W.heap.size) t sg sk sc W (fun _ x => x) h
set_option maxRecDepth 100000 in
set_option maxHeartbeats 1000000 in
theorem matching_any (r1 r2 : RawT) (g1 k1 c1 g2 k2 c2 : Value) (W : World) (h1 : RawTAt No W g1 k1 c1 r1) (h2 : RawTAt No W g2 k2 c2 r2) :
  Calls Tryd.prog 51 #[.agg #[.int .i64 r1.gen.width, g1, .int .i64 r1.kill.width, k1, c1], .agg #[.int .i64 r2.gen.width, g2, .int .i64 r2.kill.width, k2, c2]] W (IntPost (matchZ r1 r2) W) := by
 have H1 := Lib.hid h1
 have H2 := Lib.hid h2
 obtain ⟨ag1, ng1, cg1, rfl⟩ := h1.gen.shaped
 obtain ⟨ak1, nk1, ck1, rfl⟩ := h1.kill.shaped
 obtain ⟨ac1, nc1, cc1, rfl⟩ := h1.copies.shaped
 obtain ⟨ag2, ng2, cg2, rfl⟩ := h2.gen.shaped
 obtain ⟨ak2, nk2, ck2, rfl⟩ := h2.kill.shaped
 obtain ⟨ac2, nc2, cc2, rfl⟩ := h2.copies.shaped
 clear h1 h2
 go_enter Tryd.func51, Tryd.ntmps51
 go_wp2_with fail
 have hx0 : Ext No W ((W.alloc (.cells #[.int .i64 r1.gen.width, .slice ag1 ng1 cg1, .int .i64 r1.kill.width, .slice ak1 nk1 ck1, .slice ac1 nc1 cc1] 28)).alloc (.cells #[.int .i64 r2.gen.width, .slice ag2 ng2 cg2, .int .i64 r2.kill.width, .slice ak2 nk2 ck2, .slice ac2 nc2 cc2] 28)) := ((Ext.refl _ _).alloc _).alloc _
 have hA : ((W.alloc (.cells #[.int .i64 r1.gen.width, .slice ag1 ng1 cg1, .int .i64 r1.kill.width, .slice ak1 nk1 ck1, .slice ac1 nc1 cc1] 28)).alloc (.cells #[.int .i64 r2.gen.width, .slice ag2 ng2 cg2, .int .i64 r2.kill.width, .slice ak2 nk2 ck2, .slice ac2 nc2 cc2] 28)).heap[W.heap.size]? = some (.cells #[.int .i64 r1.gen.width, .slice ag1 ng1 cg1, .int .i64 r1.kill.width, .slice ak1 nk1 ck1, .slice ac1 nc1 cc1] 28 (0, 0)) := alloc_under (alloc_top rfl)
 have hB : ((W.alloc (.cells #[.int .i64 r1.gen.width, .slice ag1 ng1 cg1, .int .i64 r1.kill.width, .slice ak1 nk1 ck1, .slice ac1 nc1 cc1] 28)).alloc (.cells #[.int .i64 r2.gen.width, .slice ag2 ng2 cg2, .int .i64 r2.kill.width, .slice ak2 nk2 ck2, .slice ac2 nc2 cc2] 28)).heap[W.heap.size + 1]? = some (.cells #[.int .i64 r2.gen.width, .slice ag2 ng2 cg2, .int .i64 r2.kill.width, .slice ak2 nk2 ck2, .slice ac2 nc2 cc2] 28 (0, 0)) := alloc_top (by simp)
 generalize ((W.alloc (.cells #[.int .i64 r1.gen.width, .slice ag1 ng1 cg1, .int .i64 r1.kill.width, .slice ak1 nk1 ck1, .slice ac1 nc1 cc1] 28)).alloc (.cells #[.int .i64 r2.gen.width, .slice ag2 ng2 cg2, .int .i64 r2.kill.width, .slice ak2 nk2 ck2, .slice ac2 nc2 cc2] 28)) = W2 at *
 refine (validT_any r1 _ _ _ _ (H1.out.extNo hx0)).mono ?_
 rintro e1 w1 ⟨rfl, hx1⟩
 have hx := Lib.hid (hx0.transNo hx1)
 have HA := Lib.hid (hx1.blk hA no_no)
 have HB := Lib.hid (hx1.blk hB no_no)
 clear hx0 hx1 hA hB
 cases hv1 : validT r1 with
 | false =>
  have e : matchZ r1 r2 = 1 := by unfold matchZ; rw [if_neg (by simp [hv1])]
  have E := Lib.hid e
  clear hv1 e
  go_wp2_with fail
  go_ret
  rw [E.out]
  exact ⟨rfl, hx.out⟩
 | true =>
  have cB := cellOf HB.out
  have HV1 := Lib.hid hv1
  clear hv1
  go_wp2_with fail
  refine (validT_any r2 _ _ _ _ (H2.out.extNo hx.out)).mono ?_
  rintro e2 w2 ⟨rfl, hx2⟩
  cases hv2 : validT r2 with
  | false =>
   have e : matchZ r1 r2 = 1 := by unfold matchZ; rw [if_pos HV1.out, if_neg (by simp [hv2])]
   have E := Lib.hid e
   clear hv2 e
   go_wp2_with fail
   go_ret
   rw [E.out]
   exact ⟨rfl, hx.out.transNo hx2⟩
  | true =>
   have HV2 := Lib.hid hv2
   have cA2 := cellOf (hx2.blk HA.out no_no)
   have cB2 := cellOf (hx2.blk HB.out no_no)
   clear hv2 cB
   by_cases hw : r1.gen.width = r2.gen.width
   ·have e : matchZ r1 r2 = 0 := by unfold matchZ; rw [if_pos HV1.out, if_pos HV2.out, if_pos hw]
    have hw' : (r1.gen.width != r2.gen.width) = false := by simpa using hw
    have E := Lib.hid e
    clear hw e
    go_wp2_with fail
    go_ret
    rw [E.out]
    exact ⟨rfl, hx.out.transNo hx2⟩
   ·have e : matchZ r1 r2 = 2 := by unfold matchZ; rw [if_pos HV1.out, if_pos HV2.out, if_neg hw]
    have hw' : (r1.gen.width != r2.gen.width) = true := by simpa using hw
    have E := Lib.hid e
    clear hw e
    go_wp2_with fail
    go_ret
    rw [E.out]
    exact ⟨rfl, hx.out.transNo hx2⟩
theorem matchZ_ok {r1 r2 : RawT} (h : matchZ r1 r2 = 0) : validT r1 = true ∧ validT r2 = true ∧ r1.gen.width = r2.gen.width := by
 unfold matchZ at h
 split at h
 ·split at h
  ·split at h
   ·exact ⟨by assumption, by assumption, by assumption⟩
   ·cases h
  ·cases h
 ·cases h
end Go.Proofs.YtgakojgkkdmabaaDoor

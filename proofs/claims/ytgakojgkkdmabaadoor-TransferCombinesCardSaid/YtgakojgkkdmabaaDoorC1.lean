/- two; JoinFunctions, Compose and Below of the reference that refuse. -/
import Derived.Test.YtgakojgkkdmabaaDoorSt2
import Derived.Test.YtgakojgkkdmabaaDoorTr32
set_option linter.unusedVariables false
set_option linter.unusedSimpArgs false
namespace Go.Proofs.YtgakojgkkdmabaaDoor
open Go Go.RowKit
set_option maxRecDepth 100000 in
set_option maxHeartbeats 1000000 in
theorem rtwo_any (r1 r2 : RawT) (g1 k1 c1 g2 k2 c2 : Value) (W : World) (h1 : RawTAt No W g1 k1 c1 r1) (h2 : RawTAt No W g2 k2 c2 r2) :
  Calls Tryd.prog 90 #[.agg #[.int .i64 r1.gen.width, g1, .int .i64 r1.kill.width, k1, c1], .agg #[.int .i64 r2.gen.width, g2, .int .i64 r2.kill.width, k2, c2]] W (IntPost (matchZ r1 r2) W) := by
 have H1 := Lib.hid h1
 have H2 := Lib.hid h2
 obtain ⟨ag1, ng1, cg1, rfl⟩ := h1.gen.shaped
 obtain ⟨ak1, nk1, ck1, rfl⟩ := h1.kill.shaped
 obtain ⟨ac1, nc1, cc1, rfl⟩ := h1.copies.shaped
 obtain ⟨ag2, ng2, cg2, rfl⟩ := h2.gen.shaped
 obtain ⟨ak2, nk2, ck2, rfl⟩ := h2.kill.shaped
 obtain ⟨ac2, nc2, cc2, rfl⟩ := h2.copies.shaped
 clear h1 h2
 go_enter Tryd.func90, Tryd.ntmps90
 go_wp2_with fail
 have hx0 : Ext No W ((W.alloc (.cells #[.int .i64 r1.gen.width, .slice ag1 ng1 cg1, .int .i64 r1.kill.width, .slice ak1 nk1 ck1, .slice ac1 nc1 cc1] 28)).alloc (.cells #[.int .i64 r2.gen.width, .slice ag2 ng2 cg2, .int .i64 r2.kill.width, .slice ak2 nk2 ck2, .slice ac2 nc2 cc2] 28)) := ((Ext.refl _ _).alloc _).alloc _
 have hA : ((W.alloc (.cells #[.int .i64 r1.gen.width, .slice ag1 ng1 cg1, .int .i64 r1.kill.width, .slice ak1 nk1 ck1, .slice ac1 nc1 cc1] 28)).alloc (.cells #[.int .i64 r2.gen.width, .slice ag2 ng2 cg2, .int .i64 r2.kill.width, .slice ak2 nk2 ck2, .slice ac2 nc2 cc2] 28)).heap[W.heap.size]? = some (.cells #[.int .i64 r1.gen.width, .slice ag1 ng1 cg1, .int .i64 r1.kill.width, .slice ak1 nk1 ck1, .slice ac1 nc1 cc1] 28 (0, 0)) := alloc_under (alloc_top rfl)
 have hB : ((W.alloc (.cells #[.int .i64 r1.gen.width, .slice ag1 ng1 cg1, .int .i64 r1.kill.width, .slice ak1 nk1 ck1, .slice ac1 nc1 cc1] 28)).alloc (.cells #[.int .i64 r2.gen.width, .slice ag2 ng2 cg2, .int .i64 r2.kill.width, .slice ak2 nk2 ck2, .slice ac2 nc2 cc2] 28)).heap[W.heap.size + 1]? = some (.cells #[.int .i64 r2.gen.width, .slice ag2 ng2 cg2, .int .i64 r2.kill.width, .slice ak2 nk2 ck2, .slice ac2 nc2 cc2] 28 (0, 0)) := alloc_top (by simp)
 generalize ((W.alloc (.cells #[.int .i64 r1.gen.width, .slice ag1 ng1 cg1, .int .i64 r1.kill.width, .slice ak1 nk1 ck1, .slice ac1 nc1 cc1] 28)).alloc (.cells #[.int .i64 r2.gen.width, .slice ag2 ng2 cg2, .int .i64 r2.kill.width, .slice ak2 nk2 ck2, .slice ac2 nc2 cc2] 28)) = W2 at *
 refine (rvalidT_any r1 _ _ _ _ (H1.out.extNo hx0)).mono ?_
 rintro e1 w1 ⟨rfl, hx1⟩
 have hx := Lib.hid (hx0.transNo hx1)
 have HA := Lib.hid (hx1.blk hA no_no)
 have HB := Lib.hid (hx1.blk hB no_no)
 clear hx0 hx1 hA hB
 cases hv1 : validT r1 with
 | false =>
  have e : matchZ r1 r2 = 1 := by unfold matchZ; rw [if_neg (by simp [hv1])]
  have E := Lib.hid e
  clear hv1 e
  go_wp2_with fail
  go_ret
  rw [E.out]
  exact ⟨rfl, hx.out⟩
 | true =>
  have cB := cellOf HB.out
  have HV1 := Lib.hid hv1
  clear hv1
  go_wp2_with fail
  refine (rvalidT_any r2 _ _ _ _ (H2.out.extNo hx.out)).mono ?_
  rintro e2 w2 ⟨rfl, hx2⟩
  cases hv2 : validT r2 with
  | false =>
   have e : matchZ r1 r2 = 1 := by unfold matchZ; rw [if_pos HV1.out, if_neg (by simp [hv2])]
   have E := Lib.hid e
   clear hv2 e
   go_wp2_with fail
   go_ret
   rw [E.out]
   exact ⟨rfl, hx.out.transNo hx2⟩
  | true =>
   have HV2 := Lib.hid hv2
   have cA2 := cellOf (hx2.blk HA.out no_no)
   have cB2 := cellOf (hx2.blk HB.out no_no)
   clear hv2 cB
   by_cases hw : r1.gen.width = r2.gen.width
   ·have e : matchZ r1 r2 = 0 := by unfold matchZ; rw [if_pos HV1.out, if_pos HV2.out, if_pos hw]
    have hw' : (r1.gen.width != r2.gen.width) = false := by simpa using hw
    have E := Lib.hid e
    clear hw e
    go_wp2_with fail
    go_ret
    rw [E.out]
    exact ⟨rfl, hx.out.transNo hx2⟩
   ·have e : matchZ r1 r2 = 2 := by unfold matchZ; rw [if_pos HV1.out, if_pos HV2.out, if_neg hw]
    have hw' : (r1.gen.width != r2.gen.width) = true := by simpa using hw
    have E := Lib.hid e
    clear hw e
    go_wp2_with fail
    go_ret
    rw [E.out]
    exact ⟨rfl, hx.out.transNo hx2⟩
theorem rtwo_eq (t u : TrD) (g1 k1 c1 g2 k2 c2 : Value) (W : World) (hu : u.w = t.w) (h1 : TrAt No W g1 k1 c1 t) (h2 : TrAt No W g2 k2 c2 u) :
  Calls Tryd.prog 90 #[.agg #[.int .i64 (t.w : Int), g1, .int .i64 (t.w : Int), k1, c1], .agg #[.int .i64 (t.w : Int), g2, .int .i64 (t.w : Int), k2, c2]] W (IntPost 0 W) := by
 have h := rtwo_any (rawT t) (rawT u) g1 k1 c1 g2 k2 c2 W h1.raw h2.raw
 have e : matchZ (rawT t) (rawT u) = 0 := by unfold matchZ; rw [if_pos (validT_ok h1.ok), if_pos (validT_ok h2.ok), if_pos (by show (t.w : Int) = (u.w : Int); rw [hu])]
 rw [e] at h
 have e1 : (rawT u).gen.width = (t.w : Int) := by show (u.w : Int) = (t.w : Int); rw [hu]
 have e2 : (rawT u).kill.width = (t.w : Int) := by show (u.w : Int) = (t.w : Int); rw [hu]
 rw [e1, e2] at h
 exact h
set_option maxRecDepth 100000 in
set_option maxHeartbeats 1000000 in
theorem rjoinF_no (r1 r2 : RawT) (g1 k1 c1 g2 k2 c2 : Value) (W : World) (h1 : RawTAt No W g1 k1 c1 r1) (h2 : RawTAt No W g2 k2 c2 r2) (hm : matchZ r1 r2 ≠ 0) :
  Calls Tryd.prog 66 #[.agg #[.int .i64 r1.gen.width, g1, .int .i64 r1.kill.width, k1, c1], .agg #[.int .i64 r2.gen.width, g2, .int .i64 r2.kill.width, k2, c2]] W (TrNo (matchZ r1 r2) W) := by
 have H1 := Lib.hid h1
 have H2 := Lib.hid h2
 obtain ⟨ag1, ng1, cg1, rfl⟩ := h1.gen.shaped
 obtain ⟨ak1, nk1, ck1, rfl⟩ := h1.kill.shaped
 obtain ⟨ac1, nc1, cc1, rfl⟩ := h1.copies.shaped
 obtain ⟨ag2, ng2, cg2, rfl⟩ := h2.gen.shaped
 obtain ⟨ak2, nk2, ck2, rfl⟩ := h2.kill.shaped
 obtain ⟨ac2, nc2, cc2, rfl⟩ := h2.copies.shaped
 clear h1 h2
 go_enter Tryd.func66, Tryd.ntmps66
 go_wp2_with fail
 have hx0 : Ext No W (((W.alloc (.cells #[.int .i64 r1.gen.width, .slice ag1 ng1 cg1, .int .i64 r1.kill.width, .slice ak1 nk1 ck1, .slice ac1 nc1 cc1] 28)).alloc (.cells #[.int .i64 r2.gen.width, .slice ag2 ng2 cg2, .int .i64 r2.kill.width, .slice ak2 nk2 ck2, .slice ac2 nc2 cc2] 28)).alloc (.cells #[.int .i64 0, .slice none 0 0, .int .i64 0, .slice none 0 0, .slice none 0 0] 28)) := (((Ext.refl _ _).alloc _).alloc _).alloc _
 have hC : (((W.alloc (.cells #[.int .i64 r1.gen.width, .slice ag1 ng1 cg1, .int .i64 r1.kill.width, .slice ak1 nk1 ck1, .slice ac1 nc1 cc1] 28)).alloc (.cells #[.int .i64 r2.gen.width, .slice ag2 ng2 cg2, .int .i64 r2.kill.width, .slice ak2 nk2 ck2, .slice ac2 nc2 cc2] 28)).alloc (.cells #[.int .i64 0, .slice none 0 0, .int .i64 0, .slice none 0 0, .slice none 0 0] 28)).heap[W.heap.size + 2]? = some (.cells #[.int .i64 0, .slice none 0 0, .int .i64 0, .slice none 0 0, .slice none 0 0] 28 (0, 0)) := alloc_top (by simp)
 generalize (((W.alloc (.cells #[.int .i64 r1.gen.width, .slice ag1 ng1 cg1, .int .i64 r1.kill.width, .slice ak1 nk1 ck1, .slice ac1 nc1 cc1] 28)).alloc (.cells #[.int .i64 r2.gen.width, .slice ag2 ng2 cg2, .int .i64 r2.kill.width, .slice ak2 nk2 ck2, .slice ac2 nc2 cc2] 28)).alloc (.cells #[.int .i64 0, .slice none 0 0, .int .i64 0, .slice none 0 0, .slice none 0 0] 28)) = W2 at *
 refine (rtwo_any r1 r2 _ _ _ _ _ _ _ (H1.out.extNo hx0) (H2.out.extNo hx0)).mono ?_
 rintro e1 w1 ⟨rfl, hx1⟩
 have hC1 := hx1.blk hC no_no
 have hx := Lib.hid (hx0.transNo hx1)
 have cC := cellOf hC1
 have fC := freeOf hC1
 have HC := Lib.hid hC1
 clear hx0 hx1 hC hC1
 have hmz : (matchZ r1 r2 != 0) = true := by simpa using hm
 have HMZ := Lib.hid hm
 clear hm
 go_wp2_with fail
 have hfin := BoxR.fin5 ⟨_, rfl, HC.out⟩ (.int .i64 0) (.slice none 0 0) (.int .i64 0) (.slice none 0 0) (.slice none 0 0)
 have hE := set5 w1 (W.heap.size + 2) (.int .i64 0) (.slice none 0 0) (.int .i64 0) (.slice none 0 0) (.slice none 0 0)
 clear cC fC
 generalize (((((w1.setCell ⟨W.heap.size + 2, 0, none⟩ (.int .i64 0)).setCell ⟨W.heap.size + 2, 1, none⟩ (.slice none 0 0)).setCell ⟨W.heap.size + 2, 2, none⟩ (.int .i64 0)).setCell ⟨W.heap.size + 2, 3, none⟩ (.slice none 0 0)).setCell ⟨W.heap.size + 2, 4, none⟩ (.slice none 0 0)) = WF at *
 have cF := cellOf hfin
 refine ret_ex rfl ?_
 simp [results, Tryd.results66, go_sem, cF]
 exact ⟨rfl, hx.out.trans2 hE (fun i hi e => by unfold At at e; omega)⟩
set_option maxRecDepth 100000 in
set_option maxHeartbeats 1000000 in
theorem rcomp_no (r1 r2 : RawT) (g1 k1 c1 g2 k2 c2 : Value) (W : World) (h1 : RawTAt No W g1 k1 c1 r1) (h2 : RawTAt No W g2 k2 c2 r2) (hm : matchZ r1 r2 ≠ 0) :
  Calls Tryd.prog 67 #[.agg #[.int .i64 r1.gen.width, g1, .int .i64 r1.kill.width, k1, c1], .agg #[.int .i64 r2.gen.width, g2, .int .i64 r2.kill.width, k2, c2]] W (TrNo (matchZ r1 r2) W) := by
 have H1 := Lib.hid h1
 have H2 := Lib.hid h2
 obtain ⟨ag1, ng1, cg1, rfl⟩ := h1.gen.shaped
 obtain ⟨ak1, nk1, ck1, rfl⟩ := h1.kill.shaped
 obtain ⟨ac1, nc1, cc1, rfl⟩ := h1.copies.shaped
 obtain ⟨ag2, ng2, cg2, rfl⟩ := h2.gen.shaped
 obtain ⟨ak2, nk2, ck2, rfl⟩ := h2.kill.shaped
 obtain ⟨ac2, nc2, cc2, rfl⟩ := h2.copies.shaped
 clear h1 h2
 go_enter Tryd.func67, Tryd.ntmps67
 go_wp2_with fail
 have hx0 : Ext No W (((W.alloc (.cells #[.int .i64 r1.gen.width, .slice ag1 ng1 cg1, .int .i64 r1.kill.width, .slice ak1 nk1 ck1, .slice ac1 nc1 cc1] 28)).alloc (.cells #[.int .i64 r2.gen.width, .slice ag2 ng2 cg2, .int .i64 r2.kill.width, .slice ak2 nk2 ck2, .slice ac2 nc2 cc2] 28)).alloc (.cells #[.int .i64 0, .slice none 0 0, .int .i64 0, .slice none 0 0, .slice none 0 0] 28)) := (((Ext.refl _ _).alloc _).alloc _).alloc _
 have hC : (((W.alloc (.cells #[.int .i64 r1.gen.width, .slice ag1 ng1 cg1, .int .i64 r1.kill.width, .slice ak1 nk1 ck1, .slice ac1 nc1 cc1] 28)).alloc (.cells #[.int .i64 r2.gen.width, .slice ag2 ng2 cg2, .int .i64 r2.kill.width, .slice ak2 nk2 ck2, .slice ac2 nc2 cc2] 28)).alloc (.cells #[.int .i64 0, .slice none 0 0, .int .i64 0, .slice none 0 0, .slice none 0 0] 28)).heap[W.heap.size + 2]? = some (.cells #[.int .i64 0, .slice none 0 0, .int .i64 0, .slice none 0 0, .slice none 0 0] 28 (0, 0)) := alloc_top (by simp)
 generalize (((W.alloc (.cells #[.int .i64 r1.gen.width, .slice ag1 ng1 cg1, .int .i64 r1.kill.width, .slice ak1 nk1 ck1, .slice ac1 nc1 cc1] 28)).alloc (.cells #[.int .i64 r2.gen.width, .slice ag2 ng2 cg2, .int .i64 r2.kill.width, .slice ak2 nk2 ck2, .slice ac2 nc2 cc2] 28)).alloc (.cells #[.int .i64 0, .slice none 0 0, .int .i64 0, .slice none 0 0, .slice none 0 0] 28)) = W2 at *
 refine (rtwo_any r1 r2 _ _ _ _ _ _ _ (H1.out.extNo hx0) (H2.out.extNo hx0)).mono ?_
 rintro e1 w1 ⟨rfl, hx1⟩
 have hC1 := hx1.blk hC no_no
 have hx := Lib.hid (hx0.transNo hx1)
 have cC := cellOf hC1
 have fC := freeOf hC1
 have HC := Lib.hid hC1
 clear hx0 hx1 hC hC1
 have hmz : (matchZ r1 r2 != 0) = true := by simpa using hm
 have HMZ := Lib.hid hm
 clear hm
 go_wp2_with fail
 have hfin := BoxR.fin5 ⟨_, rfl, HC.out⟩ (.int .i64 0) (.slice none 0 0) (.int .i64 0) (.slice none 0 0) (.slice none 0 0)
 have hE := set5 w1 (W.heap.size + 2) (.int .i64 0) (.slice none 0 0) (.int .i64 0) (.slice none 0 0) (.slice none 0 0)
 clear cC fC
 generalize (((((w1.setCell ⟨W.heap.size + 2, 0, none⟩ (.int .i64 0)).setCell ⟨W.heap.size + 2, 1, none⟩ (.slice none 0 0)).setCell ⟨W.heap.size + 2, 2, none⟩ (.int .i64 0)).setCell ⟨W.heap.size + 2, 3, none⟩ (.slice none 0 0)).setCell ⟨W.heap.size + 2, 4, none⟩ (.slice none 0 0)) = WF at *
 have cF := cellOf hfin
 refine ret_ex rfl ?_
 simp [results, Tryd.results67, go_sem, cF]
 exact ⟨rfl, hx.out.trans2 hE (fun i hi e => by unfold At at e; omega)⟩
set_option maxRecDepth 100000 in
set_option maxHeartbeats 1000000 in
theorem rbelow_no (r1 r2 : RawT) (g1 k1 c1 g2 k2 c2 : Value) (W : World) (h1 : RawTAt No W g1 k1 c1 r1) (h2 : RawTAt No W g2 k2 c2 r2) (hm : matchZ r1 r2 ≠ 0) :
  Calls Tryd.prog 69 #[.agg #[.int .i64 r1.gen.width, g1, .int .i64 r1.kill.width, k1, c1], .agg #[.int .i64 r2.gen.width, g2, .int .i64 r2.kill.width, k2, c2]] W (BoolPost false W) := by
 have H1 := Lib.hid h1
 have H2 := Lib.hid h2
 have HM := Lib.hid hm
 obtain ⟨ag1, ng1, cg1, rfl⟩ := h1.gen.shaped
 obtain ⟨ak1, nk1, ck1, rfl⟩ := h1.kill.shaped
 obtain ⟨ac1, nc1, cc1, rfl⟩ := h1.copies.shaped
 obtain ⟨ag2, ng2, cg2, rfl⟩ := h2.gen.shaped
 obtain ⟨ak2, nk2, ck2, rfl⟩ := h2.kill.shaped
 obtain ⟨ac2, nc2, cc2, rfl⟩ := h2.copies.shaped
 clear h1 h2 hm
 go_enter Tryd.func69, Tryd.ntmps69
 go_wp2_with fail
 have hx0 : Ext No W ((W.alloc (.cells #[.int .i64 r1.gen.width, .slice ag1 ng1 cg1, .int .i64 r1.kill.width, .slice ak1 nk1 ck1, .slice ac1 nc1 cc1] 28)).alloc (.cells #[.int .i64 r2.gen.width, .slice ag2 ng2 cg2, .int .i64 r2.kill.width, .slice ak2 nk2 ck2, .slice ac2 nc2 cc2] 28)) := ((Ext.refl _ _).alloc _).alloc _
 have hA : ((W.alloc (.cells #[.int .i64 r1.gen.width, .slice ag1 ng1 cg1, .int .i64 r1.kill.width, .slice ak1 nk1 ck1, .slice ac1 nc1 cc1] 28)).alloc (.cells #[.int .i64 r2.gen.width, .slice ag2 ng2 cg2, .int .i64 r2.kill.width, .slice ak2 nk2 ck2, .slice ac2 nc2 cc2] 28)).heap[W.heap.size]? = some (.cells #[.int .i64 r1.gen.width, .slice ag1 ng1 cg1, .int .i64 r1.kill.width, .slice ak1 nk1 ck1, .slice ac1 nc1 cc1] 28 (0, 0)) := alloc_under (alloc_top rfl)
 have hB : ((W.alloc (.cells #[.int .i64 r1.gen.width, .slice ag1 ng1 cg1, .int .i64 r1.kill.width, .slice ak1 nk1 ck1, .slice ac1 nc1 cc1] 28)).alloc (.cells #[.int .i64 r2.gen.width, .slice ag2 ng2 cg2, .int .i64 r2.kill.width, .slice ak2 nk2 ck2, .slice ac2 nc2 cc2] 28)).heap[W.heap.size + 1]? = some (.cells #[.int .i64 r2.gen.width, .slice ag2 ng2 cg2, .int .i64 r2.kill.width, .slice ak2 nk2 ck2, .slice ac2 nc2 cc2] 28 (0, 0)) := alloc_top (by simp)
 generalize ((W.alloc (.cells #[.int .i64 r1.gen.width, .slice ag1 ng1 cg1, .int .i64 r1.kill.width, .slice ak1 nk1 ck1, .slice ac1 nc1 cc1] 28)).alloc (.cells #[.int .i64 r2.gen.width, .slice ag2 ng2 cg2, .int .i64 r2.kill.width, .slice ak2 nk2 ck2, .slice ac2 nc2 cc2] 28)) = W2 at *
 refine (rvalidT_any r1 _ _ _ _ (H1.out.extNo hx0)).mono ?_
 rintro e1 w1 ⟨rfl, hx1⟩
 have hx := Lib.hid (hx0.transNo hx1)
 have HA := Lib.hid (hx1.blk hA no_no)
 have HB := Lib.hid (hx1.blk hB no_no)
 clear hx0 hx1 hA hB
 cases hv1 : validT r1 with
 | false =>
  clear hv1
  go_wp2_with fail
  go_ret
  exact ⟨rfl, hx.out⟩
 | true =>
  have cB := cellOf HB.out
  have HV1 := Lib.hid hv1
  clear hv1
  go_wp2_with fail
  refine (rvalidT_any r2 _ _ _ _ (H2.out.extNo hx.out)).mono ?_
  rintro e2 w2 ⟨rfl, hx2⟩
  cases hv2 : validT r2 with
  | false =>
   clear hv2
   go_wp2_with fail
   go_ret
   exact ⟨rfl, hx.out.transNo hx2⟩
  | true =>
   have HV2 := Lib.hid hv2
   have cA2 := cellOf (hx2.blk HA.out no_no)
   have cB2 := cellOf (hx2.blk HB.out no_no)
   clear hv2 cB
   by_cases hw : r1.gen.width = r2.gen.width
   ·exact absurd (by unfold matchZ; rw [if_pos HV1.out, if_pos HV2.out, if_pos hw]) HM.out
   ·have hw' : (r1.gen.width != r2.gen.width) = true := by simpa using hw
    clear hw
    go_wp2_with fail
    go_ret
    exact ⟨rfl, hx.out.transNo hx2⟩
end Go.Proofs.YtgakojgkkdmabaaDoor

/- combines: program and reference agree at any raw functions. -/
import Derived.Test.YtgakojgkkdmabaaDoorC5
import Derived.Test.YtgakojgkkdmabaaDoorREq
set_option linter.unusedVariables false
set_option linter.unusedSimpArgs false
namespace Go.Proofs.YtgakojgkkdmabaaDoor
open Go Go.RowKit
set_option maxRecDepth 100000 in
set_option maxHeartbeats 4000000 in
theorem combines_any (r1 r2 : RawT) (g1 k1 c1 g2 k2 c2 : Value) (W : World) (hT : TabW W) (h1 : RawTAt No W g1 k1 c1 r1) (h2 : RawTAt No W g2 k2 c2 r2) :
  Calls Tryd.prog 38 #[.agg #[.int .i64 r1.gen.width, g1, .int .i64 r1.kill.width, k1, c1], .agg #[.int .i64 r2.gen.width, g2, .int .i64 r2.kill.width, k2, c2]] W (BoolPost true W) := by
 obtain ⟨q, e0, hq⟩ := join_both r1 r2 h1.gen.lt h1.kill.lt h2.gen.lt h2.kill.lt
 obtain ⟨p, e1, hp⟩ := comp_both r1 r2 h1.gen.lt h1.kill.lt h2.gen.lt h2.kill.lt
 obtain ⟨ba, hb⟩ := below_both r1 r2 h1.gen.lt h1.kill.lt h2.gen.lt h2.kill.lt
 obtain ⟨bd, hd⟩ := below_both r2 r1 h2.gen.lt h2.kill.lt h1.gen.lt h1.kill.lt
 have HQ := Lib.hid hq
 have HP := Lib.hid hp
 have HBA := Lib.hid hb
 have HBD := Lib.hid hd
 have HTB := Lib.hid hT
 have H1 := Lib.hid h1
 have H2 := Lib.hid h2
 obtain ⟨ag1, cg1, rfl⟩ := h1.gen.slice
 obtain ⟨ak1, ck1, rfl⟩ := h1.kill.slice
 obtain ⟨ac1, cc1, rfl⟩ := Row.slice h1.copies
 obtain ⟨ag2, cg2, rfl⟩ := h2.gen.slice
 obtain ⟨ak2, ck2, rfl⟩ := h2.kill.slice
 obtain ⟨ac2, cc2, rfl⟩ := Row.slice h2.copies
 clear h1 h2 hT hq hp hb hd
 go_enter Tryd.func38, Tryd.ntmps38
 go_wp2_with fail
 have hx0 : Ext No W ((W.alloc (.cells #[.int .i64 r1.gen.width, .slice ag1 r1.gen.words.length cg1, .int .i64 r1.kill.width, .slice ak1 r1.kill.words.length ck1, .slice ac1 r1.copies.length cc1] 28)).alloc (.cells #[.int .i64 r2.gen.width, .slice ag2 r2.gen.words.length cg2, .int .i64 r2.kill.width, .slice ak2 r2.kill.words.length ck2, .slice ac2 r2.copies.length cc2] 28)) := ((Ext.refl _ _).alloc _).alloc _
 have hA : ((W.alloc (.cells #[.int .i64 r1.gen.width, .slice ag1 r1.gen.words.length cg1, .int .i64 r1.kill.width, .slice ak1 r1.kill.words.length ck1, .slice ac1 r1.copies.length cc1] 28)).alloc (.cells #[.int .i64 r2.gen.width, .slice ag2 r2.gen.words.length cg2, .int .i64 r2.kill.width, .slice ak2 r2.kill.words.length ck2, .slice ac2 r2.copies.length cc2] 28)).heap[W.heap.size]? = some (.cells #[.int .i64 r1.gen.width, .slice ag1 r1.gen.words.length cg1, .int .i64 r1.kill.width, .slice ak1 r1.kill.words.length ck1, .slice ac1 r1.copies.length cc1] 28 (0, 0)) := alloc_under (alloc_top rfl)
 have hB : ((W.alloc (.cells #[.int .i64 r1.gen.width, .slice ag1 r1.gen.words.length cg1, .int .i64 r1.kill.width, .slice ak1 r1.kill.words.length ck1, .slice ac1 r1.copies.length cc1] 28)).alloc (.cells #[.int .i64 r2.gen.width, .slice ag2 r2.gen.words.length cg2, .int .i64 r2.kill.width, .slice ak2 r2.kill.words.length ck2, .slice ac2 r2.copies.length cc2] 28)).heap[W.heap.size + 1]? = some (.cells #[.int .i64 r2.gen.width, .slice ag2 r2.gen.words.length cg2, .int .i64 r2.kill.width, .slice ak2 r2.kill.words.length ck2, .slice ac2 r2.copies.length cc2] 28 (0, 0)) := alloc_top (by simp)
 generalize ((W.alloc (.cells #[.int .i64 r1.gen.width, .slice ag1 r1.gen.words.length cg1, .int .i64 r1.kill.width, .slice ak1 r1.kill.words.length ck1, .slice ac1 r1.copies.length cc1] 28)).alloc (.cells #[.int .i64 r2.gen.width, .slice ag2 r2.gen.words.length cg2, .int .i64 r2.kill.width, .slice ak2 r2.kill.words.length ck2, .slice ac2 r2.copies.length cc2] 28)) = V0 at *
 refine ((HQ.out _ _ _ _ _ _ _ (HTB.out.ext hx0) (H1.out.extNo hx0) (H2.out.extNo hx0)).1).mono ?_
 rintro e1 w1 ⟨m1, n1, u1, v1, x1, y1, rfl, hr1, hx1⟩
 have hy := hx1.alloc (.cells #[.int .i64 q.gen.width, .slice m1 q.gen.words.length n1, .int .i64 q.kill.width, .slice u1 q.kill.words.length v1, .slice x1 q.copies.length y1] 28)
 have hz : Ext No w1 (w1.alloc (.cells #[.int .i64 q.gen.width, .slice m1 q.gen.words.length n1, .int .i64 q.kill.width, .slice u1 q.kill.words.length v1, .slice x1 q.copies.length y1] 28)) := (Ext.refl _ _).alloc _
 replace hA := hy.blk hA no_no
 replace hB := hy.blk hB no_no
 have hb1 := alloc_top (w := w1) (o := (.cells #[.int .i64 q.gen.width, .slice m1 q.gen.words.length n1, .int .i64 q.kill.width, .slice u1 q.kill.words.length v1, .slice x1 q.copies.length y1] 28)) rfl
 replace hr1 := hr1.out.extNo hz
 replace hx0 := hx0.transNo hy
 clear hy hz hx1
 have c0 := cellOf hA
 have c1 := cellOf hB
 go_wp2_with fail
 clear c0 c1
 generalize (w1.alloc (.cells #[.int .i64 q.gen.width, .slice m1 q.gen.words.length n1, .int .i64 q.kill.width, .slice u1 q.kill.words.length v1, .slice x1 q.copies.length y1] 28)) = V1 at *
 generalize w1.heap.size = D1 at *
 refine ((HQ.out _ _ _ _ _ _ _ (HTB.out.ext hx0) (H1.out.extNo hx0) (H2.out.extNo hx0)).2).mono ?_
 rintro e2 w2 ⟨m2, n2, u2, v2, x2, y2, rfl, hr2, hx2⟩
 have hy := hx2.alloc (.cells #[.int .i64 q.gen.width, .slice m2 q.gen.words.length n2, .int .i64 q.kill.width, .slice u2 q.kill.words.length v2, .slice x2 q.copies.length y2] 28)
 have hz : Ext No w2 (w2.alloc (.cells #[.int .i64 q.gen.width, .slice m2 q.gen.words.length n2, .int .i64 q.kill.width, .slice u2 q.kill.words.length v2, .slice x2 q.copies.length y2] 28)) := (Ext.refl _ _).alloc _
 replace hA := hy.blk hA no_no
 replace hB := hy.blk hB no_no
 replace hb1 := hy.blk hb1 no_no
 have hb2 := alloc_top (w := w2) (o := (.cells #[.int .i64 q.gen.width, .slice m2 q.gen.words.length n2, .int .i64 q.kill.width, .slice u2 q.kill.words.length v2, .slice x2 q.copies.length y2] 28)) rfl
 replace hr2 := hr2.out.extNo hz
 replace hr1 := hr1.extNo hy
 replace hx0 := hx0.transNo hy
 clear hy hz hx2
 have c0 := cellOf hA
 have c1 := cellOf hB
 go_wp2_with fail
 clear c0 c1
 generalize (w2.alloc (.cells #[.int .i64 q.gen.width, .slice m2 q.gen.words.length n2, .int .i64 q.kill.width, .slice u2 q.kill.words.length v2, .slice x2 q.copies.length y2] 28)) = V2 at *
 generalize w2.heap.size = D2 at *
 refine ((HP.out _ _ _ _ _ _ _ (HTB.out.ext hx0) (H1.out.extNo hx0) (H2.out.extNo hx0)).1).mono ?_
 rintro e3 w3 ⟨m3, n3, u3, v3, x3, y3, rfl, hr3, hx3⟩
 have hy := hx3.alloc (.cells #[.int .i64 p.gen.width, .slice m3 p.gen.words.length n3, .int .i64 p.kill.width, .slice u3 p.kill.words.length v3, .slice x3 p.copies.length y3] 28)
 have hz : Ext No w3 (w3.alloc (.cells #[.int .i64 p.gen.width, .slice m3 p.gen.words.length n3, .int .i64 p.kill.width, .slice u3 p.kill.words.length v3, .slice x3 p.copies.length y3] 28)) := (Ext.refl _ _).alloc _
 replace hA := hy.blk hA no_no
 replace hB := hy.blk hB no_no
 replace hb1 := hy.blk hb1 no_no
 replace hb2 := hy.blk hb2 no_no
 have hb3 := alloc_top (w := w3) (o := (.cells #[.int .i64 p.gen.width, .slice m3 p.gen.words.length n3, .int .i64 p.kill.width, .slice u3 p.kill.words.length v3, .slice x3 p.copies.length y3] 28)) rfl
 replace hr3 := hr3.out.extNo hz
 replace hr1 := hr1.extNo hy
 replace hr2 := hr2.extNo hy
 replace hx0 := hx0.transNo hy
 clear hy hz hx3
 have c0 := cellOf hA
 have c1 := cellOf hB
 go_wp2_with fail
 clear c0 c1
 generalize (w3.alloc (.cells #[.int .i64 p.gen.width, .slice m3 p.gen.words.length n3, .int .i64 p.kill.width, .slice u3 p.kill.words.length v3, .slice x3 p.copies.length y3] 28)) = V3 at *
 generalize w3.heap.size = D3 at *
 refine ((HP.out _ _ _ _ _ _ _ (HTB.out.ext hx0) (H1.out.extNo hx0) (H2.out.extNo hx0)).2).mono ?_
 rintro e4 w4 ⟨m4, n4, u4, v4, x4, y4, rfl, hr4, hx4⟩
 have hy := hx4.alloc (.cells #[.int .i64 p.gen.width, .slice m4 p.gen.words.length n4, .int .i64 p.kill.width, .slice u4 p.kill.words.length v4, .slice x4 p.copies.length y4] 28)
 have hz : Ext No w4 (w4.alloc (.cells #[.int .i64 p.gen.width, .slice m4 p.gen.words.length n4, .int .i64 p.kill.width, .slice u4 p.kill.words.length v4, .slice x4 p.copies.length y4] 28)) := (Ext.refl _ _).alloc _
 replace hA := hy.blk hA no_no
 replace hB := hy.blk hB no_no
 replace hb1 := hy.blk hb1 no_no
 replace hb2 := hy.blk hb2 no_no
 replace hb3 := hy.blk hb3 no_no
 have hb4 := alloc_top (w := w4) (o := (.cells #[.int .i64 p.gen.width, .slice m4 p.gen.words.length n4, .int .i64 p.kill.width, .slice u4 p.kill.words.length v4, .slice x4 p.copies.length y4] 28)) rfl
 replace hr4 := hr4.out.extNo hz
 replace hr1 := hr1.extNo hy
 replace hr2 := hr2.extNo hy
 replace hr3 := hr3.extNo hy
 replace hx0 := hx0.transNo hy
 clear hy hz hx4
 go_upto_region 5 with (fail)
 generalize (w4.alloc (.cells #[.int .i64 p.gen.width, .slice m4 p.gen.words.length n4, .int .i64 p.kill.width, .slice u4 p.kill.words.length v4, .slice x4 p.copies.length y4] 28)) = V4 at *
 generalize w4.heap.size = D4 at *
 have HR1 := Lib.hid hr1
 have HB1 := Lib.hid hb1
 have HR2 := Lib.hid hr2
 have HB2 := Lib.hid hb2
 have HR3 := Lib.hid hr3
 have HB3 := Lib.hid hb3
 have HR4 := Lib.hid hr4
 have HB4 := Lib.hid hb4
 have HA := Lib.hid hA
 have HB := Lib.hid hB
 have HE := Lib.hid hx0
 clear hA hB hx0 hr1 hr2 hr3 hr4 hb1 hb2 hb3 hb4
 refine wp_region_held_drew (S := (fun w' => Ext No V4 w')) (by kernel_rfl) ?_ (fun hHeld => ?_)
 ·exact (Ext.refl _ _).drew
 refine hTk (i := 0) (v := ?_) hHeld (fun w hSw => ?_) ?_
 rotate_left
 ·go_simp; (try with_reducible rfl)
 try simp only [Act.put, nzA, nzB, nzC]
 refine hTk (i := 1) (v := ?_) hHeld (fun w hSw => ?_) ?_
 rotate_left
 ·go_simp; (try with_reducible rfl)
 try simp only [Act.put, nzA, nzB, nzC]
 refine hTk (i := 2) (v := ?_) hHeld (fun w hSw => ?_) ?_
 rotate_left
 ·go_simp; (try with_reducible rfl)
 try simp only [Act.put, nzA, nzB, nzC]
 refine hTk (i := 3) (v := ?_) hHeld (fun w hSw => ?_) ?_
 rotate_left
 ·go_simp; (try with_reducible rfl)
 try simp only [Act.put, nzA, nzB, nzC]
 refine hTk (i := 4) (v := ?_) hHeld (fun w hSw => ?_) ?_
 rotate_left
 ·go_simp; (try with_reducible rfl)
 try simp only [Act.put, nzA, nzB, nzC]
 refine hTk (i := 5) (v := ?_) hHeld (fun w hSw => ?_) ?_
 rotate_left
 ·go_simp; (try with_reducible rfl)
 try simp only [Act.put, nzA, nzB, nzC]
 refine hTk (i := 6) (v := ?_) hHeld (fun w hSw => ?_) ?_
 rotate_left
 ·go_simp; (try with_reducible rfl)
 try simp only [Act.put, nzA, nzB, nzC]
 refine hTk (i := 7) (v := ?_) hHeld (fun w hSw => ?_) ?_
 rotate_left
 ·go_simp; (try with_reducible rfl)
 try simp only [Act.put, nzA, nzB, nzC]
 refine hTk (i := 8) (v := ?_) hHeld (fun w hSw => ?_) ?_
 rotate_left
 ·go_simp; (try with_reducible rfl)
 try simp only [Act.put, nzA, nzB, nzC]
 refine hTk (i := 9) (v := ?_) hHeld (fun w hSw => ?_) ?_
 rotate_left
 ·(have hEs : Ext No V4 _ := hSw); (have x0 := cellOf (hEs.blk HB1.out no_no)); go_simp; (try with_reducible rfl)
 try simp only [Act.put, nzA, nzB, nzC]
 refine hTk (i := 10) (v := ?_) hHeld (fun w hSw => ?_) ?_
 rotate_left
 ·(have hEs : Ext No V4 _ := hSw); (have x0 := cellOf (hEs.blk HB2.out no_no)); go_simp; (try with_reducible rfl)
 try simp only [Act.put, nzA, nzB, nzC]
 refine held_call (i := 11) rfl (by kernel_rfl) rfl (fun K hK => ?_)
 ((have hEx : Ext No V4 _ := hHeld); go_simp; (go_at_call 26); (with_reducible refine (requals_any q q _ _ _ _ _ _ _ (HR1.out.extNo hEx) (HR2.out.extNo hEx)).mono ?_); (rintro e11 w11 ⟨rfl, hyA⟩); (rw [eqT_all (by simp [sameB]) (by simp [sameB]) rfl]); go_simp)
 refine hK.out _ _ ?_ ?_
 ·exact Ext.transNo (show Ext No V4 _ from hHeld) hyA
 clear hK K hHeld
 intro hHeld
 try simp only [Act.put, nzA, nzB, nzC]
 refine hTk (i := 12) (v := ?_) hHeld (fun w hSw => ?_) ?_
 rotate_left
 ·go_simp; (try with_reducible rfl)
 try simp only [Act.put, nzA, nzB, nzC]
 refine hTk (i := 13) (v := ?_) hHeld (fun w hSw => ?_) ?_
 rotate_left
 ·go_simp; (try with_reducible rfl)
 try simp only [Act.put, nzA, nzB, nzC]
 refine hTk (i := 14) (v := ?_) hHeld (fun w hSw => ?_) ?_
 rotate_left
 ·(have hEs : Ext No V4 _ := hSw); (have x0 := cellOf (hEs.blk HB3.out no_no)); go_simp; (try with_reducible rfl)
 try simp only [Act.put, nzA, nzB, nzC]
 refine hTk (i := 15) (v := ?_) hHeld (fun w hSw => ?_) ?_
 rotate_left
 ·(have hEs : Ext No V4 _ := hSw); (have x0 := cellOf (hEs.blk HB4.out no_no)); go_simp; (try with_reducible rfl)
 try simp only [Act.put, nzA, nzB, nzC]
 refine held_call (i := 16) rfl (by kernel_rfl) rfl (fun K hK => ?_)
 ((have hEx : Ext No V4 _ := hHeld); go_simp; (go_at_call 26); (with_reducible refine (requals_any p p _ _ _ _ _ _ _ (HR3.out.extNo hEx) (HR4.out.extNo hEx)).mono ?_); (rintro e12 w12 ⟨rfl, hyA⟩); (rw [eqT_all (by simp [sameB]) (by simp [sameB]) rfl]); go_simp)
 refine hK.out _ _ ?_ ?_
 ·exact Ext.transNo (show Ext No V4 _ from hHeld) hyA
 clear hK K hHeld
 intro hHeld
 try simp only [Act.put, nzA, nzB, nzC]
 refine hTk (i := 17) (v := ?_) hHeld (fun w hSw => ?_) ?_
 rotate_left
 ·go_simp; (try with_reducible rfl)
 try simp only [Act.put, nzA, nzB, nzC]
 refine hTk (i := 18) (v := ?_) hHeld (fun w hSw => ?_) ?_
 rotate_left
 ·go_simp; (try with_reducible rfl)
 try simp only [Act.put, nzA, nzB, nzC]
 refine hTk (i := 19) (v := ?_) hHeld (fun w hSw => ?_) ?_
 rotate_left
 ·(have hEs : Ext No V4 _ := hSw); (have x0 := cellOf (hEs.blk HA.out no_no)); go_simp; (try with_reducible rfl)
 try simp only [Act.put, nzA, nzB, nzC]
 refine hTk (i := 20) (v := ?_) hHeld (fun w hSw => ?_) ?_
 rotate_left
 ·(have hEs : Ext No V4 _ := hSw); (have x0 := cellOf (hEs.blk HB.out no_no)); go_simp; (try with_reducible rfl)
 try simp only [Act.put, nzA, nzB, nzC]
 refine hTk (i := 22) (v := ?_) hHeld (fun w hSw => ?_) ?_
 rotate_left
 ·(have hEs : Ext No V4 _ := hSw); (have x0 := cellOf (hEs.blk HA.out no_no)); go_simp; (try with_reducible rfl)
 try simp only [Act.put, nzA, nzB, nzC]
 refine hTk (i := 23) (v := ?_) hHeld (fun w hSw => ?_) ?_
 rotate_left
 ·(have hEs : Ext No V4 _ := hSw); (have x0 := cellOf (hEs.blk HB.out no_no)); go_simp; (try with_reducible rfl)
 try simp only [Act.put, nzA, nzB, nzC]
 refine held_call (i := 21) rfl (by kernel_rfl) rfl (fun K hK => ?_)
 ((have hEx : Ext No V4 _ := hHeld); go_simp; (go_at_call 33); (with_reducible refine (tsame_of ba bd _ _ _ _ _ _ _ _ _ _ _ _ _ _ _ _ _ _ _ _ _ _ _ (fun w' hx' => (HBA.out _ _ _ _ _ _ _ (HTB.out.ext ((HE.out.transNo hEx).transNo hx')) (H1.out.extNo ((HE.out.transNo hEx).transNo hx')) (H2.out.extNo ((HE.out.transNo hEx).transNo hx'))).1) (fun w' hx' => (HBD.out _ _ _ _ _ _ _ (HTB.out.ext ((HE.out.transNo hEx).transNo hx')) (H2.out.extNo ((HE.out.transNo hEx).transNo hx')) (H1.out.extNo ((HE.out.transNo hEx).transNo hx'))).1)).mono ?_); (rintro e13 w13 ⟨rfl, hyA⟩); (skip); go_simp)
 refine hK.out _ _ ?_ ?_
 ·exact Ext.transNo (show Ext No V4 _ from hHeld) hyA
 clear hK K hHeld
 intro hHeld
 try simp only [Act.put, nzA, nzB, nzC]
 refine held_call (i := 24) rfl (by kernel_rfl) rfl (fun K hK => ?_)
 ((have hEx : Ext No V4 _ := hHeld); go_simp; (go_at_call 68); (with_reducible refine (rsame_of ba bd _ _ _ _ _ _ _ _ _ _ _ _ _ _ _ _ _ _ _ _ _ _ _ (fun w' hx' => (HBA.out _ _ _ _ _ _ _ (HTB.out.ext ((HE.out.transNo hEx).transNo hx')) (H1.out.extNo ((HE.out.transNo hEx).transNo hx')) (H2.out.extNo ((HE.out.transNo hEx).transNo hx'))).2) (fun w' hx' => (HBD.out _ _ _ _ _ _ _ (HTB.out.ext ((HE.out.transNo hEx).transNo hx')) (H2.out.extNo ((HE.out.transNo hEx).transNo hx')) (H1.out.extNo ((HE.out.transNo hEx).transNo hx'))).2)).mono ?_); (rintro e14 w14 ⟨rfl, hyA⟩); (skip); go_simp)
 refine hK.out _ _ ?_ ?_
 ·exact Ext.transNo (show Ext No V4 _ from hHeld) hyA
 clear hK K hHeld
 intro hHeld
 try simp only [Act.put, nzA, nzB, nzC]
 refine hTk (i := 25) (v := ?_) hHeld (fun w hSw => ?_) ?_
 rotate_left
 ·go_simp; (try with_reducible rfl)
 try simp only [Act.put, nzA, nzB, nzC]
 refine hTk (i := 26) (v := ?_) hHeld (fun w hSw => ?_) ?_
 rotate_left
 ·go_simp; (try with_reducible rfl)
 try simp only [Act.put, nzA, nzB, nzC]
 refine hTk (i := 27) (v := ?_) hHeld (fun w hSw => ?_) ?_
 rotate_left
 ·go_simp; (try with_reducible rfl)
 try simp only [Act.put, nzA, nzB, nzC]
 refine hTk (i := 28) (v := ?_) hHeld (fun w hSw => ?_) ?_
 rotate_left
 ·(have hEs : Ext No V4 _ := hSw); (have x0 := cellOf (hEs.blk HA.out no_no)); go_simp; (try with_reducible rfl)
 try simp only [Act.put, nzA, nzB, nzC]
 refine hTk (i := 29) (v := ?_) hHeld (fun w hSw => ?_) ?_
 rotate_left
 ·(have hEs : Ext No V4 _ := hSw); (have x0 := cellOf (hEs.blk HB.out no_no)); go_simp; (try with_reducible rfl)
 try simp only [Act.put, nzA, nzB, nzC]
 refine hTk (i := 31) (v := ?_) hHeld (fun w hSw => ?_) ?_
 rotate_left
 ·(have hEs : Ext No V4 _ := hSw); (have x0 := cellOf (hEs.blk HA.out no_no)); go_simp; (try with_reducible rfl)
 try simp only [Act.put, nzA, nzB, nzC]
 refine hTk (i := 32) (v := ?_) hHeld (fun w hSw => ?_) ?_
 rotate_left
 ·(have hEs : Ext No V4 _ := hSw); (have x0 := cellOf (hEs.blk HB.out no_no)); go_simp; (try with_reducible rfl)
 try simp only [Act.put, nzA, nzB, nzC]
 refine held_call (i := 30) rfl (by kernel_rfl) rfl (fun K hK => ?_)
 ((have hEx : Ext No V4 _ := hHeld); go_simp; (go_at_call 34); (with_reducible refine ((HBA.out _ _ _ _ _ _ _ (HTB.out.ext (HE.out.transNo hEx)) (H1.out.extNo (HE.out.transNo hEx)) (H2.out.extNo (HE.out.transNo hEx))).1).mono ?_); (rintro e15 w15 ⟨rfl, hyA⟩); (skip); go_simp)
 refine hK.out _ _ ?_ ?_
 ·exact Ext.transNo (show Ext No V4 _ from hHeld) hyA
 clear hK K hHeld
 intro hHeld
 try simp only [Act.put, nzA, nzB, nzC]
 refine held_call (i := 33) rfl (by kernel_rfl) rfl (fun K hK => ?_)
 ((have hEx : Ext No V4 _ := hHeld); go_simp; (go_at_call 69); (with_reducible refine ((HBA.out _ _ _ _ _ _ _ (HTB.out.ext (HE.out.transNo hEx)) (H1.out.extNo (HE.out.transNo hEx)) (H2.out.extNo (HE.out.transNo hEx))).2).mono ?_); (rintro e16 w16 ⟨rfl, hyA⟩); (skip); go_simp)
 refine hK.out _ _ ?_ ?_
 ·exact Ext.transNo (show Ext No V4 _ from hHeld) hyA
 clear hK K hHeld
 intro hHeld
 try simp only [Act.put, nzA, nzB, nzC]
 refine hTk (i := 34) (v := ?_) hHeld (fun w hSw => ?_) ?_
 rotate_left
 ·go_simp; (try with_reducible rfl)
 try simp only [Act.put, nzA, nzB, nzC]
 refine hTk (i := 35) (v := ?_) hHeld (fun w hSw => ?_) ?_
 rotate_left
 ·go_simp; (try with_reducible rfl)
 try simp only [Act.put, nzA, nzB, nzC]
 refine hTk (i := 36) (v := ?_) hHeld (fun w hSw => ?_) ?_
 rotate_left
 ·go_simp; (try with_reducible rfl)
 try simp only [Act.put, nzA, nzB, nzC]
 refine wpAnyH_done (by kernel_rfl) ?_ _
 have hEx : Ext No V4 _ := hHeld
 go_wp2_with fail
 go_ret
 exact ⟨rfl, HE.out.transNo hEx⟩
end Go.Proofs.YtgakojgkkdmabaaDoor


import Derived.Test.YtmddchceacmopaaDoorTr30
set_option linter.unusedVariables false
set_option linter.unusedSimpArgs false
namespace Go.Proofs.YtmddchceacmopaaDoor
open Go Go.RowKit
theorem open_lo2 (t : TrD) (w : Nat) (sg sk sc : Value) (W : World) (hw : t.w = w) (h : TrAt No W sg sk sc t) :
  Calls Tryd.prog 70 #[.agg #[.int .i64 (w : Int), sg, .int .i64 (w : Int), sk, sc]] W (RowsPost (Lo W.heap.size) w t.gen (rowsN t w t.copies.length) W) := by
 subst hw; exact open_lo t sg sk sc W h
set_option maxRecDepth 100000 in
set_option maxHeartbeats 16000000 in
theorem join_any (M : Nat → Prop) (t u : TrD) (g1 k1 c1 g2 k2 c2 : Value) (W : World) (hM : ∀ b, M b → b < W.heap.size) (hT : TabW W) (h1 : TrAt No W g1 k1 c1 t) (h2 : TrAt No W g2 k2 c2 u) (hu : u.w = t.w) :
  Calls Tryd.prog 77 #[.agg #[.int .i64 (t.w : Int), g1, .int .i64 (t.w : Int), k1, c1], .agg #[.int .i64 (t.w : Int), g2, .int .i64 (t.w : Int), k2, c2]] W (ClosePost M t.w (orN t.gen u.gen) (joinRows (rowsN t t.w t.copies.length) (rowsN u t.w u.copies.length)) W) := by
 have H1 := Lib.hid h1
 have H2 := Lib.hid h2
 have HM := Lib.hid hM
 have HT := Lib.hid hT
 have HU := Lib.hid hu
 have hgu := h2.gen.slice
 have hku := h2.kill.slice
 rw [hu] at hgu hku
 obtain ⟨ag, cg, rfl⟩ := h1.gen.slice
 obtain ⟨ak, ck, rfl⟩ := h1.kill.slice
 obtain ⟨ac, cc, rfl⟩ := Row.slice h1.copies
 obtain ⟨bg, dg, rfl⟩ := hgu
 obtain ⟨bk, dk, rfl⟩ := hku
 obtain ⟨bc, dc, rfl⟩ := Row.slice h2.copies
 have hw := h1.ok.w
 clear h1 h2 hM hT hu
 go_enter Tryd.func77, Tryd.ntmps77
 go_wp2_with fail
 have hx0 : Ext No W (((W.alloc (.cells #[.int .i64 (t.w : Int), .slice ag (nw t.w) cg, .int .i64 (t.w : Int), .slice ak (nw t.w) ck, .slice ac t.copies.length cc] 30)).alloc (.cells #[.int .i64 (t.w : Int), .slice bg (nw t.w) dg, .int .i64 (t.w : Int), .slice bk (nw t.w) dk, .slice bc u.copies.length dc] 30)).alloc (.cells #[.int .i64 0, .slice none 0 0, .int .i64 0, .slice none 0 0, .slice none 0 0] 30)) := ((((Ext.refl _ _).alloc _).alloc _)).alloc _
 have hA : (((W.alloc (.cells #[.int .i64 (t.w : Int), .slice ag (nw t.w) cg, .int .i64 (t.w : Int), .slice ak (nw t.w) ck, .slice ac t.copies.length cc] 30)).alloc (.cells #[.int .i64 (t.w : Int), .slice bg (nw t.w) dg, .int .i64 (t.w : Int), .slice bk (nw t.w) dk, .slice bc u.copies.length dc] 30)).alloc (.cells #[.int .i64 0, .slice none 0 0, .int .i64 0, .slice none 0 0, .slice none 0 0] 30)).heap[W.heap.size]? = some (.cells #[.int .i64 (t.w : Int), .slice ag (nw t.w) cg, .int .i64 (t.w : Int), .slice ak (nw t.w) ck, .slice ac t.copies.length cc] 30 (0, 0)) := alloc_under (alloc_under (alloc_top rfl))
 have hB : (((W.alloc (.cells #[.int .i64 (t.w : Int), .slice ag (nw t.w) cg, .int .i64 (t.w : Int), .slice ak (nw t.w) ck, .slice ac t.copies.length cc] 30)).alloc (.cells #[.int .i64 (t.w : Int), .slice bg (nw t.w) dg, .int .i64 (t.w : Int), .slice bk (nw t.w) dk, .slice bc u.copies.length dc] 30)).alloc (.cells #[.int .i64 0, .slice none 0 0, .int .i64 0, .slice none 0 0, .slice none 0 0] 30)).heap[W.heap.size + 1]? = some (.cells #[.int .i64 (t.w : Int), .slice bg (nw t.w) dg, .int .i64 (t.w : Int), .slice bk (nw t.w) dk, .slice bc u.copies.length dc] 30 (0, 0)) := alloc_under (alloc_top (by simp))
 have hC : (((W.alloc (.cells #[.int .i64 (t.w : Int), .slice ag (nw t.w) cg, .int .i64 (t.w : Int), .slice ak (nw t.w) ck, .slice ac t.copies.length cc] 30)).alloc (.cells #[.int .i64 (t.w : Int), .slice bg (nw t.w) dg, .int .i64 (t.w : Int), .slice bk (nw t.w) dk, .slice bc u.copies.length dc] 30)).alloc (.cells #[.int .i64 0, .slice none 0 0, .int .i64 0, .slice none 0 0, .slice none 0 0] 30)).heap[W.heap.size + 2]? = some (.cells #[.int .i64 0, .slice none 0 0, .int .i64 0, .slice none 0 0, .slice none 0 0] 30 (0, 0)) := alloc_top (by simp)
 generalize (((W.alloc (.cells #[.int .i64 (t.w : Int), .slice ag (nw t.w) cg, .int .i64 (t.w : Int), .slice ak (nw t.w) ck, .slice ac t.copies.length cc] 30)).alloc (.cells #[.int .i64 (t.w : Int), .slice bg (nw t.w) dg, .int .i64 (t.w : Int), .slice bk (nw t.w) dk, .slice bc u.copies.length dc] 30)).alloc (.cells #[.int .i64 0, .slice none 0 0, .int .i64 0, .slice none 0 0, .slice none 0 0] 30)) = W2 at *
 refine (matching_eq t u _ _ _ _ _ _ _ HU.out (H1.out.extNo hx0) (H2.out.extNo hx0)).mono ?_
 rintro e1 w1 ⟨rfl, hx1⟩
 have hx := Lib.hid (hx0.transNo hx1)
 have HA := Lib.hid (hx1.blk hA no_no)
 have HB := Lib.hid (hx1.blk hB no_no)
 have HC := Lib.hid (hx1.blk hC no_no)
 have H1w := Lib.hid (H1.out.extNo hx.out)
 have H2w := Lib.hid (H2.out.extNo hx.out)
 have HTw := Lib.hid (HT.out.ext hx.out)
 clear hx0 hx1 hA hB hC
 have cA := cellOf HA.out
 have cB := cellOf HB.out
 go_wp2_with fail
 clear cA cB
 go_cut [7, 8] (fun s7 s8 wx => TwoOpen 113 w1 wx t.w t.gen (rowsN t t.w t.copies.length) u.gen (rowsN u t.w u.copies.length) s7 s8)
 case first =>
  have hlB : W.heap.size + 1 < w1.heap.size := lt_of_block HB.out
  refine wp_region_held_drew (S := (fun w' => Ext No w1 w')) (by kernel_rfl) ?_ (fun hHeld => ?_)
  ·exact (Ext.refl _ _).drew
  have hJ := TwoB.start (fun _ _ => True) (fun _ _ => True) 113 ((Ext.refl No w1).drew)
  have k1 := keeps_true
  have k2 := keeps_true
  generalize w1.drew = v0 at *
  refine hTk 0 ?_ hHeld (fun w hSw => ?_) ?_
  rotate_left
  ·(have hEs : Ext No w1 _ := hSw); (have x0 := cellOf (hEs.blk HA.out no_no)); go_simp; (try with_reducible rfl)
  simp only [Act.put, nzA, nzB, nzC]
  refine hTk 2 ?_ hHeld (fun w hSw => ?_) ?_
  rotate_left
  ·(have hEs : Ext No w1 _ := hSw); (have x0 := cellOf (hEs.blk HB.out no_no)); go_simp; (try with_reducible rfl)
  simp only [Act.put, nzA, nzB, nzC]
  refine held_next3 (i := 1) (j := 4) (k := 5) (by kernel_rfl) (NextOp.mk rfl rfl (fun K hK => ?_)) (NextOp.mk rfl rfl (fun K hK => ?_)) (NextOp.mk rfl rfl (fun K hK => ?_))
  ·(go_simp; go_at_call 70; (with_reducible refine (open_lo t _ _ _ _ (H1w.out.extNo hJ.ext)).mono ?_); (rintro e1 v1 ⟨ag1, cg1, ao1, co1, rfl, hs1, hyA⟩); go_simp)
   refine hK.out _ _ ?_ ?_
   ·exact Ext.transNo (show Ext No w1 _ from hHeld) hyA
   clear hK K hHeld
   intro hHeld
   replace hJ := hJ.call1 k1 k2 (keeps_rows _ _ _ _ _) hyA hs1.out hs1.out.ownLt
   replace k1 := hJ.2
   replace hJ := hJ.1
   clear hyA hs1
   try simp only [Act.put, nzA, nzB, nzC]
   refine held_next3 (i := 3) (j := 4) (k := 5) (by kernel_rfl) (NextOp.mk rfl rfl (fun K hK => ?_)) (NextOp.mk rfl rfl (fun K hK => ?_)) (NextOp.mk rfl rfl (fun K hK => ?_))
   ·(go_simp; go_at_call 70; (with_reducible refine (open_lo2 u t.w _ _ _ _ HU.out (H2w.out.extNo hJ.ext)).mono ?_); (rintro e2 v2 ⟨ag2, cg2, ao2, co2, rfl, hs2, hyA⟩); go_simp)
    refine hK.out _ _ ?_ ?_
    ·exact Ext.transNo (show Ext No w1 _ from hHeld) hyA
    clear hK K hHeld
    intro hHeld
    replace hJ := hJ.call2 k1 k2 (keeps_rows _ _ _ _ _) hyA hs2.out
    replace k2 := hJ.2
    replace hJ := hJ.1
    clear hyA hs2
    try simp only [Act.put, nzA, nzB, nzC]
    refine held_next2 (i := 4) (j := 5) (by kernel_rfl) (NextOp.mk rfl rfl (fun K hK => ?_)) (NextOp.mk rfl rfl (fun K hK => ?_))
    ·go_simp
     refine hK.out _ _ ?_ ?_
     ·exact Ext.alloc (show Ext No w1 _ from hHeld) _
     clear hK K hHeld
     intro hHeld
     replace hJ := hJ.allocA k1 k2 #[.int .i64 0, .slice none 0 0, .slice none 0 0]
     generalize (v2.alloc (.cells #[.int .i64 0, .slice none 0 0, .slice none 0 0] 113)) = v3 at *
     generalize v2.heap.size = DA at *
     have hDA := (hJ.boxA _ _ rfl).1
     try simp only [Act.put, nzA, nzB, nzC]
     refine hHc 5 fun K hK => ?_
     go_simp
     refine hK.out _ _ ?_ ?_
     ·exact Ext.alloc (show Ext No w1 _ from hHeld) _
     clear hK K hHeld
     intro hHeld
     replace hJ := hJ.allocB k1 k2 #[.int .i64 0, .slice none 0 0, .slice none 0 0]
     generalize (v3.alloc (.cells #[.int .i64 0, .slice none 0 0, .slice none 0 0] 113)) = v4 at *
     generalize v3.heap.size = DB at *
     have hDB := (hJ.boxB _ _ rfl).1
     try simp only [Act.put, nzA, nzB, nzC]
     refine hHc 6 fun K hK => ?_
     ((obtain ⟨hb1, hb2⟩ := hJ.boxA _ _ rfl); (have cS := cellOf hb2); (have fS := freeOf hb2); (clear hb1 hb2); go_simp; (clear cS fS))
     refine hK.out _ _ ?_ ?_
     ·exact (show Ext No w1 _ from hHeld).trans2 (set3 _ _ _ _ _) (fun i hi e => by unfold At at e; omega)
     clear hK K hHeld
     intro hHeld
     replace hJ := hJ.storeA k1 k2 (.int .i64 (t.w : Int)) (.slice ag1 (nw t.w) cg1) (.slice ao1 (rowsN t t.w t.copies.length).length co1)
     generalize (((v4.setCell ⟨DA, 0, none⟩ (.int .i64 (t.w : Int))).setCell ⟨DA, 1, none⟩ (.slice ag1 (nw t.w) cg1)).setCell ⟨DA, 2, none⟩ (.slice ao1 (rowsN t t.w t.copies.length).length co1)) = v5 at *
     try simp only [Act.put, nzA, nzB, nzC]
     refine hHc 7 fun K hK => ?_
     ((obtain ⟨hb1, hb2⟩ := hJ.boxB _ _ rfl); (have cS := cellOf hb2); (have fS := freeOf hb2); (clear hb1 hb2); go_simp; (clear cS fS))
     refine hK.out _ _ ?_ ?_
     ·exact (show Ext No w1 _ from hHeld).trans2 (set3 _ _ _ _ _) (fun i hi e => by unfold At at e; omega)
     clear hK K hHeld
     intro hHeld
     replace hJ := hJ.storeB k1 k2 (.int .i64 (t.w : Int)) (.slice ag2 (nw t.w) cg2) (.slice ao2 (rowsN u t.w u.copies.length).length co2)
     generalize (((v5.setCell ⟨DB, 0, none⟩ (.int .i64 (t.w : Int))).setCell ⟨DB, 1, none⟩ (.slice ag2 (nw t.w) cg2)).setCell ⟨DB, 2, none⟩ (.slice ao2 (rowsN u t.w u.copies.length).length co2)) = v6 at *
     try simp only [Act.put, nzA, nzB, nzC]
     refine wpAnyH_done (by kernel_rfl) ?_ _
     go_wp2_with fail
     go_meet
     exact ⟨DA, DB, ag1, cg1, ao1, co1, ag2, cg2, ao2, co2, rfl, rfl, Lib.hid hJ⟩
    go_simp
    refine hK.out _ _ ?_ ?_
    ·exact Ext.alloc (show Ext No w1 _ from hHeld) _
    clear hK K hHeld
    intro hHeld
    replace hJ := hJ.allocB k1 k2 #[.int .i64 0, .slice none 0 0, .slice none 0 0]
    generalize (v2.alloc (.cells #[.int .i64 0, .slice none 0 0, .slice none 0 0] 113)) = v3 at *
    generalize v2.heap.size = DB at *
    have hDB := (hJ.boxB _ _ rfl).1
    try simp only [Act.put, nzA, nzB, nzC]
    refine hHc 4 fun K hK => ?_
    go_simp
    refine hK.out _ _ ?_ ?_
    ·exact Ext.alloc (show Ext No w1 _ from hHeld) _
    clear hK K hHeld
    intro hHeld
    replace hJ := hJ.allocA k1 k2 #[.int .i64 0, .slice none 0 0, .slice none 0 0]
    generalize (v3.alloc (.cells #[.int .i64 0, .slice none 0 0, .slice none 0 0] 113)) = v4 at *
    generalize v3.heap.size = DA at *
    have hDA := (hJ.boxA _ _ rfl).1
    try simp only [Act.put, nzA, nzB, nzC]
    refine hHc 6 fun K hK => ?_
    ((obtain ⟨hb1, hb2⟩ := hJ.boxA _ _ rfl); (have cS := cellOf hb2); (have fS := freeOf hb2); (clear hb1 hb2); go_simp; (clear cS fS))
    refine hK.out _ _ ?_ ?_
    ·exact (show Ext No w1 _ from hHeld).trans2 (set3 _ _ _ _ _) (fun i hi e => by unfold At at e; omega)
    clear hK K hHeld
    intro hHeld
    replace hJ := hJ.storeA k1 k2 (.int .i64 (t.w : Int)) (.slice ag1 (nw t.w) cg1) (.slice ao1 (rowsN t t.w t.copies.length).length co1)
    generalize (((v4.setCell ⟨DA, 0, none⟩ (.int .i64 (t.w : Int))).setCell ⟨DA, 1, none⟩ (.slice ag1 (nw t.w) cg1)).setCell ⟨DA, 2, none⟩ (.slice ao1 (rowsN t t.w t.copies.length).length co1)) = v5 at *
    try simp only [Act.put, nzA, nzB, nzC]
    refine hHc 7 fun K hK => ?_
    ((obtain ⟨hb1, hb2⟩ := hJ.boxB _ _ rfl); (have cS := cellOf hb2); (have fS := freeOf hb2); (clear hb1 hb2); go_simp; (clear cS fS))
    refine hK.out _ _ ?_ ?_
    ·exact (show Ext No w1 _ from hHeld).trans2 (set3 _ _ _ _ _) (fun i hi e => by unfold At at e; omega)
    clear hK K hHeld
    intro hHeld
    replace hJ := hJ.storeB k1 k2 (.int .i64 (t.w : Int)) (.slice ag2 (nw t.w) cg2) (.slice ao2 (rowsN u t.w u.copies.length).length co2)
    generalize (((v5.setCell ⟨DB, 0, none⟩ (.int .i64 (t.w : Int))).setCell ⟨DB, 1, none⟩ (.slice ag2 (nw t.w) cg2)).setCell ⟨DB, 2, none⟩ (.slice ao2 (rowsN u t.w u.copies.length).length co2)) = v6 at *
    try simp only [Act.put, nzA, nzB, nzC]
    refine wpAnyH_done (by kernel_rfl) ?_ _
    go_wp2_with fail
    go_meet
    exact ⟨DA, DB, ag1, cg1, ao1, co1, ag2, cg2, ao2, co2, rfl, rfl, Lib.hid hJ⟩
   ·go_simp
    refine hK.out _ _ ?_ ?_
    ·exact Ext.alloc (show Ext No w1 _ from hHeld) _
    clear hK K hHeld
    intro hHeld
    replace hJ := hJ.allocA k1 k2 #[.int .i64 0, .slice none 0 0, .slice none 0 0]
    generalize (v1.alloc (.cells #[.int .i64 0, .slice none 0 0, .slice none 0 0] 113)) = v2 at *
    generalize v1.heap.size = DA at *
    have hDA := (hJ.boxA _ _ rfl).1
    try simp only [Act.put, nzA, nzB, nzC]
    refine held_next2 (i := 3) (j := 5) (by kernel_rfl) (NextOp.mk rfl rfl (fun K hK => ?_)) (NextOp.mk rfl rfl (fun K hK => ?_))
    ·(go_simp; go_at_call 70; (with_reducible refine (open_lo2 u t.w _ _ _ _ HU.out (H2w.out.extNo hJ.ext)).mono ?_); (rintro e2 v3 ⟨ag2, cg2, ao2, co2, rfl, hs2, hyA⟩); go_simp)
     refine hK.out _ _ ?_ ?_
     ·exact Ext.transNo (show Ext No w1 _ from hHeld) hyA
     clear hK K hHeld
     intro hHeld
     replace hJ := hJ.call2 k1 k2 (keeps_rows _ _ _ _ _) hyA hs2.out
     replace k2 := hJ.2
     replace hJ := hJ.1
     clear hyA hs2
     try simp only [Act.put, nzA, nzB, nzC]
     refine hHc 5 fun K hK => ?_
     go_simp
     refine hK.out _ _ ?_ ?_
     ·exact Ext.alloc (show Ext No w1 _ from hHeld) _
     clear hK K hHeld
     intro hHeld
     replace hJ := hJ.allocB k1 k2 #[.int .i64 0, .slice none 0 0, .slice none 0 0]
     generalize (v3.alloc (.cells #[.int .i64 0, .slice none 0 0, .slice none 0 0] 113)) = v4 at *
     generalize v3.heap.size = DB at *
     have hDB := (hJ.boxB _ _ rfl).1
     try simp only [Act.put, nzA, nzB, nzC]
     refine hHc 6 fun K hK => ?_
     ((obtain ⟨hb1, hb2⟩ := hJ.boxA _ _ rfl); (have cS := cellOf hb2); (have fS := freeOf hb2); (clear hb1 hb2); go_simp; (clear cS fS))
     refine hK.out _ _ ?_ ?_
     ·exact (show Ext No w1 _ from hHeld).trans2 (set3 _ _ _ _ _) (fun i hi e => by unfold At at e; omega)
     clear hK K hHeld
     intro hHeld
     replace hJ := hJ.storeA k1 k2 (.int .i64 (t.w : Int)) (.slice ag1 (nw t.w) cg1) (.slice ao1 (rowsN t t.w t.copies.length).length co1)
     generalize (((v4.setCell ⟨DA, 0, none⟩ (.int .i64 (t.w : Int))).setCell ⟨DA, 1, none⟩ (.slice ag1 (nw t.w) cg1)).setCell ⟨DA, 2, none⟩ (.slice ao1 (rowsN t t.w t.copies.length).length co1)) = v5 at *
     try simp only [Act.put, nzA, nzB, nzC]
     refine hHc 7 fun K hK => ?_
     ((obtain ⟨hb1, hb2⟩ := hJ.boxB _ _ rfl); (have cS := cellOf hb2); (have fS := freeOf hb2); (clear hb1 hb2); go_simp; (clear cS fS))
     refine hK.out _ _ ?_ ?_
     ·exact (show Ext No w1 _ from hHeld).trans2 (set3 _ _ _ _ _) (fun i hi e => by unfold At at e; omega)
     clear hK K hHeld
     intro hHeld
     replace hJ := hJ.storeB k1 k2 (.int .i64 (t.w : Int)) (.slice ag2 (nw t.w) cg2) (.slice ao2 (rowsN u t.w u.copies.length).length co2)
     generalize (((v5.setCell ⟨DB, 0, none⟩ (.int .i64 (t.w : Int))).setCell ⟨DB, 1, none⟩ (.slice ag2 (nw t.w) cg2)).setCell ⟨DB, 2, none⟩ (.slice ao2 (rowsN u t.w u.copies.length).length co2)) = v6 at *
     try simp only [Act.put, nzA, nzB, nzC]
     refine wpAnyH_done (by kernel_rfl) ?_ _
     go_wp2_with fail
     go_meet
     exact ⟨DA, DB, ag1, cg1, ao1, co1, ag2, cg2, ao2, co2, rfl, rfl, Lib.hid hJ⟩
    go_simp
    refine hK.out _ _ ?_ ?_
    ·exact Ext.alloc (show Ext No w1 _ from hHeld) _
    clear hK K hHeld
    intro hHeld
    replace hJ := hJ.allocB k1 k2 #[.int .i64 0, .slice none 0 0, .slice none 0 0]
    generalize (v2.alloc (.cells #[.int .i64 0, .slice none 0 0, .slice none 0 0] 113)) = v3 at *
    generalize v2.heap.size = DB at *
    have hDB := (hJ.boxB _ _ rfl).1
    try simp only [Act.put, nzA, nzB, nzC]
    refine hHc 3 fun K hK => ?_
    (go_simp; go_at_call 70; (with_reducible refine (open_lo2 u t.w _ _ _ _ HU.out (H2w.out.extNo hJ.ext)).mono ?_); (rintro e2 v4 ⟨ag2, cg2, ao2, co2, rfl, hs2, hyA⟩); go_simp)
    refine hK.out _ _ ?_ ?_
    ·exact Ext.transNo (show Ext No w1 _ from hHeld) hyA
    clear hK K hHeld
    intro hHeld
    replace hJ := hJ.call2 k1 k2 (keeps_rows _ _ _ _ _) hyA hs2.out
    replace k2 := hJ.2
    replace hJ := hJ.1
    clear hyA hs2
    try simp only [Act.put, nzA, nzB, nzC]
    refine hHc 6 fun K hK => ?_
    ((obtain ⟨hb1, hb2⟩ := hJ.boxA _ _ rfl); (have cS := cellOf hb2); (have fS := freeOf hb2); (clear hb1 hb2); go_simp; (clear cS fS))
    refine hK.out _ _ ?_ ?_
    ·exact (show Ext No w1 _ from hHeld).trans2 (set3 _ _ _ _ _) (fun i hi e => by unfold At at e; omega)
    clear hK K hHeld
    intro hHeld
    replace hJ := hJ.storeA k1 k2 (.int .i64 (t.w : Int)) (.slice ag1 (nw t.w) cg1) (.slice ao1 (rowsN t t.w t.copies.length).length co1)
    generalize (((v4.setCell ⟨DA, 0, none⟩ (.int .i64 (t.w : Int))).setCell ⟨DA, 1, none⟩ (.slice ag1 (nw t.w) cg1)).setCell ⟨DA, 2, none⟩ (.slice ao1 (rowsN t t.w t.copies.length).length co1)) = v5 at *
    try simp only [Act.put, nzA, nzB, nzC]
    refine hHc 7 fun K hK => ?_
    ((obtain ⟨hb1, hb2⟩ := hJ.boxB _ _ rfl); (have cS := cellOf hb2); (have fS := freeOf hb2); (clear hb1 hb2); go_simp; (clear cS fS))
    refine hK.out _ _ ?_ ?_
    ·exact (show Ext No w1 _ from hHeld).trans2 (set3 _ _ _ _ _) (fun i hi e => by unfold At at e; omega)
    clear hK K hHeld
    intro hHeld
    replace hJ := hJ.storeB k1 k2 (.int .i64 (t.w : Int)) (.slice ag2 (nw t.w) cg2) (.slice ao2 (rowsN u t.w u.copies.length).length co2)
    generalize (((v5.setCell ⟨DB, 0, none⟩ (.int .i64 (t.w : Int))).setCell ⟨DB, 1, none⟩ (.slice ag2 (nw t.w) cg2)).setCell ⟨DB, 2, none⟩ (.slice ao2 (rowsN u t.w u.copies.length).length co2)) = v6 at *
    try simp only [Act.put, nzA, nzB, nzC]
    refine wpAnyH_done (by kernel_rfl) ?_ _
    go_wp2_with fail
    go_meet
    exact ⟨DA, DB, ag1, cg1, ao1, co1, ag2, cg2, ao2, co2, rfl, rfl, Lib.hid hJ⟩
   go_simp
   refine hK.out _ _ ?_ ?_
   ·exact Ext.alloc (show Ext No w1 _ from hHeld) _
   clear hK K hHeld
   intro hHeld
   replace hJ := hJ.allocB k1 k2 #[.int .i64 0, .slice none 0 0, .slice none 0 0]
   generalize (v1.alloc (.cells #[.int .i64 0, .slice none 0 0, .slice none 0 0] 113)) = v2 at *
   generalize v1.heap.size = DB at *
   have hDB := (hJ.boxB _ _ rfl).1
   try simp only [Act.put, nzA, nzB, nzC]
   refine held_next2 (i := 3) (j := 4) (by kernel_rfl) (NextOp.mk rfl rfl (fun K hK => ?_)) (NextOp.mk rfl rfl (fun K hK => ?_))
   ·(go_simp; go_at_call 70; (with_reducible refine (open_lo2 u t.w _ _ _ _ HU.out (H2w.out.extNo hJ.ext)).mono ?_); (rintro e2 v3 ⟨ag2, cg2, ao2, co2, rfl, hs2, hyA⟩); go_simp)
    refine hK.out _ _ ?_ ?_
    ·exact Ext.transNo (show Ext No w1 _ from hHeld) hyA
    clear hK K hHeld
    intro hHeld
    replace hJ := hJ.call2 k1 k2 (keeps_rows _ _ _ _ _) hyA hs2.out
    replace k2 := hJ.2
    replace hJ := hJ.1
    clear hyA hs2
    try simp only [Act.put, nzA, nzB, nzC]
    refine hHc 4 fun K hK => ?_
    go_simp
    refine hK.out _ _ ?_ ?_
    ·exact Ext.alloc (show Ext No w1 _ from hHeld) _
    clear hK K hHeld
    intro hHeld
    replace hJ := hJ.allocA k1 k2 #[.int .i64 0, .slice none 0 0, .slice none 0 0]
    generalize (v3.alloc (.cells #[.int .i64 0, .slice none 0 0, .slice none 0 0] 113)) = v4 at *
    generalize v3.heap.size = DA at *
    have hDA := (hJ.boxA _ _ rfl).1
    try simp only [Act.put, nzA, nzB, nzC]
    refine hHc 6 fun K hK => ?_
    ((obtain ⟨hb1, hb2⟩ := hJ.boxA _ _ rfl); (have cS := cellOf hb2); (have fS := freeOf hb2); (clear hb1 hb2); go_simp; (clear cS fS))
    refine hK.out _ _ ?_ ?_
    ·exact (show Ext No w1 _ from hHeld).trans2 (set3 _ _ _ _ _) (fun i hi e => by unfold At at e; omega)
    clear hK K hHeld
    intro hHeld
    replace hJ := hJ.storeA k1 k2 (.int .i64 (t.w : Int)) (.slice ag1 (nw t.w) cg1) (.slice ao1 (rowsN t t.w t.copies.length).length co1)
    generalize (((v4.setCell ⟨DA, 0, none⟩ (.int .i64 (t.w : Int))).setCell ⟨DA, 1, none⟩ (.slice ag1 (nw t.w) cg1)).setCell ⟨DA, 2, none⟩ (.slice ao1 (rowsN t t.w t.copies.length).length co1)) = v5 at *
    try simp only [Act.put, nzA, nzB, nzC]
    refine hHc 7 fun K hK => ?_
    ((obtain ⟨hb1, hb2⟩ := hJ.boxB _ _ rfl); (have cS := cellOf hb2); (have fS := freeOf hb2); (clear hb1 hb2); go_simp; (clear cS fS))
    refine hK.out _ _ ?_ ?_
    ·exact (show Ext No w1 _ from hHeld).trans2 (set3 _ _ _ _ _) (fun i hi e => by unfold At at e; omega)
    clear hK K hHeld
    intro hHeld
    replace hJ := hJ.storeB k1 k2 (.int .i64 (t.w : Int)) (.slice ag2 (nw t.w) cg2) (.slice ao2 (rowsN u t.w u.copies.length).length co2)
    generalize (((v5.setCell ⟨DB, 0, none⟩ (.int .i64 (t.w : Int))).setCell ⟨DB, 1, none⟩ (.slice ag2 (nw t.w) cg2)).setCell ⟨DB, 2, none⟩ (.slice ao2 (rowsN u t.w u.copies.length).length co2)) = v6 at *
    try simp only [Act.put, nzA, nzB, nzC]
    refine wpAnyH_done (by kernel_rfl) ?_ _
    go_wp2_with fail
    go_meet
    exact ⟨DA, DB, ag1, cg1, ao1, co1, ag2, cg2, ao2, co2, rfl, rfl, Lib.hid hJ⟩
   go_simp
   refine hK.out _ _ ?_ ?_
   ·exact Ext.alloc (show Ext No w1 _ from hHeld) _
   clear hK K hHeld
   intro hHeld
   replace hJ := hJ.allocA k1 k2 #[.int .i64 0, .slice none 0 0, .slice none 0 0]
   generalize (v2.alloc (.cells #[.int .i64 0, .slice none 0 0, .slice none 0 0] 113)) = v3 at *
   generalize v2.heap.size = DA at *
   have hDA := (hJ.boxA _ _ rfl).1
   try simp only [Act.put, nzA, nzB, nzC]
   refine hHc 3 fun K hK => ?_
   (go_simp; go_at_call 70; (with_reducible refine (open_lo2 u t.w _ _ _ _ HU.out (H2w.out.extNo hJ.ext)).mono ?_); (rintro e2 v4 ⟨ag2, cg2, ao2, co2, rfl, hs2, hyA⟩); go_simp)
   refine hK.out _ _ ?_ ?_
   ·exact Ext.transNo (show Ext No w1 _ from hHeld) hyA
   clear hK K hHeld
   intro hHeld
   replace hJ := hJ.call2 k1 k2 (keeps_rows _ _ _ _ _) hyA hs2.out
   replace k2 := hJ.2
   replace hJ := hJ.1
   clear hyA hs2
   try simp only [Act.put, nzA, nzB, nzC]
   refine hHc 6 fun K hK => ?_
   ((obtain ⟨hb1, hb2⟩ := hJ.boxA _ _ rfl); (have cS := cellOf hb2); (have fS := freeOf hb2); (clear hb1 hb2); go_simp; (clear cS fS))
   refine hK.out _ _ ?_ ?_
   ·exact (show Ext No w1 _ from hHeld).trans2 (set3 _ _ _ _ _) (fun i hi e => by unfold At at e; omega)
   clear hK K hHeld
   intro hHeld
   replace hJ := hJ.storeA k1 k2 (.int .i64 (t.w : Int)) (.slice ag1 (nw t.w) cg1) (.slice ao1 (rowsN t t.w t.copies.length).length co1)
   generalize (((v4.setCell ⟨DA, 0, none⟩ (.int .i64 (t.w : Int))).setCell ⟨DA, 1, none⟩ (.slice ag1 (nw t.w) cg1)).setCell ⟨DA, 2, none⟩ (.slice ao1 (rowsN t t.w t.copies.length).length co1)) = v5 at *
   try simp only [Act.put, nzA, nzB, nzC]
   refine hHc 7 fun K hK => ?_
   ((obtain ⟨hb1, hb2⟩ := hJ.boxB _ _ rfl); (have cS := cellOf hb2); (have fS := freeOf hb2); (clear hb1 hb2); go_simp; (clear cS fS))
   refine hK.out _ _ ?_ ?_
   ·exact (show Ext No w1 _ from hHeld).trans2 (set3 _ _ _ _ _) (fun i hi e => by unfold At at e; omega)
   clear hK K hHeld
   intro hHeld
   replace hJ := hJ.storeB k1 k2 (.int .i64 (t.w : Int)) (.slice ag2 (nw t.w) cg2) (.slice ao2 (rowsN u t.w u.copies.length).length co2)
   generalize (((v5.setCell ⟨DB, 0, none⟩ (.int .i64 (t.w : Int))).setCell ⟨DB, 1, none⟩ (.slice ag2 (nw t.w) cg2)).setCell ⟨DB, 2, none⟩ (.slice ao2 (rowsN u t.w u.copies.length).length co2)) = v6 at *
   try simp only [Act.put, nzA, nzB, nzC]
   refine wpAnyH_done (by kernel_rfl) ?_ _
   go_wp2_with fail
   go_meet
   exact ⟨DA, DB, ag1, cg1, ao1, co1, ag2, cg2, ao2, co2, rfl, rfl, Lib.hid hJ⟩
  ·go_simp
   refine hK.out _ _ ?_ ?_
   ·exact Ext.alloc (show Ext No w1 _ from hHeld) _
   clear hK K hHeld
   intro hHeld
   replace hJ := hJ.allocA k1 k2 #[.int .i64 0, .slice none 0 0, .slice none 0 0]
   generalize (v0.alloc (.cells #[.int .i64 0, .slice none 0 0, .slice none 0 0] 113)) = v1 at *
   generalize v0.heap.size = DA at *
   have hDA := (hJ.boxA _ _ rfl).1
   try simp only [Act.put, nzA, nzB, nzC]
   refine held_next2 (i := 1) (j := 5) (by kernel_rfl) (NextOp.mk rfl rfl (fun K hK => ?_)) (NextOp.mk rfl rfl (fun K hK => ?_))
   ·(go_simp; go_at_call 70; (with_reducible refine (open_lo t _ _ _ _ (H1w.out.extNo hJ.ext)).mono ?_); (rintro e1 v2 ⟨ag1, cg1, ao1, co1, rfl, hs1, hyA⟩); go_simp)
    refine hK.out _ _ ?_ ?_
    ·exact Ext.transNo (show Ext No w1 _ from hHeld) hyA
    clear hK K hHeld
    intro hHeld
    replace hJ := hJ.call1 k1 k2 (keeps_rows _ _ _ _ _) hyA hs1.out hs1.out.ownLt
    replace k1 := hJ.2
    replace hJ := hJ.1
    clear hyA hs1
    try simp only [Act.put, nzA, nzB, nzC]
    refine held_next2 (i := 3) (j := 5) (by kernel_rfl) (NextOp.mk rfl rfl (fun K hK => ?_)) (NextOp.mk rfl rfl (fun K hK => ?_))
    ·(go_simp; go_at_call 70; (with_reducible refine (open_lo2 u t.w _ _ _ _ HU.out (H2w.out.extNo hJ.ext)).mono ?_); (rintro e2 v3 ⟨ag2, cg2, ao2, co2, rfl, hs2, hyA⟩); go_simp)
     refine hK.out _ _ ?_ ?_
     ·exact Ext.transNo (show Ext No w1 _ from hHeld) hyA
     clear hK K hHeld
     intro hHeld
     replace hJ := hJ.call2 k1 k2 (keeps_rows _ _ _ _ _) hyA hs2.out
     replace k2 := hJ.2
     replace hJ := hJ.1
     clear hyA hs2
     try simp only [Act.put, nzA, nzB, nzC]
     refine hHc 5 fun K hK => ?_
     go_simp
     refine hK.out _ _ ?_ ?_
     ·exact Ext.alloc (show Ext No w1 _ from hHeld) _
     clear hK K hHeld
     intro hHeld
     replace hJ := hJ.allocB k1 k2 #[.int .i64 0, .slice none 0 0, .slice none 0 0]
     generalize (v3.alloc (.cells #[.int .i64 0, .slice none 0 0, .slice none 0 0] 113)) = v4 at *
     generalize v3.heap.size = DB at *
     have hDB := (hJ.boxB _ _ rfl).1
     try simp only [Act.put, nzA, nzB, nzC]
     refine hHc 6 fun K hK => ?_
     ((obtain ⟨hb1, hb2⟩ := hJ.boxA _ _ rfl); (have cS := cellOf hb2); (have fS := freeOf hb2); (clear hb1 hb2); go_simp; (clear cS fS))
     refine hK.out _ _ ?_ ?_
     ·exact (show Ext No w1 _ from hHeld).trans2 (set3 _ _ _ _ _) (fun i hi e => by unfold At at e; omega)
     clear hK K hHeld
     intro hHeld
     replace hJ := hJ.storeA k1 k2 (.int .i64 (t.w : Int)) (.slice ag1 (nw t.w) cg1) (.slice ao1 (rowsN t t.w t.copies.length).length co1)
     generalize (((v4.setCell ⟨DA, 0, none⟩ (.int .i64 (t.w : Int))).setCell ⟨DA, 1, none⟩ (.slice ag1 (nw t.w) cg1)).setCell ⟨DA, 2, none⟩ (.slice ao1 (rowsN t t.w t.copies.length).length co1)) = v5 at *
     try simp only [Act.put, nzA, nzB, nzC]
     refine hHc 7 fun K hK => ?_
     ((obtain ⟨hb1, hb2⟩ := hJ.boxB _ _ rfl); (have cS := cellOf hb2); (have fS := freeOf hb2); (clear hb1 hb2); go_simp; (clear cS fS))
     refine hK.out _ _ ?_ ?_
     ·exact (show Ext No w1 _ from hHeld).trans2 (set3 _ _ _ _ _) (fun i hi e => by unfold At at e; omega)
     clear hK K hHeld
     intro hHeld
     replace hJ := hJ.storeB k1 k2 (.int .i64 (t.w : Int)) (.slice ag2 (nw t.w) cg2) (.slice ao2 (rowsN u t.w u.copies.length).length co2)
     generalize (((v5.setCell ⟨DB, 0, none⟩ (.int .i64 (t.w : Int))).setCell ⟨DB, 1, none⟩ (.slice ag2 (nw t.w) cg2)).setCell ⟨DB, 2, none⟩ (.slice ao2 (rowsN u t.w u.copies.length).length co2)) = v6 at *
     try simp only [Act.put, nzA, nzB, nzC]
     refine wpAnyH_done (by kernel_rfl) ?_ _
     go_wp2_with fail
     go_meet
     exact ⟨DA, DB, ag1, cg1, ao1, co1, ag2, cg2, ao2, co2, rfl, rfl, Lib.hid hJ⟩
    go_simp
    refine hK.out _ _ ?_ ?_
    ·exact Ext.alloc (show Ext No w1 _ from hHeld) _
    clear hK K hHeld
    intro hHeld
    replace hJ := hJ.allocB k1 k2 #[.int .i64 0, .slice none 0 0, .slice none 0 0]
    generalize (v2.alloc (.cells #[.int .i64 0, .slice none 0 0, .slice none 0 0] 113)) = v3 at *
    generalize v2.heap.size = DB at *
    have hDB := (hJ.boxB _ _ rfl).1
    try simp only [Act.put, nzA, nzB, nzC]
    refine hHc 3 fun K hK => ?_
    (go_simp; go_at_call 70; (with_reducible refine (open_lo2 u t.w _ _ _ _ HU.out (H2w.out.extNo hJ.ext)).mono ?_); (rintro e2 v4 ⟨ag2, cg2, ao2, co2, rfl, hs2, hyA⟩); go_simp)
    refine hK.out _ _ ?_ ?_
    ·exact Ext.transNo (show Ext No w1 _ from hHeld) hyA
    clear hK K hHeld
    intro hHeld
    replace hJ := hJ.call2 k1 k2 (keeps_rows _ _ _ _ _) hyA hs2.out
    replace k2 := hJ.2
    replace hJ := hJ.1
    clear hyA hs2
    try simp only [Act.put, nzA, nzB, nzC]
    refine hHc 6 fun K hK => ?_
    ((obtain ⟨hb1, hb2⟩ := hJ.boxA _ _ rfl); (have cS := cellOf hb2); (have fS := freeOf hb2); (clear hb1 hb2); go_simp; (clear cS fS))
    refine hK.out _ _ ?_ ?_
    ·exact (show Ext No w1 _ from hHeld).trans2 (set3 _ _ _ _ _) (fun i hi e => by unfold At at e; omega)
    clear hK K hHeld
    intro hHeld
    replace hJ := hJ.storeA k1 k2 (.int .i64 (t.w : Int)) (.slice ag1 (nw t.w) cg1) (.slice ao1 (rowsN t t.w t.copies.length).length co1)
    generalize (((v4.setCell ⟨DA, 0, none⟩ (.int .i64 (t.w : Int))).setCell ⟨DA, 1, none⟩ (.slice ag1 (nw t.w) cg1)).setCell ⟨DA, 2, none⟩ (.slice ao1 (rowsN t t.w t.copies.length).length co1)) = v5 at *
    try simp only [Act.put, nzA, nzB, nzC]
    refine hHc 7 fun K hK => ?_
    ((obtain ⟨hb1, hb2⟩ := hJ.boxB _ _ rfl); (have cS := cellOf hb2); (have fS := freeOf hb2); (clear hb1 hb2); go_simp; (clear cS fS))
    refine hK.out _ _ ?_ ?_
    ·exact (show Ext No w1 _ from hHeld).trans2 (set3 _ _ _ _ _) (fun i hi e => by unfold At at e; omega)
    clear hK K hHeld
    intro hHeld
    replace hJ := hJ.storeB k1 k2 (.int .i64 (t.w : Int)) (.slice ag2 (nw t.w) cg2) (.slice ao2 (rowsN u t.w u.copies.length).length co2)
    generalize (((v5.setCell ⟨DB, 0, none⟩ (.int .i64 (t.w : Int))).setCell ⟨DB, 1, none⟩ (.slice ag2 (nw t.w) cg2)).setCell ⟨DB, 2, none⟩ (.slice ao2 (rowsN u t.w u.copies.length).length co2)) = v6 at *
    try simp only [Act.put, nzA, nzB, nzC]
    refine wpAnyH_done (by kernel_rfl) ?_ _
    go_wp2_with fail
    go_meet
    exact ⟨DA, DB, ag1, cg1, ao1, co1, ag2, cg2, ao2, co2, rfl, rfl, Lib.hid hJ⟩
   go_simp
   refine hK.out _ _ ?_ ?_
   ·exact Ext.alloc (show Ext No w1 _ from hHeld) _
   clear hK K hHeld
   intro hHeld
   replace hJ := hJ.allocB k1 k2 #[.int .i64 0, .slice none 0 0, .slice none 0 0]
   generalize (v1.alloc (.cells #[.int .i64 0, .slice none 0 0, .slice none 0 0] 113)) = v2 at *
   generalize v1.heap.size = DB at *
   have hDB := (hJ.boxB _ _ rfl).1
   try simp only [Act.put, nzA, nzB, nzC]
   refine hHc 1 fun K hK => ?_
   (go_simp; go_at_call 70; (with_reducible refine (open_lo t _ _ _ _ (H1w.out.extNo hJ.ext)).mono ?_); (rintro e1 v3 ⟨ag1, cg1, ao1, co1, rfl, hs1, hyA⟩); go_simp)
   refine hK.out _ _ ?_ ?_
   ·exact Ext.transNo (show Ext No w1 _ from hHeld) hyA
   clear hK K hHeld
   intro hHeld
   replace hJ := hJ.call1 k1 k2 (keeps_rows _ _ _ _ _) hyA hs1.out hs1.out.ownLt
   replace k1 := hJ.2
   replace hJ := hJ.1
   clear hyA hs1
   try simp only [Act.put, nzA, nzB, nzC]
   refine hHc 3 fun K hK => ?_
   (go_simp; go_at_call 70; (with_reducible refine (open_lo2 u t.w _ _ _ _ HU.out (H2w.out.extNo hJ.ext)).mono ?_); (rintro e2 v4 ⟨ag2, cg2, ao2, co2, rfl, hs2, hyA⟩); go_simp)
   refine hK.out _ _ ?_ ?_
   ·exact Ext.transNo (show Ext No w1 _ from hHeld) hyA
   clear hK K hHeld
   intro hHeld
   replace hJ := hJ.call2 k1 k2 (keeps_rows _ _ _ _ _) hyA hs2.out
   replace k2 := hJ.2
   replace hJ := hJ.1
   clear hyA hs2
   try simp only [Act.put, nzA, nzB, nzC]
   refine hHc 6 fun K hK => ?_
   ((obtain ⟨hb1, hb2⟩ := hJ.boxA _ _ rfl); (have cS := cellOf hb2); (have fS := freeOf hb2); (clear hb1 hb2); go_simp; (clear cS fS))
   refine hK.out _ _ ?_ ?_
   ·exact (show Ext No w1 _ from hHeld).trans2 (set3 _ _ _ _ _) (fun i hi e => by unfold At at e; omega)
   clear hK K hHeld
   intro hHeld
   replace hJ := hJ.storeA k1 k2 (.int .i64 (t.w : Int)) (.slice ag1 (nw t.w) cg1) (.slice ao1 (rowsN t t.w t.copies.length).length co1)
   generalize (((v4.setCell ⟨DA, 0, none⟩ (.int .i64 (t.w : Int))).setCell ⟨DA, 1, none⟩ (.slice ag1 (nw t.w) cg1)).setCell ⟨DA, 2, none⟩ (.slice ao1 (rowsN t t.w t.copies.length).length co1)) = v5 at *
   try simp only [Act.put, nzA, nzB, nzC]
   refine hHc 7 fun K hK => ?_
   ((obtain ⟨hb1, hb2⟩ := hJ.boxB _ _ rfl); (have cS := cellOf hb2); (have fS := freeOf hb2); (clear hb1 hb2); go_simp; (clear cS fS))
   refine hK.out _ _ ?_ ?_
   ·exact (show Ext No w1 _ from hHeld).trans2 (set3 _ _ _ _ _) (fun i hi e => by unfold At at e; omega)
   clear hK K hHeld
   intro hHeld
   replace hJ := hJ.storeB k1 k2 (.int .i64 (t.w : Int)) (.slice ag2 (nw t.w) cg2) (.slice ao2 (rowsN u t.w u.copies.length).length co2)
   generalize (((v5.setCell ⟨DB, 0, none⟩ (.int .i64 (t.w : Int))).setCell ⟨DB, 1, none⟩ (.slice ag2 (nw t.w) cg2)).setCell ⟨DB, 2, none⟩ (.slice ao2 (rowsN u t.w u.copies.length).length co2)) = v6 at *
   try simp only [Act.put, nzA, nzB, nzC]
   refine wpAnyH_done (by kernel_rfl) ?_ _
   go_wp2_with fail
   go_meet
   exact ⟨DA, DB, ag1, cg1, ao1, co1, ag2, cg2, ao2, co2, rfl, rfl, Lib.hid hJ⟩
  go_simp
  refine hK.out _ _ ?_ ?_
  ·exact Ext.alloc (show Ext No w1 _ from hHeld) _
  clear hK K hHeld
  intro hHeld
  replace hJ := hJ.allocB k1 k2 #[.int .i64 0, .slice none 0 0, .slice none 0 0]
  generalize (v0.alloc (.cells #[.int .i64 0, .slice none 0 0, .slice none 0 0] 113)) = v1 at *
  generalize v0.heap.size = DB at *
  have hDB := (hJ.boxB _ _ rfl).1
  try simp only [Act.put, nzA, nzB, nzC]
  refine held_next2 (i := 1) (j := 4) (by kernel_rfl) (NextOp.mk rfl rfl (fun K hK => ?_)) (NextOp.mk rfl rfl (fun K hK => ?_))
  ·(go_simp; go_at_call 70; (with_reducible refine (open_lo t _ _ _ _ (H1w.out.extNo hJ.ext)).mono ?_); (rintro e1 v2 ⟨ag1, cg1, ao1, co1, rfl, hs1, hyA⟩); go_simp)
   refine hK.out _ _ ?_ ?_
   ·exact Ext.transNo (show Ext No w1 _ from hHeld) hyA
   clear hK K hHeld
   intro hHeld
   replace hJ := hJ.call1 k1 k2 (keeps_rows _ _ _ _ _) hyA hs1.out hs1.out.ownLt
   replace k1 := hJ.2
   replace hJ := hJ.1
   clear hyA hs1
   try simp only [Act.put, nzA, nzB, nzC]
   refine held_next2 (i := 3) (j := 4) (by kernel_rfl) (NextOp.mk rfl rfl (fun K hK => ?_)) (NextOp.mk rfl rfl (fun K hK => ?_))
   ·(go_simp; go_at_call 70; (with_reducible refine (open_lo2 u t.w _ _ _ _ HU.out (H2w.out.extNo hJ.ext)).mono ?_); (rintro e2 v3 ⟨ag2, cg2, ao2, co2, rfl, hs2, hyA⟩); go_simp)
    refine hK.out _ _ ?_ ?_
    ·exact Ext.transNo (show Ext No w1 _ from hHeld) hyA
    clear hK K hHeld
    intro hHeld
    replace hJ := hJ.call2 k1 k2 (keeps_rows _ _ _ _ _) hyA hs2.out
    replace k2 := hJ.2
    replace hJ := hJ.1
    clear hyA hs2
    try simp only [Act.put, nzA, nzB, nzC]
    refine hHc 4 fun K hK => ?_
    go_simp
    refine hK.out _ _ ?_ ?_
    ·exact Ext.alloc (show Ext No w1 _ from hHeld) _
    clear hK K hHeld
    intro hHeld
    replace hJ := hJ.allocA k1 k2 #[.int .i64 0, .slice none 0 0, .slice none 0 0]
    generalize (v3.alloc (.cells #[.int .i64 0, .slice none 0 0, .slice none 0 0] 113)) = v4 at *
    generalize v3.heap.size = DA at *
    have hDA := (hJ.boxA _ _ rfl).1
    try simp only [Act.put, nzA, nzB, nzC]
    refine hHc 6 fun K hK => ?_
    ((obtain ⟨hb1, hb2⟩ := hJ.boxA _ _ rfl); (have cS := cellOf hb2); (have fS := freeOf hb2); (clear hb1 hb2); go_simp; (clear cS fS))
    refine hK.out _ _ ?_ ?_
    ·exact (show Ext No w1 _ from hHeld).trans2 (set3 _ _ _ _ _) (fun i hi e => by unfold At at e; omega)
    clear hK K hHeld
    intro hHeld
    replace hJ := hJ.storeA k1 k2 (.int .i64 (t.w : Int)) (.slice ag1 (nw t.w) cg1) (.slice ao1 (rowsN t t.w t.copies.length).length co1)
    generalize (((v4.setCell ⟨DA, 0, none⟩ (.int .i64 (t.w : Int))).setCell ⟨DA, 1, none⟩ (.slice ag1 (nw t.w) cg1)).setCell ⟨DA, 2, none⟩ (.slice ao1 (rowsN t t.w t.copies.length).length co1)) = v5 at *
    try simp only [Act.put, nzA, nzB, nzC]
    refine hHc 7 fun K hK => ?_
    ((obtain ⟨hb1, hb2⟩ := hJ.boxB _ _ rfl); (have cS := cellOf hb2); (have fS := freeOf hb2); (clear hb1 hb2); go_simp; (clear cS fS))
    refine hK.out _ _ ?_ ?_
    ·exact (show Ext No w1 _ from hHeld).trans2 (set3 _ _ _ _ _) (fun i hi e => by unfold At at e; omega)
    clear hK K hHeld
    intro hHeld
    replace hJ := hJ.storeB k1 k2 (.int .i64 (t.w : Int)) (.slice ag2 (nw t.w) cg2) (.slice ao2 (rowsN u t.w u.copies.length).length co2)
    generalize (((v5.setCell ⟨DB, 0, none⟩ (.int .i64 (t.w : Int))).setCell ⟨DB, 1, none⟩ (.slice ag2 (nw t.w) cg2)).setCell ⟨DB, 2, none⟩ (.slice ao2 (rowsN u t.w u.copies.length).length co2)) = v6 at *
    try simp only [Act.put, nzA, nzB, nzC]
    refine wpAnyH_done (by kernel_rfl) ?_ _
    go_wp2_with fail
    go_meet
    exact ⟨DA, DB, ag1, cg1, ao1, co1, ag2, cg2, ao2, co2, rfl, rfl, Lib.hid hJ⟩
   go_simp
   refine hK.out _ _ ?_ ?_
   ·exact Ext.alloc (show Ext No w1 _ from hHeld) _
   clear hK K hHeld
   intro hHeld
   replace hJ := hJ.allocA k1 k2 #[.int .i64 0, .slice none 0 0, .slice none 0 0]
   generalize (v2.alloc (.cells #[.int .i64 0, .slice none 0 0, .slice none 0 0] 113)) = v3 at *
   generalize v2.heap.size = DA at *
   have hDA := (hJ.boxA _ _ rfl).1
   try simp only [Act.put, nzA, nzB, nzC]
   refine hHc 3 fun K hK => ?_
   (go_simp; go_at_call 70; (with_reducible refine (open_lo2 u t.w _ _ _ _ HU.out (H2w.out.extNo hJ.ext)).mono ?_); (rintro e2 v4 ⟨ag2, cg2, ao2, co2, rfl, hs2, hyA⟩); go_simp)
   refine hK.out _ _ ?_ ?_
   ·exact Ext.transNo (show Ext No w1 _ from hHeld) hyA
   clear hK K hHeld
   intro hHeld
   replace hJ := hJ.call2 k1 k2 (keeps_rows _ _ _ _ _) hyA hs2.out
   replace k2 := hJ.2
   replace hJ := hJ.1
   clear hyA hs2
   try simp only [Act.put, nzA, nzB, nzC]
   refine hHc 6 fun K hK => ?_
   ((obtain ⟨hb1, hb2⟩ := hJ.boxA _ _ rfl); (have cS := cellOf hb2); (have fS := freeOf hb2); (clear hb1 hb2); go_simp; (clear cS fS))
   refine hK.out _ _ ?_ ?_
   ·exact (show Ext No w1 _ from hHeld).trans2 (set3 _ _ _ _ _) (fun i hi e => by unfold At at e; omega)
   clear hK K hHeld
   intro hHeld
   replace hJ := hJ.storeA k1 k2 (.int .i64 (t.w : Int)) (.slice ag1 (nw t.w) cg1) (.slice ao1 (rowsN t t.w t.copies.length).length co1)
   generalize (((v4.setCell ⟨DA, 0, none⟩ (.int .i64 (t.w : Int))).setCell ⟨DA, 1, none⟩ (.slice ag1 (nw t.w) cg1)).setCell ⟨DA, 2, none⟩ (.slice ao1 (rowsN t t.w t.copies.length).length co1)) = v5 at *
   try simp only [Act.put, nzA, nzB, nzC]
   refine hHc 7 fun K hK => ?_
   ((obtain ⟨hb1, hb2⟩ := hJ.boxB _ _ rfl); (have cS := cellOf hb2); (have fS := freeOf hb2); (clear hb1 hb2); go_simp; (clear cS fS))
   refine hK.out _ _ ?_ ?_
   ·exact (show Ext No w1 _ from hHeld).trans2 (set3 _ _ _ _ _) (fun i hi e => by unfold At at e; omega)
   clear hK K hHeld
   intro hHeld
   replace hJ := hJ.storeB k1 k2 (.int .i64 (t.w : Int)) (.slice ag2 (nw t.w) cg2) (.slice ao2 (rowsN u t.w u.copies.length).length co2)
   generalize (((v5.setCell ⟨DB, 0, none⟩ (.int .i64 (t.w : Int))).setCell ⟨DB, 1, none⟩ (.slice ag2 (nw t.w) cg2)).setCell ⟨DB, 2, none⟩ (.slice ao2 (rowsN u t.w u.copies.length).length co2)) = v6 at *
   try simp only [Act.put, nzA, nzB, nzC]
   refine wpAnyH_done (by kernel_rfl) ?_ _
   go_wp2_with fail
   go_meet
   exact ⟨DA, DB, ag1, cg1, ao1, co1, ag2, cg2, ao2, co2, rfl, rfl, Lib.hid hJ⟩
  go_simp
  refine hK.out _ _ ?_ ?_
  ·exact Ext.alloc (show Ext No w1 _ from hHeld) _
  clear hK K hHeld
  intro hHeld
  replace hJ := hJ.allocA k1 k2 #[.int .i64 0, .slice none 0 0, .slice none 0 0]
  generalize (v1.alloc (.cells #[.int .i64 0, .slice none 0 0, .slice none 0 0] 113)) = v2 at *
  generalize v1.heap.size = DA at *
  have hDA := (hJ.boxA _ _ rfl).1
  try simp only [Act.put, nzA, nzB, nzC]
  refine hHc 1 fun K hK => ?_
  (go_simp; go_at_call 70; (with_reducible refine (open_lo t _ _ _ _ (H1w.out.extNo hJ.ext)).mono ?_); (rintro e1 v3 ⟨ag1, cg1, ao1, co1, rfl, hs1, hyA⟩); go_simp)
  refine hK.out _ _ ?_ ?_
  ·exact Ext.transNo (show Ext No w1 _ from hHeld) hyA
  clear hK K hHeld
  intro hHeld
  replace hJ := hJ.call1 k1 k2 (keeps_rows _ _ _ _ _) hyA hs1.out hs1.out.ownLt
  replace k1 := hJ.2
  replace hJ := hJ.1
  clear hyA hs1
  try simp only [Act.put, nzA, nzB, nzC]
  refine hHc 3 fun K hK => ?_
  (go_simp; go_at_call 70; (with_reducible refine (open_lo2 u t.w _ _ _ _ HU.out (H2w.out.extNo hJ.ext)).mono ?_); (rintro e2 v4 ⟨ag2, cg2, ao2, co2, rfl, hs2, hyA⟩); go_simp)
  refine hK.out _ _ ?_ ?_
  ·exact Ext.transNo (show Ext No w1 _ from hHeld) hyA
  clear hK K hHeld
  intro hHeld
  replace hJ := hJ.call2 k1 k2 (keeps_rows _ _ _ _ _) hyA hs2.out
  replace k2 := hJ.2
  replace hJ := hJ.1
  clear hyA hs2
  try simp only [Act.put, nzA, nzB, nzC]
  refine hHc 6 fun K hK => ?_
  ((obtain ⟨hb1, hb2⟩ := hJ.boxA _ _ rfl); (have cS := cellOf hb2); (have fS := freeOf hb2); (clear hb1 hb2); go_simp; (clear cS fS))
  refine hK.out _ _ ?_ ?_
  ·exact (show Ext No w1 _ from hHeld).trans2 (set3 _ _ _ _ _) (fun i hi e => by unfold At at e; omega)
  clear hK K hHeld
  intro hHeld
  replace hJ := hJ.storeA k1 k2 (.int .i64 (t.w : Int)) (.slice ag1 (nw t.w) cg1) (.slice ao1 (rowsN t t.w t.copies.length).length co1)
  generalize (((v4.setCell ⟨DA, 0, none⟩ (.int .i64 (t.w : Int))).setCell ⟨DA, 1, none⟩ (.slice ag1 (nw t.w) cg1)).setCell ⟨DA, 2, none⟩ (.slice ao1 (rowsN t t.w t.copies.length).length co1)) = v5 at *
  try simp only [Act.put, nzA, nzB, nzC]
  refine hHc 7 fun K hK => ?_
  ((obtain ⟨hb1, hb2⟩ := hJ.boxB _ _ rfl); (have cS := cellOf hb2); (have fS := freeOf hb2); (clear hb1 hb2); go_simp; (clear cS fS))
  refine hK.out _ _ ?_ ?_
  ·exact (show Ext No w1 _ from hHeld).trans2 (set3 _ _ _ _ _) (fun i hi e => by unfold At at e; omega)
  clear hK K hHeld
  intro hHeld
  replace hJ := hJ.storeB k1 k2 (.int .i64 (t.w : Int)) (.slice ag2 (nw t.w) cg2) (.slice ao2 (rowsN u t.w u.copies.length).length co2)
  generalize (((v5.setCell ⟨DB, 0, none⟩ (.int .i64 (t.w : Int))).setCell ⟨DB, 1, none⟩ (.slice ag2 (nw t.w) cg2)).setCell ⟨DB, 2, none⟩ (.slice ao2 (rowsN u t.w u.copies.length).length co2)) = v6 at *
  try simp only [Act.put, nzA, nzB, nzC]
  refine wpAnyH_done (by kernel_rfl) ?_ _
  go_wp2_with fail
  go_meet
  exact ⟨DA, DB, ag1, cg1, ao1, co1, ag2, cg2, ao2, co2, rfl, rfl, Lib.hid hJ⟩
 case rest =>
  obtain ⟨D1, D2, a1, c1, b1, d1, a2, c2, b2, d2, rfl, rfl, hJ⟩ := hcut
  rename World => V
  have hT0 := HT.out.pos
  have hm := Lib.hid (JoM.start HM.out hx.out HC.out hJ.out rfl)
  have HTV := Lib.hid (HTw.out.ext hJ.out.ext)
  clear hJ HA HB HC H1w H2w HTw hx H1 H2 HU HT
  have HL1 : Hid ((rowsN t t.w t.copies.length).length = t.w) := Lib.hid (rowsN_len ..)
  have HL2 : Hid ((rowsN u t.w u.copies.length).length = t.w) := Lib.hid (rowsN_len ..)
  have cD1 := cellOf hm.out.box1
  have cD2 := cellOf hm.out.r2.1
  go_wp2_with fail
  refine (union_any (fun b => (M b ∨ b = W.heap.size + 2 ∨ b = D1) ∨ (Value.slice b1 (rowsN t t.w t.copies.length).length d1).ownBlock = some b) t.w t.gen u.gen _ _ _ (hm.out.hM HM.out) hm.out.rows.set.no hm.out.r2.2.2.set.no).mono ?_
  rintro e3 w3 ⟨a3, c3, rfl, hs3, hx3⟩
  have hm3 := Lib.hid (hm.out.stepNo (keeps_box _ _ _ _ _ _) hx3)
  have HTV3 := Lib.hid (HTV.out.ext hx3)
  clear hm hx3 cD1 cD2 HTV
  have cD1 := cellOf hm3.out.box1
  have fD1 := freeOf hm3.out.box1
  have hm4 := Lib.hid (hm3.out.putG (keeps_box _ _ _ _ _ _) hs3.out)
  have HTV4 := Lib.hid (HTV3.out.extM ((((Ext.refl (At D1) w3).setAt 0 (.int .i64 (t.w : Int))).setAt 1 (.slice a3 (nw t.w) c3))) (fun e => by unfold At at e; have := hm3.out.big; omega))
  have cD4 := cellOf hm4.out.box1
  clear hm3 hs3 HTV3
  go_wp2_with fail
  clear cD1 fD1 cD4
  generalize ((w3.setCell ⟨D1, 0, none⟩ (.int .i64 (t.w : Int))).setCell ⟨D1, 1, none⟩ (.slice a3 (nw t.w) c3)) = W4 at *
  obtain ⟨f, HF⟩ : ∃ f : Nat → Nat, Hid (f = fun i => orN (rowAt (rowsN t t.w t.copies.length) i) (rowAt (rowsN u t.w u.copies.length) i)) := ⟨_, Lib.hid rfl⟩
  have hm5 := Lib.hid (show JoM M W W4 t.w (orN t.gen u.gen) (updTo (rowsN t t.w t.copies.length) f 0) D1 _ _ _ from by rw [updTo_zero]; exact hm4.out)
  have hRL : (rowsN t t.w t.copies.length).length ≤ 256 := by have := HL1.out; omega
  clear hm4
  go_loopw [33] (fun i wr => ∃ k : Nat, k ≤ (rowsN t t.w t.copies.length).length ∧ i = .int .i64 k ∧ Hid (TabW wr) ∧ Hid (JoM M W wr t.w (orN t.gen u.gen) (updTo (rowsN t t.w t.copies.length) f k) D1 (.slice a3 (nw t.w) c3) (.slice b1 (rowsN t t.w t.copies.length).length d1) (BoxRows D2 t.w u.gen (rowsN u t.w u.copies.length) (.slice a2 (nw t.w) c2) (.slice b2 (rowsN u t.w u.copies.length).length d2)))) (fun i _ => (rowsN t t.w t.copies.length).length - (intOf i).toNat)
  case atStart => exact ⟨0, Nat.zero_le _, rfl, HTV4, hm5⟩
  clear hm5 HTV4
  obtain ⟨k, hk, rfl, hT, hm⟩ := hrel
  rename World => wr
  have hpos : (0 : Int) ≤ (k : Int) := by omega
  by_cases hlt : k < (rowsN t t.w t.copies.length).length
  ·have HKK : Hid (Value.int .i64 ((k : Int) + 1) = .int .i64 ((k + 1 : Nat) : Int)) := Lib.hid (by rw [show ((k + 1 : Nat) : Int) = (k : Int) + 1 from by omega])
   have hlt2 : k < (rowsN u t.w u.copies.length).length := by have h1 := HL1.out; have h2 := HL2.out; omega
   have hltu : k < (updTo (rowsN t t.w t.copies.length) f k).length := by rw [updTo_len]; exact hlt
   obtain ⟨gg, ae, ce, hge, hn1, hgl, hfr, z0, z1, hse⟩ := hm.out.rows.at hltu
   obtain ⟨hh, be, de, hhe, hn2, hhl, _, y0, y1, hsf⟩ := hm.out.r2.2.2.at hlt2
   subst hge
   subst hhe
   clear hn1 hn2
   have HFR := Lib.hid hfr
   have HUA := Lib.hid (show (updTo (rowsN t t.w t.copies.length) f k)[k] = (rowsN t t.w t.copies.length)[k] from updTo_at _ _ _ hlt hltu)
   have hgout := hm.out.rows.out gg rfl
   have hhout := hm.out.r2.2.2.out hh rfl
   have n1 : D1 ≠ gg := fun e => hgout (.inr (.inr e.symm))
   have n2 : D2 ≠ gg := fun e => hm.out.r2.2.1 (.inr (.inr (by rw [e]; rfl)))
   have n3 : hh ≠ gg := fun e => hhout (.inr (.inr (by rw [e]; rfl)))
   have l0 : wr.cell? ⟨D1, 2, none⟩ = some (.slice (some ⟨gg, 0, none⟩) (rowsN t t.w t.copies.length).length d1) := cellOf hm.out.box1 2
   have l1 : wr.cell? ⟨D2, 2, none⟩ = some (.slice (some ⟨hh, 0, none⟩) (rowsN u t.w u.copies.length).length d2) := cellOf hm.out.r2.1 2
   have HZ := Lib.hid (And.intro z0 z1)
   have hlz : (k : Int) < ((rowsN t t.w t.copies.length).length : Int) := by omega
   have hlz2 : (k : Int) < ((rowsN u t.w u.copies.length).length : Int) := by omega
   have HGL := Lib.hid hgl
   have HMS := Lib.hid (hm.out.hM HM.out)
   clear hfr hgout hhout hgl hhl
   go_wp2_with fail
   refine wp_region_held_drew (S := (fun w' => w'.cell? ⟨D1, 2, none⟩ = some (.slice (some ⟨gg, 0, none⟩) (rowsN t t.w t.copies.length).length d1) ∧ w'.cell? ⟨D2, 2, none⟩ = some (.slice (some ⟨hh, 0, none⟩) (rowsN u t.w u.copies.length).length d2) ∧ w'.cell? ⟨hh, k * 2, none⟩ = some (.int .i64 (t.w : Int)) ∧ w'.cell? ⟨hh, k * 2 + 1, none⟩ = some (.slice be (nw t.w) de))) (by kernel_rfl) ?_ (fun hHeld => ?_)
   ·(go_split_ands; refine ⟨?_, ?_, ?_, ?_⟩ <;> (repeat (first | (with_reducible assumption) | (with_reducible exact Ext.refl _ _) | (with_reducible refine keepD ?_) | (with_reducible refine keepA ?_) | (with_reducible refine Ext.drew ?_) | (with_reducible refine Ext.alloc ?_ _) | (with_reducible refine BoxR.drew ?_) | (with_reducible refine BoxR.alloc ?_ _) | (with_reducible refine BoxR.set ?_ _ _) | ((with_reducible refine keepS ?_ ?_); (first | (with_reducible assumption) | omega | (simp; omega) | (exact Nat.le_refl _))) | (with_reducible refine Ext.setAt ?_ _ _) | ((with_reducible refine Ext.own ?_ ?_ _); rotate_left; (first | (with_reducible assumption) | omega | (simp; omega) | (exact Nat.le_refl _))) | (with_reducible refine keepN hyA ?_) | (with_reducible refine Ext.transNo ?_ hyA) | (with_reducible refine BoxR.ext ?_ hyA))))
   refine hHs [0, 1, 2, 3, 4, 5, 6, 8, 9, 10, 11, 12] ?_
   iterate 12
    refine hTn ?_ hHeld (fun w hSw => ?_) ?_
    rotate_left
    ·(try dsimp only at hSw); go_simp; (try with_reducible rfl)
    simp only [Act.put, nzA, nzB, nzC]
   refine hHe ?_
   refine hHc 7 fun K hK => ?_
   go_simp
   refine hK.out _ _ ?_ ?_
   ·(go_split_ands; refine ⟨?_, ?_, ?_, ?_⟩ <;> (repeat (first | (with_reducible assumption) | (with_reducible exact Ext.refl _ _) | (with_reducible refine keepD ?_) | (with_reducible refine keepA ?_) | (with_reducible refine Ext.drew ?_) | (with_reducible refine Ext.alloc ?_ _) | (with_reducible refine BoxR.drew ?_) | (with_reducible refine BoxR.alloc ?_ _) | (with_reducible refine BoxR.set ?_ _ _) | ((with_reducible refine keepS ?_ ?_); (first | (with_reducible assumption) | omega | (simp; omega) | (exact Nat.le_refl _))) | (with_reducible refine Ext.setAt ?_ _ _) | ((with_reducible refine Ext.own ?_ ?_ _); rotate_left; (first | (with_reducible assumption) | omega | (simp; omega) | (exact Nat.le_refl _))) | (with_reducible refine keepN hyA ?_) | (with_reducible refine Ext.transNo ?_ hyA) | (with_reducible refine BoxR.ext ?_ hyA))))
   clear hK K hHeld
   intro hHeld
   try simp only [Act.put, nzA, nzB, nzC]
   refine hHc 13 fun K hK => ?_
   (go_simp; go_at_call 34; (with_reducible refine (union_any (fun b => (M b ∨ b = W.heap.size + 2 ∨ b = D1) ∨ b = gg) t.w (updTo (rowsN t t.w t.copies.length) f k)[k] (rowsN u t.w u.copies.length)[k] _ _ _ ?_ ?_ ?_).mono ?_); (exact fun b hb => HMS.out b (by rcases hb with hb | rfl; exact .inl hb; exact .inr rfl)); (first | exact hse.out.no | exact hse.out.no.extNo (Ext.refl No wr).drew); (first | exact hsf.out.no | exact hsf.out.no.extNo (Ext.refl No wr).drew); (rintro e3 w3 ⟨a4, c4, rfl, hs4, hyA⟩); (have hyB : Ext No wr w3 := by first | exact hyA | exact (Ext.refl No wr).drew.transNo hyA); (have hm6 := Lib.hid (hm.out.stepNo (keeps_box _ _ _ _ _ _) hyB)); (have hs5 := Lib.hid hs4.out); (have z3 := keepN hyB HZ.out.1); (have z4 := keepN hyB HZ.out.2); (have f3 := (hyB.frozen (p := ⟨gg, k * 2, none⟩) HGL.out no_no).trans (HFR.out (k * 2))); (have f4 := (hyB.frozen (p := ⟨gg, k * 2 + 1, none⟩) HGL.out no_no).trans (HFR.out (k * 2 + 1))); go_simp)
   refine hK.out _ _ ?_ ?_
   ·(go_split_ands; refine ⟨?_, ?_, ?_, ?_⟩ <;> (repeat (first | (with_reducible assumption) | (with_reducible exact Ext.refl _ _) | (with_reducible refine keepD ?_) | (with_reducible refine keepA ?_) | (with_reducible refine Ext.drew ?_) | (with_reducible refine Ext.alloc ?_ _) | (with_reducible refine BoxR.drew ?_) | (with_reducible refine BoxR.alloc ?_ _) | (with_reducible refine BoxR.set ?_ _ _) | ((with_reducible refine keepS ?_ ?_); (first | (with_reducible assumption) | omega | (simp; omega) | (exact Nat.le_refl _))) | (with_reducible refine Ext.setAt ?_ _ _) | ((with_reducible refine Ext.own ?_ ?_ _); rotate_left; (first | (with_reducible assumption) | omega | (simp; omega) | (exact Nat.le_refl _))) | (with_reducible refine keepN hyA ?_) | (with_reducible refine Ext.transNo ?_ hyA) | (with_reducible refine BoxR.ext ?_ hyA))))
   clear hK K hHeld
   intro hHeld
   refine hHs [14, 15, 16, 17] ?_
   iterate 4
    refine hTn ?_ hHeld (fun w hSw => ?_) ?_
    rotate_left
    ·(try dsimp only at hSw); go_simp; (try with_reducible rfl)
    simp only [Act.put, nzA, nzB, nzC]
   refine hHe ?_
   refine hHc 18 fun K hK => ?_
   go_simp
   refine hK.out _ _ ?_ ?_
   ·(go_split_ands; refine ⟨?_, ?_, ?_, ?_⟩ <;> (repeat (first | (with_reducible assumption) | (with_reducible exact Ext.refl _ _) | (with_reducible refine keepD ?_) | (with_reducible refine keepA ?_) | (with_reducible refine Ext.drew ?_) | (with_reducible refine Ext.alloc ?_ _) | (with_reducible refine BoxR.drew ?_) | (with_reducible refine BoxR.alloc ?_ _) | (with_reducible refine BoxR.set ?_ _ _) | ((with_reducible refine keepS ?_ ?_); (first | (with_reducible assumption) | omega | (simp; omega) | (exact Nat.le_refl _))) | (with_reducible refine Ext.setAt ?_ _ _) | ((with_reducible refine Ext.own ?_ ?_ _); rotate_left; (first | (with_reducible assumption) | omega | (simp; omega) | (exact Nat.le_refl _))) | (with_reducible refine keepN hyA ?_) | (with_reducible refine Ext.transNo ?_ hyA) | (with_reducible refine BoxR.ext ?_ hyA))))
   clear hK K hHeld
   intro hHeld
   try simp only [Act.put, nzA, nzB, nzC]
   refine wpAnyH_done (by kernel_rfl) ?_ _
   go_wp2_with fail
   have hput := hm6.out.putR (updTo_len _ _ _).symm (keeps_box _ _ _ _ _ _) (i := k) (m := orN (updTo (rowsN t t.w t.copies.length) f k)[k] (rowsN u t.w u.copies.length)[k]) (sl := .slice a4 (nw t.w) c4) hltu hs5.out
   have hTn := Lib.hid ((hT.out.ext hyB).extM (((Ext.refl (At gg) w3).setAt (k * 2) (.int .i64 (t.w : Int))).setAt (k * 2 + 1) (.slice a4 (nw t.w) c4)) (fun e => by unfold At at e; have h1 := hm6.out.own gg rfl; omega))
   have HST : Hid (updTo (rowsN t t.w t.copies.length) f (k + 1) = (updTo (rowsN t t.w t.copies.length) f k).set k (orN (updTo (rowsN t t.w t.copies.length) f k)[k] (rowsN u t.w u.copies.length)[k])) := Lib.hid (by rw [updTo_succ hlt, HUA.out, HF.out]; simp only [rowAt_get hlt, rowAt_get hlt2])
   rw [← HST.out] at hput
   have hput2 := Lib.hid hput
   clear hput
   go_roundw
   case rel => exact ⟨k + 1, by omega, HKK.out, hTn, hput2⟩
   case measure => simp [intOf]; omega
  obtain rfl : k = (rowsN t t.w t.copies.length).length := by omega
  have HJR : Hid (updTo (rowsN t t.w t.copies.length) f (rowsN t t.w t.copies.length).length = joinRows (rowsN t t.w t.copies.length) (rowsN u t.w u.copies.length)) := Lib.hid (by unfold joinRows; rw [HF.out])
  rw [HJR.out] at hm
  have cD1 := cellOf hm.out.box1
  go_wp2_with fail
  have hlj : (joinRows (rowsN t t.w t.copies.length) (rowsN u t.w u.copies.length)).length = (rowsN t t.w t.copies.length).length := updTo_len _ _ _
  have HR := Lib.hid hm.out.rows.sets.no
  refine (close_any (fun b => M b ∨ b = W.heap.size + 2) t.w (orN t.gen u.gen) (joinRows (rowsN t t.w t.copies.length) (rowsN u t.w u.copies.length)) _ _ _ (fun b hb => hm.out.hM HM.out b (.inl (by rcases hb with hb | hb; exact .inl hb; exact .inr (.inl hb)))) hT.out (hm.out.rows.set.mono (fun i _ e => by rcases e with e | e; exact .inl e; exact .inr (.inl e))) HR.out (by rw [hlj]; exact HL1.out)).mono ?_
  rintro e6 w6 hpost
  have hxf := hm.out.ext
  have hC6 : ∀ (w' : World), Ext No wr w' → w'.heap[W.heap.size + 2]? = some (.cells #[.int .i64 0, .slice none 0 0, .int .i64 0, .slice none 0 0, .slice none 0 0] 30 (0, 0)) := fun w' hx => hx.blk hm.out.boxC no_no
  have HXF := Lib.hid hxf
  have HC6 := Lib.hid hC6
  clear hxf hC6 hm HR cD1 hlj
  by_cases hc : (copTo t.w (orN t.gen u.gen) (joinRows (rowsN t t.w t.copies.length) (rowsN u t.w u.copies.length)) t.w).length ≤ 64
  ·have hp1 := hpost.1 hc
   generalize htr : closeT t.w (orN t.gen u.gen) (joinRows (rowsN t t.w t.copies.length) (rowsN u t.w u.copies.length)) = tr at hp1
   obtain ⟨fg, eg, fk, ek, fc, ec, rfl, hTr, hx6⟩ := hp1
   have hCb := HC6.out _ hx6
   have cC := cellOf hCb
   have fC := freeOf hCb
   have HCb := Lib.hid hCb
   have HTR := Lib.hid htr
   clear hpost hCb htr
   go_wp2_with fail
   have hfin := BoxR.fin5 ⟨_, rfl, HCb.out⟩ (.int .i64 (tr.w : Int)) (.slice fg (nw tr.w) eg) (.int .i64 (tr.w : Int)) (.slice fk (nw tr.w) ek) (.slice fc tr.copies.length ec)
   have hE := set5 w6 (W.heap.size + 2) (.int .i64 (tr.w : Int)) (.slice fg (nw tr.w) eg) (.int .i64 (tr.w : Int)) (.slice fk (nw tr.w) ek) (.slice fc tr.copies.length ec)
   clear cC fC
   generalize (((((w6.setCell ⟨W.heap.size + 2, 0, none⟩ (.int .i64 (tr.w : Int))).setCell ⟨W.heap.size + 2, 1, none⟩ (.slice fg (nw tr.w) eg)).setCell ⟨W.heap.size + 2, 2, none⟩ (.int .i64 (tr.w : Int))).setCell ⟨W.heap.size + 2, 3, none⟩ (.slice fk (nw tr.w) ek)).setCell ⟨W.heap.size + 2, 4, none⟩ (.slice fc tr.copies.length ec)) = WF at *
   have cF := cellOf hfin
   refine ret_ex rfl ?_
   simp [results, Tryd.results77, go_sem, cF]
   refine ⟨fun _ => ?_, fun h => absurd hc (by omega)⟩
   rw [HTR.out]
   exact ⟨fg, eg, fk, ek, fc, ec, rfl, Lib.hid ((hTr.out.ext hE (fun i _ e => .inr e)).mono (fun i _ e => .inl e)), (HXF.out.transNo hx6).trans2 hE (fun i hi e => by unfold At at e; omega)⟩
  obtain ⟨rfl, hx6⟩ := hpost.2 (by omega)
  have hCb := HC6.out _ hx6
  have cC := cellOf hCb
  have fC := freeOf hCb
  have HCb := Lib.hid hCb
  clear hpost hCb
  go_wp2_with fail
  have hfin := BoxR.fin5 ⟨_, rfl, HCb.out⟩ (.int .i64 0) (.slice none 0 0) (.int .i64 0) (.slice none 0 0) (.slice none 0 0)
  have hE := set5 w6 (W.heap.size + 2) (.int .i64 0) (.slice none 0 0) (.int .i64 0) (.slice none 0 0) (.slice none 0 0)
  clear cC fC
  generalize (((((w6.setCell ⟨W.heap.size + 2, 0, none⟩ (.int .i64 0)).setCell ⟨W.heap.size + 2, 1, none⟩ (.slice none 0 0)).setCell ⟨W.heap.size + 2, 2, none⟩ (.int .i64 0)).setCell ⟨W.heap.size + 2, 3, none⟩ (.slice none 0 0)).setCell ⟨W.heap.size + 2, 4, none⟩ (.slice none 0 0)) = WF at *
  have cF := cellOf hfin
  refine ret_ex rfl ?_
  simp [results, Tryd.results77, go_sem, cF]
  exact ⟨fun h => absurd h hc, fun _ => ⟨rfl, (HXF.out.transNo hx6).trans2 hE (fun i hi e => by unfold At at e; omega)⟩⟩

/- Below of the reference. -/
import Derived.Test.YtgakojgkkdmabaaDoorC2
import Derived.Test.YtgakojgkkdmabaaDoorCM
set_option linter.unusedVariables false
set_option linter.unusedSimpArgs false
namespace Go.Proofs.YtgakojgkkdmabaaDoor
open Go Go.RowKit
def rbelTo (t u : TrD) : Nat → Bool
 | 0 => true
 | k + 1 => rbelTo t u k && subN (rowAt (tabT t) k) (rowAt (tabT u) k)
def rbelB (t u : TrD) : Bool := subN t.gen u.gen && rbelTo t u t.w
structure BtM (W wr : World) (w g2 : Nat) (rs1 rs2 : List Nat) (D1 D2 : Nat) (s1 o1 s2 o2 : Value) : Prop where
 ext : Ext No W wr
 box1 : wr.heap[D1]? = some (.cells #[.int .i64 (w : Int), s1, o1] 75 (0, 0))
 box2 : wr.heap[D2]? = some (.cells #[.int .i64 (w : Int), s2, o2] 75 (0, 0))
 r1 : SetsV No wr o1 w rs1
 g2 : SetAt No wr s2 w g2
 r2 : SetsV No wr o2 w rs2
theorem BtM.stepNo {W wr w' : World} {w g2 : Nat} {rs1 rs2 : List Nat} {D1 D2 : Nat} {s1 o1 s2 o2 : Value} (h : BtM W wr w g2 rs1 rs2 D1 D2 s1 o1 s2 o2) (hx : Ext No wr w') : BtM W w' w g2 rs1 rs2 D1 D2 s1 o1 s2 o2 :=
 ⟨h.ext.transNo hx, hx.blk h.box1 no_no, hx.blk h.box2 no_no, h.r1.extNo hx, h.g2.extNo hx, h.r2.extNo hx⟩
set_option maxRecDepth 100000 in
set_option maxHeartbeats 16000000 in
theorem rbelow_any (t u : TrD) (g1 k1 c1 g2 k2 c2 : Value) (W : World) (h1 : TrAt No W g1 k1 c1 t) (h2 : TrAt No W g2 k2 c2 u) (hu : u.w = t.w) :
  Calls Tryd.prog 69 #[.agg #[.int .i64 (t.w : Int), g1, .int .i64 (t.w : Int), k1, c1], .agg #[.int .i64 (t.w : Int), g2, .int .i64 (t.w : Int), k2, c2]] W (BoolPost (rbelB t u) W) := by
 have H1 := Lib.hid h1
 have H2 := Lib.hid h2
 have HU := Lib.hid hu
 have hgu := h2.gen.slice
 have hku := h2.kill.slice
 rw [hu] at hgu hku
 obtain ⟨ag, cg, rfl⟩ := h1.gen.slice
 obtain ⟨ak, ck, rfl⟩ := h1.kill.slice
 obtain ⟨ac, cc, rfl⟩ := Row.slice h1.copies
 obtain ⟨bg, dg, rfl⟩ := hgu
 obtain ⟨bk, dk, rfl⟩ := hku
 obtain ⟨bc, dc, rfl⟩ := Row.slice h2.copies
 have hw := h1.ok.w
 clear h1 h2 hu
 go_enter Tryd.func69, Tryd.ntmps69
 go_wp2_with fail
 have hx0 : Ext No W ((W.alloc (.cells #[.int .i64 (t.w : Int), .slice ag (nw t.w) cg, .int .i64 (t.w : Int), .slice ak (nw t.w) ck, .slice ac t.copies.length cc] 28)).alloc (.cells #[.int .i64 (t.w : Int), .slice bg (nw t.w) dg, .int .i64 (t.w : Int), .slice bk (nw t.w) dk, .slice bc u.copies.length dc] 28)) := (((Ext.refl _ _).alloc _).alloc _)
 have hA : ((W.alloc (.cells #[.int .i64 (t.w : Int), .slice ag (nw t.w) cg, .int .i64 (t.w : Int), .slice ak (nw t.w) ck, .slice ac t.copies.length cc] 28)).alloc (.cells #[.int .i64 (t.w : Int), .slice bg (nw t.w) dg, .int .i64 (t.w : Int), .slice bk (nw t.w) dk, .slice bc u.copies.length dc] 28)).heap[W.heap.size]? = some (.cells #[.int .i64 (t.w : Int), .slice ag (nw t.w) cg, .int .i64 (t.w : Int), .slice ak (nw t.w) ck, .slice ac t.copies.length cc] 28 (0, 0)) := alloc_under (alloc_top rfl)
 have hB : ((W.alloc (.cells #[.int .i64 (t.w : Int), .slice ag (nw t.w) cg, .int .i64 (t.w : Int), .slice ak (nw t.w) ck, .slice ac t.copies.length cc] 28)).alloc (.cells #[.int .i64 (t.w : Int), .slice bg (nw t.w) dg, .int .i64 (t.w : Int), .slice bk (nw t.w) dk, .slice bc u.copies.length dc] 28)).heap[W.heap.size + 1]? = some (.cells #[.int .i64 (t.w : Int), .slice bg (nw t.w) dg, .int .i64 (t.w : Int), .slice bk (nw t.w) dk, .slice bc u.copies.length dc] 28 (0, 0)) := alloc_top (by simp)
 generalize ((W.alloc (.cells #[.int .i64 (t.w : Int), .slice ag (nw t.w) cg, .int .i64 (t.w : Int), .slice ak (nw t.w) ck, .slice ac t.copies.length cc] 28)).alloc (.cells #[.int .i64 (t.w : Int), .slice bg (nw t.w) dg, .int .i64 (t.w : Int), .slice bk (nw t.w) dk, .slice bc u.copies.length dc] 28)) = W2 at *
 refine (rvalidTr_any t t.w _ _ _ _ rfl (H1.out.extNo hx0)).mono ?_
 rintro e0 w0 ⟨rfl, hx00⟩
 have cB := cellOf (hx00.blk hB no_no)
 go_wp2_with fail
 clear cB
 refine (rvalidTr_any u t.w _ _ _ _ HU.out (H2.out.extNo (hx0.transNo hx00))).mono ?_
 rintro e1 w1 ⟨rfl, hx01⟩
 have hx1 := hx00.transNo hx01
 have hx := Lib.hid (hx0.transNo hx1)
 have HA := Lib.hid (hx1.blk hA no_no)
 have HB := Lib.hid (hx1.blk hB no_no)
 clear hx0 hx00 hx01 hx1 hA hB
 have cA := cellOf HA.out
 have cB := cellOf HB.out
 go_wp2_with fail
 clear cA cB
 go_cut [5, 6] (fun s7 s8 wx => TwoTab 75 W.heap.size w1 wx t.w t.gen (tabT t) u.gen (tabT u) s7 s8)
 case first =>
  have hlB : W.heap.size + 1 < w1.heap.size := lt_of_block HB.out
  refine wp_region_held_drew (S := (fun w' => Ext No w1 w')) (by kernel_rfl) ?_ (fun hHeld => ?_)
  ·exact (Ext.refl _ _).drew
  have hJ := TwoN.start (n := W.heap.size) (fun _ _ => True) (fun _ _ => True) 75 hx.out.size ((Ext.refl No w1).drew)
  have k1 := keeps_true
  have k2 := keeps_true
  generalize w1.drew = v0 at *
  refine hTk (i := 0) (v := ?_) hHeld (fun w hSw => ?_) ?_
  rotate_left
  ·(have hEs : Ext No w1 _ := hSw); (have x0 := cellOf (hEs.blk HA.out no_no)); go_simp; (try with_reducible rfl)
  try simp only [Act.put, nzA, nzB, nzC]
  refine hTk (i := 2) (v := ?_) hHeld (fun w hSw => ?_) ?_
  rotate_left
  ·(have hEs : Ext No w1 _ := hSw); (have x0 := cellOf (hEs.blk HB.out no_no)); go_simp; (try with_reducible rfl)
  try simp only [Act.put, nzA, nzB, nzC]
  refine held_next3 (i := 1) (j := 4) (k := 5) (by kernel_rfl) (NextOp.mk rfl rfl (fun K hK => ?_)) (NextOp.mk rfl rfl (fun K hK => ?_)) (NextOp.mk rfl rfl (fun K hK => ?_))
  ·(go_simp; go_at_call 58; (with_reducible refine (rtable_own (fun b => W.heap.size ≤ b ∧ b < v0.heap.size) t _ _ _ _ (fun _ e => e.2) ((H1.out.mono (M' := (fun b => W.heap.size ≤ b ∧ b < v0.heap.size)) (fun i hi e => absurd hi (Nat.not_lt.2 e.1))).extNo (hx.out.transNo hJ.ext))).mono ?_); (rintro e1 v1 ⟨ag1, cg1, ao1, co1, rfl, hs1, hn1, hyA⟩); go_simp)
   refine hK.out _ _ ?_ ?_
   ·exact Ext.transNo (show Ext No w1 _ from hHeld) hyA
   clear hK K hHeld
   intro hHeld
   replace hJ := hJ.call1 k1 k2 (keeps_rowsN _ _ _ _ _ _) hyA ⟨hs1.out, fun b e => Nat.le_trans (hx.out.transNo hJ.ext).size (hn1 b e)⟩ (fun b e => ⟨Nat.le_trans (hx.out.transNo hJ.ext).size (hn1 b e), hs1.out.ownLt b e⟩)
   replace k1 := hJ.2
   replace hJ := hJ.1
   clear hyA hs1 hn1
   try simp only [Act.put, nzA, nzB, nzC]
   refine held_next3 (i := 3) (j := 4) (k := 5) (by kernel_rfl) (NextOp.mk rfl rfl (fun K hK => ?_)) (NextOp.mk rfl rfl (fun K hK => ?_)) (NextOp.mk rfl rfl (fun K hK => ?_))
   ·(go_simp; go_at_call 58; (with_reducible refine (rtable_w (fun b => W.heap.size ≤ b ∧ b < v1.heap.size) u t.w _ _ _ _ HU.out (fun _ e => e.2) ((H2.out.mono (M' := (fun b => W.heap.size ≤ b ∧ b < v1.heap.size)) (fun i hi e => absurd hi (Nat.not_lt.2 e.1))).extNo (hx.out.transNo hJ.ext))).mono ?_); (rintro e2 v2 ⟨ag2, cg2, ao2, co2, rfl, hs2, hn2, hyA⟩); go_simp)
    refine hK.out _ _ ?_ ?_
    ·exact Ext.transNo (show Ext No w1 _ from hHeld) hyA
    clear hK K hHeld
    intro hHeld
    replace hJ := hJ.call2 k1 k2 (keeps_rowsN _ _ _ _ _ _) hyA ⟨hs2.out, fun b e => Nat.le_trans (hx.out.transNo hJ.ext).size (hn2 b e)⟩
    replace k2 := hJ.2
    replace hJ := hJ.1
    clear hyA hs2 hn2
    try simp only [Act.put, nzA, nzB, nzC]
    refine held_next2 (i := 4) (j := 5) (by kernel_rfl) (NextOp.mk rfl rfl (fun K hK => ?_)) (NextOp.mk rfl rfl (fun K hK => ?_))
    ·go_simp
     refine hK.out _ _ ?_ ?_
     ·exact Ext.alloc (show Ext No w1 _ from hHeld) _
     clear hK K hHeld
     intro hHeld
     replace hJ := hJ.allocA k1 k2 #[.int .i64 0, .slice none 0 0, .slice none 0 0]
     generalize (v2.alloc (.cells #[.int .i64 0, .slice none 0 0, .slice none 0 0] 75)) = v3 at *
     generalize v2.heap.size = DA at *
     have hDA := (hJ.boxA _ _ rfl).1
     try simp only [Act.put, nzA, nzB, nzC]
     refine held_call (i := 5) rfl (by kernel_rfl) rfl (fun K hK => ?_)
     go_simp
     refine hK.out _ _ ?_ ?_
     ·exact Ext.alloc (show Ext No w1 _ from hHeld) _
     clear hK K hHeld
     intro hHeld
     replace hJ := hJ.allocB k1 k2 #[.int .i64 0, .slice none 0 0, .slice none 0 0]
     generalize (v3.alloc (.cells #[.int .i64 0, .slice none 0 0, .slice none 0 0] 75)) = v4 at *
     generalize v3.heap.size = DB at *
     have hDB := (hJ.boxB _ _ rfl).1
     try simp only [Act.put, nzA, nzB, nzC]
     refine held_call (i := 6) rfl (by kernel_rfl) rfl (fun K hK => ?_)
     ((obtain ⟨hb1, hb2⟩ := hJ.boxA _ _ rfl); (have cS := cellOf hb2); (have fS := freeOf hb2); (clear hb1 hb2); go_simp; (clear cS fS))
     refine hK.out _ _ ?_ ?_
     ·exact (show Ext No w1 _ from hHeld).trans2 (set3 _ _ _ _ _) (fun i hi e => by unfold At at e; omega)
     clear hK K hHeld
     intro hHeld
     replace hJ := hJ.storeA k1 k2 (.int .i64 (t.w : Int)) (.slice ag1 (nw t.w) cg1) (.slice ao1 (tabT t).length co1)
     generalize (((v4.setCell ⟨DA, 0, none⟩ (.int .i64 (t.w : Int))).setCell ⟨DA, 1, none⟩ (.slice ag1 (nw t.w) cg1)).setCell ⟨DA, 2, none⟩ (.slice ao1 (tabT t).length co1)) = v5 at *
     try simp only [Act.put, nzA, nzB, nzC]
     refine held_call (i := 7) rfl (by kernel_rfl) rfl (fun K hK => ?_)
     ((obtain ⟨hb1, hb2⟩ := hJ.boxB _ _ rfl); (have cS := cellOf hb2); (have fS := freeOf hb2); (clear hb1 hb2); go_simp; (clear cS fS))
     refine hK.out _ _ ?_ ?_
     ·exact (show Ext No w1 _ from hHeld).trans2 (set3 _ _ _ _ _) (fun i hi e => by unfold At at e; omega)
     clear hK K hHeld
     intro hHeld
     replace hJ := hJ.storeB k1 k2 (.int .i64 (t.w : Int)) (.slice ag2 (nw t.w) cg2) (.slice ao2 (tabT u).length co2)
     generalize (((v5.setCell ⟨DB, 0, none⟩ (.int .i64 (t.w : Int))).setCell ⟨DB, 1, none⟩ (.slice ag2 (nw t.w) cg2)).setCell ⟨DB, 2, none⟩ (.slice ao2 (tabT u).length co2)) = v6 at *
     try simp only [Act.put, nzA, nzB, nzC]
     refine wpAnyH_done (by kernel_rfl) ?_ _
     go_wp2_with fail
     go_meet
     exact ⟨DA, DB, ag1, cg1, ao1, co1, ag2, cg2, ao2, co2, rfl, rfl, Lib.hid hJ⟩
    ·go_simp
     refine hK.out _ _ ?_ ?_
     ·exact Ext.alloc (show Ext No w1 _ from hHeld) _
     clear hK K hHeld
     intro hHeld
     replace hJ := hJ.allocB k1 k2 #[.int .i64 0, .slice none 0 0, .slice none 0 0]
     generalize (v2.alloc (.cells #[.int .i64 0, .slice none 0 0, .slice none 0 0] 75)) = v3 at *
     generalize v2.heap.size = DB at *
     have hDB := (hJ.boxB _ _ rfl).1
     try simp only [Act.put, nzA, nzB, nzC]
     refine held_call (i := 4) rfl (by kernel_rfl) rfl (fun K hK => ?_)
     go_simp
     refine hK.out _ _ ?_ ?_
     ·exact Ext.alloc (show Ext No w1 _ from hHeld) _
     clear hK K hHeld
     intro hHeld
     replace hJ := hJ.allocA k1 k2 #[.int .i64 0, .slice none 0 0, .slice none 0 0]
     generalize (v3.alloc (.cells #[.int .i64 0, .slice none 0 0, .slice none 0 0] 75)) = v4 at *
     generalize v3.heap.size = DA at *
     have hDA := (hJ.boxA _ _ rfl).1
     try simp only [Act.put, nzA, nzB, nzC]
     refine held_call (i := 6) rfl (by kernel_rfl) rfl (fun K hK => ?_)
     ((obtain ⟨hb1, hb2⟩ := hJ.boxA _ _ rfl); (have cS := cellOf hb2); (have fS := freeOf hb2); (clear hb1 hb2); go_simp; (clear cS fS))
     refine hK.out _ _ ?_ ?_
     ·exact (show Ext No w1 _ from hHeld).trans2 (set3 _ _ _ _ _) (fun i hi e => by unfold At at e; omega)
     clear hK K hHeld
     intro hHeld
     replace hJ := hJ.storeA k1 k2 (.int .i64 (t.w : Int)) (.slice ag1 (nw t.w) cg1) (.slice ao1 (tabT t).length co1)
     generalize (((v4.setCell ⟨DA, 0, none⟩ (.int .i64 (t.w : Int))).setCell ⟨DA, 1, none⟩ (.slice ag1 (nw t.w) cg1)).setCell ⟨DA, 2, none⟩ (.slice ao1 (tabT t).length co1)) = v5 at *
     try simp only [Act.put, nzA, nzB, nzC]
     refine held_call (i := 7) rfl (by kernel_rfl) rfl (fun K hK => ?_)
     ((obtain ⟨hb1, hb2⟩ := hJ.boxB _ _ rfl); (have cS := cellOf hb2); (have fS := freeOf hb2); (clear hb1 hb2); go_simp; (clear cS fS))
     refine hK.out _ _ ?_ ?_
     ·exact (show Ext No w1 _ from hHeld).trans2 (set3 _ _ _ _ _) (fun i hi e => by unfold At at e; omega)
     clear hK K hHeld
     intro hHeld
     replace hJ := hJ.storeB k1 k2 (.int .i64 (t.w : Int)) (.slice ag2 (nw t.w) cg2) (.slice ao2 (tabT u).length co2)
     generalize (((v5.setCell ⟨DB, 0, none⟩ (.int .i64 (t.w : Int))).setCell ⟨DB, 1, none⟩ (.slice ag2 (nw t.w) cg2)).setCell ⟨DB, 2, none⟩ (.slice ao2 (tabT u).length co2)) = v6 at *
     try simp only [Act.put, nzA, nzB, nzC]
     refine wpAnyH_done (by kernel_rfl) ?_ _
     go_wp2_with fail
     go_meet
     exact ⟨DA, DB, ag1, cg1, ao1, co1, ag2, cg2, ao2, co2, rfl, rfl, Lib.hid hJ⟩
   ·go_simp
    refine hK.out _ _ ?_ ?_
    ·exact Ext.alloc (show Ext No w1 _ from hHeld) _
    clear hK K hHeld
    intro hHeld
    replace hJ := hJ.allocA k1 k2 #[.int .i64 0, .slice none 0 0, .slice none 0 0]
    generalize (v1.alloc (.cells #[.int .i64 0, .slice none 0 0, .slice none 0 0] 75)) = v2 at *
    generalize v1.heap.size = DA at *
    have hDA := (hJ.boxA _ _ rfl).1
    try simp only [Act.put, nzA, nzB, nzC]
    refine held_next2 (i := 3) (j := 5) (by kernel_rfl) (NextOp.mk rfl rfl (fun K hK => ?_)) (NextOp.mk rfl rfl (fun K hK => ?_))
    ·(go_simp; go_at_call 58; (with_reducible refine (rtable_w (fun b => W.heap.size ≤ b ∧ b < v2.heap.size) u t.w _ _ _ _ HU.out (fun _ e => e.2) ((H2.out.mono (M' := (fun b => W.heap.size ≤ b ∧ b < v2.heap.size)) (fun i hi e => absurd hi (Nat.not_lt.2 e.1))).extNo (hx.out.transNo hJ.ext))).mono ?_); (rintro e2 v3 ⟨ag2, cg2, ao2, co2, rfl, hs2, hn2, hyA⟩); go_simp)
     refine hK.out _ _ ?_ ?_
     ·exact Ext.transNo (show Ext No w1 _ from hHeld) hyA
     clear hK K hHeld
     intro hHeld
     replace hJ := hJ.call2 k1 k2 (keeps_rowsN _ _ _ _ _ _) hyA ⟨hs2.out, fun b e => Nat.le_trans (hx.out.transNo hJ.ext).size (hn2 b e)⟩
     replace k2 := hJ.2
     replace hJ := hJ.1
     clear hyA hs2 hn2
     try simp only [Act.put, nzA, nzB, nzC]
     refine held_call (i := 5) rfl (by kernel_rfl) rfl (fun K hK => ?_)
     go_simp
     refine hK.out _ _ ?_ ?_
     ·exact Ext.alloc (show Ext No w1 _ from hHeld) _
     clear hK K hHeld
     intro hHeld
     replace hJ := hJ.allocB k1 k2 #[.int .i64 0, .slice none 0 0, .slice none 0 0]
     generalize (v3.alloc (.cells #[.int .i64 0, .slice none 0 0, .slice none 0 0] 75)) = v4 at *
     generalize v3.heap.size = DB at *
     have hDB := (hJ.boxB _ _ rfl).1
     try simp only [Act.put, nzA, nzB, nzC]
     refine held_call (i := 6) rfl (by kernel_rfl) rfl (fun K hK => ?_)
     ((obtain ⟨hb1, hb2⟩ := hJ.boxA _ _ rfl); (have cS := cellOf hb2); (have fS := freeOf hb2); (clear hb1 hb2); go_simp; (clear cS fS))
     refine hK.out _ _ ?_ ?_
     ·exact (show Ext No w1 _ from hHeld).trans2 (set3 _ _ _ _ _) (fun i hi e => by unfold At at e; omega)
     clear hK K hHeld
     intro hHeld
     replace hJ := hJ.storeA k1 k2 (.int .i64 (t.w : Int)) (.slice ag1 (nw t.w) cg1) (.slice ao1 (tabT t).length co1)
     generalize (((v4.setCell ⟨DA, 0, none⟩ (.int .i64 (t.w : Int))).setCell ⟨DA, 1, none⟩ (.slice ag1 (nw t.w) cg1)).setCell ⟨DA, 2, none⟩ (.slice ao1 (tabT t).length co1)) = v5 at *
     try simp only [Act.put, nzA, nzB, nzC]
     refine held_call (i := 7) rfl (by kernel_rfl) rfl (fun K hK => ?_)
     ((obtain ⟨hb1, hb2⟩ := hJ.boxB _ _ rfl); (have cS := cellOf hb2); (have fS := freeOf hb2); (clear hb1 hb2); go_simp; (clear cS fS))
     refine hK.out _ _ ?_ ?_
     ·exact (show Ext No w1 _ from hHeld).trans2 (set3 _ _ _ _ _) (fun i hi e => by unfold At at e; omega)
     clear hK K hHeld
     intro hHeld
     replace hJ := hJ.storeB k1 k2 (.int .i64 (t.w : Int)) (.slice ag2 (nw t.w) cg2) (.slice ao2 (tabT u).length co2)
     generalize (((v5.setCell ⟨DB, 0, none⟩ (.int .i64 (t.w : Int))).setCell ⟨DB, 1, none⟩ (.slice ag2 (nw t.w) cg2)).setCell ⟨DB, 2, none⟩ (.slice ao2 (tabT u).length co2)) = v6 at *
     try simp only [Act.put, nzA, nzB, nzC]
     refine wpAnyH_done (by kernel_rfl) ?_ _
     go_wp2_with fail
     go_meet
     exact ⟨DA, DB, ag1, cg1, ao1, co1, ag2, cg2, ao2, co2, rfl, rfl, Lib.hid hJ⟩
    ·go_simp
     refine hK.out _ _ ?_ ?_
     ·exact Ext.alloc (show Ext No w1 _ from hHeld) _
     clear hK K hHeld
     intro hHeld
     replace hJ := hJ.allocB k1 k2 #[.int .i64 0, .slice none 0 0, .slice none 0 0]
     generalize (v2.alloc (.cells #[.int .i64 0, .slice none 0 0, .slice none 0 0] 75)) = v3 at *
     generalize v2.heap.size = DB at *
     have hDB := (hJ.boxB _ _ rfl).1
     try simp only [Act.put, nzA, nzB, nzC]
     refine held_call (i := 3) rfl (by kernel_rfl) rfl (fun K hK => ?_)
     (go_simp; go_at_call 58; (with_reducible refine (rtable_w (fun b => W.heap.size ≤ b ∧ b < v3.heap.size) u t.w _ _ _ _ HU.out (fun _ e => e.2) ((H2.out.mono (M' := (fun b => W.heap.size ≤ b ∧ b < v3.heap.size)) (fun i hi e => absurd hi (Nat.not_lt.2 e.1))).extNo (hx.out.transNo hJ.ext))).mono ?_); (rintro e2 v4 ⟨ag2, cg2, ao2, co2, rfl, hs2, hn2, hyA⟩); go_simp)
     refine hK.out _ _ ?_ ?_
     ·exact Ext.transNo (show Ext No w1 _ from hHeld) hyA
     clear hK K hHeld
     intro hHeld
     replace hJ := hJ.call2 k1 k2 (keeps_rowsN _ _ _ _ _ _) hyA ⟨hs2.out, fun b e => Nat.le_trans (hx.out.transNo hJ.ext).size (hn2 b e)⟩
     replace k2 := hJ.2
     replace hJ := hJ.1
     clear hyA hs2 hn2
     try simp only [Act.put, nzA, nzB, nzC]
     refine held_call (i := 6) rfl (by kernel_rfl) rfl (fun K hK => ?_)
     ((obtain ⟨hb1, hb2⟩ := hJ.boxA _ _ rfl); (have cS := cellOf hb2); (have fS := freeOf hb2); (clear hb1 hb2); go_simp; (clear cS fS))
     refine hK.out _ _ ?_ ?_
     ·exact (show Ext No w1 _ from hHeld).trans2 (set3 _ _ _ _ _) (fun i hi e => by unfold At at e; omega)
     clear hK K hHeld
     intro hHeld
     replace hJ := hJ.storeA k1 k2 (.int .i64 (t.w : Int)) (.slice ag1 (nw t.w) cg1) (.slice ao1 (tabT t).length co1)
     generalize (((v4.setCell ⟨DA, 0, none⟩ (.int .i64 (t.w : Int))).setCell ⟨DA, 1, none⟩ (.slice ag1 (nw t.w) cg1)).setCell ⟨DA, 2, none⟩ (.slice ao1 (tabT t).length co1)) = v5 at *
     try simp only [Act.put, nzA, nzB, nzC]
     refine held_call (i := 7) rfl (by kernel_rfl) rfl (fun K hK => ?_)
     ((obtain ⟨hb1, hb2⟩ := hJ.boxB _ _ rfl); (have cS := cellOf hb2); (have fS := freeOf hb2); (clear hb1 hb2); go_simp; (clear cS fS))
     refine hK.out _ _ ?_ ?_
     ·exact (show Ext No w1 _ from hHeld).trans2 (set3 _ _ _ _ _) (fun i hi e => by unfold At at e; omega)
     clear hK K hHeld
     intro hHeld
     replace hJ := hJ.storeB k1 k2 (.int .i64 (t.w : Int)) (.slice ag2 (nw t.w) cg2) (.slice ao2 (tabT u).length co2)
     generalize (((v5.setCell ⟨DB, 0, none⟩ (.int .i64 (t.w : Int))).setCell ⟨DB, 1, none⟩ (.slice ag2 (nw t.w) cg2)).setCell ⟨DB, 2, none⟩ (.slice ao2 (tabT u).length co2)) = v6 at *
     try simp only [Act.put, nzA, nzB, nzC]
     refine wpAnyH_done (by kernel_rfl) ?_ _
     go_wp2_with fail
     go_meet
     exact ⟨DA, DB, ag1, cg1, ao1, co1, ag2, cg2, ao2, co2, rfl, rfl, Lib.hid hJ⟩
   ·go_simp
    refine hK.out _ _ ?_ ?_
    ·exact Ext.alloc (show Ext No w1 _ from hHeld) _
    clear hK K hHeld
    intro hHeld
    replace hJ := hJ.allocB k1 k2 #[.int .i64 0, .slice none 0 0, .slice none 0 0]
    generalize (v1.alloc (.cells #[.int .i64 0, .slice none 0 0, .slice none 0 0] 75)) = v2 at *
    generalize v1.heap.size = DB at *
    have hDB := (hJ.boxB _ _ rfl).1
    try simp only [Act.put, nzA, nzB, nzC]
    refine held_next2 (i := 3) (j := 4) (by kernel_rfl) (NextOp.mk rfl rfl (fun K hK => ?_)) (NextOp.mk rfl rfl (fun K hK => ?_))
    ·(go_simp; go_at_call 58; (with_reducible refine (rtable_w (fun b => W.heap.size ≤ b ∧ b < v2.heap.size) u t.w _ _ _ _ HU.out (fun _ e => e.2) ((H2.out.mono (M' := (fun b => W.heap.size ≤ b ∧ b < v2.heap.size)) (fun i hi e => absurd hi (Nat.not_lt.2 e.1))).extNo (hx.out.transNo hJ.ext))).mono ?_); (rintro e2 v3 ⟨ag2, cg2, ao2, co2, rfl, hs2, hn2, hyA⟩); go_simp)
     refine hK.out _ _ ?_ ?_
     ·exact Ext.transNo (show Ext No w1 _ from hHeld) hyA
     clear hK K hHeld
     intro hHeld
     replace hJ := hJ.call2 k1 k2 (keeps_rowsN _ _ _ _ _ _) hyA ⟨hs2.out, fun b e => Nat.le_trans (hx.out.transNo hJ.ext).size (hn2 b e)⟩
     replace k2 := hJ.2
     replace hJ := hJ.1
     clear hyA hs2 hn2
     try simp only [Act.put, nzA, nzB, nzC]
     refine held_call (i := 4) rfl (by kernel_rfl) rfl (fun K hK => ?_)
     go_simp
     refine hK.out _ _ ?_ ?_
     ·exact Ext.alloc (show Ext No w1 _ from hHeld) _
     clear hK K hHeld
     intro hHeld
     replace hJ := hJ.allocA k1 k2 #[.int .i64 0, .slice none 0 0, .slice none 0 0]
     generalize (v3.alloc (.cells #[.int .i64 0, .slice none 0 0, .slice none 0 0] 75)) = v4 at *
     generalize v3.heap.size = DA at *
     have hDA := (hJ.boxA _ _ rfl).1
     try simp only [Act.put, nzA, nzB, nzC]
     refine held_call (i := 6) rfl (by kernel_rfl) rfl (fun K hK => ?_)
     ((obtain ⟨hb1, hb2⟩ := hJ.boxA _ _ rfl); (have cS := cellOf hb2); (have fS := freeOf hb2); (clear hb1 hb2); go_simp; (clear cS fS))
     refine hK.out _ _ ?_ ?_
     ·exact (show Ext No w1 _ from hHeld).trans2 (set3 _ _ _ _ _) (fun i hi e => by unfold At at e; omega)
     clear hK K hHeld
     intro hHeld
     replace hJ := hJ.storeA k1 k2 (.int .i64 (t.w : Int)) (.slice ag1 (nw t.w) cg1) (.slice ao1 (tabT t).length co1)
     generalize (((v4.setCell ⟨DA, 0, none⟩ (.int .i64 (t.w : Int))).setCell ⟨DA, 1, none⟩ (.slice ag1 (nw t.w) cg1)).setCell ⟨DA, 2, none⟩ (.slice ao1 (tabT t).length co1)) = v5 at *
     try simp only [Act.put, nzA, nzB, nzC]
     refine held_call (i := 7) rfl (by kernel_rfl) rfl (fun K hK => ?_)
     ((obtain ⟨hb1, hb2⟩ := hJ.boxB _ _ rfl); (have cS := cellOf hb2); (have fS := freeOf hb2); (clear hb1 hb2); go_simp; (clear cS fS))
     refine hK.out _ _ ?_ ?_
     ·exact (show Ext No w1 _ from hHeld).trans2 (set3 _ _ _ _ _) (fun i hi e => by unfold At at e; omega)
     clear hK K hHeld
     intro hHeld
     replace hJ := hJ.storeB k1 k2 (.int .i64 (t.w : Int)) (.slice ag2 (nw t.w) cg2) (.slice ao2 (tabT u).length co2)
     generalize (((v5.setCell ⟨DB, 0, none⟩ (.int .i64 (t.w : Int))).setCell ⟨DB, 1, none⟩ (.slice ag2 (nw t.w) cg2)).setCell ⟨DB, 2, none⟩ (.slice ao2 (tabT u).length co2)) = v6 at *
     try simp only [Act.put, nzA, nzB, nzC]
     refine wpAnyH_done (by kernel_rfl) ?_ _
     go_wp2_with fail
     go_meet
     exact ⟨DA, DB, ag1, cg1, ao1, co1, ag2, cg2, ao2, co2, rfl, rfl, Lib.hid hJ⟩
    ·go_simp
     refine hK.out _ _ ?_ ?_
     ·exact Ext.alloc (show Ext No w1 _ from hHeld) _
     clear hK K hHeld
     intro hHeld
     replace hJ := hJ.allocA k1 k2 #[.int .i64 0, .slice none 0 0, .slice none 0 0]
     generalize (v2.alloc (.cells #[.int .i64 0, .slice none 0 0, .slice none 0 0] 75)) = v3 at *
     generalize v2.heap.size = DA at *
     have hDA := (hJ.boxA _ _ rfl).1
     try simp only [Act.put, nzA, nzB, nzC]
     refine held_call (i := 3) rfl (by kernel_rfl) rfl (fun K hK => ?_)
     (go_simp; go_at_call 58; (with_reducible refine (rtable_w (fun b => W.heap.size ≤ b ∧ b < v3.heap.size) u t.w _ _ _ _ HU.out (fun _ e => e.2) ((H2.out.mono (M' := (fun b => W.heap.size ≤ b ∧ b < v3.heap.size)) (fun i hi e => absurd hi (Nat.not_lt.2 e.1))).extNo (hx.out.transNo hJ.ext))).mono ?_); (rintro e2 v4 ⟨ag2, cg2, ao2, co2, rfl, hs2, hn2, hyA⟩); go_simp)
     refine hK.out _ _ ?_ ?_
     ·exact Ext.transNo (show Ext No w1 _ from hHeld) hyA
     clear hK K hHeld
     intro hHeld
     replace hJ := hJ.call2 k1 k2 (keeps_rowsN _ _ _ _ _ _) hyA ⟨hs2.out, fun b e => Nat.le_trans (hx.out.transNo hJ.ext).size (hn2 b e)⟩
     replace k2 := hJ.2
     replace hJ := hJ.1
     clear hyA hs2 hn2
     try simp only [Act.put, nzA, nzB, nzC]
     refine held_call (i := 6) rfl (by kernel_rfl) rfl (fun K hK => ?_)
     ((obtain ⟨hb1, hb2⟩ := hJ.boxA _ _ rfl); (have cS := cellOf hb2); (have fS := freeOf hb2); (clear hb1 hb2); go_simp; (clear cS fS))
     refine hK.out _ _ ?_ ?_
     ·exact (show Ext No w1 _ from hHeld).trans2 (set3 _ _ _ _ _) (fun i hi e => by unfold At at e; omega)
     clear hK K hHeld
     intro hHeld
     replace hJ := hJ.storeA k1 k2 (.int .i64 (t.w : Int)) (.slice ag1 (nw t.w) cg1) (.slice ao1 (tabT t).length co1)
     generalize (((v4.setCell ⟨DA, 0, none⟩ (.int .i64 (t.w : Int))).setCell ⟨DA, 1, none⟩ (.slice ag1 (nw t.w) cg1)).setCell ⟨DA, 2, none⟩ (.slice ao1 (tabT t).length co1)) = v5 at *
     try simp only [Act.put, nzA, nzB, nzC]
     refine held_call (i := 7) rfl (by kernel_rfl) rfl (fun K hK => ?_)
     ((obtain ⟨hb1, hb2⟩ := hJ.boxB _ _ rfl); (have cS := cellOf hb2); (have fS := freeOf hb2); (clear hb1 hb2); go_simp; (clear cS fS))
     refine hK.out _ _ ?_ ?_
     ·exact (show Ext No w1 _ from hHeld).trans2 (set3 _ _ _ _ _) (fun i hi e => by unfold At at e; omega)
     clear hK K hHeld
     intro hHeld
     replace hJ := hJ.storeB k1 k2 (.int .i64 (t.w : Int)) (.slice ag2 (nw t.w) cg2) (.slice ao2 (tabT u).length co2)
     generalize (((v5.setCell ⟨DB, 0, none⟩ (.int .i64 (t.w : Int))).setCell ⟨DB, 1, none⟩ (.slice ag2 (nw t.w) cg2)).setCell ⟨DB, 2, none⟩ (.slice ao2 (tabT u).length co2)) = v6 at *
     try simp only [Act.put, nzA, nzB, nzC]
     refine wpAnyH_done (by kernel_rfl) ?_ _
     go_wp2_with fail
     go_meet
     exact ⟨DA, DB, ag1, cg1, ao1, co1, ag2, cg2, ao2, co2, rfl, rfl, Lib.hid hJ⟩
  ·go_simp
   refine hK.out _ _ ?_ ?_
   ·exact Ext.alloc (show Ext No w1 _ from hHeld) _
   clear hK K hHeld
   intro hHeld
   replace hJ := hJ.allocA k1 k2 #[.int .i64 0, .slice none 0 0, .slice none 0 0]
   generalize (v0.alloc (.cells #[.int .i64 0, .slice none 0 0, .slice none 0 0] 75)) = v1 at *
   generalize v0.heap.size = DA at *
   have hDA := (hJ.boxA _ _ rfl).1
   try simp only [Act.put, nzA, nzB, nzC]
   refine held_next2 (i := 1) (j := 5) (by kernel_rfl) (NextOp.mk rfl rfl (fun K hK => ?_)) (NextOp.mk rfl rfl (fun K hK => ?_))
   ·(go_simp; go_at_call 58; (with_reducible refine (rtable_own (fun b => W.heap.size ≤ b ∧ b < v1.heap.size) t _ _ _ _ (fun _ e => e.2) ((H1.out.mono (M' := (fun b => W.heap.size ≤ b ∧ b < v1.heap.size)) (fun i hi e => absurd hi (Nat.not_lt.2 e.1))).extNo (hx.out.transNo hJ.ext))).mono ?_); (rintro e1 v2 ⟨ag1, cg1, ao1, co1, rfl, hs1, hn1, hyA⟩); go_simp)
    refine hK.out _ _ ?_ ?_
    ·exact Ext.transNo (show Ext No w1 _ from hHeld) hyA
    clear hK K hHeld
    intro hHeld
    replace hJ := hJ.call1 k1 k2 (keeps_rowsN _ _ _ _ _ _) hyA ⟨hs1.out, fun b e => Nat.le_trans (hx.out.transNo hJ.ext).size (hn1 b e)⟩ (fun b e => ⟨Nat.le_trans (hx.out.transNo hJ.ext).size (hn1 b e), hs1.out.ownLt b e⟩)
    replace k1 := hJ.2
    replace hJ := hJ.1
    clear hyA hs1 hn1
    try simp only [Act.put, nzA, nzB, nzC]
    refine held_next2 (i := 3) (j := 5) (by kernel_rfl) (NextOp.mk rfl rfl (fun K hK => ?_)) (NextOp.mk rfl rfl (fun K hK => ?_))
    ·(go_simp; go_at_call 58; (with_reducible refine (rtable_w (fun b => W.heap.size ≤ b ∧ b < v2.heap.size) u t.w _ _ _ _ HU.out (fun _ e => e.2) ((H2.out.mono (M' := (fun b => W.heap.size ≤ b ∧ b < v2.heap.size)) (fun i hi e => absurd hi (Nat.not_lt.2 e.1))).extNo (hx.out.transNo hJ.ext))).mono ?_); (rintro e2 v3 ⟨ag2, cg2, ao2, co2, rfl, hs2, hn2, hyA⟩); go_simp)
     refine hK.out _ _ ?_ ?_
     ·exact Ext.transNo (show Ext No w1 _ from hHeld) hyA
     clear hK K hHeld
     intro hHeld
     replace hJ := hJ.call2 k1 k2 (keeps_rowsN _ _ _ _ _ _) hyA ⟨hs2.out, fun b e => Nat.le_trans (hx.out.transNo hJ.ext).size (hn2 b e)⟩
     replace k2 := hJ.2
     replace hJ := hJ.1
     clear hyA hs2 hn2
     try simp only [Act.put, nzA, nzB, nzC]
     refine held_call (i := 5) rfl (by kernel_rfl) rfl (fun K hK => ?_)
     go_simp
     refine hK.out _ _ ?_ ?_
     ·exact Ext.alloc (show Ext No w1 _ from hHeld) _
     clear hK K hHeld
     intro hHeld
     replace hJ := hJ.allocB k1 k2 #[.int .i64 0, .slice none 0 0, .slice none 0 0]
     generalize (v3.alloc (.cells #[.int .i64 0, .slice none 0 0, .slice none 0 0] 75)) = v4 at *
     generalize v3.heap.size = DB at *
     have hDB := (hJ.boxB _ _ rfl).1
     try simp only [Act.put, nzA, nzB, nzC]
     refine held_call (i := 6) rfl (by kernel_rfl) rfl (fun K hK => ?_)
     ((obtain ⟨hb1, hb2⟩ := hJ.boxA _ _ rfl); (have cS := cellOf hb2); (have fS := freeOf hb2); (clear hb1 hb2); go_simp; (clear cS fS))
     refine hK.out _ _ ?_ ?_
     ·exact (show Ext No w1 _ from hHeld).trans2 (set3 _ _ _ _ _) (fun i hi e => by unfold At at e; omega)
     clear hK K hHeld
     intro hHeld
     replace hJ := hJ.storeA k1 k2 (.int .i64 (t.w : Int)) (.slice ag1 (nw t.w) cg1) (.slice ao1 (tabT t).length co1)
     generalize (((v4.setCell ⟨DA, 0, none⟩ (.int .i64 (t.w : Int))).setCell ⟨DA, 1, none⟩ (.slice ag1 (nw t.w) cg1)).setCell ⟨DA, 2, none⟩ (.slice ao1 (tabT t).length co1)) = v5 at *
     try simp only [Act.put, nzA, nzB, nzC]
     refine held_call (i := 7) rfl (by kernel_rfl) rfl (fun K hK => ?_)
     ((obtain ⟨hb1, hb2⟩ := hJ.boxB _ _ rfl); (have cS := cellOf hb2); (have fS := freeOf hb2); (clear hb1 hb2); go_simp; (clear cS fS))
     refine hK.out _ _ ?_ ?_
     ·exact (show Ext No w1 _ from hHeld).trans2 (set3 _ _ _ _ _) (fun i hi e => by unfold At at e; omega)
     clear hK K hHeld
     intro hHeld
     replace hJ := hJ.storeB k1 k2 (.int .i64 (t.w : Int)) (.slice ag2 (nw t.w) cg2) (.slice ao2 (tabT u).length co2)
     generalize (((v5.setCell ⟨DB, 0, none⟩ (.int .i64 (t.w : Int))).setCell ⟨DB, 1, none⟩ (.slice ag2 (nw t.w) cg2)).setCell ⟨DB, 2, none⟩ (.slice ao2 (tabT u).length co2)) = v6 at *
     try simp only [Act.put, nzA, nzB, nzC]
     refine wpAnyH_done (by kernel_rfl) ?_ _
     go_wp2_with fail
     go_meet
     exact ⟨DA, DB, ag1, cg1, ao1, co1, ag2, cg2, ao2, co2, rfl, rfl, Lib.hid hJ⟩
    ·go_simp
     refine hK.out _ _ ?_ ?_
     ·exact Ext.alloc (show Ext No w1 _ from hHeld) _
     clear hK K hHeld
     intro hHeld
     replace hJ := hJ.allocB k1 k2 #[.int .i64 0, .slice none 0 0, .slice none 0 0]
     generalize (v2.alloc (.cells #[.int .i64 0, .slice none 0 0, .slice none 0 0] 75)) = v3 at *
     generalize v2.heap.size = DB at *
     have hDB := (hJ.boxB _ _ rfl).1
     try simp only [Act.put, nzA, nzB, nzC]
     refine held_call (i := 3) rfl (by kernel_rfl) rfl (fun K hK => ?_)
     (go_simp; go_at_call 58; (with_reducible refine (rtable_w (fun b => W.heap.size ≤ b ∧ b < v3.heap.size) u t.w _ _ _ _ HU.out (fun _ e => e.2) ((H2.out.mono (M' := (fun b => W.heap.size ≤ b ∧ b < v3.heap.size)) (fun i hi e => absurd hi (Nat.not_lt.2 e.1))).extNo (hx.out.transNo hJ.ext))).mono ?_); (rintro e2 v4 ⟨ag2, cg2, ao2, co2, rfl, hs2, hn2, hyA⟩); go_simp)
     refine hK.out _ _ ?_ ?_
     ·exact Ext.transNo (show Ext No w1 _ from hHeld) hyA
     clear hK K hHeld
     intro hHeld
     replace hJ := hJ.call2 k1 k2 (keeps_rowsN _ _ _ _ _ _) hyA ⟨hs2.out, fun b e => Nat.le_trans (hx.out.transNo hJ.ext).size (hn2 b e)⟩
     replace k2 := hJ.2
     replace hJ := hJ.1
     clear hyA hs2 hn2
     try simp only [Act.put, nzA, nzB, nzC]
     refine held_call (i := 6) rfl (by kernel_rfl) rfl (fun K hK => ?_)
     ((obtain ⟨hb1, hb2⟩ := hJ.boxA _ _ rfl); (have cS := cellOf hb2); (have fS := freeOf hb2); (clear hb1 hb2); go_simp; (clear cS fS))
     refine hK.out _ _ ?_ ?_
     ·exact (show Ext No w1 _ from hHeld).trans2 (set3 _ _ _ _ _) (fun i hi e => by unfold At at e; omega)
     clear hK K hHeld
     intro hHeld
     replace hJ := hJ.storeA k1 k2 (.int .i64 (t.w : Int)) (.slice ag1 (nw t.w) cg1) (.slice ao1 (tabT t).length co1)
     generalize (((v4.setCell ⟨DA, 0, none⟩ (.int .i64 (t.w : Int))).setCell ⟨DA, 1, none⟩ (.slice ag1 (nw t.w) cg1)).setCell ⟨DA, 2, none⟩ (.slice ao1 (tabT t).length co1)) = v5 at *
     try simp only [Act.put, nzA, nzB, nzC]
     refine held_call (i := 7) rfl (by kernel_rfl) rfl (fun K hK => ?_)
     ((obtain ⟨hb1, hb2⟩ := hJ.boxB _ _ rfl); (have cS := cellOf hb2); (have fS := freeOf hb2); (clear hb1 hb2); go_simp; (clear cS fS))
     refine hK.out _ _ ?_ ?_
     ·exact (show Ext No w1 _ from hHeld).trans2 (set3 _ _ _ _ _) (fun i hi e => by unfold At at e; omega)
     clear hK K hHeld
     intro hHeld
     replace hJ := hJ.storeB k1 k2 (.int .i64 (t.w : Int)) (.slice ag2 (nw t.w) cg2) (.slice ao2 (tabT u).length co2)
     generalize (((v5.setCell ⟨DB, 0, none⟩ (.int .i64 (t.w : Int))).setCell ⟨DB, 1, none⟩ (.slice ag2 (nw t.w) cg2)).setCell ⟨DB, 2, none⟩ (.slice ao2 (tabT u).length co2)) = v6 at *
     try simp only [Act.put, nzA, nzB, nzC]
     refine wpAnyH_done (by kernel_rfl) ?_ _
     go_wp2_with fail
     go_meet
     exact ⟨DA, DB, ag1, cg1, ao1, co1, ag2, cg2, ao2, co2, rfl, rfl, Lib.hid hJ⟩
   ·go_simp
    refine hK.out _ _ ?_ ?_
    ·exact Ext.alloc (show Ext No w1 _ from hHeld) _
    clear hK K hHeld
    intro hHeld
    replace hJ := hJ.allocB k1 k2 #[.int .i64 0, .slice none 0 0, .slice none 0 0]
    generalize (v1.alloc (.cells #[.int .i64 0, .slice none 0 0, .slice none 0 0] 75)) = v2 at *
    generalize v1.heap.size = DB at *
    have hDB := (hJ.boxB _ _ rfl).1
    try simp only [Act.put, nzA, nzB, nzC]
    refine held_call (i := 1) rfl (by kernel_rfl) rfl (fun K hK => ?_)
    (go_simp; go_at_call 58; (with_reducible refine (rtable_own (fun b => W.heap.size ≤ b ∧ b < v2.heap.size) t _ _ _ _ (fun _ e => e.2) ((H1.out.mono (M' := (fun b => W.heap.size ≤ b ∧ b < v2.heap.size)) (fun i hi e => absurd hi (Nat.not_lt.2 e.1))).extNo (hx.out.transNo hJ.ext))).mono ?_); (rintro e1 v3 ⟨ag1, cg1, ao1, co1, rfl, hs1, hn1, hyA⟩); go_simp)
    refine hK.out _ _ ?_ ?_
    ·exact Ext.transNo (show Ext No w1 _ from hHeld) hyA
    clear hK K hHeld
    intro hHeld
    replace hJ := hJ.call1 k1 k2 (keeps_rowsN _ _ _ _ _ _) hyA ⟨hs1.out, fun b e => Nat.le_trans (hx.out.transNo hJ.ext).size (hn1 b e)⟩ (fun b e => ⟨Nat.le_trans (hx.out.transNo hJ.ext).size (hn1 b e), hs1.out.ownLt b e⟩)
    replace k1 := hJ.2
    replace hJ := hJ.1
    clear hyA hs1 hn1
    try simp only [Act.put, nzA, nzB, nzC]
    refine held_call (i := 3) rfl (by kernel_rfl) rfl (fun K hK => ?_)
    (go_simp; go_at_call 58; (with_reducible refine (rtable_w (fun b => W.heap.size ≤ b ∧ b < v3.heap.size) u t.w _ _ _ _ HU.out (fun _ e => e.2) ((H2.out.mono (M' := (fun b => W.heap.size ≤ b ∧ b < v3.heap.size)) (fun i hi e => absurd hi (Nat.not_lt.2 e.1))).extNo (hx.out.transNo hJ.ext))).mono ?_); (rintro e2 v4 ⟨ag2, cg2, ao2, co2, rfl, hs2, hn2, hyA⟩); go_simp)
    refine hK.out _ _ ?_ ?_
    ·exact Ext.transNo (show Ext No w1 _ from hHeld) hyA
    clear hK K hHeld
    intro hHeld
    replace hJ := hJ.call2 k1 k2 (keeps_rowsN _ _ _ _ _ _) hyA ⟨hs2.out, fun b e => Nat.le_trans (hx.out.transNo hJ.ext).size (hn2 b e)⟩
    replace k2 := hJ.2
    replace hJ := hJ.1
    clear hyA hs2 hn2
    try simp only [Act.put, nzA, nzB, nzC]
    refine held_call (i := 6) rfl (by kernel_rfl) rfl (fun K hK => ?_)
    ((obtain ⟨hb1, hb2⟩ := hJ.boxA _ _ rfl); (have cS := cellOf hb2); (have fS := freeOf hb2); (clear hb1 hb2); go_simp; (clear cS fS))
    refine hK.out _ _ ?_ ?_
    ·exact (show Ext No w1 _ from hHeld).trans2 (set3 _ _ _ _ _) (fun i hi e => by unfold At at e; omega)
    clear hK K hHeld
    intro hHeld
    replace hJ := hJ.storeA k1 k2 (.int .i64 (t.w : Int)) (.slice ag1 (nw t.w) cg1) (.slice ao1 (tabT t).length co1)
    generalize (((v4.setCell ⟨DA, 0, none⟩ (.int .i64 (t.w : Int))).setCell ⟨DA, 1, none⟩ (.slice ag1 (nw t.w) cg1)).setCell ⟨DA, 2, none⟩ (.slice ao1 (tabT t).length co1)) = v5 at *
    try simp only [Act.put, nzA, nzB, nzC]
    refine held_call (i := 7) rfl (by kernel_rfl) rfl (fun K hK => ?_)
    ((obtain ⟨hb1, hb2⟩ := hJ.boxB _ _ rfl); (have cS := cellOf hb2); (have fS := freeOf hb2); (clear hb1 hb2); go_simp; (clear cS fS))
    refine hK.out _ _ ?_ ?_
    ·exact (show Ext No w1 _ from hHeld).trans2 (set3 _ _ _ _ _) (fun i hi e => by unfold At at e; omega)
    clear hK K hHeld
    intro hHeld
    replace hJ := hJ.storeB k1 k2 (.int .i64 (t.w : Int)) (.slice ag2 (nw t.w) cg2) (.slice ao2 (tabT u).length co2)
    generalize (((v5.setCell ⟨DB, 0, none⟩ (.int .i64 (t.w : Int))).setCell ⟨DB, 1, none⟩ (.slice ag2 (nw t.w) cg2)).setCell ⟨DB, 2, none⟩ (.slice ao2 (tabT u).length co2)) = v6 at *
    try simp only [Act.put, nzA, nzB, nzC]
    refine wpAnyH_done (by kernel_rfl) ?_ _
    go_wp2_with fail
    go_meet
    exact ⟨DA, DB, ag1, cg1, ao1, co1, ag2, cg2, ao2, co2, rfl, rfl, Lib.hid hJ⟩
  ·go_simp
   refine hK.out _ _ ?_ ?_
   ·exact Ext.alloc (show Ext No w1 _ from hHeld) _
   clear hK K hHeld
   intro hHeld
   replace hJ := hJ.allocB k1 k2 #[.int .i64 0, .slice none 0 0, .slice none 0 0]
   generalize (v0.alloc (.cells #[.int .i64 0, .slice none 0 0, .slice none 0 0] 75)) = v1 at *
   generalize v0.heap.size = DB at *
   have hDB := (hJ.boxB _ _ rfl).1
   try simp only [Act.put, nzA, nzB, nzC]
   refine held_next2 (i := 1) (j := 4) (by kernel_rfl) (NextOp.mk rfl rfl (fun K hK => ?_)) (NextOp.mk rfl rfl (fun K hK => ?_))
   ·(go_simp; go_at_call 58; (with_reducible refine (rtable_own (fun b => W.heap.size ≤ b ∧ b < v1.heap.size) t _ _ _ _ (fun _ e => e.2) ((H1.out.mono (M' := (fun b => W.heap.size ≤ b ∧ b < v1.heap.size)) (fun i hi e => absurd hi (Nat.not_lt.2 e.1))).extNo (hx.out.transNo hJ.ext))).mono ?_); (rintro e1 v2 ⟨ag1, cg1, ao1, co1, rfl, hs1, hn1, hyA⟩); go_simp)
    refine hK.out _ _ ?_ ?_
    ·exact Ext.transNo (show Ext No w1 _ from hHeld) hyA
    clear hK K hHeld
    intro hHeld
    replace hJ := hJ.call1 k1 k2 (keeps_rowsN _ _ _ _ _ _) hyA ⟨hs1.out, fun b e => Nat.le_trans (hx.out.transNo hJ.ext).size (hn1 b e)⟩ (fun b e => ⟨Nat.le_trans (hx.out.transNo hJ.ext).size (hn1 b e), hs1.out.ownLt b e⟩)
    replace k1 := hJ.2
    replace hJ := hJ.1
    clear hyA hs1 hn1
    try simp only [Act.put, nzA, nzB, nzC]
    refine held_next2 (i := 3) (j := 4) (by kernel_rfl) (NextOp.mk rfl rfl (fun K hK => ?_)) (NextOp.mk rfl rfl (fun K hK => ?_))
    ·(go_simp; go_at_call 58; (with_reducible refine (rtable_w (fun b => W.heap.size ≤ b ∧ b < v2.heap.size) u t.w _ _ _ _ HU.out (fun _ e => e.2) ((H2.out.mono (M' := (fun b => W.heap.size ≤ b ∧ b < v2.heap.size)) (fun i hi e => absurd hi (Nat.not_lt.2 e.1))).extNo (hx.out.transNo hJ.ext))).mono ?_); (rintro e2 v3 ⟨ag2, cg2, ao2, co2, rfl, hs2, hn2, hyA⟩); go_simp)
     refine hK.out _ _ ?_ ?_
     ·exact Ext.transNo (show Ext No w1 _ from hHeld) hyA
     clear hK K hHeld
     intro hHeld
     replace hJ := hJ.call2 k1 k2 (keeps_rowsN _ _ _ _ _ _) hyA ⟨hs2.out, fun b e => Nat.le_trans (hx.out.transNo hJ.ext).size (hn2 b e)⟩
     replace k2 := hJ.2
     replace hJ := hJ.1
     clear hyA hs2 hn2
     try simp only [Act.put, nzA, nzB, nzC]
     refine held_call (i := 4) rfl (by kernel_rfl) rfl (fun K hK => ?_)
     go_simp
     refine hK.out _ _ ?_ ?_
     ·exact Ext.alloc (show Ext No w1 _ from hHeld) _
     clear hK K hHeld
     intro hHeld
     replace hJ := hJ.allocA k1 k2 #[.int .i64 0, .slice none 0 0, .slice none 0 0]
     generalize (v3.alloc (.cells #[.int .i64 0, .slice none 0 0, .slice none 0 0] 75)) = v4 at *
     generalize v3.heap.size = DA at *
     have hDA := (hJ.boxA _ _ rfl).1
     try simp only [Act.put, nzA, nzB, nzC]
     refine held_call (i := 6) rfl (by kernel_rfl) rfl (fun K hK => ?_)
     ((obtain ⟨hb1, hb2⟩ := hJ.boxA _ _ rfl); (have cS := cellOf hb2); (have fS := freeOf hb2); (clear hb1 hb2); go_simp; (clear cS fS))
     refine hK.out _ _ ?_ ?_
     ·exact (show Ext No w1 _ from hHeld).trans2 (set3 _ _ _ _ _) (fun i hi e => by unfold At at e; omega)
     clear hK K hHeld
     intro hHeld
     replace hJ := hJ.storeA k1 k2 (.int .i64 (t.w : Int)) (.slice ag1 (nw t.w) cg1) (.slice ao1 (tabT t).length co1)
     generalize (((v4.setCell ⟨DA, 0, none⟩ (.int .i64 (t.w : Int))).setCell ⟨DA, 1, none⟩ (.slice ag1 (nw t.w) cg1)).setCell ⟨DA, 2, none⟩ (.slice ao1 (tabT t).length co1)) = v5 at *
     try simp only [Act.put, nzA, nzB, nzC]
     refine held_call (i := 7) rfl (by kernel_rfl) rfl (fun K hK => ?_)
     ((obtain ⟨hb1, hb2⟩ := hJ.boxB _ _ rfl); (have cS := cellOf hb2); (have fS := freeOf hb2); (clear hb1 hb2); go_simp; (clear cS fS))
     refine hK.out _ _ ?_ ?_
     ·exact (show Ext No w1 _ from hHeld).trans2 (set3 _ _ _ _ _) (fun i hi e => by unfold At at e; omega)
     clear hK K hHeld
     intro hHeld
     replace hJ := hJ.storeB k1 k2 (.int .i64 (t.w : Int)) (.slice ag2 (nw t.w) cg2) (.slice ao2 (tabT u).length co2)
     generalize (((v5.setCell ⟨DB, 0, none⟩ (.int .i64 (t.w : Int))).setCell ⟨DB, 1, none⟩ (.slice ag2 (nw t.w) cg2)).setCell ⟨DB, 2, none⟩ (.slice ao2 (tabT u).length co2)) = v6 at *
     try simp only [Act.put, nzA, nzB, nzC]
     refine wpAnyH_done (by kernel_rfl) ?_ _
     go_wp2_with fail
     go_meet
     exact ⟨DA, DB, ag1, cg1, ao1, co1, ag2, cg2, ao2, co2, rfl, rfl, Lib.hid hJ⟩
    ·go_simp
     refine hK.out _ _ ?_ ?_
     ·exact Ext.alloc (show Ext No w1 _ from hHeld) _
     clear hK K hHeld
     intro hHeld
     replace hJ := hJ.allocA k1 k2 #[.int .i64 0, .slice none 0 0, .slice none 0 0]
     generalize (v2.alloc (.cells #[.int .i64 0, .slice none 0 0, .slice none 0 0] 75)) = v3 at *
     generalize v2.heap.size = DA at *
     have hDA := (hJ.boxA _ _ rfl).1
     try simp only [Act.put, nzA, nzB, nzC]
     refine held_call (i := 3) rfl (by kernel_rfl) rfl (fun K hK => ?_)
     (go_simp; go_at_call 58; (with_reducible refine (rtable_w (fun b => W.heap.size ≤ b ∧ b < v3.heap.size) u t.w _ _ _ _ HU.out (fun _ e => e.2) ((H2.out.mono (M' := (fun b => W.heap.size ≤ b ∧ b < v3.heap.size)) (fun i hi e => absurd hi (Nat.not_lt.2 e.1))).extNo (hx.out.transNo hJ.ext))).mono ?_); (rintro e2 v4 ⟨ag2, cg2, ao2, co2, rfl, hs2, hn2, hyA⟩); go_simp)
     refine hK.out _ _ ?_ ?_
     ·exact Ext.transNo (show Ext No w1 _ from hHeld) hyA
     clear hK K hHeld
     intro hHeld
     replace hJ := hJ.call2 k1 k2 (keeps_rowsN _ _ _ _ _ _) hyA ⟨hs2.out, fun b e => Nat.le_trans (hx.out.transNo hJ.ext).size (hn2 b e)⟩
     replace k2 := hJ.2
     replace hJ := hJ.1
     clear hyA hs2 hn2
     try simp only [Act.put, nzA, nzB, nzC]
     refine held_call (i := 6) rfl (by kernel_rfl) rfl (fun K hK => ?_)
     ((obtain ⟨hb1, hb2⟩ := hJ.boxA _ _ rfl); (have cS := cellOf hb2); (have fS := freeOf hb2); (clear hb1 hb2); go_simp; (clear cS fS))
     refine hK.out _ _ ?_ ?_
     ·exact (show Ext No w1 _ from hHeld).trans2 (set3 _ _ _ _ _) (fun i hi e => by unfold At at e; omega)
     clear hK K hHeld
     intro hHeld
     replace hJ := hJ.storeA k1 k2 (.int .i64 (t.w : Int)) (.slice ag1 (nw t.w) cg1) (.slice ao1 (tabT t).length co1)
     generalize (((v4.setCell ⟨DA, 0, none⟩ (.int .i64 (t.w : Int))).setCell ⟨DA, 1, none⟩ (.slice ag1 (nw t.w) cg1)).setCell ⟨DA, 2, none⟩ (.slice ao1 (tabT t).length co1)) = v5 at *
     try simp only [Act.put, nzA, nzB, nzC]
     refine held_call (i := 7) rfl (by kernel_rfl) rfl (fun K hK => ?_)
     ((obtain ⟨hb1, hb2⟩ := hJ.boxB _ _ rfl); (have cS := cellOf hb2); (have fS := freeOf hb2); (clear hb1 hb2); go_simp; (clear cS fS))
     refine hK.out _ _ ?_ ?_
     ·exact (show Ext No w1 _ from hHeld).trans2 (set3 _ _ _ _ _) (fun i hi e => by unfold At at e; omega)
     clear hK K hHeld
     intro hHeld
     replace hJ := hJ.storeB k1 k2 (.int .i64 (t.w : Int)) (.slice ag2 (nw t.w) cg2) (.slice ao2 (tabT u).length co2)
     generalize (((v5.setCell ⟨DB, 0, none⟩ (.int .i64 (t.w : Int))).setCell ⟨DB, 1, none⟩ (.slice ag2 (nw t.w) cg2)).setCell ⟨DB, 2, none⟩ (.slice ao2 (tabT u).length co2)) = v6 at *
     try simp only [Act.put, nzA, nzB, nzC]
     refine wpAnyH_done (by kernel_rfl) ?_ _
     go_wp2_with fail
     go_meet
     exact ⟨DA, DB, ag1, cg1, ao1, co1, ag2, cg2, ao2, co2, rfl, rfl, Lib.hid hJ⟩
   ·go_simp
    refine hK.out _ _ ?_ ?_
    ·exact Ext.alloc (show Ext No w1 _ from hHeld) _
    clear hK K hHeld
    intro hHeld
    replace hJ := hJ.allocA k1 k2 #[.int .i64 0, .slice none 0 0, .slice none 0 0]
    generalize (v1.alloc (.cells #[.int .i64 0, .slice none 0 0, .slice none 0 0] 75)) = v2 at *
    generalize v1.heap.size = DA at *
    have hDA := (hJ.boxA _ _ rfl).1
    try simp only [Act.put, nzA, nzB, nzC]
    refine held_call (i := 1) rfl (by kernel_rfl) rfl (fun K hK => ?_)
    (go_simp; go_at_call 58; (with_reducible refine (rtable_own (fun b => W.heap.size ≤ b ∧ b < v2.heap.size) t _ _ _ _ (fun _ e => e.2) ((H1.out.mono (M' := (fun b => W.heap.size ≤ b ∧ b < v2.heap.size)) (fun i hi e => absurd hi (Nat.not_lt.2 e.1))).extNo (hx.out.transNo hJ.ext))).mono ?_); (rintro e1 v3 ⟨ag1, cg1, ao1, co1, rfl, hs1, hn1, hyA⟩); go_simp)
    refine hK.out _ _ ?_ ?_
    ·exact Ext.transNo (show Ext No w1 _ from hHeld) hyA
    clear hK K hHeld
    intro hHeld
    replace hJ := hJ.call1 k1 k2 (keeps_rowsN _ _ _ _ _ _) hyA ⟨hs1.out, fun b e => Nat.le_trans (hx.out.transNo hJ.ext).size (hn1 b e)⟩ (fun b e => ⟨Nat.le_trans (hx.out.transNo hJ.ext).size (hn1 b e), hs1.out.ownLt b e⟩)
    replace k1 := hJ.2
    replace hJ := hJ.1
    clear hyA hs1 hn1
    try simp only [Act.put, nzA, nzB, nzC]
    refine held_call (i := 3) rfl (by kernel_rfl) rfl (fun K hK => ?_)
    (go_simp; go_at_call 58; (with_reducible refine (rtable_w (fun b => W.heap.size ≤ b ∧ b < v3.heap.size) u t.w _ _ _ _ HU.out (fun _ e => e.2) ((H2.out.mono (M' := (fun b => W.heap.size ≤ b ∧ b < v3.heap.size)) (fun i hi e => absurd hi (Nat.not_lt.2 e.1))).extNo (hx.out.transNo hJ.ext))).mono ?_); (rintro e2 v4 ⟨ag2, cg2, ao2, co2, rfl, hs2, hn2, hyA⟩); go_simp)
    refine hK.out _ _ ?_ ?_
    ·exact Ext.transNo (show Ext No w1 _ from hHeld) hyA
    clear hK K hHeld
    intro hHeld
    replace hJ := hJ.call2 k1 k2 (keeps_rowsN _ _ _ _ _ _) hyA ⟨hs2.out, fun b e => Nat.le_trans (hx.out.transNo hJ.ext).size (hn2 b e)⟩
    replace k2 := hJ.2
    replace hJ := hJ.1
    clear hyA hs2 hn2
    try simp only [Act.put, nzA, nzB, nzC]
    refine held_call (i := 6) rfl (by kernel_rfl) rfl (fun K hK => ?_)
    ((obtain ⟨hb1, hb2⟩ := hJ.boxA _ _ rfl); (have cS := cellOf hb2); (have fS := freeOf hb2); (clear hb1 hb2); go_simp; (clear cS fS))
    refine hK.out _ _ ?_ ?_
    ·exact (show Ext No w1 _ from hHeld).trans2 (set3 _ _ _ _ _) (fun i hi e => by unfold At at e; omega)
    clear hK K hHeld
    intro hHeld
    replace hJ := hJ.storeA k1 k2 (.int .i64 (t.w : Int)) (.slice ag1 (nw t.w) cg1) (.slice ao1 (tabT t).length co1)
    generalize (((v4.setCell ⟨DA, 0, none⟩ (.int .i64 (t.w : Int))).setCell ⟨DA, 1, none⟩ (.slice ag1 (nw t.w) cg1)).setCell ⟨DA, 2, none⟩ (.slice ao1 (tabT t).length co1)) = v5 at *
    try simp only [Act.put, nzA, nzB, nzC]
    refine held_call (i := 7) rfl (by kernel_rfl) rfl (fun K hK => ?_)
    ((obtain ⟨hb1, hb2⟩ := hJ.boxB _ _ rfl); (have cS := cellOf hb2); (have fS := freeOf hb2); (clear hb1 hb2); go_simp; (clear cS fS))
    refine hK.out _ _ ?_ ?_
    ·exact (show Ext No w1 _ from hHeld).trans2 (set3 _ _ _ _ _) (fun i hi e => by unfold At at e; omega)
    clear hK K hHeld
    intro hHeld
    replace hJ := hJ.storeB k1 k2 (.int .i64 (t.w : Int)) (.slice ag2 (nw t.w) cg2) (.slice ao2 (tabT u).length co2)
    generalize (((v5.setCell ⟨DB, 0, none⟩ (.int .i64 (t.w : Int))).setCell ⟨DB, 1, none⟩ (.slice ag2 (nw t.w) cg2)).setCell ⟨DB, 2, none⟩ (.slice ao2 (tabT u).length co2)) = v6 at *
    try simp only [Act.put, nzA, nzB, nzC]
    refine wpAnyH_done (by kernel_rfl) ?_ _
    go_wp2_with fail
    go_meet
    exact ⟨DA, DB, ag1, cg1, ao1, co1, ag2, cg2, ao2, co2, rfl, rfl, Lib.hid hJ⟩
 case rest =>
  obtain ⟨D1, D2, a1, c1, b1, d1, a2, c2, b2, d2, rfl, rfl, hJ⟩ := hcut
  rename World => V
  have hm := Lib.hid (show BtM W V t.w u.gen (tabT t) (tabT u) D1 D2 (.slice a1 (nw t.w) c1) (.slice b1 (tabT t).length d1) (.slice a2 (nw t.w) c2) (.slice b2 (tabT u).length d2) from ⟨hx.out.transNo hJ.out.ext, (hJ.out.boxA _ _ rfl).2, (hJ.out.boxB _ _ rfl).2, (hJ.out.r1 rfl).1.sets.no, (hJ.out.r2 rfl).1.set.no, (hJ.out.r2 rfl).1.sets.no⟩)
  have hg1 := Lib.hid (hJ.out.r1 rfl).1.set.no
  have HL1 : Hid ((tabT t).length = t.w) := Lib.hid (tabTo_len _ _)
  have HL2 : Hid ((tabT u).length = t.w) := Lib.hid (by rw [show (tabT u).length = u.w from tabTo_len _ _, HU.out])
  clear hJ HA HB hx H1 H2 HU
  have hRL : (tabT t).length ≤ 256 := by have := HL1.out; omega
  have cD1 := cellOf hm.out.box1
  have cD2 := cellOf hm.out.box2
  go_wp2_with fail
  clear cD1 cD2
  refine (rsubset_any t.w t.gen u.gen _ _ _ hg1.out hm.out.g2).mono ?_
  rintro e3 w3 ⟨rfl, hx3⟩
  have hm3 := Lib.hid (hm.out.stepNo hx3)
  clear hm hx3 hg1
  obtain ⟨b0, hb0⟩ : ∃ b0, b0 = subN t.gen u.gen := ⟨_, rfl⟩
  rw [← hb0]
  have HB0 := Lib.hid hb0
  clear hb0
  go_wp2_with fail
  go_loopw [7, 8] (fun s7 i wr => ∃ (k : Nat) (b : Bool), k ≤ (tabT t).length ∧ i = .int .i64 k ∧ s7 = .bool b ∧ Hid (BtM W wr t.w u.gen (tabT t) (tabT u) D1 D2 (.slice a1 (nw t.w) c1) (.slice b1 (tabT t).length d1) (.slice a2 (nw t.w) c2) (.slice b2 (tabT u).length d2)) ∧ Hid (b = (b0 && rbelTo t u k))) (fun _ i _ => (tabT t).length - (intOf i).toNat)
  case atStart => exact ⟨0, b0, Nat.zero_le _, rfl, rfl, hm3, Lib.hid (by simp [rbelTo])⟩
  case round =>
   clear hm3
   obtain ⟨k, b, hk, rfl, rfl, hm, hb⟩ := hrel
   rename World => wr
   have hpos : (0 : Int) ≤ (k : Int) := by omega
   have HB1 := Lib.hid hm.out.box1
   have HB2 := Lib.hid hm.out.box2
   by_cases hlt : k < (tabT t).length
   ·have HKK : Hid (Value.int .i64 ((k : Int) + 1) = .int .i64 ((k + 1 : Nat) : Int)) := Lib.hid (by rw [show ((k + 1 : Nat) : Int) = (k : Int) + 1 from by omega])
    have hlt2 : k < (tabT u).length := by have h1 := HL1.out; have h2 := HL2.out; omega
    obtain ⟨gg, go, gc, ae, ce, hge, _, _, z0, z1, hE1⟩ := hm.out.r1.at hlt
    obtain ⟨hh, ho, hc, be, de, hhe, _, _, y0, y1, hE2⟩ := hm.out.r2.at hlt2
    simp only [Value.slice.injEq] at hge hhe
    obtain ⟨rfl, _, rfl⟩ := hge
    obtain ⟨rfl, _, rfl⟩ := hhe
    obtain ⟨m1, hm1⟩ : ∃ m1, m1 = (tabT t)[k] := ⟨_, rfl⟩
    obtain ⟨m2, hm2⟩ : ∃ m2, m2 = (tabT u)[k] := ⟨_, rfl⟩
    rw [← hm1] at hE1
    rw [← hm2] at hE2
    have HST : Hid ((b0 && rbelTo t u (k + 1)) = (b && subN m1 m2)) := Lib.hid (by rw [hb.out, rbelTo, rowAt_get hlt, rowAt_get hlt2, hm1, hm2, Bool.and_assoc])
    clear hm1 hm2
    have HZ := Lib.hid (And.intro z0 z1)
    have HY := Lib.hid (And.intro y0 y1)
    have cB1 := cellOf hm.out.box1
    have hlz : (k : Int) < ((tabT t).length : Int) := by omega
    have hlz2 : (k : Int) < ((tabT u).length : Int) := by omega
    clear z0 z1 y0 y1 hb
    go_upto_region 8 with (fail)
    clear cB1
    cases b with
    | true =>
     refine wp_region_held_drew (S := (fun w' => Ext No wr w')) (by kernel_rfl) ?_ (fun hHeld => ?_)
     ·exact (Ext.refl _ _).drew
     refine hTk (i := 0) (v := ?_) hHeld (fun w hSw => ?_) ?_
     rotate_left
     ·go_simp; (try with_reducible rfl)
     try simp only [Act.put, nzA, nzB, nzC]
     refine hTk (i := 1) (v := ?_) hHeld (fun w hSw => ?_) ?_
     rotate_left
     ·go_simp; (try with_reducible rfl)
     try simp only [Act.put, nzA, nzB, nzC]
     refine hTk (i := 2) (v := ?_) hHeld (fun w hSw => ?_) ?_
     rotate_left
     ·go_simp; (try with_reducible rfl)
     try simp only [Act.put, nzA, nzB, nzC]
     refine hTk (i := 3) (v := ?_) hHeld (fun w hSw => ?_) ?_
     rotate_left
     ·(have hEs : Ext No wr _ := hSw); (have x0 := cellOf (hEs.blk HB1.out no_no)); go_simp; (try with_reducible rfl)
     try simp only [Act.put, nzA, nzB, nzC]
     refine hTk (i := 4) (v := ?_) hHeld (fun w hSw => ?_) ?_
     rotate_left
     ·go_simp; (try with_reducible rfl)
     try simp only [Act.put, nzA, nzB, nzC]
     refine hTk (i := 5) (v := ?_) hHeld (fun w hSw => ?_) ?_
     rotate_left
     ·go_simp; (try with_reducible rfl)
     try simp only [Act.put, nzA, nzB, nzC]
     refine hTk (i := 6) (v := ?_) hHeld (fun w hSw => ?_) ?_
     rotate_left
     ·(have hEs : Ext No wr _ := hSw); (have x0 := hEs.keep HZ.out.1); (have x1 := hEs.keep HZ.out.2); go_simp; (try with_reducible rfl)
     try simp only [Act.put, nzA, nzB, nzC]
     refine hTk (i := 7) (v := ?_) hHeld (fun w hSw => ?_) ?_
     rotate_left
     ·go_simp; (try with_reducible rfl)
     try simp only [Act.put, nzA, nzB, nzC]
     refine hTk (i := 8) (v := ?_) hHeld (fun w hSw => ?_) ?_
     rotate_left
     ·(have hEs : Ext No wr _ := hSw); (have x0 := cellOf (hEs.blk HB2.out no_no)); go_simp; (try with_reducible rfl)
     try simp only [Act.put, nzA, nzB, nzC]
     refine hTk (i := 9) (v := ?_) hHeld (fun w hSw => ?_) ?_
     rotate_left
     ·go_simp; (try with_reducible rfl)
     try simp only [Act.put, nzA, nzB, nzC]
     refine hTk (i := 10) (v := ?_) hHeld (fun w hSw => ?_) ?_
     rotate_left
     ·go_simp; (try with_reducible rfl)
     try simp only [Act.put, nzA, nzB, nzC]
     refine hTk (i := 11) (v := ?_) hHeld (fun w hSw => ?_) ?_
     rotate_left
     ·(have hEs : Ext No wr _ := hSw); (have x0 := hEs.keep HY.out.1); (have x1 := hEs.keep HY.out.2); go_simp; (try with_reducible rfl)
     try simp only [Act.put, nzA, nzB, nzC]
     refine held_call (i := 12) rfl (by kernel_rfl) rfl (fun K hK => ?_)
     ((have hEx : Ext No wr _ := hHeld); go_simp; (go_at_call 91); (refine (rsubset_any t.w m1 m2 _ _ _ (hE1.out.extNo hEx) (hE2.out.extNo hEx)).mono ?_); (rintro e9 w9 ⟨rfl, hyA⟩); go_simp)
     refine hK.out _ _ ?_ ?_
     ·exact Ext.transNo (show Ext No wr _ from hHeld) hyA
     clear hK K hHeld
     intro hHeld
     try simp only [Act.put, nzA, nzB, nzC]
     refine hTk (i := 13) (v := ?_) hHeld (fun w hSw => ?_) ?_
     rotate_left
     ·go_simp; (try with_reducible rfl)
     try simp only [Act.put, nzA, nzB, nzC]
     refine hTk (i := 14) (v := ?_) hHeld (fun w hSw => ?_) ?_
     rotate_left
     ·go_simp; (try with_reducible rfl)
     try simp only [Act.put, nzA, nzB, nzC]
     refine wpAnyH_done (by kernel_rfl) ?_ _
     have hEx : Ext No wr _ := hHeld
     have hmx := Lib.hid (hm.out.stepNo hEx)
     go_wp2_with fail
     go_roundw
     case rel => exact ⟨k + 1, _, by omega, HKK.out, rfl, hmx, Lib.hid HST.out.symm⟩
     case measure => simp [intOf]; omega
    | false =>
     refine wp_region_held_drew (S := (fun w' => Ext No wr w')) (by kernel_rfl) ?_ (fun hHeld => ?_)
     ·exact (Ext.refl _ _).drew
     refine hTk (i := 0) (v := ?_) hHeld (fun w hSw => ?_) ?_
     rotate_left
     ·go_simp; (try with_reducible rfl)
     try simp only [Act.put, nzA, nzB, nzC]
     refine hTk (i := 1) (v := ?_) hHeld (fun w hSw => ?_) ?_
     rotate_left
     ·go_simp; (try with_reducible rfl)
     try simp only [Act.put, nzA, nzB, nzC]
     refine hSk (i := 2) hHeld ?_
     try simp only [Act.put, nzA, nzB, nzC]
     refine hSk (i := 3) hHeld ?_
     try simp only [Act.put, nzA, nzB, nzC]
     refine hSk (i := 4) hHeld ?_
     try simp only [Act.put, nzA, nzB, nzC]
     refine hSk (i := 5) hHeld ?_
     try simp only [Act.put, nzA, nzB, nzC]
     refine hSk (i := 6) hHeld ?_
     try simp only [Act.put, nzA, nzB, nzC]
     refine hSk (i := 7) hHeld ?_
     try simp only [Act.put, nzA, nzB, nzC]
     refine hSk (i := 8) hHeld ?_
     try simp only [Act.put, nzA, nzB, nzC]
     refine hSk (i := 9) hHeld ?_
     try simp only [Act.put, nzA, nzB, nzC]
     refine hSk (i := 10) hHeld ?_
     try simp only [Act.put, nzA, nzB, nzC]
     refine hSk (i := 11) hHeld ?_
     try simp only [Act.put, nzA, nzB, nzC]
     refine hSk (i := 12) hHeld ?_
     try simp only [Act.put, nzA, nzB, nzC]
     refine hTk (i := 13) (v := ?_) hHeld (fun w hSw => ?_) ?_
     rotate_left
     ·go_simp; (try with_reducible rfl)
     try simp only [Act.put, nzA, nzB, nzC]
     refine hTk (i := 14) (v := ?_) hHeld (fun w hSw => ?_) ?_
     rotate_left
     ·go_simp; (try with_reducible rfl)
     try simp only [Act.put, nzA, nzB, nzC]
     refine wpAnyH_done (by kernel_rfl) ?_ _
     have hEx : Ext No wr _ := hHeld
     have hmx := Lib.hid (hm.out.stepNo hEx)
     go_wp2_with fail
     go_roundw
     case rel => exact ⟨k + 1, _, by omega, HKK.out, rfl, hmx, Lib.hid HST.out.symm⟩
     case measure => simp [intOf]; omega
   ·obtain rfl : k = (tabT t).length := by omega
    have cB1 := cellOf hm.out.box1
    go_wp2_with fail
    refine ret_ex rfl ?_
    simp [results, Tryd.results69, go_sem]
    exact ⟨by rw [hb.out, HB0.out, HL1.out]; rfl, hm.out.ext⟩
end Go.Proofs.YtgakojgkkdmabaaDoor


import Derived.Test.YtmddchceacmopaaDoorC0
import Derived.Test.YtmddchceacmopaaDoorHeldL
set_option linter.unusedVariables false
set_option linter.unusedSimpArgs false
namespace Go.Proofs.YtmddchceacmopaaDoor
open Go Go.RowKit
theorem rtable_w (M : Nat → Prop) (t : TrD) (w : Nat) (sg sk sc : Value) (W : World) (hw : t.w = w) (hM : ∀ b, M b → b < W.heap.size) (h : TrAt M W sg sk sc t) :
  Calls Tryd.prog 23 #[.agg #[.int .i64 (w : Int), sg, .int .i64 (w : Int), sk, sc]] W (TabPost M w t.gen (tabT t) W) := by
 subst hw; exact rtable_own M t sg sk sc W hM h
end Go.Proofs.YtmddchceacmopaaDoor

namespace Go.Proofs.YtmddchceacmopaaDoor
open Go Go.RowKit
def compTab (w z : Nat) (r1 r2 : List Nat) : List Nat := updTo r1 (fun i => orN z (imgN r2 w (rowAt r1 i))) r1.length
set_option maxRecDepth 100000 in
set_option maxHeartbeats 16000000 in
theorem rcomp_any (t u : TrD) (g1 k1 c1 g2 k2 c2 : Value) (W : World) (h1 : TrAt No W g1 k1 c1 t) (h2 : TrAt No W g2 k2 c2 u) (hu : u.w = t.w) :
  Calls Tryd.prog 8 #[.agg #[.int .i64 (t.w : Int), g1, .int .i64 (t.w : Int), k1, c1], .agg #[.int .i64 (t.w : Int), g2, .int .i64 (t.w : Int), k2, c2]] W (ClosePost No t.w (orN u.gen (imgN (tabT u) t.w t.gen)) (compTab t.w u.gen (tabT t) (tabT u)) W) := by
 have H1 := Lib.hid h1
 have H2 := Lib.hid h2
 have HM := Lib.hid (show ∀ b, No b → b < W.heap.size from fun _ e => e.elim)
 have HU := Lib.hid hu
 have hgu := h2.gen.slice
 have hku := h2.kill.slice
 rw [hu] at hgu hku
 obtain ⟨ag, cg, rfl⟩ := h1.gen.slice
 obtain ⟨ak, ck, rfl⟩ := h1.kill.slice
 obtain ⟨ac, cc, rfl⟩ := Row.slice h1.copies
 obtain ⟨bg, dg, rfl⟩ := hgu
 obtain ⟨bk, dk, rfl⟩ := hku
 obtain ⟨bc, dc, rfl⟩ := Row.slice h2.copies
 have hw := h1.ok.w
 clear h1 h2 hu
 go_enter Tryd.func8, Tryd.ntmps8
 go_wp2_with fail
 have hx0 : Ext No W (((W.alloc (.cells #[.int .i64 (t.w : Int), .slice ag (nw t.w) cg, .int .i64 (t.w : Int), .slice ak (nw t.w) ck, .slice ac t.copies.length cc] 30)).alloc (.cells #[.int .i64 (t.w : Int), .slice bg (nw t.w) dg, .int .i64 (t.w : Int), .slice bk (nw t.w) dk, .slice bc u.copies.length dc] 30)).alloc (.cells #[.int .i64 0, .slice none 0 0, .int .i64 0, .slice none 0 0, .slice none 0 0] 30)) := ((((Ext.refl _ _).alloc _).alloc _)).alloc _
 have hA : (((W.alloc (.cells #[.int .i64 (t.w : Int), .slice ag (nw t.w) cg, .int .i64 (t.w : Int), .slice ak (nw t.w) ck, .slice ac t.copies.length cc] 30)).alloc (.cells #[.int .i64 (t.w : Int), .slice bg (nw t.w) dg, .int .i64 (t.w : Int), .slice bk (nw t.w) dk, .slice bc u.copies.length dc] 30)).alloc (.cells #[.int .i64 0, .slice none 0 0, .int .i64 0, .slice none 0 0, .slice none 0 0] 30)).heap[W.heap.size]? = some (.cells #[.int .i64 (t.w : Int), .slice ag (nw t.w) cg, .int .i64 (t.w : Int), .slice ak (nw t.w) ck, .slice ac t.copies.length cc] 30 (0, 0)) := alloc_under (alloc_under (alloc_top rfl))
 have hB : (((W.alloc (.cells #[.int .i64 (t.w : Int), .slice ag (nw t.w) cg, .int .i64 (t.w : Int), .slice ak (nw t.w) ck, .slice ac t.copies.length cc] 30)).alloc (.cells #[.int .i64 (t.w : Int), .slice bg (nw t.w) dg, .int .i64 (t.w : Int), .slice bk (nw t.w) dk, .slice bc u.copies.length dc] 30)).alloc (.cells #[.int .i64 0, .slice none 0 0, .int .i64 0, .slice none 0 0, .slice none 0 0] 30)).heap[W.heap.size + 1]? = some (.cells #[.int .i64 (t.w : Int), .slice bg (nw t.w) dg, .int .i64 (t.w : Int), .slice bk (nw t.w) dk, .slice bc u.copies.length dc] 30 (0, 0)) := alloc_under (alloc_top (by simp))
 have hC : (((W.alloc (.cells #[.int .i64 (t.w : Int), .slice ag (nw t.w) cg, .int .i64 (t.w : Int), .slice ak (nw t.w) ck, .slice ac t.copies.length cc] 30)).alloc (.cells #[.int .i64 (t.w : Int), .slice bg (nw t.w) dg, .int .i64 (t.w : Int), .slice bk (nw t.w) dk, .slice bc u.copies.length dc] 30)).alloc (.cells #[.int .i64 0, .slice none 0 0, .int .i64 0, .slice none 0 0, .slice none 0 0] 30)).heap[W.heap.size + 2]? = some (.cells #[.int .i64 0, .slice none 0 0, .int .i64 0, .slice none 0 0, .slice none 0 0] 30 (0, 0)) := alloc_top (by simp)
 generalize (((W.alloc (.cells #[.int .i64 (t.w : Int), .slice ag (nw t.w) cg, .int .i64 (t.w : Int), .slice ak (nw t.w) ck, .slice ac t.copies.length cc] 30)).alloc (.cells #[.int .i64 (t.w : Int), .slice bg (nw t.w) dg, .int .i64 (t.w : Int), .slice bk (nw t.w) dk, .slice bc u.copies.length dc] 30)).alloc (.cells #[.int .i64 0, .slice none 0 0, .int .i64 0, .slice none 0 0, .slice none 0 0] 30)) = W2 at *
 refine (rtwo_eq t u _ _ _ _ _ _ _ HU.out (H1.out.extNo hx0) (H2.out.extNo hx0)).mono ?_
 rintro e1 w1 ⟨rfl, hx1⟩
 have hx := Lib.hid (hx0.transNo hx1)
 have HA := Lib.hid (hx1.blk hA no_no)
 have HB := Lib.hid (hx1.blk hB no_no)
 have HC := Lib.hid (hx1.blk hC no_no)
 clear hx0 hx1 hA hB hC
 have cA := cellOf HA.out
 have cB := cellOf HB.out
 go_wp2_with fail
 clear cA cB
 go_cut [7, 8] (fun s7 s8 wx => TwoTab 62 W.heap.size w1 wx t.w t.gen (tabT t) u.gen (tabT u) s7 s8)
 case first =>
  have hlB : W.heap.size + 1 < w1.heap.size := lt_of_block HB.out
  refine wp_region_held_drew (S := (fun w' => Ext No w1 w')) (by kernel_rfl) ?_ (fun hHeld => ?_)
  ·exact (Ext.refl _ _).drew
  have hJ := TwoN.start (n := W.heap.size) (fun _ _ => True) (fun _ _ => True) 62 hx.out.size ((Ext.refl No w1).drew)
  have k1 := keeps_true
  have k2 := keeps_true
  generalize w1.drew = v0 at *
  refine hTk 0 ?_ hHeld (fun w hSw => ?_) ?_
  rotate_left
  ·(have hEs : Ext No w1 _ := hSw); (have x0 := cellOf (hEs.blk HA.out no_no)); go_simp; (try with_reducible rfl)
  simp only [Act.put, nzA, nzB, nzC]
  refine hTk 2 ?_ hHeld (fun w hSw => ?_) ?_
  rotate_left
  ·(have hEs : Ext No w1 _ := hSw); (have x0 := cellOf (hEs.blk HB.out no_no)); go_simp; (try with_reducible rfl)
  simp only [Act.put, nzA, nzB, nzC]
  refine held_next3 (i := 1) (j := 4) (k := 5) (by kernel_rfl) (NextOp.mk rfl rfl (fun K hK => ?_)) (NextOp.mk rfl rfl (fun K hK => ?_)) (NextOp.mk rfl rfl (fun K hK => ?_))
  ·(go_simp; go_at_call 23; (with_reducible refine (rtable_own (fun b => W.heap.size ≤ b ∧ b < v0.heap.size) t _ _ _ _ (fun _ e => e.2) ((H1.out.mono (M' := (fun b => W.heap.size ≤ b ∧ b < v0.heap.size)) (fun i hi e => absurd hi (Nat.not_lt.2 e.1))).extNo (hx.out.transNo hJ.ext))).mono ?_); (rintro e1 v1 ⟨ag1, cg1, ao1, co1, rfl, hs1, hn1, hyA⟩); go_simp)
   refine hK.out _ _ ?_ ?_
   ·exact Ext.transNo (show Ext No w1 _ from hHeld) hyA
   clear hK K hHeld
   intro hHeld
   replace hJ := hJ.call1 k1 k2 (keeps_rowsN _ _ _ _ _ _) hyA ⟨hs1.out, fun b e => Nat.le_trans (hx.out.transNo hJ.ext).size (hn1 b e)⟩ (fun b e => ⟨Nat.le_trans (hx.out.transNo hJ.ext).size (hn1 b e), hs1.out.ownLt b e⟩)
   replace k1 := hJ.2
   replace hJ := hJ.1
   clear hyA hs1 hn1
   try simp only [Act.put, nzA, nzB, nzC]
   refine held_next3 (i := 3) (j := 4) (k := 5) (by kernel_rfl) (NextOp.mk rfl rfl (fun K hK => ?_)) (NextOp.mk rfl rfl (fun K hK => ?_)) (NextOp.mk rfl rfl (fun K hK => ?_))
   ·(go_simp; go_at_call 23; (with_reducible refine (rtable_w (fun b => W.heap.size ≤ b ∧ b < v1.heap.size) u t.w _ _ _ _ HU.out (fun _ e => e.2) ((H2.out.mono (M' := (fun b => W.heap.size ≤ b ∧ b < v1.heap.size)) (fun i hi e => absurd hi (Nat.not_lt.2 e.1))).extNo (hx.out.transNo hJ.ext))).mono ?_); (rintro e2 v2 ⟨ag2, cg2, ao2, co2, rfl, hs2, hn2, hyA⟩); go_simp)
    refine hK.out _ _ ?_ ?_
    ·exact Ext.transNo (show Ext No w1 _ from hHeld) hyA
    clear hK K hHeld
    intro hHeld
    replace hJ := hJ.call2 k1 k2 (keeps_rowsN _ _ _ _ _ _) hyA ⟨hs2.out, fun b e => Nat.le_trans (hx.out.transNo hJ.ext).size (hn2 b e)⟩
    replace k2 := hJ.2
    replace hJ := hJ.1
    clear hyA hs2 hn2
    try simp only [Act.put, nzA, nzB, nzC]
    refine held_next2 (i := 4) (j := 5) (by kernel_rfl) (NextOp.mk rfl rfl (fun K hK => ?_)) (NextOp.mk rfl rfl (fun K hK => ?_))
    ·go_simp
     refine hK.out _ _ ?_ ?_
     ·exact Ext.alloc (show Ext No w1 _ from hHeld) _
     clear hK K hHeld
     intro hHeld
     replace hJ := hJ.allocA k1 k2 #[.int .i64 0, .slice none 0 0, .slice none 0 0]
     generalize (v2.alloc (.cells #[.int .i64 0, .slice none 0 0, .slice none 0 0] 62)) = v3 at *
     generalize v2.heap.size = DA at *
     have hDA := (hJ.boxA _ _ rfl).1
     try simp only [Act.put, nzA, nzB, nzC]
     refine hHc 5 fun K hK => ?_
     go_simp
     refine hK.out _ _ ?_ ?_
     ·exact Ext.alloc (show Ext No w1 _ from hHeld) _
     clear hK K hHeld
     intro hHeld
     replace hJ := hJ.allocB k1 k2 #[.int .i64 0, .slice none 0 0, .slice none 0 0]
     generalize (v3.alloc (.cells #[.int .i64 0, .slice none 0 0, .slice none 0 0] 62)) = v4 at *
     generalize v3.heap.size = DB at *
     have hDB := (hJ.boxB _ _ rfl).1
     try simp only [Act.put, nzA, nzB, nzC]
     refine hHc 6 fun K hK => ?_
     ((obtain ⟨hb1, hb2⟩ := hJ.boxA _ _ rfl); (have cS := cellOf hb2); (have fS := freeOf hb2); (clear hb1 hb2); go_simp; (clear cS fS))
     refine hK.out _ _ ?_ ?_
     ·exact (show Ext No w1 _ from hHeld).trans2 (set3 _ _ _ _ _) (fun i hi e => by unfold At at e; omega)
     clear hK K hHeld
     intro hHeld
     replace hJ := hJ.storeA k1 k2 (.int .i64 (t.w : Int)) (.slice ag1 (nw t.w) cg1) (.slice ao1 (tabT t).length co1)
     generalize (((v4.setCell ⟨DA, 0, none⟩ (.int .i64 (t.w : Int))).setCell ⟨DA, 1, none⟩ (.slice ag1 (nw t.w) cg1)).setCell ⟨DA, 2, none⟩ (.slice ao1 (tabT t).length co1)) = v5 at *
     try simp only [Act.put, nzA, nzB, nzC]
     refine hHc 7 fun K hK => ?_
     ((obtain ⟨hb1, hb2⟩ := hJ.boxB _ _ rfl); (have cS := cellOf hb2); (have fS := freeOf hb2); (clear hb1 hb2); go_simp; (clear cS fS))
     refine hK.out _ _ ?_ ?_
     ·exact (show Ext No w1 _ from hHeld).trans2 (set3 _ _ _ _ _) (fun i hi e => by unfold At at e; omega)
     clear hK K hHeld
     intro hHeld
     replace hJ := hJ.storeB k1 k2 (.int .i64 (t.w : Int)) (.slice ag2 (nw t.w) cg2) (.slice ao2 (tabT u).length co2)
     generalize (((v5.setCell ⟨DB, 0, none⟩ (.int .i64 (t.w : Int))).setCell ⟨DB, 1, none⟩ (.slice ag2 (nw t.w) cg2)).setCell ⟨DB, 2, none⟩ (.slice ao2 (tabT u).length co2)) = v6 at *
     try simp only [Act.put, nzA, nzB, nzC]
     refine wpAnyH_done (by kernel_rfl) ?_ _
     go_wp2_with fail
     go_meet
     exact ⟨DA, DB, ag1, cg1, ao1, co1, ag2, cg2, ao2, co2, rfl, rfl, Lib.hid hJ⟩
    go_simp
    refine hK.out _ _ ?_ ?_
    ·exact Ext.alloc (show Ext No w1 _ from hHeld) _
    clear hK K hHeld
    intro hHeld
    replace hJ := hJ.allocB k1 k2 #[.int .i64 0, .slice none 0 0, .slice none 0 0]
    generalize (v2.alloc (.cells #[.int .i64 0, .slice none 0 0, .slice none 0 0] 62)) = v3 at *
    generalize v2.heap.size = DB at *
    have hDB := (hJ.boxB _ _ rfl).1
    try simp only [Act.put, nzA, nzB, nzC]
    refine hHc 4 fun K hK => ?_
    go_simp
    refine hK.out _ _ ?_ ?_
    ·exact Ext.alloc (show Ext No w1 _ from hHeld) _
    clear hK K hHeld
    intro hHeld
    replace hJ := hJ.allocA k1 k2 #[.int .i64 0, .slice none 0 0, .slice none 0 0]
    generalize (v3.alloc (.cells #[.int .i64 0, .slice none 0 0, .slice none 0 0] 62)) = v4 at *
    generalize v3.heap.size = DA at *
    have hDA := (hJ.boxA _ _ rfl).1
    try simp only [Act.put, nzA, nzB, nzC]
    refine hHc 6 fun K hK => ?_
    ((obtain ⟨hb1, hb2⟩ := hJ.boxA _ _ rfl); (have cS := cellOf hb2); (have fS := freeOf hb2); (clear hb1 hb2); go_simp; (clear cS fS))
    refine hK.out _ _ ?_ ?_
    ·exact (show Ext No w1 _ from hHeld).trans2 (set3 _ _ _ _ _) (fun i hi e => by unfold At at e; omega)
    clear hK K hHeld
    intro hHeld
    replace hJ := hJ.storeA k1 k2 (.int .i64 (t.w : Int)) (.slice ag1 (nw t.w) cg1) (.slice ao1 (tabT t).length co1)
    generalize (((v4.setCell ⟨DA, 0, none⟩ (.int .i64 (t.w : Int))).setCell ⟨DA, 1, none⟩ (.slice ag1 (nw t.w) cg1)).setCell ⟨DA, 2, none⟩ (.slice ao1 (tabT t).length co1)) = v5 at *
    try simp only [Act.put, nzA, nzB, nzC]
    refine hHc 7 fun K hK => ?_
    ((obtain ⟨hb1, hb2⟩ := hJ.boxB _ _ rfl); (have cS := cellOf hb2); (have fS := freeOf hb2); (clear hb1 hb2); go_simp; (clear cS fS))
    refine hK.out _ _ ?_ ?_
    ·exact (show Ext No w1 _ from hHeld).trans2 (set3 _ _ _ _ _) (fun i hi e => by unfold At at e; omega)
    clear hK K hHeld
    intro hHeld
    replace hJ := hJ.storeB k1 k2 (.int .i64 (t.w : Int)) (.slice ag2 (nw t.w) cg2) (.slice ao2 (tabT u).length co2)
    generalize (((v5.setCell ⟨DB, 0, none⟩ (.int .i64 (t.w : Int))).setCell ⟨DB, 1, none⟩ (.slice ag2 (nw t.w) cg2)).setCell ⟨DB, 2, none⟩ (.slice ao2 (tabT u).length co2)) = v6 at *
    try simp only [Act.put, nzA, nzB, nzC]
    refine wpAnyH_done (by kernel_rfl) ?_ _
    go_wp2_with fail
    go_meet
    exact ⟨DA, DB, ag1, cg1, ao1, co1, ag2, cg2, ao2, co2, rfl, rfl, Lib.hid hJ⟩
   ·go_simp
    refine hK.out _ _ ?_ ?_
    ·exact Ext.alloc (show Ext No w1 _ from hHeld) _
    clear hK K hHeld
    intro hHeld
    replace hJ := hJ.allocA k1 k2 #[.int .i64 0, .slice none 0 0, .slice none 0 0]
    generalize (v1.alloc (.cells #[.int .i64 0, .slice none 0 0, .slice none 0 0] 62)) = v2 at *
    generalize v1.heap.size = DA at *
    have hDA := (hJ.boxA _ _ rfl).1
    try simp only [Act.put, nzA, nzB, nzC]
    refine held_next2 (i := 3) (j := 5) (by kernel_rfl) (NextOp.mk rfl rfl (fun K hK => ?_)) (NextOp.mk rfl rfl (fun K hK => ?_))
    ·(go_simp; go_at_call 23; (with_reducible refine (rtable_w (fun b => W.heap.size ≤ b ∧ b < v2.heap.size) u t.w _ _ _ _ HU.out (fun _ e => e.2) ((H2.out.mono (M' := (fun b => W.heap.size ≤ b ∧ b < v2.heap.size)) (fun i hi e => absurd hi (Nat.not_lt.2 e.1))).extNo (hx.out.transNo hJ.ext))).mono ?_); (rintro e2 v3 ⟨ag2, cg2, ao2, co2, rfl, hs2, hn2, hyA⟩); go_simp)
     refine hK.out _ _ ?_ ?_
     ·exact Ext.transNo (show Ext No w1 _ from hHeld) hyA
     clear hK K hHeld
     intro hHeld
     replace hJ := hJ.call2 k1 k2 (keeps_rowsN _ _ _ _ _ _) hyA ⟨hs2.out, fun b e => Nat.le_trans (hx.out.transNo hJ.ext).size (hn2 b e)⟩
     replace k2 := hJ.2
     replace hJ := hJ.1
     clear hyA hs2 hn2
     try simp only [Act.put, nzA, nzB, nzC]
     refine hHc 5 fun K hK => ?_
     go_simp
     refine hK.out _ _ ?_ ?_
     ·exact Ext.alloc (show Ext No w1 _ from hHeld) _
     clear hK K hHeld
     intro hHeld
     replace hJ := hJ.allocB k1 k2 #[.int .i64 0, .slice none 0 0, .slice none 0 0]
     generalize (v3.alloc (.cells #[.int .i64 0, .slice none 0 0, .slice none 0 0] 62)) = v4 at *
     generalize v3.heap.size = DB at *
     have hDB := (hJ.boxB _ _ rfl).1
     try simp only [Act.put, nzA, nzB, nzC]
     refine hHc 6 fun K hK => ?_
     ((obtain ⟨hb1, hb2⟩ := hJ.boxA _ _ rfl); (have cS := cellOf hb2); (have fS := freeOf hb2); (clear hb1 hb2); go_simp; (clear cS fS))
     refine hK.out _ _ ?_ ?_
     ·exact (show Ext No w1 _ from hHeld).trans2 (set3 _ _ _ _ _) (fun i hi e => by unfold At at e; omega)
     clear hK K hHeld
     intro hHeld
     replace hJ := hJ.storeA k1 k2 (.int .i64 (t.w : Int)) (.slice ag1 (nw t.w) cg1) (.slice ao1 (tabT t).length co1)
     generalize (((v4.setCell ⟨DA, 0, none⟩ (.int .i64 (t.w : Int))).setCell ⟨DA, 1, none⟩ (.slice ag1 (nw t.w) cg1)).setCell ⟨DA, 2, none⟩ (.slice ao1 (tabT t).length co1)) = v5 at *
     try simp only [Act.put, nzA, nzB, nzC]
     refine hHc 7 fun K hK => ?_
     ((obtain ⟨hb1, hb2⟩ := hJ.boxB _ _ rfl); (have cS := cellOf hb2); (have fS := freeOf hb2); (clear hb1 hb2); go_simp; (clear cS fS))
     refine hK.out _ _ ?_ ?_
     ·exact (show Ext No w1 _ from hHeld).trans2 (set3 _ _ _ _ _) (fun i hi e => by unfold At at e; omega)
     clear hK K hHeld
     intro hHeld
     replace hJ := hJ.storeB k1 k2 (.int .i64 (t.w : Int)) (.slice ag2 (nw t.w) cg2) (.slice ao2 (tabT u).length co2)
     generalize (((v5.setCell ⟨DB, 0, none⟩ (.int .i64 (t.w : Int))).setCell ⟨DB, 1, none⟩ (.slice ag2 (nw t.w) cg2)).setCell ⟨DB, 2, none⟩ (.slice ao2 (tabT u).length co2)) = v6 at *
     try simp only [Act.put, nzA, nzB, nzC]
     refine wpAnyH_done (by kernel_rfl) ?_ _
     go_wp2_with fail
     go_meet
     exact ⟨DA, DB, ag1, cg1, ao1, co1, ag2, cg2, ao2, co2, rfl, rfl, Lib.hid hJ⟩
    go_simp
    refine hK.out _ _ ?_ ?_
    ·exact Ext.alloc (show Ext No w1 _ from hHeld) _
    clear hK K hHeld
    intro hHeld
    replace hJ := hJ.allocB k1 k2 #[.int .i64 0, .slice none 0 0, .slice none 0 0]
    generalize (v2.alloc (.cells #[.int .i64 0, .slice none 0 0, .slice none 0 0] 62)) = v3 at *
    generalize v2.heap.size = DB at *
    have hDB := (hJ.boxB _ _ rfl).1
    try simp only [Act.put, nzA, nzB, nzC]
    refine hHc 3 fun K hK => ?_
    (go_simp; go_at_call 23; (with_reducible refine (rtable_w (fun b => W.heap.size ≤ b ∧ b < v3.heap.size) u t.w _ _ _ _ HU.out (fun _ e => e.2) ((H2.out.mono (M' := (fun b => W.heap.size ≤ b ∧ b < v3.heap.size)) (fun i hi e => absurd hi (Nat.not_lt.2 e.1))).extNo (hx.out.transNo hJ.ext))).mono ?_); (rintro e2 v4 ⟨ag2, cg2, ao2, co2, rfl, hs2, hn2, hyA⟩); go_simp)
    refine hK.out _ _ ?_ ?_
    ·exact Ext.transNo (show Ext No w1 _ from hHeld) hyA
    clear hK K hHeld
    intro hHeld
    replace hJ := hJ.call2 k1 k2 (keeps_rowsN _ _ _ _ _ _) hyA ⟨hs2.out, fun b e => Nat.le_trans (hx.out.transNo hJ.ext).size (hn2 b e)⟩
    replace k2 := hJ.2
    replace hJ := hJ.1
    clear hyA hs2 hn2
    try simp only [Act.put, nzA, nzB, nzC]
    refine hHc 6 fun K hK => ?_
    ((obtain ⟨hb1, hb2⟩ := hJ.boxA _ _ rfl); (have cS := cellOf hb2); (have fS := freeOf hb2); (clear hb1 hb2); go_simp; (clear cS fS))
    refine hK.out _ _ ?_ ?_
    ·exact (show Ext No w1 _ from hHeld).trans2 (set3 _ _ _ _ _) (fun i hi e => by unfold At at e; omega)
    clear hK K hHeld
    intro hHeld
    replace hJ := hJ.storeA k1 k2 (.int .i64 (t.w : Int)) (.slice ag1 (nw t.w) cg1) (.slice ao1 (tabT t).length co1)
    generalize (((v4.setCell ⟨DA, 0, none⟩ (.int .i64 (t.w : Int))).setCell ⟨DA, 1, none⟩ (.slice ag1 (nw t.w) cg1)).setCell ⟨DA, 2, none⟩ (.slice ao1 (tabT t).length co1)) = v5 at *
    try simp only [Act.put, nzA, nzB, nzC]
    refine hHc 7 fun K hK => ?_
    ((obtain ⟨hb1, hb2⟩ := hJ.boxB _ _ rfl); (have cS := cellOf hb2); (have fS := freeOf hb2); (clear hb1 hb2); go_simp; (clear cS fS))
    refine hK.out _ _ ?_ ?_
    ·exact (show Ext No w1 _ from hHeld).trans2 (set3 _ _ _ _ _) (fun i hi e => by unfold At at e; omega)
    clear hK K hHeld
    intro hHeld
    replace hJ := hJ.storeB k1 k2 (.int .i64 (t.w : Int)) (.slice ag2 (nw t.w) cg2) (.slice ao2 (tabT u).length co2)
    generalize (((v5.setCell ⟨DB, 0, none⟩ (.int .i64 (t.w : Int))).setCell ⟨DB, 1, none⟩ (.slice ag2 (nw t.w) cg2)).setCell ⟨DB, 2, none⟩ (.slice ao2 (tabT u).length co2)) = v6 at *
    try simp only [Act.put, nzA, nzB, nzC]
    refine wpAnyH_done (by kernel_rfl) ?_ _
    go_wp2_with fail
    go_meet
    exact ⟨DA, DB, ag1, cg1, ao1, co1, ag2, cg2, ao2, co2, rfl, rfl, Lib.hid hJ⟩
   go_simp
   refine hK.out _ _ ?_ ?_
   ·exact Ext.alloc (show Ext No w1 _ from hHeld) _
   clear hK K hHeld
   intro hHeld
   replace hJ := hJ.allocB k1 k2 #[.int .i64 0, .slice none 0 0, .slice none 0 0]
   generalize (v1.alloc (.cells #[.int .i64 0, .slice none 0 0, .slice none 0 0] 62)) = v2 at *
   generalize v1.heap.size = DB at *
   have hDB := (hJ.boxB _ _ rfl).1
   try simp only [Act.put, nzA, nzB, nzC]
   refine held_next2 (i := 3) (j := 4) (by kernel_rfl) (NextOp.mk rfl rfl (fun K hK => ?_)) (NextOp.mk rfl rfl (fun K hK => ?_))
   ·(go_simp; go_at_call 23; (with_reducible refine (rtable_w (fun b => W.heap.size ≤ b ∧ b < v2.heap.size) u t.w _ _ _ _ HU.out (fun _ e => e.2) ((H2.out.mono (M' := (fun b => W.heap.size ≤ b ∧ b < v2.heap.size)) (fun i hi e => absurd hi (Nat.not_lt.2 e.1))).extNo (hx.out.transNo hJ.ext))).mono ?_); (rintro e2 v3 ⟨ag2, cg2, ao2, co2, rfl, hs2, hn2, hyA⟩); go_simp)
    refine hK.out _ _ ?_ ?_
    ·exact Ext.transNo (show Ext No w1 _ from hHeld) hyA
    clear hK K hHeld
    intro hHeld
    replace hJ := hJ.call2 k1 k2 (keeps_rowsN _ _ _ _ _ _) hyA ⟨hs2.out, fun b e => Nat.le_trans (hx.out.transNo hJ.ext).size (hn2 b e)⟩
    replace k2 := hJ.2
    replace hJ := hJ.1
    clear hyA hs2 hn2
    try simp only [Act.put, nzA, nzB, nzC]
    refine hHc 4 fun K hK => ?_
    go_simp
    refine hK.out _ _ ?_ ?_
    ·exact Ext.alloc (show Ext No w1 _ from hHeld) _
    clear hK K hHeld
    intro hHeld
    replace hJ := hJ.allocA k1 k2 #[.int .i64 0, .slice none 0 0, .slice none 0 0]
    generalize (v3.alloc (.cells #[.int .i64 0, .slice none 0 0, .slice none 0 0] 62)) = v4 at *
    generalize v3.heap.size = DA at *
    have hDA := (hJ.boxA _ _ rfl).1
    try simp only [Act.put, nzA, nzB, nzC]
    refine hHc 6 fun K hK => ?_
    ((obtain ⟨hb1, hb2⟩ := hJ.boxA _ _ rfl); (have cS := cellOf hb2); (have fS := freeOf hb2); (clear hb1 hb2); go_simp; (clear cS fS))
    refine hK.out _ _ ?_ ?_
    ·exact (show Ext No w1 _ from hHeld).trans2 (set3 _ _ _ _ _) (fun i hi e => by unfold At at e; omega)
    clear hK K hHeld
    intro hHeld
    replace hJ := hJ.storeA k1 k2 (.int .i64 (t.w : Int)) (.slice ag1 (nw t.w) cg1) (.slice ao1 (tabT t).length co1)
    generalize (((v4.setCell ⟨DA, 0, none⟩ (.int .i64 (t.w : Int))).setCell ⟨DA, 1, none⟩ (.slice ag1 (nw t.w) cg1)).setCell ⟨DA, 2, none⟩ (.slice ao1 (tabT t).length co1)) = v5 at *
    try simp only [Act.put, nzA, nzB, nzC]
    refine hHc 7 fun K hK => ?_
    ((obtain ⟨hb1, hb2⟩ := hJ.boxB _ _ rfl); (have cS := cellOf hb2); (have fS := freeOf hb2); (clear hb1 hb2); go_simp; (clear cS fS))
    refine hK.out _ _ ?_ ?_
    ·exact (show Ext No w1 _ from hHeld).trans2 (set3 _ _ _ _ _) (fun i hi e => by unfold At at e; omega)
    clear hK K hHeld
    intro hHeld
    replace hJ := hJ.storeB k1 k2 (.int .i64 (t.w : Int)) (.slice ag2 (nw t.w) cg2) (.slice ao2 (tabT u).length co2)
    generalize (((v5.setCell ⟨DB, 0, none⟩ (.int .i64 (t.w : Int))).setCell ⟨DB, 1, none⟩ (.slice ag2 (nw t.w) cg2)).setCell ⟨DB, 2, none⟩ (.slice ao2 (tabT u).length co2)) = v6 at *
    try simp only [Act.put, nzA, nzB, nzC]
    refine wpAnyH_done (by kernel_rfl) ?_ _
    go_wp2_with fail
    go_meet
    exact ⟨DA, DB, ag1, cg1, ao1, co1, ag2, cg2, ao2, co2, rfl, rfl, Lib.hid hJ⟩
   go_simp
   refine hK.out _ _ ?_ ?_
   ·exact Ext.alloc (show Ext No w1 _ from hHeld) _
   clear hK K hHeld
   intro hHeld
   replace hJ := hJ.allocA k1 k2 #[.int .i64 0, .slice none 0 0, .slice none 0 0]
   generalize (v2.alloc (.cells #[.int .i64 0, .slice none 0 0, .slice none 0 0] 62)) = v3 at *
   generalize v2.heap.size = DA at *
   have hDA := (hJ.boxA _ _ rfl).1
   try simp only [Act.put, nzA, nzB, nzC]
   refine hHc 3 fun K hK => ?_
   (go_simp; go_at_call 23; (with_reducible refine (rtable_w (fun b => W.heap.size ≤ b ∧ b < v3.heap.size) u t.w _ _ _ _ HU.out (fun _ e => e.2) ((H2.out.mono (M' := (fun b => W.heap.size ≤ b ∧ b < v3.heap.size)) (fun i hi e => absurd hi (Nat.not_lt.2 e.1))).extNo (hx.out.transNo hJ.ext))).mono ?_); (rintro e2 v4 ⟨ag2, cg2, ao2, co2, rfl, hs2, hn2, hyA⟩); go_simp)
   refine hK.out _ _ ?_ ?_
   ·exact Ext.transNo (show Ext No w1 _ from hHeld) hyA
   clear hK K hHeld
   intro hHeld
   replace hJ := hJ.call2 k1 k2 (keeps_rowsN _ _ _ _ _ _) hyA ⟨hs2.out, fun b e => Nat.le_trans (hx.out.transNo hJ.ext).size (hn2 b e)⟩
   replace k2 := hJ.2
   replace hJ := hJ.1
   clear hyA hs2 hn2
   try simp only [Act.put, nzA, nzB, nzC]
   refine hHc 6 fun K hK => ?_
   ((obtain ⟨hb1, hb2⟩ := hJ.boxA _ _ rfl); (have cS := cellOf hb2); (have fS := freeOf hb2); (clear hb1 hb2); go_simp; (clear cS fS))
   refine hK.out _ _ ?_ ?_
   ·exact (show Ext No w1 _ from hHeld).trans2 (set3 _ _ _ _ _) (fun i hi e => by unfold At at e; omega)
   clear hK K hHeld
   intro hHeld
   replace hJ := hJ.storeA k1 k2 (.int .i64 (t.w : Int)) (.slice ag1 (nw t.w) cg1) (.slice ao1 (tabT t).length co1)
   generalize (((v4.setCell ⟨DA, 0, none⟩ (.int .i64 (t.w : Int))).setCell ⟨DA, 1, none⟩ (.slice ag1 (nw t.w) cg1)).setCell ⟨DA, 2, none⟩ (.slice ao1 (tabT t).length co1)) = v5 at *
   try simp only [Act.put, nzA, nzB, nzC]
   refine hHc 7 fun K hK => ?_
   ((obtain ⟨hb1, hb2⟩ := hJ.boxB _ _ rfl); (have cS := cellOf hb2); (have fS := freeOf hb2); (clear hb1 hb2); go_simp; (clear cS fS))
   refine hK.out _ _ ?_ ?_
   ·exact (show Ext No w1 _ from hHeld).trans2 (set3 _ _ _ _ _) (fun i hi e => by unfold At at e; omega)
   clear hK K hHeld
   intro hHeld
   replace hJ := hJ.storeB k1 k2 (.int .i64 (t.w : Int)) (.slice ag2 (nw t.w) cg2) (.slice ao2 (tabT u).length co2)
   generalize (((v5.setCell ⟨DB, 0, none⟩ (.int .i64 (t.w : Int))).setCell ⟨DB, 1, none⟩ (.slice ag2 (nw t.w) cg2)).setCell ⟨DB, 2, none⟩ (.slice ao2 (tabT u).length co2)) = v6 at *
   try simp only [Act.put, nzA, nzB, nzC]
   refine wpAnyH_done (by kernel_rfl) ?_ _
   go_wp2_with fail
   go_meet
   exact ⟨DA, DB, ag1, cg1, ao1, co1, ag2, cg2, ao2, co2, rfl, rfl, Lib.hid hJ⟩
  ·go_simp
   refine hK.out _ _ ?_ ?_
   ·exact Ext.alloc (show Ext No w1 _ from hHeld) _
   clear hK K hHeld
   intro hHeld
   replace hJ := hJ.allocA k1 k2 #[.int .i64 0, .slice none 0 0, .slice none 0 0]
   generalize (v0.alloc (.cells #[.int .i64 0, .slice none 0 0, .slice none 0 0] 62)) = v1 at *
   generalize v0.heap.size = DA at *
   have hDA := (hJ.boxA _ _ rfl).1
   try simp only [Act.put, nzA, nzB, nzC]
   refine held_next2 (i := 1) (j := 5) (by kernel_rfl) (NextOp.mk rfl rfl (fun K hK => ?_)) (NextOp.mk rfl rfl (fun K hK => ?_))
   ·(go_simp; go_at_call 23; (with_reducible refine (rtable_own (fun b => W.heap.size ≤ b ∧ b < v1.heap.size) t _ _ _ _ (fun _ e => e.2) ((H1.out.mono (M' := (fun b => W.heap.size ≤ b ∧ b < v1.heap.size)) (fun i hi e => absurd hi (Nat.not_lt.2 e.1))).extNo (hx.out.transNo hJ.ext))).mono ?_); (rintro e1 v2 ⟨ag1, cg1, ao1, co1, rfl, hs1, hn1, hyA⟩); go_simp)
    refine hK.out _ _ ?_ ?_
    ·exact Ext.transNo (show Ext No w1 _ from hHeld) hyA
    clear hK K hHeld
    intro hHeld
    replace hJ := hJ.call1 k1 k2 (keeps_rowsN _ _ _ _ _ _) hyA ⟨hs1.out, fun b e => Nat.le_trans (hx.out.transNo hJ.ext).size (hn1 b e)⟩ (fun b e => ⟨Nat.le_trans (hx.out.transNo hJ.ext).size (hn1 b e), hs1.out.ownLt b e⟩)
    replace k1 := hJ.2
    replace hJ := hJ.1
    clear hyA hs1 hn1
    try simp only [Act.put, nzA, nzB, nzC]
    refine held_next2 (i := 3) (j := 5) (by kernel_rfl) (NextOp.mk rfl rfl (fun K hK => ?_)) (NextOp.mk rfl rfl (fun K hK => ?_))
    ·(go_simp; go_at_call 23; (with_reducible refine (rtable_w (fun b => W.heap.size ≤ b ∧ b < v2.heap.size) u t.w _ _ _ _ HU.out (fun _ e => e.2) ((H2.out.mono (M' := (fun b => W.heap.size ≤ b ∧ b < v2.heap.size)) (fun i hi e => absurd hi (Nat.not_lt.2 e.1))).extNo (hx.out.transNo hJ.ext))).mono ?_); (rintro e2 v3 ⟨ag2, cg2, ao2, co2, rfl, hs2, hn2, hyA⟩); go_simp)
     refine hK.out _ _ ?_ ?_
     ·exact Ext.transNo (show Ext No w1 _ from hHeld) hyA
     clear hK K hHeld
     intro hHeld
     replace hJ := hJ.call2 k1 k2 (keeps_rowsN _ _ _ _ _ _) hyA ⟨hs2.out, fun b e => Nat.le_trans (hx.out.transNo hJ.ext).size (hn2 b e)⟩
     replace k2 := hJ.2
     replace hJ := hJ.1
     clear hyA hs2 hn2
     try simp only [Act.put, nzA, nzB, nzC]
     refine hHc 5 fun K hK => ?_
     go_simp
     refine hK.out _ _ ?_ ?_
     ·exact Ext.alloc (show Ext No w1 _ from hHeld) _
     clear hK K hHeld
     intro hHeld
     replace hJ := hJ.allocB k1 k2 #[.int .i64 0, .slice none 0 0, .slice none 0 0]
     generalize (v3.alloc (.cells #[.int .i64 0, .slice none 0 0, .slice none 0 0] 62)) = v4 at *
     generalize v3.heap.size = DB at *
     have hDB := (hJ.boxB _ _ rfl).1
     try simp only [Act.put, nzA, nzB, nzC]
     refine hHc 6 fun K hK => ?_
     ((obtain ⟨hb1, hb2⟩ := hJ.boxA _ _ rfl); (have cS := cellOf hb2); (have fS := freeOf hb2); (clear hb1 hb2); go_simp; (clear cS fS))
     refine hK.out _ _ ?_ ?_
     ·exact (show Ext No w1 _ from hHeld).trans2 (set3 _ _ _ _ _) (fun i hi e => by unfold At at e; omega)
     clear hK K hHeld
     intro hHeld
     replace hJ := hJ.storeA k1 k2 (.int .i64 (t.w : Int)) (.slice ag1 (nw t.w) cg1) (.slice ao1 (tabT t).length co1)
     generalize (((v4.setCell ⟨DA, 0, none⟩ (.int .i64 (t.w : Int))).setCell ⟨DA, 1, none⟩ (.slice ag1 (nw t.w) cg1)).setCell ⟨DA, 2, none⟩ (.slice ao1 (tabT t).length co1)) = v5 at *
     try simp only [Act.put, nzA, nzB, nzC]
     refine hHc 7 fun K hK => ?_
     ((obtain ⟨hb1, hb2⟩ := hJ.boxB _ _ rfl); (have cS := cellOf hb2); (have fS := freeOf hb2); (clear hb1 hb2); go_simp; (clear cS fS))
     refine hK.out _ _ ?_ ?_
     ·exact (show Ext No w1 _ from hHeld).trans2 (set3 _ _ _ _ _) (fun i hi e => by unfold At at e; omega)
     clear hK K hHeld
     intro hHeld
     replace hJ := hJ.storeB k1 k2 (.int .i64 (t.w : Int)) (.slice ag2 (nw t.w) cg2) (.slice ao2 (tabT u).length co2)
     generalize (((v5.setCell ⟨DB, 0, none⟩ (.int .i64 (t.w : Int))).setCell ⟨DB, 1, none⟩ (.slice ag2 (nw t.w) cg2)).setCell ⟨DB, 2, none⟩ (.slice ao2 (tabT u).length co2)) = v6 at *
     try simp only [Act.put, nzA, nzB, nzC]
     refine wpAnyH_done (by kernel_rfl) ?_ _
     go_wp2_with fail
     go_meet
     exact ⟨DA, DB, ag1, cg1, ao1, co1, ag2, cg2, ao2, co2, rfl, rfl, Lib.hid hJ⟩
    go_simp
    refine hK.out _ _ ?_ ?_
    ·exact Ext.alloc (show Ext No w1 _ from hHeld) _
    clear hK K hHeld
    intro hHeld
    replace hJ := hJ.allocB k1 k2 #[.int .i64 0, .slice none 0 0, .slice none 0 0]
    generalize (v2.alloc (.cells #[.int .i64 0, .slice none 0 0, .slice none 0 0] 62)) = v3 at *
    generalize v2.heap.size = DB at *
    have hDB := (hJ.boxB _ _ rfl).1
    try simp only [Act.put, nzA, nzB, nzC]
    refine hHc 3 fun K hK => ?_
    (go_simp; go_at_call 23; (with_reducible refine (rtable_w (fun b => W.heap.size ≤ b ∧ b < v3.heap.size) u t.w _ _ _ _ HU.out (fun _ e => e.2) ((H2.out.mono (M' := (fun b => W.heap.size ≤ b ∧ b < v3.heap.size)) (fun i hi e => absurd hi (Nat.not_lt.2 e.1))).extNo (hx.out.transNo hJ.ext))).mono ?_); (rintro e2 v4 ⟨ag2, cg2, ao2, co2, rfl, hs2, hn2, hyA⟩); go_simp)
    refine hK.out _ _ ?_ ?_
    ·exact Ext.transNo (show Ext No w1 _ from hHeld) hyA
    clear hK K hHeld
    intro hHeld
    replace hJ := hJ.call2 k1 k2 (keeps_rowsN _ _ _ _ _ _) hyA ⟨hs2.out, fun b e => Nat.le_trans (hx.out.transNo hJ.ext).size (hn2 b e)⟩
    replace k2 := hJ.2
    replace hJ := hJ.1
    clear hyA hs2 hn2
    try simp only [Act.put, nzA, nzB, nzC]
    refine hHc 6 fun K hK => ?_
    ((obtain ⟨hb1, hb2⟩ := hJ.boxA _ _ rfl); (have cS := cellOf hb2); (have fS := freeOf hb2); (clear hb1 hb2); go_simp; (clear cS fS))
    refine hK.out _ _ ?_ ?_
    ·exact (show Ext No w1 _ from hHeld).trans2 (set3 _ _ _ _ _) (fun i hi e => by unfold At at e; omega)
    clear hK K hHeld
    intro hHeld
    replace hJ := hJ.storeA k1 k2 (.int .i64 (t.w : Int)) (.slice ag1 (nw t.w) cg1) (.slice ao1 (tabT t).length co1)
    generalize (((v4.setCell ⟨DA, 0, none⟩ (.int .i64 (t.w : Int))).setCell ⟨DA, 1, none⟩ (.slice ag1 (nw t.w) cg1)).setCell ⟨DA, 2, none⟩ (.slice ao1 (tabT t).length co1)) = v5 at *
    try simp only [Act.put, nzA, nzB, nzC]
    refine hHc 7 fun K hK => ?_
    ((obtain ⟨hb1, hb2⟩ := hJ.boxB _ _ rfl); (have cS := cellOf hb2); (have fS := freeOf hb2); (clear hb1 hb2); go_simp; (clear cS fS))
    refine hK.out _ _ ?_ ?_
    ·exact (show Ext No w1 _ from hHeld).trans2 (set3 _ _ _ _ _) (fun i hi e => by unfold At at e; omega)
    clear hK K hHeld
    intro hHeld
    replace hJ := hJ.storeB k1 k2 (.int .i64 (t.w : Int)) (.slice ag2 (nw t.w) cg2) (.slice ao2 (tabT u).length co2)
    generalize (((v5.setCell ⟨DB, 0, none⟩ (.int .i64 (t.w : Int))).setCell ⟨DB, 1, none⟩ (.slice ag2 (nw t.w) cg2)).setCell ⟨DB, 2, none⟩ (.slice ao2 (tabT u).length co2)) = v6 at *
    try simp only [Act.put, nzA, nzB, nzC]
    refine wpAnyH_done (by kernel_rfl) ?_ _
    go_wp2_with fail
    go_meet
    exact ⟨DA, DB, ag1, cg1, ao1, co1, ag2, cg2, ao2, co2, rfl, rfl, Lib.hid hJ⟩
   go_simp
   refine hK.out _ _ ?_ ?_
   ·exact Ext.alloc (show Ext No w1 _ from hHeld) _
   clear hK K hHeld
   intro hHeld
   replace hJ := hJ.allocB k1 k2 #[.int .i64 0, .slice none 0 0, .slice none 0 0]
   generalize (v1.alloc (.cells #[.int .i64 0, .slice none 0 0, .slice none 0 0] 62)) = v2 at *
   generalize v1.heap.size = DB at *
   have hDB := (hJ.boxB _ _ rfl).1
   try simp only [Act.put, nzA, nzB, nzC]
   refine hHc 1 fun K hK => ?_
   (go_simp; go_at_call 23; (with_reducible refine (rtable_own (fun b => W.heap.size ≤ b ∧ b < v2.heap.size) t _ _ _ _ (fun _ e => e.2) ((H1.out.mono (M' := (fun b => W.heap.size ≤ b ∧ b < v2.heap.size)) (fun i hi e => absurd hi (Nat.not_lt.2 e.1))).extNo (hx.out.transNo hJ.ext))).mono ?_); (rintro e1 v3 ⟨ag1, cg1, ao1, co1, rfl, hs1, hn1, hyA⟩); go_simp)
   refine hK.out _ _ ?_ ?_
   ·exact Ext.transNo (show Ext No w1 _ from hHeld) hyA
   clear hK K hHeld
   intro hHeld
   replace hJ := hJ.call1 k1 k2 (keeps_rowsN _ _ _ _ _ _) hyA ⟨hs1.out, fun b e => Nat.le_trans (hx.out.transNo hJ.ext).size (hn1 b e)⟩ (fun b e => ⟨Nat.le_trans (hx.out.transNo hJ.ext).size (hn1 b e), hs1.out.ownLt b e⟩)
   replace k1 := hJ.2
   replace hJ := hJ.1
   clear hyA hs1 hn1
   try simp only [Act.put, nzA, nzB, nzC]
   refine hHc 3 fun K hK => ?_
   (go_simp; go_at_call 23; (with_reducible refine (rtable_w (fun b => W.heap.size ≤ b ∧ b < v3.heap.size) u t.w _ _ _ _ HU.out (fun _ e => e.2) ((H2.out.mono (M' := (fun b => W.heap.size ≤ b ∧ b < v3.heap.size)) (fun i hi e => absurd hi (Nat.not_lt.2 e.1))).extNo (hx.out.transNo hJ.ext))).mono ?_); (rintro e2 v4 ⟨ag2, cg2, ao2, co2, rfl, hs2, hn2, hyA⟩); go_simp)
   refine hK.out _ _ ?_ ?_
   ·exact Ext.transNo (show Ext No w1 _ from hHeld) hyA
   clear hK K hHeld
   intro hHeld
   replace hJ := hJ.call2 k1 k2 (keeps_rowsN _ _ _ _ _ _) hyA ⟨hs2.out, fun b e => Nat.le_trans (hx.out.transNo hJ.ext).size (hn2 b e)⟩
   replace k2 := hJ.2
   replace hJ := hJ.1
   clear hyA hs2 hn2
   try simp only [Act.put, nzA, nzB, nzC]
   refine hHc 6 fun K hK => ?_
   ((obtain ⟨hb1, hb2⟩ := hJ.boxA _ _ rfl); (have cS := cellOf hb2); (have fS := freeOf hb2); (clear hb1 hb2); go_simp; (clear cS fS))
   refine hK.out _ _ ?_ ?_
   ·exact (show Ext No w1 _ from hHeld).trans2 (set3 _ _ _ _ _) (fun i hi e => by unfold At at e; omega)
   clear hK K hHeld
   intro hHeld
   replace hJ := hJ.storeA k1 k2 (.int .i64 (t.w : Int)) (.slice ag1 (nw t.w) cg1) (.slice ao1 (tabT t).length co1)
   generalize (((v4.setCell ⟨DA, 0, none⟩ (.int .i64 (t.w : Int))).setCell ⟨DA, 1, none⟩ (.slice ag1 (nw t.w) cg1)).setCell ⟨DA, 2, none⟩ (.slice ao1 (tabT t).length co1)) = v5 at *
   try simp only [Act.put, nzA, nzB, nzC]
   refine hHc 7 fun K hK => ?_
   ((obtain ⟨hb1, hb2⟩ := hJ.boxB _ _ rfl); (have cS := cellOf hb2); (have fS := freeOf hb2); (clear hb1 hb2); go_simp; (clear cS fS))
   refine hK.out _ _ ?_ ?_
   ·exact (show Ext No w1 _ from hHeld).trans2 (set3 _ _ _ _ _) (fun i hi e => by unfold At at e; omega)
   clear hK K hHeld
   intro hHeld
   replace hJ := hJ.storeB k1 k2 (.int .i64 (t.w : Int)) (.slice ag2 (nw t.w) cg2) (.slice ao2 (tabT u).length co2)
   generalize (((v5.setCell ⟨DB, 0, none⟩ (.int .i64 (t.w : Int))).setCell ⟨DB, 1, none⟩ (.slice ag2 (nw t.w) cg2)).setCell ⟨DB, 2, none⟩ (.slice ao2 (tabT u).length co2)) = v6 at *
   try simp only [Act.put, nzA, nzB, nzC]
   refine wpAnyH_done (by kernel_rfl) ?_ _
   go_wp2_with fail
   go_meet
   exact ⟨DA, DB, ag1, cg1, ao1, co1, ag2, cg2, ao2, co2, rfl, rfl, Lib.hid hJ⟩
  go_simp
  refine hK.out _ _ ?_ ?_
  ·exact Ext.alloc (show Ext No w1 _ from hHeld) _
  clear hK K hHeld
  intro hHeld
  replace hJ := hJ.allocB k1 k2 #[.int .i64 0, .slice none 0 0, .slice none 0 0]
  generalize (v0.alloc (.cells #[.int .i64 0, .slice none 0 0, .slice none 0 0] 62)) = v1 at *
  generalize v0.heap.size = DB at *
  have hDB := (hJ.boxB _ _ rfl).1
  try simp only [Act.put, nzA, nzB, nzC]
  refine held_next2 (i := 1) (j := 4) (by kernel_rfl) (NextOp.mk rfl rfl (fun K hK => ?_)) (NextOp.mk rfl rfl (fun K hK => ?_))
  ·(go_simp; go_at_call 23; (with_reducible refine (rtable_own (fun b => W.heap.size ≤ b ∧ b < v1.heap.size) t _ _ _ _ (fun _ e => e.2) ((H1.out.mono (M' := (fun b => W.heap.size ≤ b ∧ b < v1.heap.size)) (fun i hi e => absurd hi (Nat.not_lt.2 e.1))).extNo (hx.out.transNo hJ.ext))).mono ?_); (rintro e1 v2 ⟨ag1, cg1, ao1, co1, rfl, hs1, hn1, hyA⟩); go_simp)
   refine hK.out _ _ ?_ ?_
   ·exact Ext.transNo (show Ext No w1 _ from hHeld) hyA
   clear hK K hHeld
   intro hHeld
   replace hJ := hJ.call1 k1 k2 (keeps_rowsN _ _ _ _ _ _) hyA ⟨hs1.out, fun b e => Nat.le_trans (hx.out.transNo hJ.ext).size (hn1 b e)⟩ (fun b e => ⟨Nat.le_trans (hx.out.transNo hJ.ext).size (hn1 b e), hs1.out.ownLt b e⟩)
   replace k1 := hJ.2
   replace hJ := hJ.1
   clear hyA hs1 hn1
   try simp only [Act.put, nzA, nzB, nzC]
   refine held_next2 (i := 3) (j := 4) (by kernel_rfl) (NextOp.mk rfl rfl (fun K hK => ?_)) (NextOp.mk rfl rfl (fun K hK => ?_))
   ·(go_simp; go_at_call 23; (with_reducible refine (rtable_w (fun b => W.heap.size ≤ b ∧ b < v2.heap.size) u t.w _ _ _ _ HU.out (fun _ e => e.2) ((H2.out.mono (M' := (fun b => W.heap.size ≤ b ∧ b < v2.heap.size)) (fun i hi e => absurd hi (Nat.not_lt.2 e.1))).extNo (hx.out.transNo hJ.ext))).mono ?_); (rintro e2 v3 ⟨ag2, cg2, ao2, co2, rfl, hs2, hn2, hyA⟩); go_simp)
    refine hK.out _ _ ?_ ?_
    ·exact Ext.transNo (show Ext No w1 _ from hHeld) hyA
    clear hK K hHeld
    intro hHeld
    replace hJ := hJ.call2 k1 k2 (keeps_rowsN _ _ _ _ _ _) hyA ⟨hs2.out, fun b e => Nat.le_trans (hx.out.transNo hJ.ext).size (hn2 b e)⟩
    replace k2 := hJ.2
    replace hJ := hJ.1
    clear hyA hs2 hn2
    try simp only [Act.put, nzA, nzB, nzC]
    refine hHc 4 fun K hK => ?_
    go_simp
    refine hK.out _ _ ?_ ?_
    ·exact Ext.alloc (show Ext No w1 _ from hHeld) _
    clear hK K hHeld
    intro hHeld
    replace hJ := hJ.allocA k1 k2 #[.int .i64 0, .slice none 0 0, .slice none 0 0]
    generalize (v3.alloc (.cells #[.int .i64 0, .slice none 0 0, .slice none 0 0] 62)) = v4 at *
    generalize v3.heap.size = DA at *
    have hDA := (hJ.boxA _ _ rfl).1
    try simp only [Act.put, nzA, nzB, nzC]
    refine hHc 6 fun K hK => ?_
    ((obtain ⟨hb1, hb2⟩ := hJ.boxA _ _ rfl); (have cS := cellOf hb2); (have fS := freeOf hb2); (clear hb1 hb2); go_simp; (clear cS fS))
    refine hK.out _ _ ?_ ?_
    ·exact (show Ext No w1 _ from hHeld).trans2 (set3 _ _ _ _ _) (fun i hi e => by unfold At at e; omega)
    clear hK K hHeld
    intro hHeld
    replace hJ := hJ.storeA k1 k2 (.int .i64 (t.w : Int)) (.slice ag1 (nw t.w) cg1) (.slice ao1 (tabT t).length co1)
    generalize (((v4.setCell ⟨DA, 0, none⟩ (.int .i64 (t.w : Int))).setCell ⟨DA, 1, none⟩ (.slice ag1 (nw t.w) cg1)).setCell ⟨DA, 2, none⟩ (.slice ao1 (tabT t).length co1)) = v5 at *
    try simp only [Act.put, nzA, nzB, nzC]
    refine hHc 7 fun K hK => ?_
    ((obtain ⟨hb1, hb2⟩ := hJ.boxB _ _ rfl); (have cS := cellOf hb2); (have fS := freeOf hb2); (clear hb1 hb2); go_simp; (clear cS fS))
    refine hK.out _ _ ?_ ?_
    ·exact (show Ext No w1 _ from hHeld).trans2 (set3 _ _ _ _ _) (fun i hi e => by unfold At at e; omega)
    clear hK K hHeld
    intro hHeld
    replace hJ := hJ.storeB k1 k2 (.int .i64 (t.w : Int)) (.slice ag2 (nw t.w) cg2) (.slice ao2 (tabT u).length co2)
    generalize (((v5.setCell ⟨DB, 0, none⟩ (.int .i64 (t.w : Int))).setCell ⟨DB, 1, none⟩ (.slice ag2 (nw t.w) cg2)).setCell ⟨DB, 2, none⟩ (.slice ao2 (tabT u).length co2)) = v6 at *
    try simp only [Act.put, nzA, nzB, nzC]
    refine wpAnyH_done (by kernel_rfl) ?_ _
    go_wp2_with fail
    go_meet
    exact ⟨DA, DB, ag1, cg1, ao1, co1, ag2, cg2, ao2, co2, rfl, rfl, Lib.hid hJ⟩
   go_simp
   refine hK.out _ _ ?_ ?_
   ·exact Ext.alloc (show Ext No w1 _ from hHeld) _
   clear hK K hHeld
   intro hHeld
   replace hJ := hJ.allocA k1 k2 #[.int .i64 0, .slice none 0 0, .slice none 0 0]
   generalize (v2.alloc (.cells #[.int .i64 0, .slice none 0 0, .slice none 0 0] 62)) = v3 at *
   generalize v2.heap.size = DA at *
   have hDA := (hJ.boxA _ _ rfl).1
   try simp only [Act.put, nzA, nzB, nzC]
   refine hHc 3 fun K hK => ?_
   (go_simp; go_at_call 23; (with_reducible refine (rtable_w (fun b => W.heap.size ≤ b ∧ b < v3.heap.size) u t.w _ _ _ _ HU.out (fun _ e => e.2) ((H2.out.mono (M' := (fun b => W.heap.size ≤ b ∧ b < v3.heap.size)) (fun i hi e => absurd hi (Nat.not_lt.2 e.1))).extNo (hx.out.transNo hJ.ext))).mono ?_); (rintro e2 v4 ⟨ag2, cg2, ao2, co2, rfl, hs2, hn2, hyA⟩); go_simp)
   refine hK.out _ _ ?_ ?_
   ·exact Ext.transNo (show Ext No w1 _ from hHeld) hyA
   clear hK K hHeld
   intro hHeld
   replace hJ := hJ.call2 k1 k2 (keeps_rowsN _ _ _ _ _ _) hyA ⟨hs2.out, fun b e => Nat.le_trans (hx.out.transNo hJ.ext).size (hn2 b e)⟩
   replace k2 := hJ.2
   replace hJ := hJ.1
   clear hyA hs2 hn2
   try simp only [Act.put, nzA, nzB, nzC]
   refine hHc 6 fun K hK => ?_
   ((obtain ⟨hb1, hb2⟩ := hJ.boxA _ _ rfl); (have cS := cellOf hb2); (have fS := freeOf hb2); (clear hb1 hb2); go_simp; (clear cS fS))
   refine hK.out _ _ ?_ ?_
   ·exact (show Ext No w1 _ from hHeld).trans2 (set3 _ _ _ _ _) (fun i hi e => by unfold At at e; omega)
   clear hK K hHeld
   intro hHeld
   replace hJ := hJ.storeA k1 k2 (.int .i64 (t.w : Int)) (.slice ag1 (nw t.w) cg1) (.slice ao1 (tabT t).length co1)
   generalize (((v4.setCell ⟨DA, 0, none⟩ (.int .i64 (t.w : Int))).setCell ⟨DA, 1, none⟩ (.slice ag1 (nw t.w) cg1)).setCell ⟨DA, 2, none⟩ (.slice ao1 (tabT t).length co1)) = v5 at *
   try simp only [Act.put, nzA, nzB, nzC]
   refine hHc 7 fun K hK => ?_
   ((obtain ⟨hb1, hb2⟩ := hJ.boxB _ _ rfl); (have cS := cellOf hb2); (have fS := freeOf hb2); (clear hb1 hb2); go_simp; (clear cS fS))
   refine hK.out _ _ ?_ ?_
   ·exact (show Ext No w1 _ from hHeld).trans2 (set3 _ _ _ _ _) (fun i hi e => by unfold At at e; omega)
   clear hK K hHeld
   intro hHeld
   replace hJ := hJ.storeB k1 k2 (.int .i64 (t.w : Int)) (.slice ag2 (nw t.w) cg2) (.slice ao2 (tabT u).length co2)
   generalize (((v5.setCell ⟨DB, 0, none⟩ (.int .i64 (t.w : Int))).setCell ⟨DB, 1, none⟩ (.slice ag2 (nw t.w) cg2)).setCell ⟨DB, 2, none⟩ (.slice ao2 (tabT u).length co2)) = v6 at *
   try simp only [Act.put, nzA, nzB, nzC]
   refine wpAnyH_done (by kernel_rfl) ?_ _
   go_wp2_with fail
   go_meet
   exact ⟨DA, DB, ag1, cg1, ao1, co1, ag2, cg2, ao2, co2, rfl, rfl, Lib.hid hJ⟩
  go_simp
  refine hK.out _ _ ?_ ?_
  ·exact Ext.alloc (show Ext No w1 _ from hHeld) _
  clear hK K hHeld
  intro hHeld
  replace hJ := hJ.allocA k1 k2 #[.int .i64 0, .slice none 0 0, .slice none 0 0]
  generalize (v1.alloc (.cells #[.int .i64 0, .slice none 0 0, .slice none 0 0] 62)) = v2 at *
  generalize v1.heap.size = DA at *
  have hDA := (hJ.boxA _ _ rfl).1
  try simp only [Act.put, nzA, nzB, nzC]
  refine hHc 1 fun K hK => ?_
  (go_simp; go_at_call 23; (with_reducible refine (rtable_own (fun b => W.heap.size ≤ b ∧ b < v2.heap.size) t _ _ _ _ (fun _ e => e.2) ((H1.out.mono (M' := (fun b => W.heap.size ≤ b ∧ b < v2.heap.size)) (fun i hi e => absurd hi (Nat.not_lt.2 e.1))).extNo (hx.out.transNo hJ.ext))).mono ?_); (rintro e1 v3 ⟨ag1, cg1, ao1, co1, rfl, hs1, hn1, hyA⟩); go_simp)
  refine hK.out _ _ ?_ ?_
  ·exact Ext.transNo (show Ext No w1 _ from hHeld) hyA
  clear hK K hHeld
  intro hHeld
  replace hJ := hJ.call1 k1 k2 (keeps_rowsN _ _ _ _ _ _) hyA ⟨hs1.out, fun b e => Nat.le_trans (hx.out.transNo hJ.ext).size (hn1 b e)⟩ (fun b e => ⟨Nat.le_trans (hx.out.transNo hJ.ext).size (hn1 b e), hs1.out.ownLt b e⟩)
  replace k1 := hJ.2
  replace hJ := hJ.1
  clear hyA hs1 hn1
  try simp only [Act.put, nzA, nzB, nzC]
  refine hHc 3 fun K hK => ?_
  (go_simp; go_at_call 23; (with_reducible refine (rtable_w (fun b => W.heap.size ≤ b ∧ b < v3.heap.size) u t.w _ _ _ _ HU.out (fun _ e => e.2) ((H2.out.mono (M' := (fun b => W.heap.size ≤ b ∧ b < v3.heap.size)) (fun i hi e => absurd hi (Nat.not_lt.2 e.1))).extNo (hx.out.transNo hJ.ext))).mono ?_); (rintro e2 v4 ⟨ag2, cg2, ao2, co2, rfl, hs2, hn2, hyA⟩); go_simp)
  refine hK.out _ _ ?_ ?_
  ·exact Ext.transNo (show Ext No w1 _ from hHeld) hyA
  clear hK K hHeld
  intro hHeld
  replace hJ := hJ.call2 k1 k2 (keeps_rowsN _ _ _ _ _ _) hyA ⟨hs2.out, fun b e => Nat.le_trans (hx.out.transNo hJ.ext).size (hn2 b e)⟩
  replace k2 := hJ.2
  replace hJ := hJ.1
  clear hyA hs2 hn2
  try simp only [Act.put, nzA, nzB, nzC]
  refine hHc 6 fun K hK => ?_
  ((obtain ⟨hb1, hb2⟩ := hJ.boxA _ _ rfl); (have cS := cellOf hb2); (have fS := freeOf hb2); (clear hb1 hb2); go_simp; (clear cS fS))
  refine hK.out _ _ ?_ ?_
  ·exact (show Ext No w1 _ from hHeld).trans2 (set3 _ _ _ _ _) (fun i hi e => by unfold At at e; omega)
  clear hK K hHeld
  intro hHeld
  replace hJ := hJ.storeA k1 k2 (.int .i64 (t.w : Int)) (.slice ag1 (nw t.w) cg1) (.slice ao1 (tabT t).length co1)
  generalize (((v4.setCell ⟨DA, 0, none⟩ (.int .i64 (t.w : Int))).setCell ⟨DA, 1, none⟩ (.slice ag1 (nw t.w) cg1)).setCell ⟨DA, 2, none⟩ (.slice ao1 (tabT t).length co1)) = v5 at *
  try simp only [Act.put, nzA, nzB, nzC]
  refine hHc 7 fun K hK => ?_
  ((obtain ⟨hb1, hb2⟩ := hJ.boxB _ _ rfl); (have cS := cellOf hb2); (have fS := freeOf hb2); (clear hb1 hb2); go_simp; (clear cS fS))
  refine hK.out _ _ ?_ ?_
  ·exact (show Ext No w1 _ from hHeld).trans2 (set3 _ _ _ _ _) (fun i hi e => by unfold At at e; omega)
  clear hK K hHeld
  intro hHeld
  replace hJ := hJ.storeB k1 k2 (.int .i64 (t.w : Int)) (.slice ag2 (nw t.w) cg2) (.slice ao2 (tabT u).length co2)
  generalize (((v5.setCell ⟨DB, 0, none⟩ (.int .i64 (t.w : Int))).setCell ⟨DB, 1, none⟩ (.slice ag2 (nw t.w) cg2)).setCell ⟨DB, 2, none⟩ (.slice ao2 (tabT u).length co2)) = v6 at *
  try simp only [Act.put, nzA, nzB, nzC]
  refine wpAnyH_done (by kernel_rfl) ?_ _
  go_wp2_with fail
  go_meet
  exact ⟨DA, DB, ag1, cg1, ao1, co1, ag2, cg2, ao2, co2, rfl, rfl, Lib.hid hJ⟩
 case rest =>
  obtain ⟨D1, D2, a1, c1, b1, d1, a2, c2, b2, d2, rfl, rfl, hJ⟩ := hcut
  rename World => V
  have hm := Lib.hid (JtM.start hx.out HC.out hJ.out rfl)
  have HL1 : Hid ((tabT t).length = t.w) := Lib.hid (tabTo_len _ _)
  have HL2 : Hid ((tabT u).length = t.w) := Lib.hid (by rw [show (tabT u).length = u.w from tabTo_len _ _, HU.out])
  clear hJ HA HB HC hx H1 H2 HU
  have cD1 := cellOf hm.out.box1
  have cD2 := cellOf hm.out.r2.1
  go_wp2_with fail
  refine (rimage_any (fun b => (No b ∨ b = W.heap.size + 2 ∨ b = D1) ∨ (Value.slice b1 (tabT t).length d1).ownBlock = some b) t.w u.gen t.gen (tabT u) _ _ _ _ (hm.out.hM HM.out) (hm.out.r2.2.2.set.mono (fun i _ e => by rcases e with (e | e | e) | e; exact e.elim; exact .inl e; exact .inr (.inl e); exact .inr (.inr e))) hm.out.r2.2.2.sets.no HL2.out hm.out.rows.set.no).mono ?_
  rintro e3 w3 ⟨a3, c3, rfl, hs3, hx3⟩
  have hm3 := Lib.hid (hm.out.stepNo (keeps_tab _ _ _ _ _ _) hx3)
  clear hm hx3 cD1 cD2
  have cD1 := cellOf hm3.out.box1
  have fD1 := freeOf hm3.out.box1
  have hm4 := Lib.hid (hm3.out.putG (keeps_tab _ _ _ _ _ _) hs3.out)
  have cD4 := cellOf hm4.out.box1
  clear hm3 hs3
  go_wp2_with fail
  clear cD1 fD1 cD4
  generalize ((w3.setCell ⟨D1, 0, none⟩ (.int .i64 (t.w : Int))).setCell ⟨D1, 1, none⟩ (.slice a3 (nw t.w) c3)) = W4 at *
  obtain ⟨f, HF⟩ : ∃ f : Nat → Nat, Hid (f = fun i => orN u.gen (imgN (tabT u) t.w (rowAt (tabT t) i))) := ⟨_, Lib.hid rfl⟩
  have hm5 := Lib.hid (show JtM No W W4 t.w (orN u.gen (imgN (tabT u) t.w t.gen)) (updTo (tabT t) f 0) D1 _ _ _ from by rw [updTo_zero]; exact hm4.out)
  have hRL : (tabT t).length ≤ 256 := by have := HL1.out; omega
  clear hm4
  go_loopw [9] (fun i wr => ∃ k : Nat, k ≤ (tabT t).length ∧ i = .int .i64 k ∧ Hid (JtM No W wr t.w (orN u.gen (imgN (tabT u) t.w t.gen)) (updTo (tabT t) f k) D1 (.slice a3 (nw t.w) c3) (.slice b1 (tabT t).length d1) (BoxTab D2 t.w u.gen (tabT u) (.slice a2 (nw t.w) c2) (.slice b2 (tabT u).length d2)))) (fun i _ => (tabT t).length - (intOf i).toNat)
  case atStart => exact ⟨0, Nat.zero_le _, rfl, hm5⟩
  clear hm5
  obtain ⟨k, hk, rfl, hm⟩ := hrel
  rename World => wr
  have hpos : (0 : Int) ≤ (k : Int) := by omega
  by_cases hlt : k < (tabT t).length
  ·have HKK : Hid (Value.int .i64 ((k : Int) + 1) = .int .i64 ((k + 1 : Nat) : Int)) := Lib.hid (by rw [show ((k + 1 : Nat) : Int) = (k : Int) + 1 from by omega])
   have hlt2 : k < (tabT u).length := by have h1 := HL1.out; have h2 := HL2.out; omega
   have hltu : k < (updTo (tabT t) f k).length := by rw [updTo_len]; exact hlt
   obtain ⟨gg, ae, ce, hge, hn1, hgl, hfr, z0, z1, hse⟩ := hm.out.rows.at hltu
   obtain ⟨hh, be, de, hhe, hn2, hhl, _, y0, y1, hsf⟩ := hm.out.r2.2.2.at hlt2
   subst hge
   subst hhe
   clear hn1 hn2
   obtain ⟨m1, hm1⟩ : ∃ m1, m1 = (updTo (tabT t) f k)[k] := ⟨_, rfl⟩
   obtain ⟨m2, hm2⟩ : ∃ m2, m2 = (tabT u)[k] := ⟨_, rfl⟩
   rw [← hm1] at hse
   rw [← hm2] at hsf
   have HST : Hid (updTo (tabT t) f (k + 1) = (updTo (tabT t) f k).set k (orN u.gen (imgN (tabT u) t.w m1))) := Lib.hid (by rw [updTo_succ hlt, hm1, updTo_at _ _ _ hlt hltu, HF.out]; simp only [rowAt_get hlt, rowAt_get hlt2])
   clear hm1 hm2
   have HFR := Lib.hid hfr
   have HZ := Lib.hid (And.intro z0 z1)
   have HY := Lib.hid (And.intro y0 y1)
   have HB1 := Lib.hid hm.out.box1
   have HB2 := Lib.hid hm.out.r2.1
   have cB1 := cellOf hm.out.box1
   have hlz : (k : Int) < ((tabT t).length : Int) := by omega
   have hlz2 : (k : Int) < ((tabT u).length : Int) := by omega
   have HGL := Lib.hid hgl
   have HMS := Lib.hid (hm.out.hM HM.out)
   have HGU := Lib.hid (show SetAt (fun b => (No b ∨ b = W.heap.size + 2 ∨ b = D1) ∨ b = gg) wr (.slice a2 (nw t.w) c2) t.w u.gen from hm.out.r2.2.2.set.mono (fun i _ e => by rcases e with (e | e | e) | e; exact e.elim; exact .inl e; exact .inr (.inl e); exact .inr (.inr (by rw [e]; rfl))))
   have HSU := Lib.hid hm.out.r2.2.2.sets.no
   clear hfr hgl hhl z0 z1 y0 y1
   go_upto_region 9 with (fail)
   clear cB1
   refine wp_region_heldL [11] (fun w' => Ext No wr w') (by kernel_rfl) ?_ (fun hHeld => ?_)
   ·exact (Ext.refl _ _).drew
   have HE := Lib.hid (show Ext No wr wr.drew from (Ext.refl _ _).drew)
   generalize wr.drew = v0 at *
   refine hHs [0] (hHl hHeld ?_)
   clear hHeld
   refine hFn ?_ (fun w => ?_) ?_
   rotate_left
   ·go_simp; (try with_reducible rfl)
   simp only [Act.put, nzA, nzB, nzC]
   refine hHe fun hHeld => ?_
   refine hHs [1] (hHl hHeld ?_)
   clear hHeld
   refine hHn ?_ (fun w hSw => ?_) ?_
   rotate_left
   ·(have hEs : Ext No wr _ := hSw); (have q0 := cellOf (hEs.blk HB1.out no_no)); go_simp; (try with_reducible rfl)
   simp only [Act.put, nzA, nzB, nzC]
   refine hHe fun hHeld => ?_
   refine hHs [2] (hHl hHeld ?_)
   clear hHeld
   refine hFn ?_ (fun w => ?_) ?_
   rotate_left
   ·go_simp; (try with_reducible rfl)
   simp only [Act.put, nzA, nzB, nzC]
   refine hHe fun hHeld => ?_
   refine hHs [3] (hHl hHeld ?_)
   clear hHeld
   refine hHn ?_ (fun w hSw => ?_) ?_
   rotate_left
   ·(have hEs : Ext No wr _ := hSw); (have q0 := cellOf (hEs.blk HB2.out no_no)); go_simp; (try with_reducible rfl)
   simp only [Act.put, nzA, nzB, nzC]
   refine hHe fun hHeld => ?_
   refine hHs [4] (hHl hHeld ?_)
   clear hHeld
   refine hFn ?_ (fun w => ?_) ?_
   rotate_left
   ·go_simp; (try with_reducible rfl)
   simp only [Act.put, nzA, nzB, nzC]
   refine hHe fun hHeld => ?_
   refine hHs [5] (hHl hHeld ?_)
   clear hHeld
   refine hHn ?_ (fun w hSw => ?_) ?_
   rotate_left
   ·(have hEs : Ext No wr _ := hSw); (have q0 := cellOf (hEs.blk HB1.out no_no)); go_simp; (try with_reducible rfl)
   simp only [Act.put, nzA, nzB, nzC]
   refine hHe fun hHeld => ?_
   refine hHs [6, 7] (hHl hHeld ?_)
   clear hHeld
   iterate 2
    refine hFn ?_ (fun w => ?_) ?_
    rotate_left
    ·go_simp; (try with_reducible rfl)
    simp only [Act.put, nzA, nzB, nzC]
   refine hHe fun hHeld => ?_
   refine hHs [8] (hHl hHeld ?_)
   clear hHeld
   refine hHn ?_ (fun w hSw => ?_) ?_
   rotate_left
   ·(have hEs : Ext No wr _ := hSw); (have q0 := hEs.keep HZ.out.1); (have q1 := hEs.keep HZ.out.2); go_simp; (try with_reducible rfl)
   simp only [Act.put, nzA, nzB, nzC]
   refine hHe fun hHeld => ?_
   refine heldL_next1 (i := 9) (by kernel_rfl) (NextL.mk rfl rfl (fun K hK => ?_))
   (go_simp; go_at_call 24; (with_reducible refine (rimage_any (fun b => (No b ∨ b = W.heap.size + 2 ∨ b = D1) ∨ b = gg) t.w u.gen m1 (tabT u) _ _ _ _ (fun b hb => Nat.lt_of_lt_of_le (HMS.out b (by rcases hb with hb | rfl; exact .inl hb; exact .inr rfl)) HE.out.size) (HGU.out.extNo HE.out) (HSU.out.extNo HE.out) HL2.out (hse.out.no.extNo HE.out)).mono ?_); (rintro e3 v1 ⟨a4, c4, rfl, hs4, hyA⟩); go_simp)
   refine hK.out _ _ ?_ ?_
   ·intro _; exact HE.out.transNo hyA
   clear hK K hHeld
   intro hHeld
   replace HE := Lib.hid (HE.out.transNo hyA)
   clear hyA
   try simp only [Act.put, nzA, nzB, nzC]
   refine hHs [10] (hHl hHeld ?_)
   clear hHeld
   refine hFn ?_ (fun w => ?_) ?_
   rotate_left
   ·go_simp; (try with_reducible rfl)
   simp only [Act.put, nzA, nzB, nzC]
   refine hHe fun hHeld => ?_
   refine heldL_next1 (i := 11) (by kernel_rfl) (NextL.mk rfl rfl (fun K hK => ?_))
   ((have z3 := HE.out.keep HZ.out.1); (have z4 := HE.out.keep HZ.out.2); (have f3 := (HE.out.frozen (p := ⟨gg, k * 2, none⟩) HGL.out no_no).trans (HFR.out (k * 2))); (have f4 := (HE.out.frozen (p := ⟨gg, k * 2 + 1, none⟩) HGL.out no_no).trans (HFR.out (k * 2 + 1))); go_simp; (clear z3 z4 f3 f4))
   refine hK.out _ _ ?_ ?_
   ·exact fun h => absurd h (by decide)
   clear hK K hHeld
   intro hHeld
   have hput := (hm.out.stepNo (keeps_tab _ _ _ _ _ _) HE.out).putR (updTo_len _ _ _).symm (keeps_tab _ _ _ _ _ _) (i := k) (m := (orN u.gen (imgN (tabT u) t.w m1))) (sl := .slice a4 (nw t.w) c4) hltu hs4.out
   rw [← HST.out] at hput
   have hput2 := Lib.hid hput
   clear hput
   generalize ((v1.setCell ⟨gg, k * 2, none⟩ (.int .i64 (t.w : Int))).setCell ⟨gg, k * 2 + 1, none⟩ (.slice a4 (nw t.w) c4)) = v9 at *
   try simp only [Act.put, nzA, nzB, nzC]
   refine heldL_done (by kernel_rfl) ?_ _
   go_wp2_with fail
   go_roundw
   case rel => exact ⟨k + 1, by omega, HKK.out, hput2⟩
   case measure => simp [intOf]; omega
  obtain rfl : k = (tabT t).length := by omega
  have HJR : Hid (updTo (tabT t) f (tabT t).length = (compTab t.w u.gen (tabT t) (tabT u))) := Lib.hid (by unfold compTab; rw [HF.out])
  rw [HJR.out] at hm
  have cD1 := cellOf hm.out.box1
  go_wp2_with fail
  have hlj : (compTab t.w u.gen (tabT t) (tabT u)).length = (tabT t).length := updTo_len _ _ _
  have HR := Lib.hid hm.out.rows.sets.no
  refine (rmade_any (fun b => No b ∨ b = W.heap.size + 2) t.w (orN u.gen (imgN (tabT u) t.w t.gen)) (compTab t.w u.gen (tabT t) (tabT u)) _ _ _ (fun b hb => hm.out.hM HM.out b (.inl (by rcases hb with hb | hb; exact .inl hb; exact .inr (.inl hb)))) (hm.out.rows.set.mono (fun i _ e => by rcases e with e | e; exact .inl e; exact .inr (.inl e))) HR.out (by rw [hlj]; exact HL1.out)).mono ?_
  rintro e6 w6 hpost
  have hxf := hm.out.ext
  have hC6 : ∀ (w' : World), Ext No wr w' → w'.heap[W.heap.size + 2]? = some (.cells #[.int .i64 0, .slice none 0 0, .int .i64 0, .slice none 0 0, .slice none 0 0] 30 (0, 0)) := fun w' hx => hx.blk hm.out.boxC no_no
  have HXF := Lib.hid hxf
  have HC6 := Lib.hid hC6
  clear hxf hC6 hm HR cD1 hlj
  by_cases hc : (copTo t.w (orN u.gen (imgN (tabT u) t.w t.gen)) (compTab t.w u.gen (tabT t) (tabT u)) t.w).length ≤ 64
  ·have hp1 := hpost.1 hc
   generalize htr : closeT t.w (orN u.gen (imgN (tabT u) t.w t.gen)) (compTab t.w u.gen (tabT t) (tabT u)) = tr at hp1
   obtain ⟨fg, eg, fk, ek, fc, ec, rfl, hTr, hx6⟩ := hp1
   have hCb := HC6.out _ hx6
   have cC := cellOf hCb
   have fC := freeOf hCb
   have HCb := Lib.hid hCb
   have HTR := Lib.hid htr
   clear hpost hCb htr
   go_wp2_with fail
   have hfin := BoxR.fin5 ⟨_, rfl, HCb.out⟩ (.int .i64 (tr.w : Int)) (.slice fg (nw tr.w) eg) (.int .i64 (tr.w : Int)) (.slice fk (nw tr.w) ek) (.slice fc tr.copies.length ec)
   have hE := set5 w6 (W.heap.size + 2) (.int .i64 (tr.w : Int)) (.slice fg (nw tr.w) eg) (.int .i64 (tr.w : Int)) (.slice fk (nw tr.w) ek) (.slice fc tr.copies.length ec)
   clear cC fC
   generalize (((((w6.setCell ⟨W.heap.size + 2, 0, none⟩ (.int .i64 (tr.w : Int))).setCell ⟨W.heap.size + 2, 1, none⟩ (.slice fg (nw tr.w) eg)).setCell ⟨W.heap.size + 2, 2, none⟩ (.int .i64 (tr.w : Int))).setCell ⟨W.heap.size + 2, 3, none⟩ (.slice fk (nw tr.w) ek)).setCell ⟨W.heap.size + 2, 4, none⟩ (.slice fc tr.copies.length ec)) = WF at *
   have cF := cellOf hfin
   refine ret_ex rfl ?_
   simp [results, Tryd.results8, go_sem, cF]
   refine ⟨fun _ => ?_, fun h => absurd hc (by omega)⟩
   rw [HTR.out]
   exact ⟨fg, eg, fk, ek, fc, ec, rfl, Lib.hid ((hTr.out.ext hE (fun i _ e => .inr e)).mono (fun i _ e => .inl e)), (HXF.out.transNo hx6).trans2 hE (fun i hi e => by unfold At at e; omega)⟩
  obtain ⟨rfl, hx6⟩ := hpost.2 (by omega)
  have hCb := HC6.out _ hx6
  have cC := cellOf hCb
  have fC := freeOf hCb
  have HCb := Lib.hid hCb
  clear hpost hCb
  go_wp2_with fail
  have hfin := BoxR.fin5 ⟨_, rfl, HCb.out⟩ (.int .i64 0) (.slice none 0 0) (.int .i64 0) (.slice none 0 0) (.slice none 0 0)
  have hE := set5 w6 (W.heap.size + 2) (.int .i64 0) (.slice none 0 0) (.int .i64 0) (.slice none 0 0) (.slice none 0 0)
  clear cC fC
  generalize (((((w6.setCell ⟨W.heap.size + 2, 0, none⟩ (.int .i64 0)).setCell ⟨W.heap.size + 2, 1, none⟩ (.slice none 0 0)).setCell ⟨W.heap.size + 2, 2, none⟩ (.int .i64 0)).setCell ⟨W.heap.size + 2, 3, none⟩ (.slice none 0 0)).setCell ⟨W.heap.size + 2, 4, none⟩ (.slice none 0 0)) = WF at *
  have cF := cellOf hfin
  refine ret_ex rfl ?_
  simp [results, Tryd.results8, go_sem, cF]
  exact ⟨fun h => absurd h hc, fun _ => ⟨rfl, (HXF.out.transNo hx6).trans2 hE (fun i hi e => by unfold At at e; omega)⟩⟩

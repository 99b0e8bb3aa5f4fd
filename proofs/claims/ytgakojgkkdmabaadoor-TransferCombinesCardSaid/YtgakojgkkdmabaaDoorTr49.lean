/- transfer: Below, Same. -/
import Derived.Test.YtgakojgkkdmabaaDoorTr46
set_option linter.unusedVariables false
set_option linter.unusedSimpArgs false
namespace Go.Proofs.YtgakojgkkdmabaaDoor
open Go Go.RowKit
def belowTo (t u : TrD) : Nat → Bool
 | 0 => true
 | k + 1 => belowTo t u k && subN (rowAt (rowsN t t.w t.copies.length) k) (orN (rowAt (rowsN u t.w u.copies.length) k) u.gen)
def belowB (t u : TrD) : Bool := subN t.gen u.gen && belowTo t u t.w
theorem belowTo_iff {t u : TrD} : ∀ k, belowTo t u k = true ↔ ∀ a, a < k → subN (rowAt (rowsN t t.w t.copies.length) a) (orN (rowAt (rowsN u t.w u.copies.length) a) u.gen) = true
 | 0 => ⟨fun _ a h => absurd h (Nat.not_lt_zero a), fun _ => rfl⟩
 | k + 1 => by
  rw [belowTo, Bool.and_eq_true, belowTo_iff k]
  constructor
  ·rintro ⟨h1, h2⟩ a ha
   by_cases e : a = k
   ·rw [e]; exact h2
   ·exact h1 a (by omega)
  ·intro h
   exact ⟨fun a ha => h a (by omega), h k (by omega)⟩
structure BelM (W wr : World) (w g2 : Nat) (rs1 rs2 : List Nat) (D1 D2 : Nat) (s1 o1 s2 o2 : Value) : Prop where
 ext : Ext No W wr
 box1 : wr.heap[D1]? = some (.cells #[.int .i64 (w : Int), s1, o1] 70 (0, 0))
 box2 : wr.heap[D2]? = some (.cells #[.int .i64 (w : Int), s2, o2] 70 (0, 0))
 r1 : SetsV No wr o1 w rs1
 g2 : SetAt No wr s2 w g2
 r2 : SetsV No wr o2 w rs2
theorem BelM.stepNo {W wr w' : World} {w g2 : Nat} {rs1 rs2 : List Nat} {D1 D2 : Nat} {s1 o1 s2 o2 : Value} (h : BelM W wr w g2 rs1 rs2 D1 D2 s1 o1 s2 o2) (hx : Ext No wr w') : BelM W w' w g2 rs1 rs2 D1 D2 s1 o1 s2 o2 :=
 ⟨h.ext.transNo hx, hx.blk h.box1 no_no, hx.blk h.box2 no_no, h.r1.extNo hx, h.g2.extNo hx, h.r2.extNo hx⟩
set_option maxRecDepth 100000 in
set_option maxHeartbeats 16000000 in
theorem below_any (M : Nat → Prop) (t u : TrD) (g1 k1 c1 g2 k2 c2 : Value) (W : World) (hM : ∀ b, M b → b < W.heap.size) (hT : TabW W) (h1 : TrAt No W g1 k1 c1 t) (h2 : TrAt No W g2 k2 c2 u) (hu : u.w = t.w) :
  Calls Tryd.prog 34 #[.agg #[.int .i64 (t.w : Int), g1, .int .i64 (t.w : Int), k1, c1], .agg #[.int .i64 (t.w : Int), g2, .int .i64 (t.w : Int), k2, c2]] W (BoolPost (belowB t u) W) := by
 have H1 := Lib.hid h1
 have H2 := Lib.hid h2
 have HM := Lib.hid hM
 have HT := Lib.hid hT
 have HU := Lib.hid hu
 have hgu := h2.gen.slice
 have hku := h2.kill.slice
 rw [hu] at hgu hku
 obtain ⟨ag, cg, rfl⟩ := h1.gen.slice
 obtain ⟨ak, ck, rfl⟩ := h1.kill.slice
 obtain ⟨ac, cc, rfl⟩ := Row.slice h1.copies
 obtain ⟨bg, dg, rfl⟩ := hgu
 obtain ⟨bk, dk, rfl⟩ := hku
 obtain ⟨bc, dc, rfl⟩ := Row.slice h2.copies
 have hw := h1.ok.w
 clear h1 h2 hM hT hu
 go_enter Tryd.func34, Tryd.ntmps34
 go_wp2_with fail
 have hx0 : Ext No W ((W.alloc (.cells #[.int .i64 (t.w : Int), .slice ag (nw t.w) cg, .int .i64 (t.w : Int), .slice ak (nw t.w) ck, .slice ac t.copies.length cc] 28)).alloc (.cells #[.int .i64 (t.w : Int), .slice bg (nw t.w) dg, .int .i64 (t.w : Int), .slice bk (nw t.w) dk, .slice bc u.copies.length dc] 28)) := (((Ext.refl _ _).alloc _).alloc _)
 have hA : ((W.alloc (.cells #[.int .i64 (t.w : Int), .slice ag (nw t.w) cg, .int .i64 (t.w : Int), .slice ak (nw t.w) ck, .slice ac t.copies.length cc] 28)).alloc (.cells #[.int .i64 (t.w : Int), .slice bg (nw t.w) dg, .int .i64 (t.w : Int), .slice bk (nw t.w) dk, .slice bc u.copies.length dc] 28)).heap[W.heap.size]? = some (.cells #[.int .i64 (t.w : Int), .slice ag (nw t.w) cg, .int .i64 (t.w : Int), .slice ak (nw t.w) ck, .slice ac t.copies.length cc] 28 (0, 0)) := alloc_under (alloc_top rfl)
 have hB : ((W.alloc (.cells #[.int .i64 (t.w : Int), .slice ag (nw t.w) cg, .int .i64 (t.w : Int), .slice ak (nw t.w) ck, .slice ac t.copies.length cc] 28)).alloc (.cells #[.int .i64 (t.w : Int), .slice bg (nw t.w) dg, .int .i64 (t.w : Int), .slice bk (nw t.w) dk, .slice bc u.copies.length dc] 28)).heap[W.heap.size + 1]? = some (.cells #[.int .i64 (t.w : Int), .slice bg (nw t.w) dg, .int .i64 (t.w : Int), .slice bk (nw t.w) dk, .slice bc u.copies.length dc] 28 (0, 0)) := alloc_top (by simp)
 generalize ((W.alloc (.cells #[.int .i64 (t.w : Int), .slice ag (nw t.w) cg, .int .i64 (t.w : Int), .slice ak (nw t.w) ck, .slice ac t.copies.length cc] 28)).alloc (.cells #[.int .i64 (t.w : Int), .slice bg (nw t.w) dg, .int .i64 (t.w : Int), .slice bk (nw t.w) dk, .slice bc u.copies.length dc] 28)) = W2 at *
 refine (matching_eq t u _ _ _ _ _ _ _ HU.out (H1.out.extNo hx0) (H2.out.extNo hx0)).mono ?_
 rintro e0 w0 ⟨rfl, hx1⟩
 have cA := cellOf (hx1.blk hA no_no)
 have cB := cellOf (hx1.blk hB no_no)
 go_wp2_with fail
 have hx2 := hx0.transNo hx1
 refine (subset_any t.w t.gen u.gen _ _ _ (H1.out.extNo hx2).gen (HU.out ▸ (H2.out.extNo hx2).gen)).mono ?_
 rintro e1 w1 ⟨he1, hx3⟩
 have hx := Lib.hid (hx2.transNo hx3)
 have HA := Lib.hid (hx3.blk (hx1.blk hA no_no) no_no)
 have HB := Lib.hid (hx3.blk (hx1.blk hB no_no) no_no)
 have H1w := Lib.hid (H1.out.extNo hx.out)
 have H2w := Lib.hid (H2.out.extNo hx.out)
 have HTw := Lib.hid (HT.out.ext hx.out)
 have HO1 := Lib.hid H1.out.ok
 have HO2 := Lib.hid H2.out.ok
 clear hx0 hx1 hA hB cA cB hx2 hx3
 cases hb : subN t.gen u.gen
 ·rw [hb] at he1
  subst he1
  have e : belowB t u = false := by simp [belowB, hb]
  clear hb
  go_wp2_with fail
  go_ret
  rw [e]
  exact ⟨rfl, hx.out⟩
 rw [hb] at he1
 subst he1
 have HG := Lib.hid hb
 clear hb
 have cA := cellOf HA.out
 have cB := cellOf HB.out
 go_wp2_with fail
 clear cA cB
 go_cut [5, 6] (fun s7 s8 wx => TwoOpen 70 w1 wx t.w t.gen (rowsN t t.w t.copies.length) u.gen (rowsN u t.w u.copies.length) s7 s8)
 case first =>
  have hlB : W.heap.size + 1 < w1.heap.size := lt_of_block HB.out
  refine wp_region_held_drew (S := (fun w' => Ext No w1 w')) (by kernel_rfl) ?_ (fun hHeld => ?_)
  ·exact (Ext.refl _ _).drew
  have hJ := TwoB.start (fun _ _ => True) (fun _ _ => True) 70 ((Ext.refl No w1).drew)
  have k1 := keeps_true
  have k2 := keeps_true
  generalize w1.drew = v0 at *
  refine hTk (i := 0) (v := ?_) hHeld (fun w hSw => ?_) ?_
  rotate_left
  ·(have hEs : Ext No w1 _ := hSw); (have x0 := cellOf (hEs.blk HA.out no_no)); go_simp; (try with_reducible rfl)
  try simp only [Act.put, nzA, nzB, nzC]
  refine hTk (i := 2) (v := ?_) hHeld (fun w hSw => ?_) ?_
  rotate_left
  ·(have hEs : Ext No w1 _ := hSw); (have x0 := cellOf (hEs.blk HB.out no_no)); go_simp; (try with_reducible rfl)
  try simp only [Act.put, nzA, nzB, nzC]
  refine held_next3 (i := 1) (j := 4) (k := 5) (by kernel_rfl) (NextOp.mk rfl rfl (fun K hK => ?_)) (NextOp.mk rfl rfl (fun K hK => ?_)) (NextOp.mk rfl rfl (fun K hK => ?_))
  ·(go_simp; go_at_call 52; (with_reducible refine (open_lo t _ _ _ _ (H1w.out.extNo hJ.ext)).mono ?_); (rintro e1 v1 ⟨ag1, cg1, ao1, co1, rfl, hs1, hyA⟩); go_simp)
   refine hK.out _ _ ?_ ?_
   ·exact Ext.transNo (show Ext No w1 _ from hHeld) hyA
   clear hK K hHeld
   intro hHeld
   replace hJ := hJ.call1 k1 k2 (keeps_rows _ _ _ _ _) hyA hs1.out hs1.out.ownLt
   replace k1 := hJ.2
   replace hJ := hJ.1
   clear hyA hs1
   try simp only [Act.put, nzA, nzB, nzC]
   refine held_next3 (i := 3) (j := 4) (k := 5) (by kernel_rfl) (NextOp.mk rfl rfl (fun K hK => ?_)) (NextOp.mk rfl rfl (fun K hK => ?_)) (NextOp.mk rfl rfl (fun K hK => ?_))
   ·(go_simp; go_at_call 52; (with_reducible refine (open_lo2 u t.w _ _ _ _ HU.out (H2w.out.extNo hJ.ext)).mono ?_); (rintro e2 v2 ⟨ag2, cg2, ao2, co2, rfl, hs2, hyA⟩); go_simp)
    refine hK.out _ _ ?_ ?_
    ·exact Ext.transNo (show Ext No w1 _ from hHeld) hyA
    clear hK K hHeld
    intro hHeld
    replace hJ := hJ.call2 k1 k2 (keeps_rows _ _ _ _ _) hyA hs2.out
    replace k2 := hJ.2
    replace hJ := hJ.1
    clear hyA hs2
    try simp only [Act.put, nzA, nzB, nzC]
    refine held_next2 (i := 4) (j := 5) (by kernel_rfl) (NextOp.mk rfl rfl (fun K hK => ?_)) (NextOp.mk rfl rfl (fun K hK => ?_))
    ·go_simp
     refine hK.out _ _ ?_ ?_
     ·exact Ext.alloc (show Ext No w1 _ from hHeld) _
     clear hK K hHeld
     intro hHeld
     replace hJ := hJ.allocA k1 k2 #[.int .i64 0, .slice none 0 0, .slice none 0 0]
     generalize (v2.alloc (.cells #[.int .i64 0, .slice none 0 0, .slice none 0 0] 70)) = v3 at *
     generalize v2.heap.size = DA at *
     have hDA := (hJ.boxA _ _ rfl).1
     try simp only [Act.put, nzA, nzB, nzC]
     refine held_call (i := 5) rfl (by kernel_rfl) rfl (fun K hK => ?_)
     go_simp
     refine hK.out _ _ ?_ ?_
     ·exact Ext.alloc (show Ext No w1 _ from hHeld) _
     clear hK K hHeld
     intro hHeld
     replace hJ := hJ.allocB k1 k2 #[.int .i64 0, .slice none 0 0, .slice none 0 0]
     generalize (v3.alloc (.cells #[.int .i64 0, .slice none 0 0, .slice none 0 0] 70)) = v4 at *
     generalize v3.heap.size = DB at *
     have hDB := (hJ.boxB _ _ rfl).1
     try simp only [Act.put, nzA, nzB, nzC]
     refine held_call (i := 6) rfl (by kernel_rfl) rfl (fun K hK => ?_)
     ((obtain ⟨hb1, hb2⟩ := hJ.boxA _ _ rfl); (have cS := cellOf hb2); (have fS := freeOf hb2); (clear hb1 hb2); go_simp; (clear cS fS))
     refine hK.out _ _ ?_ ?_
     ·exact (show Ext No w1 _ from hHeld).trans2 (set3 _ _ _ _ _) (fun i hi e => by unfold At at e; omega)
     clear hK K hHeld
     intro hHeld
     replace hJ := hJ.storeA k1 k2 (.int .i64 (t.w : Int)) (.slice ag1 (nw t.w) cg1) (.slice ao1 (rowsN t t.w t.copies.length).length co1)
     generalize (((v4.setCell ⟨DA, 0, none⟩ (.int .i64 (t.w : Int))).setCell ⟨DA, 1, none⟩ (.slice ag1 (nw t.w) cg1)).setCell ⟨DA, 2, none⟩ (.slice ao1 (rowsN t t.w t.copies.length).length co1)) = v5 at *
     try simp only [Act.put, nzA, nzB, nzC]
     refine held_call (i := 7) rfl (by kernel_rfl) rfl (fun K hK => ?_)
     ((obtain ⟨hb1, hb2⟩ := hJ.boxB _ _ rfl); (have cS := cellOf hb2); (have fS := freeOf hb2); (clear hb1 hb2); go_simp; (clear cS fS))
     refine hK.out _ _ ?_ ?_
     ·exact (show Ext No w1 _ from hHeld).trans2 (set3 _ _ _ _ _) (fun i hi e => by unfold At at e; omega)
     clear hK K hHeld
     intro hHeld
     replace hJ := hJ.storeB k1 k2 (.int .i64 (t.w : Int)) (.slice ag2 (nw t.w) cg2) (.slice ao2 (rowsN u t.w u.copies.length).length co2)
     generalize (((v5.setCell ⟨DB, 0, none⟩ (.int .i64 (t.w : Int))).setCell ⟨DB, 1, none⟩ (.slice ag2 (nw t.w) cg2)).setCell ⟨DB, 2, none⟩ (.slice ao2 (rowsN u t.w u.copies.length).length co2)) = v6 at *
     try simp only [Act.put, nzA, nzB, nzC]
     refine wpAnyH_done (by kernel_rfl) ?_ _
     go_wp2_with fail
     go_meet
     exact ⟨DA, DB, ag1, cg1, ao1, co1, ag2, cg2, ao2, co2, rfl, rfl, Lib.hid hJ⟩
    ·go_simp
     refine hK.out _ _ ?_ ?_
     ·exact Ext.alloc (show Ext No w1 _ from hHeld) _
     clear hK K hHeld
     intro hHeld
     replace hJ := hJ.allocB k1 k2 #[.int .i64 0, .slice none 0 0, .slice none 0 0]
     generalize (v2.alloc (.cells #[.int .i64 0, .slice none 0 0, .slice none 0 0] 70)) = v3 at *
     generalize v2.heap.size = DB at *
     have hDB := (hJ.boxB _ _ rfl).1
     try simp only [Act.put, nzA, nzB, nzC]
     refine held_call (i := 4) rfl (by kernel_rfl) rfl (fun K hK => ?_)
     go_simp
     refine hK.out _ _ ?_ ?_
     ·exact Ext.alloc (show Ext No w1 _ from hHeld) _
     clear hK K hHeld
     intro hHeld
     replace hJ := hJ.allocA k1 k2 #[.int .i64 0, .slice none 0 0, .slice none 0 0]
     generalize (v3.alloc (.cells #[.int .i64 0, .slice none 0 0, .slice none 0 0] 70)) = v4 at *
     generalize v3.heap.size = DA at *
     have hDA := (hJ.boxA _ _ rfl).1
     try simp only [Act.put, nzA, nzB, nzC]
     refine held_call (i := 6) rfl (by kernel_rfl) rfl (fun K hK => ?_)
     ((obtain ⟨hb1, hb2⟩ := hJ.boxA _ _ rfl); (have cS := cellOf hb2); (have fS := freeOf hb2); (clear hb1 hb2); go_simp; (clear cS fS))
     refine hK.out _ _ ?_ ?_
     ·exact (show Ext No w1 _ from hHeld).trans2 (set3 _ _ _ _ _) (fun i hi e => by unfold At at e; omega)
     clear hK K hHeld
     intro hHeld
     replace hJ := hJ.storeA k1 k2 (.int .i64 (t.w : Int)) (.slice ag1 (nw t.w) cg1) (.slice ao1 (rowsN t t.w t.copies.length).length co1)
     generalize (((v4.setCell ⟨DA, 0, none⟩ (.int .i64 (t.w : Int))).setCell ⟨DA, 1, none⟩ (.slice ag1 (nw t.w) cg1)).setCell ⟨DA, 2, none⟩ (.slice ao1 (rowsN t t.w t.copies.length).length co1)) = v5 at *
     try simp only [Act.put, nzA, nzB, nzC]
     refine held_call (i := 7) rfl (by kernel_rfl) rfl (fun K hK => ?_)
     ((obtain ⟨hb1, hb2⟩ := hJ.boxB _ _ rfl); (have cS := cellOf hb2); (have fS := freeOf hb2); (clear hb1 hb2); go_simp; (clear cS fS))
     refine hK.out _ _ ?_ ?_
     ·exact (show Ext No w1 _ from hHeld).trans2 (set3 _ _ _ _ _) (fun i hi e => by unfold At at e; omega)
     clear hK K hHeld
     intro hHeld
     replace hJ := hJ.storeB k1 k2 (.int .i64 (t.w : Int)) (.slice ag2 (nw t.w) cg2) (.slice ao2 (rowsN u t.w u.copies.length).length co2)
     generalize (((v5.setCell ⟨DB, 0, none⟩ (.int .i64 (t.w : Int))).setCell ⟨DB, 1, none⟩ (.slice ag2 (nw t.w) cg2)).setCell ⟨DB, 2, none⟩ (.slice ao2 (rowsN u t.w u.copies.length).length co2)) = v6 at *
     try simp only [Act.put, nzA, nzB, nzC]
     refine wpAnyH_done (by kernel_rfl) ?_ _
     go_wp2_with fail
     go_meet
     exact ⟨DA, DB, ag1, cg1, ao1, co1, ag2, cg2, ao2, co2, rfl, rfl, Lib.hid hJ⟩
   ·go_simp
    refine hK.out _ _ ?_ ?_
    ·exact Ext.alloc (show Ext No w1 _ from hHeld) _
    clear hK K hHeld
    intro hHeld
    replace hJ := hJ.allocA k1 k2 #[.int .i64 0, .slice none 0 0, .slice none 0 0]
    generalize (v1.alloc (.cells #[.int .i64 0, .slice none 0 0, .slice none 0 0] 70)) = v2 at *
    generalize v1.heap.size = DA at *
    have hDA := (hJ.boxA _ _ rfl).1
    try simp only [Act.put, nzA, nzB, nzC]
    refine held_next2 (i := 3) (j := 5) (by kernel_rfl) (NextOp.mk rfl rfl (fun K hK => ?_)) (NextOp.mk rfl rfl (fun K hK => ?_))
    ·(go_simp; go_at_call 52; (with_reducible refine (open_lo2 u t.w _ _ _ _ HU.out (H2w.out.extNo hJ.ext)).mono ?_); (rintro e2 v3 ⟨ag2, cg2, ao2, co2, rfl, hs2, hyA⟩); go_simp)
     refine hK.out _ _ ?_ ?_
     ·exact Ext.transNo (show Ext No w1 _ from hHeld) hyA
     clear hK K hHeld
     intro hHeld
     replace hJ := hJ.call2 k1 k2 (keeps_rows _ _ _ _ _) hyA hs2.out
     replace k2 := hJ.2
     replace hJ := hJ.1
     clear hyA hs2
     try simp only [Act.put, nzA, nzB, nzC]
     refine held_call (i := 5) rfl (by kernel_rfl) rfl (fun K hK => ?_)
     go_simp
     refine hK.out _ _ ?_ ?_
     ·exact Ext.alloc (show Ext No w1 _ from hHeld) _
     clear hK K hHeld
     intro hHeld
     replace hJ := hJ.allocB k1 k2 #[.int .i64 0, .slice none 0 0, .slice none 0 0]
     generalize (v3.alloc (.cells #[.int .i64 0, .slice none 0 0, .slice none 0 0] 70)) = v4 at *
     generalize v3.heap.size = DB at *
     have hDB := (hJ.boxB _ _ rfl).1
     try simp only [Act.put, nzA, nzB, nzC]
     refine held_call (i := 6) rfl (by kernel_rfl) rfl (fun K hK => ?_)
     ((obtain ⟨hb1, hb2⟩ := hJ.boxA _ _ rfl); (have cS := cellOf hb2); (have fS := freeOf hb2); (clear hb1 hb2); go_simp; (clear cS fS))
     refine hK.out _ _ ?_ ?_
     ·exact (show Ext No w1 _ from hHeld).trans2 (set3 _ _ _ _ _) (fun i hi e => by unfold At at e; omega)
     clear hK K hHeld
     intro hHeld
     replace hJ := hJ.storeA k1 k2 (.int .i64 (t.w : Int)) (.slice ag1 (nw t.w) cg1) (.slice ao1 (rowsN t t.w t.copies.length).length co1)
     generalize (((v4.setCell ⟨DA, 0, none⟩ (.int .i64 (t.w : Int))).setCell ⟨DA, 1, none⟩ (.slice ag1 (nw t.w) cg1)).setCell ⟨DA, 2, none⟩ (.slice ao1 (rowsN t t.w t.copies.length).length co1)) = v5 at *
     try simp only [Act.put, nzA, nzB, nzC]
     refine held_call (i := 7) rfl (by kernel_rfl) rfl (fun K hK => ?_)
     ((obtain ⟨hb1, hb2⟩ := hJ.boxB _ _ rfl); (have cS := cellOf hb2); (have fS := freeOf hb2); (clear hb1 hb2); go_simp; (clear cS fS))
     refine hK.out _ _ ?_ ?_
     ·exact (show Ext No w1 _ from hHeld).trans2 (set3 _ _ _ _ _) (fun i hi e => by unfold At at e; omega)
     clear hK K hHeld
     intro hHeld
     replace hJ := hJ.storeB k1 k2 (.int .i64 (t.w : Int)) (.slice ag2 (nw t.w) cg2) (.slice ao2 (rowsN u t.w u.copies.length).length co2)
     generalize (((v5.setCell ⟨DB, 0, none⟩ (.int .i64 (t.w : Int))).setCell ⟨DB, 1, none⟩ (.slice ag2 (nw t.w) cg2)).setCell ⟨DB, 2, none⟩ (.slice ao2 (rowsN u t.w u.copies.length).length co2)) = v6 at *
     try simp only [Act.put, nzA, nzB, nzC]
     refine wpAnyH_done (by kernel_rfl) ?_ _
     go_wp2_with fail
     go_meet
     exact ⟨DA, DB, ag1, cg1, ao1, co1, ag2, cg2, ao2, co2, rfl, rfl, Lib.hid hJ⟩
    ·go_simp
     refine hK.out _ _ ?_ ?_
     ·exact Ext.alloc (show Ext No w1 _ from hHeld) _
     clear hK K hHeld
     intro hHeld
     replace hJ := hJ.allocB k1 k2 #[.int .i64 0, .slice none 0 0, .slice none 0 0]
     generalize (v2.alloc (.cells #[.int .i64 0, .slice none 0 0, .slice none 0 0] 70)) = v3 at *
     generalize v2.heap.size = DB at *
     have hDB := (hJ.boxB _ _ rfl).1
     try simp only [Act.put, nzA, nzB, nzC]
     refine held_call (i := 3) rfl (by kernel_rfl) rfl (fun K hK => ?_)
     (go_simp; go_at_call 52; (with_reducible refine (open_lo2 u t.w _ _ _ _ HU.out (H2w.out.extNo hJ.ext)).mono ?_); (rintro e2 v4 ⟨ag2, cg2, ao2, co2, rfl, hs2, hyA⟩); go_simp)
     refine hK.out _ _ ?_ ?_
     ·exact Ext.transNo (show Ext No w1 _ from hHeld) hyA
     clear hK K hHeld
     intro hHeld
     replace hJ := hJ.call2 k1 k2 (keeps_rows _ _ _ _ _) hyA hs2.out
     replace k2 := hJ.2
     replace hJ := hJ.1
     clear hyA hs2
     try simp only [Act.put, nzA, nzB, nzC]
     refine held_call (i := 6) rfl (by kernel_rfl) rfl (fun K hK => ?_)
     ((obtain ⟨hb1, hb2⟩ := hJ.boxA _ _ rfl); (have cS := cellOf hb2); (have fS := freeOf hb2); (clear hb1 hb2); go_simp; (clear cS fS))
     refine hK.out _ _ ?_ ?_
     ·exact (show Ext No w1 _ from hHeld).trans2 (set3 _ _ _ _ _) (fun i hi e => by unfold At at e; omega)
     clear hK K hHeld
     intro hHeld
     replace hJ := hJ.storeA k1 k2 (.int .i64 (t.w : Int)) (.slice ag1 (nw t.w) cg1) (.slice ao1 (rowsN t t.w t.copies.length).length co1)
     generalize (((v4.setCell ⟨DA, 0, none⟩ (.int .i64 (t.w : Int))).setCell ⟨DA, 1, none⟩ (.slice ag1 (nw t.w) cg1)).setCell ⟨DA, 2, none⟩ (.slice ao1 (rowsN t t.w t.copies.length).length co1)) = v5 at *
     try simp only [Act.put, nzA, nzB, nzC]
     refine held_call (i := 7) rfl (by kernel_rfl) rfl (fun K hK => ?_)
     ((obtain ⟨hb1, hb2⟩ := hJ.boxB _ _ rfl); (have cS := cellOf hb2); (have fS := freeOf hb2); (clear hb1 hb2); go_simp; (clear cS fS))
     refine hK.out _ _ ?_ ?_
     ·exact (show Ext No w1 _ from hHeld).trans2 (set3 _ _ _ _ _) (fun i hi e => by unfold At at e; omega)
     clear hK K hHeld
     intro hHeld
     replace hJ := hJ.storeB k1 k2 (.int .i64 (t.w : Int)) (.slice ag2 (nw t.w) cg2) (.slice ao2 (rowsN u t.w u.copies.length).length co2)
     generalize (((v5.setCell ⟨DB, 0, none⟩ (.int .i64 (t.w : Int))).setCell ⟨DB, 1, none⟩ (.slice ag2 (nw t.w) cg2)).setCell ⟨DB, 2, none⟩ (.slice ao2 (rowsN u t.w u.copies.length).length co2)) = v6 at *
     try simp only [Act.put, nzA, nzB, nzC]
     refine wpAnyH_done (by kernel_rfl) ?_ _
     go_wp2_with fail
     go_meet
     exact ⟨DA, DB, ag1, cg1, ao1, co1, ag2, cg2, ao2, co2, rfl, rfl, Lib.hid hJ⟩
   ·go_simp
    refine hK.out _ _ ?_ ?_
    ·exact Ext.alloc (show Ext No w1 _ from hHeld) _
    clear hK K hHeld
    intro hHeld
    replace hJ := hJ.allocB k1 k2 #[.int .i64 0, .slice none 0 0, .slice none 0 0]
    generalize (v1.alloc (.cells #[.int .i64 0, .slice none 0 0, .slice none 0 0] 70)) = v2 at *
    generalize v1.heap.size = DB at *
    have hDB := (hJ.boxB _ _ rfl).1
    try simp only [Act.put, nzA, nzB, nzC]
    refine held_next2 (i := 3) (j := 4) (by kernel_rfl) (NextOp.mk rfl rfl (fun K hK => ?_)) (NextOp.mk rfl rfl (fun K hK => ?_))
    ·(go_simp; go_at_call 52; (with_reducible refine (open_lo2 u t.w _ _ _ _ HU.out (H2w.out.extNo hJ.ext)).mono ?_); (rintro e2 v3 ⟨ag2, cg2, ao2, co2, rfl, hs2, hyA⟩); go_simp)
     refine hK.out _ _ ?_ ?_
     ·exact Ext.transNo (show Ext No w1 _ from hHeld) hyA
     clear hK K hHeld
     intro hHeld
     replace hJ := hJ.call2 k1 k2 (keeps_rows _ _ _ _ _) hyA hs2.out
     replace k2 := hJ.2
     replace hJ := hJ.1
     clear hyA hs2
     try simp only [Act.put, nzA, nzB, nzC]
     refine held_call (i := 4) rfl (by kernel_rfl) rfl (fun K hK => ?_)
     go_simp
     refine hK.out _ _ ?_ ?_
     ·exact Ext.alloc (show Ext No w1 _ from hHeld) _
     clear hK K hHeld
     intro hHeld
     replace hJ := hJ.allocA k1 k2 #[.int .i64 0, .slice none 0 0, .slice none 0 0]
     generalize (v3.alloc (.cells #[.int .i64 0, .slice none 0 0, .slice none 0 0] 70)) = v4 at *
     generalize v3.heap.size = DA at *
     have hDA := (hJ.boxA _ _ rfl).1
     try simp only [Act.put, nzA, nzB, nzC]
     refine held_call (i := 6) rfl (by kernel_rfl) rfl (fun K hK => ?_)
     ((obtain ⟨hb1, hb2⟩ := hJ.boxA _ _ rfl); (have cS := cellOf hb2); (have fS := freeOf hb2); (clear hb1 hb2); go_simp; (clear cS fS))
     refine hK.out _ _ ?_ ?_
     ·exact (show Ext No w1 _ from hHeld).trans2 (set3 _ _ _ _ _) (fun i hi e => by unfold At at e; omega)
     clear hK K hHeld
     intro hHeld
     replace hJ := hJ.storeA k1 k2 (.int .i64 (t.w : Int)) (.slice ag1 (nw t.w) cg1) (.slice ao1 (rowsN t t.w t.copies.length).length co1)
     generalize (((v4.setCell ⟨DA, 0, none⟩ (.int .i64 (t.w : Int))).setCell ⟨DA, 1, none⟩ (.slice ag1 (nw t.w) cg1)).setCell ⟨DA, 2, none⟩ (.slice ao1 (rowsN t t.w t.copies.length).length co1)) = v5 at *
     try simp only [Act.put, nzA, nzB, nzC]
     refine held_call (i := 7) rfl (by kernel_rfl) rfl (fun K hK => ?_)
     ((obtain ⟨hb1, hb2⟩ := hJ.boxB _ _ rfl); (have cS := cellOf hb2); (have fS := freeOf hb2); (clear hb1 hb2); go_simp; (clear cS fS))
     refine hK.out _ _ ?_ ?_
     ·exact (show Ext No w1 _ from hHeld).trans2 (set3 _ _ _ _ _) (fun i hi e => by unfold At at e; omega)
     clear hK K hHeld
     intro hHeld
     replace hJ := hJ.storeB k1 k2 (.int .i64 (t.w : Int)) (.slice ag2 (nw t.w) cg2) (.slice ao2 (rowsN u t.w u.copies.length).length co2)
     generalize (((v5.setCell ⟨DB, 0, none⟩ (.int .i64 (t.w : Int))).setCell ⟨DB, 1, none⟩ (.slice ag2 (nw t.w) cg2)).setCell ⟨DB, 2, none⟩ (.slice ao2 (rowsN u t.w u.copies.length).length co2)) = v6 at *
     try simp only [Act.put, nzA, nzB, nzC]
     refine wpAnyH_done (by kernel_rfl) ?_ _
     go_wp2_with fail
     go_meet
     exact ⟨DA, DB, ag1, cg1, ao1, co1, ag2, cg2, ao2, co2, rfl, rfl, Lib.hid hJ⟩
    ·go_simp
     refine hK.out _ _ ?_ ?_
     ·exact Ext.alloc (show Ext No w1 _ from hHeld) _
     clear hK K hHeld
     intro hHeld
     replace hJ := hJ.allocA k1 k2 #[.int .i64 0, .slice none 0 0, .slice none 0 0]
     generalize (v2.alloc (.cells #[.int .i64 0, .slice none 0 0, .slice none 0 0] 70)) = v3 at *
     generalize v2.heap.size = DA at *
     have hDA := (hJ.boxA _ _ rfl).1
     try simp only [Act.put, nzA, nzB, nzC]
     refine held_call (i := 3) rfl (by kernel_rfl) rfl (fun K hK => ?_)
     (go_simp; go_at_call 52; (with_reducible refine (open_lo2 u t.w _ _ _ _ HU.out (H2w.out.extNo hJ.ext)).mono ?_); (rintro e2 v4 ⟨ag2, cg2, ao2, co2, rfl, hs2, hyA⟩); go_simp)
     refine hK.out _ _ ?_ ?_
     ·exact Ext.transNo (show Ext No w1 _ from hHeld) hyA
     clear hK K hHeld
     intro hHeld
     replace hJ := hJ.call2 k1 k2 (keeps_rows _ _ _ _ _) hyA hs2.out
     replace k2 := hJ.2
     replace hJ := hJ.1
     clear hyA hs2
     try simp only [Act.put, nzA, nzB, nzC]
     refine held_call (i := 6) rfl (by kernel_rfl) rfl (fun K hK => ?_)
     ((obtain ⟨hb1, hb2⟩ := hJ.boxA _ _ rfl); (have cS := cellOf hb2); (have fS := freeOf hb2); (clear hb1 hb2); go_simp; (clear cS fS))
     refine hK.out _ _ ?_ ?_
     ·exact (show Ext No w1 _ from hHeld).trans2 (set3 _ _ _ _ _) (fun i hi e => by unfold At at e; omega)
     clear hK K hHeld
     intro hHeld
     replace hJ := hJ.storeA k1 k2 (.int .i64 (t.w : Int)) (.slice ag1 (nw t.w) cg1) (.slice ao1 (rowsN t t.w t.copies.length).length co1)
     generalize (((v4.setCell ⟨DA, 0, none⟩ (.int .i64 (t.w : Int))).setCell ⟨DA, 1, none⟩ (.slice ag1 (nw t.w) cg1)).setCell ⟨DA, 2, none⟩ (.slice ao1 (rowsN t t.w t.copies.length).length co1)) = v5 at *
     try simp only [Act.put, nzA, nzB, nzC]
     refine held_call (i := 7) rfl (by kernel_rfl) rfl (fun K hK => ?_)
     ((obtain ⟨hb1, hb2⟩ := hJ.boxB _ _ rfl); (have cS := cellOf hb2); (have fS := freeOf hb2); (clear hb1 hb2); go_simp; (clear cS fS))
     refine hK.out _ _ ?_ ?_
     ·exact (show Ext No w1 _ from hHeld).trans2 (set3 _ _ _ _ _) (fun i hi e => by unfold At at e; omega)
     clear hK K hHeld
     intro hHeld
     replace hJ := hJ.storeB k1 k2 (.int .i64 (t.w : Int)) (.slice ag2 (nw t.w) cg2) (.slice ao2 (rowsN u t.w u.copies.length).length co2)
     generalize (((v5.setCell ⟨DB, 0, none⟩ (.int .i64 (t.w : Int))).setCell ⟨DB, 1, none⟩ (.slice ag2 (nw t.w) cg2)).setCell ⟨DB, 2, none⟩ (.slice ao2 (rowsN u t.w u.copies.length).length co2)) = v6 at *
     try simp only [Act.put, nzA, nzB, nzC]
     refine wpAnyH_done (by kernel_rfl) ?_ _
     go_wp2_with fail
     go_meet
     exact ⟨DA, DB, ag1, cg1, ao1, co1, ag2, cg2, ao2, co2, rfl, rfl, Lib.hid hJ⟩
  ·go_simp
   refine hK.out _ _ ?_ ?_
   ·exact Ext.alloc (show Ext No w1 _ from hHeld) _
   clear hK K hHeld
   intro hHeld
   replace hJ := hJ.allocA k1 k2 #[.int .i64 0, .slice none 0 0, .slice none 0 0]
   generalize (v0.alloc (.cells #[.int .i64 0, .slice none 0 0, .slice none 0 0] 70)) = v1 at *
   generalize v0.heap.size = DA at *
   have hDA := (hJ.boxA _ _ rfl).1
   try simp only [Act.put, nzA, nzB, nzC]
   refine held_next2 (i := 1) (j := 5) (by kernel_rfl) (NextOp.mk rfl rfl (fun K hK => ?_)) (NextOp.mk rfl rfl (fun K hK => ?_))
   ·(go_simp; go_at_call 52; (with_reducible refine (open_lo t _ _ _ _ (H1w.out.extNo hJ.ext)).mono ?_); (rintro e1 v2 ⟨ag1, cg1, ao1, co1, rfl, hs1, hyA⟩); go_simp)
    refine hK.out _ _ ?_ ?_
    ·exact Ext.transNo (show Ext No w1 _ from hHeld) hyA
    clear hK K hHeld
    intro hHeld
    replace hJ := hJ.call1 k1 k2 (keeps_rows _ _ _ _ _) hyA hs1.out hs1.out.ownLt
    replace k1 := hJ.2
    replace hJ := hJ.1
    clear hyA hs1
    try simp only [Act.put, nzA, nzB, nzC]
    refine held_next2 (i := 3) (j := 5) (by kernel_rfl) (NextOp.mk rfl rfl (fun K hK => ?_)) (NextOp.mk rfl rfl (fun K hK => ?_))
    ·(go_simp; go_at_call 52; (with_reducible refine (open_lo2 u t.w _ _ _ _ HU.out (H2w.out.extNo hJ.ext)).mono ?_); (rintro e2 v3 ⟨ag2, cg2, ao2, co2, rfl, hs2, hyA⟩); go_simp)
     refine hK.out _ _ ?_ ?_
     ·exact Ext.transNo (show Ext No w1 _ from hHeld) hyA
     clear hK K hHeld
     intro hHeld
     replace hJ := hJ.call2 k1 k2 (keeps_rows _ _ _ _ _) hyA hs2.out
     replace k2 := hJ.2
     replace hJ := hJ.1
     clear hyA hs2
     try simp only [Act.put, nzA, nzB, nzC]
     refine held_call (i := 5) rfl (by kernel_rfl) rfl (fun K hK => ?_)
     go_simp
     refine hK.out _ _ ?_ ?_
     ·exact Ext.alloc (show Ext No w1 _ from hHeld) _
     clear hK K hHeld
     intro hHeld
     replace hJ := hJ.allocB k1 k2 #[.int .i64 0, .slice none 0 0, .slice none 0 0]
     generalize (v3.alloc (.cells #[.int .i64 0, .slice none 0 0, .slice none 0 0] 70)) = v4 at *
     generalize v3.heap.size = DB at *
     have hDB := (hJ.boxB _ _ rfl).1
     try simp only [Act.put, nzA, nzB, nzC]
     refine held_call (i := 6) rfl (by kernel_rfl) rfl (fun K hK => ?_)
     ((obtain ⟨hb1, hb2⟩ := hJ.boxA _ _ rfl); (have cS := cellOf hb2); (have fS := freeOf hb2); (clear hb1 hb2); go_simp; (clear cS fS))
     refine hK.out _ _ ?_ ?_
     ·exact (show Ext No w1 _ from hHeld).trans2 (set3 _ _ _ _ _) (fun i hi e => by unfold At at e; omega)
     clear hK K hHeld
     intro hHeld
     replace hJ := hJ.storeA k1 k2 (.int .i64 (t.w : Int)) (.slice ag1 (nw t.w) cg1) (.slice ao1 (rowsN t t.w t.copies.length).length co1)
     generalize (((v4.setCell ⟨DA, 0, none⟩ (.int .i64 (t.w : Int))).setCell ⟨DA, 1, none⟩ (.slice ag1 (nw t.w) cg1)).setCell ⟨DA, 2, none⟩ (.slice ao1 (rowsN t t.w t.copies.length).length co1)) = v5 at *
     try simp only [Act.put, nzA, nzB, nzC]
     refine held_call (i := 7) rfl (by kernel_rfl) rfl (fun K hK => ?_)
     ((obtain ⟨hb1, hb2⟩ := hJ.boxB _ _ rfl); (have cS := cellOf hb2); (have fS := freeOf hb2); (clear hb1 hb2); go_simp; (clear cS fS))
     refine hK.out _ _ ?_ ?_
     ·exact (show Ext No w1 _ from hHeld).trans2 (set3 _ _ _ _ _) (fun i hi e => by unfold At at e; omega)
     clear hK K hHeld
     intro hHeld
     replace hJ := hJ.storeB k1 k2 (.int .i64 (t.w : Int)) (.slice ag2 (nw t.w) cg2) (.slice ao2 (rowsN u t.w u.copies.length).length co2)
     generalize (((v5.setCell ⟨DB, 0, none⟩ (.int .i64 (t.w : Int))).setCell ⟨DB, 1, none⟩ (.slice ag2 (nw t.w) cg2)).setCell ⟨DB, 2, none⟩ (.slice ao2 (rowsN u t.w u.copies.length).length co2)) = v6 at *
     try simp only [Act.put, nzA, nzB, nzC]
     refine wpAnyH_done (by kernel_rfl) ?_ _
     go_wp2_with fail
     go_meet
     exact ⟨DA, DB, ag1, cg1, ao1, co1, ag2, cg2, ao2, co2, rfl, rfl, Lib.hid hJ⟩
    ·go_simp
     refine hK.out _ _ ?_ ?_
     ·exact Ext.alloc (show Ext No w1 _ from hHeld) _
     clear hK K hHeld
     intro hHeld
     replace hJ := hJ.allocB k1 k2 #[.int .i64 0, .slice none 0 0, .slice none 0 0]
     generalize (v2.alloc (.cells #[.int .i64 0, .slice none 0 0, .slice none 0 0] 70)) = v3 at *
     generalize v2.heap.size = DB at *
     have hDB := (hJ.boxB _ _ rfl).1
     try simp only [Act.put, nzA, nzB, nzC]
     refine held_call (i := 3) rfl (by kernel_rfl) rfl (fun K hK => ?_)
     (go_simp; go_at_call 52; (with_reducible refine (open_lo2 u t.w _ _ _ _ HU.out (H2w.out.extNo hJ.ext)).mono ?_); (rintro e2 v4 ⟨ag2, cg2, ao2, co2, rfl, hs2, hyA⟩); go_simp)
     refine hK.out _ _ ?_ ?_
     ·exact Ext.transNo (show Ext No w1 _ from hHeld) hyA
     clear hK K hHeld
     intro hHeld
     replace hJ := hJ.call2 k1 k2 (keeps_rows _ _ _ _ _) hyA hs2.out
     replace k2 := hJ.2
     replace hJ := hJ.1
     clear hyA hs2
     try simp only [Act.put, nzA, nzB, nzC]
     refine held_call (i := 6) rfl (by kernel_rfl) rfl (fun K hK => ?_)
     ((obtain ⟨hb1, hb2⟩ := hJ.boxA _ _ rfl); (have cS := cellOf hb2); (have fS := freeOf hb2); (clear hb1 hb2); go_simp; (clear cS fS))
     refine hK.out _ _ ?_ ?_
     ·exact (show Ext No w1 _ from hHeld).trans2 (set3 _ _ _ _ _) (fun i hi e => by unfold At at e; omega)
     clear hK K hHeld
     intro hHeld
     replace hJ := hJ.storeA k1 k2 (.int .i64 (t.w : Int)) (.slice ag1 (nw t.w) cg1) (.slice ao1 (rowsN t t.w t.copies.length).length co1)
     generalize (((v4.setCell ⟨DA, 0, none⟩ (.int .i64 (t.w : Int))).setCell ⟨DA, 1, none⟩ (.slice ag1 (nw t.w) cg1)).setCell ⟨DA, 2, none⟩ (.slice ao1 (rowsN t t.w t.copies.length).length co1)) = v5 at *
     try simp only [Act.put, nzA, nzB, nzC]
     refine held_call (i := 7) rfl (by kernel_rfl) rfl (fun K hK => ?_)
     ((obtain ⟨hb1, hb2⟩ := hJ.boxB _ _ rfl); (have cS := cellOf hb2); (have fS := freeOf hb2); (clear hb1 hb2); go_simp; (clear cS fS))
     refine hK.out _ _ ?_ ?_
     ·exact (show Ext No w1 _ from hHeld).trans2 (set3 _ _ _ _ _) (fun i hi e => by unfold At at e; omega)
     clear hK K hHeld
     intro hHeld
     replace hJ := hJ.storeB k1 k2 (.int .i64 (t.w : Int)) (.slice ag2 (nw t.w) cg2) (.slice ao2 (rowsN u t.w u.copies.length).length co2)
     generalize (((v5.setCell ⟨DB, 0, none⟩ (.int .i64 (t.w : Int))).setCell ⟨DB, 1, none⟩ (.slice ag2 (nw t.w) cg2)).setCell ⟨DB, 2, none⟩ (.slice ao2 (rowsN u t.w u.copies.length).length co2)) = v6 at *
     try simp only [Act.put, nzA, nzB, nzC]
     refine wpAnyH_done (by kernel_rfl) ?_ _
     go_wp2_with fail
     go_meet
     exact ⟨DA, DB, ag1, cg1, ao1, co1, ag2, cg2, ao2, co2, rfl, rfl, Lib.hid hJ⟩
   ·go_simp
    refine hK.out _ _ ?_ ?_
    ·exact Ext.alloc (show Ext No w1 _ from hHeld) _
    clear hK K hHeld
    intro hHeld
    replace hJ := hJ.allocB k1 k2 #[.int .i64 0, .slice none 0 0, .slice none 0 0]
    generalize (v1.alloc (.cells #[.int .i64 0, .slice none 0 0, .slice none 0 0] 70)) = v2 at *
    generalize v1.heap.size = DB at *
    have hDB := (hJ.boxB _ _ rfl).1
    try simp only [Act.put, nzA, nzB, nzC]
    refine held_call (i := 1) rfl (by kernel_rfl) rfl (fun K hK => ?_)
    (go_simp; go_at_call 52; (with_reducible refine (open_lo t _ _ _ _ (H1w.out.extNo hJ.ext)).mono ?_); (rintro e1 v3 ⟨ag1, cg1, ao1, co1, rfl, hs1, hyA⟩); go_simp)
    refine hK.out _ _ ?_ ?_
    ·exact Ext.transNo (show Ext No w1 _ from hHeld) hyA
    clear hK K hHeld
    intro hHeld
    replace hJ := hJ.call1 k1 k2 (keeps_rows _ _ _ _ _) hyA hs1.out hs1.out.ownLt
    replace k1 := hJ.2
    replace hJ := hJ.1
    clear hyA hs1
    try simp only [Act.put, nzA, nzB, nzC]
    refine held_call (i := 3) rfl (by kernel_rfl) rfl (fun K hK => ?_)
    (go_simp; go_at_call 52; (with_reducible refine (open_lo2 u t.w _ _ _ _ HU.out (H2w.out.extNo hJ.ext)).mono ?_); (rintro e2 v4 ⟨ag2, cg2, ao2, co2, rfl, hs2, hyA⟩); go_simp)
    refine hK.out _ _ ?_ ?_
    ·exact Ext.transNo (show Ext No w1 _ from hHeld) hyA
    clear hK K hHeld
    intro hHeld
    replace hJ := hJ.call2 k1 k2 (keeps_rows _ _ _ _ _) hyA hs2.out
    replace k2 := hJ.2
    replace hJ := hJ.1
    clear hyA hs2
    try simp only [Act.put, nzA, nzB, nzC]
    refine held_call (i := 6) rfl (by kernel_rfl) rfl (fun K hK => ?_)
    ((obtain ⟨hb1, hb2⟩ := hJ.boxA _ _ rfl); (have cS := cellOf hb2); (have fS := freeOf hb2); (clear hb1 hb2); go_simp; (clear cS fS))
    refine hK.out _ _ ?_ ?_
    ·exact (show Ext No w1 _ from hHeld).trans2 (set3 _ _ _ _ _) (fun i hi e => by unfold At at e; omega)
    clear hK K hHeld
    intro hHeld
    replace hJ := hJ.storeA k1 k2 (.int .i64 (t.w : Int)) (.slice ag1 (nw t.w) cg1) (.slice ao1 (rowsN t t.w t.copies.length).length co1)
    generalize (((v4.setCell ⟨DA, 0, none⟩ (.int .i64 (t.w : Int))).setCell ⟨DA, 1, none⟩ (.slice ag1 (nw t.w) cg1)).setCell ⟨DA, 2, none⟩ (.slice ao1 (rowsN t t.w t.copies.length).length co1)) = v5 at *
    try simp only [Act.put, nzA, nzB, nzC]
    refine held_call (i := 7) rfl (by kernel_rfl) rfl (fun K hK => ?_)
    ((obtain ⟨hb1, hb2⟩ := hJ.boxB _ _ rfl); (have cS := cellOf hb2); (have fS := freeOf hb2); (clear hb1 hb2); go_simp; (clear cS fS))
    refine hK.out _ _ ?_ ?_
    ·exact (show Ext No w1 _ from hHeld).trans2 (set3 _ _ _ _ _) (fun i hi e => by unfold At at e; omega)
    clear hK K hHeld
    intro hHeld
    replace hJ := hJ.storeB k1 k2 (.int .i64 (t.w : Int)) (.slice ag2 (nw t.w) cg2) (.slice ao2 (rowsN u t.w u.copies.length).length co2)
    generalize (((v5.setCell ⟨DB, 0, none⟩ (.int .i64 (t.w : Int))).setCell ⟨DB, 1, none⟩ (.slice ag2 (nw t.w) cg2)).setCell ⟨DB, 2, none⟩ (.slice ao2 (rowsN u t.w u.copies.length).length co2)) = v6 at *
    try simp only [Act.put, nzA, nzB, nzC]
    refine wpAnyH_done (by kernel_rfl) ?_ _
    go_wp2_with fail
    go_meet
    exact ⟨DA, DB, ag1, cg1, ao1, co1, ag2, cg2, ao2, co2, rfl, rfl, Lib.hid hJ⟩
  ·go_simp
   refine hK.out _ _ ?_ ?_
   ·exact Ext.alloc (show Ext No w1 _ from hHeld) _
   clear hK K hHeld
   intro hHeld
   replace hJ := hJ.allocB k1 k2 #[.int .i64 0, .slice none 0 0, .slice none 0 0]
   generalize (v0.alloc (.cells #[.int .i64 0, .slice none 0 0, .slice none 0 0] 70)) = v1 at *
   generalize v0.heap.size = DB at *
   have hDB := (hJ.boxB _ _ rfl).1
   try simp only [Act.put, nzA, nzB, nzC]
   refine held_next2 (i := 1) (j := 4) (by kernel_rfl) (NextOp.mk rfl rfl (fun K hK => ?_)) (NextOp.mk rfl rfl (fun K hK => ?_))
   ·(go_simp; go_at_call 52; (with_reducible refine (open_lo t _ _ _ _ (H1w.out.extNo hJ.ext)).mono ?_); (rintro e1 v2 ⟨ag1, cg1, ao1, co1, rfl, hs1, hyA⟩); go_simp)
    refine hK.out _ _ ?_ ?_
    ·exact Ext.transNo (show Ext No w1 _ from hHeld) hyA
    clear hK K hHeld
    intro hHeld
    replace hJ := hJ.call1 k1 k2 (keeps_rows _ _ _ _ _) hyA hs1.out hs1.out.ownLt
    replace k1 := hJ.2
    replace hJ := hJ.1
    clear hyA hs1
    try simp only [Act.put, nzA, nzB, nzC]
    refine held_next2 (i := 3) (j := 4) (by kernel_rfl) (NextOp.mk rfl rfl (fun K hK => ?_)) (NextOp.mk rfl rfl (fun K hK => ?_))
    ·(go_simp; go_at_call 52; (with_reducible refine (open_lo2 u t.w _ _ _ _ HU.out (H2w.out.extNo hJ.ext)).mono ?_); (rintro e2 v3 ⟨ag2, cg2, ao2, co2, rfl, hs2, hyA⟩); go_simp)
     refine hK.out _ _ ?_ ?_
     ·exact Ext.transNo (show Ext No w1 _ from hHeld) hyA
     clear hK K hHeld
     intro hHeld
     replace hJ := hJ.call2 k1 k2 (keeps_rows _ _ _ _ _) hyA hs2.out
     replace k2 := hJ.2
     replace hJ := hJ.1
     clear hyA hs2
     try simp only [Act.put, nzA, nzB, nzC]
     refine held_call (i := 4) rfl (by kernel_rfl) rfl (fun K hK => ?_)
     go_simp
     refine hK.out _ _ ?_ ?_
     ·exact Ext.alloc (show Ext No w1 _ from hHeld) _
     clear hK K hHeld
     intro hHeld
     replace hJ := hJ.allocA k1 k2 #[.int .i64 0, .slice none 0 0, .slice none 0 0]
     generalize (v3.alloc (.cells #[.int .i64 0, .slice none 0 0, .slice none 0 0] 70)) = v4 at *
     generalize v3.heap.size = DA at *
     have hDA := (hJ.boxA _ _ rfl).1
     try simp only [Act.put, nzA, nzB, nzC]
     refine held_call (i := 6) rfl (by kernel_rfl) rfl (fun K hK => ?_)
     ((obtain ⟨hb1, hb2⟩ := hJ.boxA _ _ rfl); (have cS := cellOf hb2); (have fS := freeOf hb2); (clear hb1 hb2); go_simp; (clear cS fS))
     refine hK.out _ _ ?_ ?_
     ·exact (show Ext No w1 _ from hHeld).trans2 (set3 _ _ _ _ _) (fun i hi e => by unfold At at e; omega)
     clear hK K hHeld
     intro hHeld
     replace hJ := hJ.storeA k1 k2 (.int .i64 (t.w : Int)) (.slice ag1 (nw t.w) cg1) (.slice ao1 (rowsN t t.w t.copies.length).length co1)
     generalize (((v4.setCell ⟨DA, 0, none⟩ (.int .i64 (t.w : Int))).setCell ⟨DA, 1, none⟩ (.slice ag1 (nw t.w) cg1)).setCell ⟨DA, 2, none⟩ (.slice ao1 (rowsN t t.w t.copies.length).length co1)) = v5 at *
     try simp only [Act.put, nzA, nzB, nzC]
     refine held_call (i := 7) rfl (by kernel_rfl) rfl (fun K hK => ?_)
     ((obtain ⟨hb1, hb2⟩ := hJ.boxB _ _ rfl); (have cS := cellOf hb2); (have fS := freeOf hb2); (clear hb1 hb2); go_simp; (clear cS fS))
     refine hK.out _ _ ?_ ?_
     ·exact (show Ext No w1 _ from hHeld).trans2 (set3 _ _ _ _ _) (fun i hi e => by unfold At at e; omega)
     clear hK K hHeld
     intro hHeld
     replace hJ := hJ.storeB k1 k2 (.int .i64 (t.w : Int)) (.slice ag2 (nw t.w) cg2) (.slice ao2 (rowsN u t.w u.copies.length).length co2)
     generalize (((v5.setCell ⟨DB, 0, none⟩ (.int .i64 (t.w : Int))).setCell ⟨DB, 1, none⟩ (.slice ag2 (nw t.w) cg2)).setCell ⟨DB, 2, none⟩ (.slice ao2 (rowsN u t.w u.copies.length).length co2)) = v6 at *
     try simp only [Act.put, nzA, nzB, nzC]
     refine wpAnyH_done (by kernel_rfl) ?_ _
     go_wp2_with fail
     go_meet
     exact ⟨DA, DB, ag1, cg1, ao1, co1, ag2, cg2, ao2, co2, rfl, rfl, Lib.hid hJ⟩
    ·go_simp
     refine hK.out _ _ ?_ ?_
     ·exact Ext.alloc (show Ext No w1 _ from hHeld) _
     clear hK K hHeld
     intro hHeld
     replace hJ := hJ.allocA k1 k2 #[.int .i64 0, .slice none 0 0, .slice none 0 0]
     generalize (v2.alloc (.cells #[.int .i64 0, .slice none 0 0, .slice none 0 0] 70)) = v3 at *
     generalize v2.heap.size = DA at *
     have hDA := (hJ.boxA _ _ rfl).1
     try simp only [Act.put, nzA, nzB, nzC]
     refine held_call (i := 3) rfl (by kernel_rfl) rfl (fun K hK => ?_)
     (go_simp; go_at_call 52; (with_reducible refine (open_lo2 u t.w _ _ _ _ HU.out (H2w.out.extNo hJ.ext)).mono ?_); (rintro e2 v4 ⟨ag2, cg2, ao2, co2, rfl, hs2, hyA⟩); go_simp)
     refine hK.out _ _ ?_ ?_
     ·exact Ext.transNo (show Ext No w1 _ from hHeld) hyA
     clear hK K hHeld
     intro hHeld
     replace hJ := hJ.call2 k1 k2 (keeps_rows _ _ _ _ _) hyA hs2.out
     replace k2 := hJ.2
     replace hJ := hJ.1
     clear hyA hs2
     try simp only [Act.put, nzA, nzB, nzC]
     refine held_call (i := 6) rfl (by kernel_rfl) rfl (fun K hK => ?_)
     ((obtain ⟨hb1, hb2⟩ := hJ.boxA _ _ rfl); (have cS := cellOf hb2); (have fS := freeOf hb2); (clear hb1 hb2); go_simp; (clear cS fS))
     refine hK.out _ _ ?_ ?_
     ·exact (show Ext No w1 _ from hHeld).trans2 (set3 _ _ _ _ _) (fun i hi e => by unfold At at e; omega)
     clear hK K hHeld
     intro hHeld
     replace hJ := hJ.storeA k1 k2 (.int .i64 (t.w : Int)) (.slice ag1 (nw t.w) cg1) (.slice ao1 (rowsN t t.w t.copies.length).length co1)
     generalize (((v4.setCell ⟨DA, 0, none⟩ (.int .i64 (t.w : Int))).setCell ⟨DA, 1, none⟩ (.slice ag1 (nw t.w) cg1)).setCell ⟨DA, 2, none⟩ (.slice ao1 (rowsN t t.w t.copies.length).length co1)) = v5 at *
     try simp only [Act.put, nzA, nzB, nzC]
     refine held_call (i := 7) rfl (by kernel_rfl) rfl (fun K hK => ?_)
     ((obtain ⟨hb1, hb2⟩ := hJ.boxB _ _ rfl); (have cS := cellOf hb2); (have fS := freeOf hb2); (clear hb1 hb2); go_simp; (clear cS fS))
     refine hK.out _ _ ?_ ?_
     ·exact (show Ext No w1 _ from hHeld).trans2 (set3 _ _ _ _ _) (fun i hi e => by unfold At at e; omega)
     clear hK K hHeld
     intro hHeld
     replace hJ := hJ.storeB k1 k2 (.int .i64 (t.w : Int)) (.slice ag2 (nw t.w) cg2) (.slice ao2 (rowsN u t.w u.copies.length).length co2)
     generalize (((v5.setCell ⟨DB, 0, none⟩ (.int .i64 (t.w : Int))).setCell ⟨DB, 1, none⟩ (.slice ag2 (nw t.w) cg2)).setCell ⟨DB, 2, none⟩ (.slice ao2 (rowsN u t.w u.copies.length).length co2)) = v6 at *
     try simp only [Act.put, nzA, nzB, nzC]
     refine wpAnyH_done (by kernel_rfl) ?_ _
     go_wp2_with fail
     go_meet
     exact ⟨DA, DB, ag1, cg1, ao1, co1, ag2, cg2, ao2, co2, rfl, rfl, Lib.hid hJ⟩
   ·go_simp
    refine hK.out _ _ ?_ ?_
    ·exact Ext.alloc (show Ext No w1 _ from hHeld) _
    clear hK K hHeld
    intro hHeld
    replace hJ := hJ.allocA k1 k2 #[.int .i64 0, .slice none 0 0, .slice none 0 0]
    generalize (v1.alloc (.cells #[.int .i64 0, .slice none 0 0, .slice none 0 0] 70)) = v2 at *
    generalize v1.heap.size = DA at *
    have hDA := (hJ.boxA _ _ rfl).1
    try simp only [Act.put, nzA, nzB, nzC]
    refine held_call (i := 1) rfl (by kernel_rfl) rfl (fun K hK => ?_)
    (go_simp; go_at_call 52; (with_reducible refine (open_lo t _ _ _ _ (H1w.out.extNo hJ.ext)).mono ?_); (rintro e1 v3 ⟨ag1, cg1, ao1, co1, rfl, hs1, hyA⟩); go_simp)
    refine hK.out _ _ ?_ ?_
    ·exact Ext.transNo (show Ext No w1 _ from hHeld) hyA
    clear hK K hHeld
    intro hHeld
    replace hJ := hJ.call1 k1 k2 (keeps_rows _ _ _ _ _) hyA hs1.out hs1.out.ownLt
    replace k1 := hJ.2
    replace hJ := hJ.1
    clear hyA hs1
    try simp only [Act.put, nzA, nzB, nzC]
    refine held_call (i := 3) rfl (by kernel_rfl) rfl (fun K hK => ?_)
    (go_simp; go_at_call 52; (with_reducible refine (open_lo2 u t.w _ _ _ _ HU.out (H2w.out.extNo hJ.ext)).mono ?_); (rintro e2 v4 ⟨ag2, cg2, ao2, co2, rfl, hs2, hyA⟩); go_simp)
    refine hK.out _ _ ?_ ?_
    ·exact Ext.transNo (show Ext No w1 _ from hHeld) hyA
    clear hK K hHeld
    intro hHeld
    replace hJ := hJ.call2 k1 k2 (keeps_rows _ _ _ _ _) hyA hs2.out
    replace k2 := hJ.2
    replace hJ := hJ.1
    clear hyA hs2
    try simp only [Act.put, nzA, nzB, nzC]
    refine held_call (i := 6) rfl (by kernel_rfl) rfl (fun K hK => ?_)
    ((obtain ⟨hb1, hb2⟩ := hJ.boxA _ _ rfl); (have cS := cellOf hb2); (have fS := freeOf hb2); (clear hb1 hb2); go_simp; (clear cS fS))
    refine hK.out _ _ ?_ ?_
    ·exact (show Ext No w1 _ from hHeld).trans2 (set3 _ _ _ _ _) (fun i hi e => by unfold At at e; omega)
    clear hK K hHeld
    intro hHeld
    replace hJ := hJ.storeA k1 k2 (.int .i64 (t.w : Int)) (.slice ag1 (nw t.w) cg1) (.slice ao1 (rowsN t t.w t.copies.length).length co1)
    generalize (((v4.setCell ⟨DA, 0, none⟩ (.int .i64 (t.w : Int))).setCell ⟨DA, 1, none⟩ (.slice ag1 (nw t.w) cg1)).setCell ⟨DA, 2, none⟩ (.slice ao1 (rowsN t t.w t.copies.length).length co1)) = v5 at *
    try simp only [Act.put, nzA, nzB, nzC]
    refine held_call (i := 7) rfl (by kernel_rfl) rfl (fun K hK => ?_)
    ((obtain ⟨hb1, hb2⟩ := hJ.boxB _ _ rfl); (have cS := cellOf hb2); (have fS := freeOf hb2); (clear hb1 hb2); go_simp; (clear cS fS))
    refine hK.out _ _ ?_ ?_
    ·exact (show Ext No w1 _ from hHeld).trans2 (set3 _ _ _ _ _) (fun i hi e => by unfold At at e; omega)
    clear hK K hHeld
    intro hHeld
    replace hJ := hJ.storeB k1 k2 (.int .i64 (t.w : Int)) (.slice ag2 (nw t.w) cg2) (.slice ao2 (rowsN u t.w u.copies.length).length co2)
    generalize (((v5.setCell ⟨DB, 0, none⟩ (.int .i64 (t.w : Int))).setCell ⟨DB, 1, none⟩ (.slice ag2 (nw t.w) cg2)).setCell ⟨DB, 2, none⟩ (.slice ao2 (rowsN u t.w u.copies.length).length co2)) = v6 at *
    try simp only [Act.put, nzA, nzB, nzC]
    refine wpAnyH_done (by kernel_rfl) ?_ _
    go_wp2_with fail
    go_meet
    exact ⟨DA, DB, ag1, cg1, ao1, co1, ag2, cg2, ao2, co2, rfl, rfl, Lib.hid hJ⟩
 case rest =>
  obtain ⟨D1, D2, a1, c1, b1, d1, a2, c2, b2, d2, rfl, rfl, hJ⟩ := hcut
  rename World => V
  have hm := Lib.hid (show BelM W V t.w u.gen (rowsN t t.w t.copies.length) (rowsN u t.w u.copies.length) D1 D2 (.slice a1 (nw t.w) c1) (.slice b1 (rowsN t t.w t.copies.length).length d1) (.slice a2 (nw t.w) c2) (.slice b2 (rowsN u t.w u.copies.length).length d2) from ⟨hx.out.transNo hJ.out.ext, (hJ.out.boxA _ _ rfl).2, (hJ.out.boxB _ _ rfl).2, (hJ.out.r1 rfl).sets.no, (hJ.out.r2 rfl).set.no, (hJ.out.r2 rfl).sets.no⟩)
  clear hJ HA HB H1w H2w HTw hx H1 H2 HT
  have HL1 : Hid ((rowsN t t.w t.copies.length).length = t.w) := Lib.hid (rowsN_len ..)
  have HL2 : Hid ((rowsN u t.w u.copies.length).length = t.w) := Lib.hid (rowsN_len ..)
  have hRL : (rowsN t t.w t.copies.length).length ≤ 256 := by have := HL1.out; omega
  have cD1 := cellOf hm.out.box1
  go_wp2_with fail
  clear cD1
  go_loopw [30] (fun i wr => ∃ k : Nat, k ≤ (rowsN t t.w t.copies.length).length ∧ i = .int .i64 k ∧ Hid (BelM W wr t.w u.gen (rowsN t t.w t.copies.length) (rowsN u t.w u.copies.length) D1 D2 (.slice a1 (nw t.w) c1) (.slice b1 (rowsN t t.w t.copies.length).length d1) (.slice a2 (nw t.w) c2) (.slice b2 (rowsN u t.w u.copies.length).length d2)) ∧ Hid (belowTo t u k = true)) (fun i _ => (rowsN t t.w t.copies.length).length - (intOf i).toNat)
  case atStart => exact ⟨0, Nat.zero_le _, rfl, hm, Lib.hid rfl⟩
  case round =>
   clear hm
   obtain ⟨k, hk, rfl, hm, hq⟩ := hrel
   rename World => wr
   have hpos : (0 : Int) ≤ (k : Int) := by omega
   by_cases hlt : k < (rowsN t t.w t.copies.length).length
   ·have HKK : Hid (Value.int .i64 ((k : Int) + 1) = .int .i64 ((k + 1 : Nat) : Int)) := Lib.hid (by rw [show ((k + 1 : Nat) : Int) = (k : Int) + 1 from by omega])
    have hlt2 : k < (rowsN u t.w u.copies.length).length := by have h1 := HL1.out; have h2 := HL2.out; omega
    obtain ⟨gg, go, gc, ae, ce, hge, _, _, z0, z1, hE1⟩ := hm.out.r1.at hlt
    obtain ⟨hh, ho, hc, be, de, hhe, _, _, y0, y1, hE2⟩ := hm.out.r2.at hlt2
    simp only [Value.slice.injEq] at hge hhe
    obtain ⟨rfl, _, rfl⟩ := hge
    obtain ⟨rfl, _, rfl⟩ := hhe
    have hlz : (k : Int) < ((rowsN t t.w t.copies.length).length : Int) := by omega
    have hlz2 : (k : Int) < ((rowsN u t.w u.copies.length).length : Int) := by omega
    go_wp2_with fail
    have hxX : Ext No wr (wr.alloc (.cells #[.int .i64 (t.w : Int), .slice ae (nw t.w) ce] 25)) := (Ext.refl _ _).alloc _
    have hmX := Lib.hid (hm.out.stepNo hxX)
    have hX := Lib.hid (show SetBox wr.heap.size t.w (rowsN t t.w t.copies.length)[k] ae ce (wr.alloc (.cells #[.int .i64 (t.w : Int), .slice ae (nw t.w) ce] 25)) from ⟨alloc_top rfl, hE1.out.extNo hxX⟩)
    have hE2X := Lib.hid (hE2.out.extNo hxX)
    have y0X := hxX.keep y0
    have y1X := hxX.keep y1
    generalize (wr.alloc (.cells #[.int .i64 (t.w : Int), .slice ae (nw t.w) ce] 25)) = wX at *
    generalize wr.heap.size = DX at *
    clear hm hE1 hE2 y0 y1 z0 z1 hxX
    have m0 : wX.cell? ⟨D2, 0, none⟩ = some (.int .i64 (t.w : Int)) := cellOf hmX.out.box2 0
    have m1 : wX.cell? ⟨D2, 1, none⟩ = some (.slice a2 (nw t.w) c2) := cellOf hmX.out.box2 1
    have m2 : wX.cell? ⟨D2, 2, none⟩ = some (.slice (some ⟨hh, ho, none⟩) (rowsN u t.w u.copies.length).length d2) := cellOf hmX.out.box2 2
    have l0 : Ext No wX wX := Ext.refl _ _
    have hlD2 : D2 < wX.heap.size := lt_of_block hmX.out.box2
    have hlhh : hh < wX.heap.size := World.block_lt_of_cell? wX _ y0X
    go_cut [9] (fun s9 wx => ∃ D a c, s9 = .pointer (some ⟨D, 0, none⟩) ∧ Hid (SetBox D t.w (orN (rowsN u t.w u.copies.length)[k] u.gen) a c wx) ∧ Hid (Ext No wX wx))
    case first =>
     go_region_held3 (fun w' => w'.cell? ⟨D2, 0, none⟩ = some (.int .i64 (t.w : Int)) ∧ w'.cell? ⟨D2, 1, none⟩ = some (.slice a2 (nw t.w) c2) ∧ w'.cell? ⟨D2, 2, none⟩ = some (.slice (some ⟨hh, ho, none⟩) (rowsN u t.w u.copies.length).length d2) ∧ w'.cell? ⟨hh, ho + k * 2, none⟩ = some (.int .i64 (t.w : Int)) ∧ w'.cell? ⟨hh, ho + k * 2 + 1, none⟩ = some (.slice be (nw t.w) de) ∧ Ext No wX w')
      ((go_split_ands; refine ⟨?_, ?_, ?_, ?_, ?_, ?_⟩ <;> (repeat (first | (with_reducible assumption) | (with_reducible exact Ext.refl _ _) | (with_reducible refine keepD ?_) | (with_reducible refine keepA ?_) | (with_reducible refine Ext.drew ?_) | (with_reducible refine Ext.alloc ?_ _) | (with_reducible refine BoxR.drew ?_) | (with_reducible refine BoxR.alloc ?_ _) | (with_reducible refine BoxR.set ?_ _ _) | ((with_reducible refine keepS ?_ ?_); (first | (with_reducible assumption) | omega | (simp; omega) | (exact Nat.le_refl _))) | (with_reducible refine Ext.setAt ?_ _ _) | ((with_reducible refine Ext.own ?_ ?_ _); rotate_left; (first | (with_reducible assumption) | omega | (simp; omega) | (exact Nat.le_refl _))) | (with_reducible refine keepN hyA ?_) | (with_reducible refine Ext.transNo ?_ hyA) | (with_reducible refine BoxR.ext ?_ hyA)))))
      (first
       | ((go_at_call 30); (try go_split_ands); (with_reducible refine (union_lo t.w (rowsN u t.w u.copies.length)[k] u.gen _ _ _ (hE2X.out.extNo ?_) (hmX.out.g2.extNo ?_)).mono ?_); (with_reducible assumption); (with_reducible assumption); (have hx6 := (show Ext No wX _ from by with_reducible assumption)); (rintro e7 w7 ⟨a7, c7, rfl, hs7, hyA⟩); (have hyC := hyA); (have hx7 := Ext.transNo (show Ext No wX _ from by with_reducible assumption) hyC); (first | (with_reducible have hi := two_facts2 hyC (alloc_top (o := (.cells #[.int .i64 0, .slice none 0 0] 25)) rfl)) | skip); (try ((obtain ⟨hi, hlt⟩ := hi); (have HI := Lib.hid hi); (have HL := Lib.hid hlt); (have cI := cellOf hi); (have fI := freeOf hi); (clear hi hlt)))))
     all_goals
      go_wp2_with fail
      go_meet
      refine ⟨_, a7, c7, rfl, Lib.hid ?_, Lib.hid ?_⟩
      ·first
       | (with_reducible exact ⟨alloc_top rfl, hs7.out.no.extNo ((Ext.refl _ _).alloc _)⟩)
       | exact ⟨(set_same (j := 1) (set_same (j := 0) HI.out)).trans rfl, (hs7.out.early2 HL.out).no⟩
      ·first
       | (with_reducible exact hx7.alloc _)
       | exact ext2 hx7 (Nat.le_refl _)
    case rest =>
     obtain ⟨DU, aU, cU, rfl, hU, hyU⟩ := hcut
     rename World => wU
     have hX2 := Lib.hid (hX.out.ext hyU.out)
     have hmU := Lib.hid (hmX.out.stepNo hyU.out)
     clear hX hmX hyU hE2X y0X y1X m0 m1 m2 l0
     have cX := cellOf hX2.out.box
     have cU' := cellOf hU.out.box
     go_wp2_with fail
     clear cX cU'
     refine (subset_any t.w (rowsN t t.w t.copies.length)[k] (orN (rowsN u t.w u.copies.length)[k] u.gen) _ _ _ hX2.out.set hU.out.set).mono ?_
     rintro e8 w8 ⟨he8, hy8⟩
     have hmF := Lib.hid (hmU.out.stepNo hy8)
     clear hX2 hmU hU hy8
     cases hb : subN (rowsN t t.w t.copies.length)[k] (orN (rowsN u t.w u.copies.length)[k] u.gen)
     ·rw [hb] at he8
      subst he8
      have e : belowB t u = false := by
       cases hbb : belowB t u with
       | false => rfl
       | true =>
        simp only [belowB, Bool.and_eq_true] at hbb
        have h3 := (belowTo_iff _).1 hbb.2 k (by have := HL1.out; omega)
        rw [rowAt_get hlt, rowAt_get hlt2] at h3
        rw [h3] at hb
        exact hb
      clear hb
      go_wp2_with fail
      go_ret
      rw [e]
      exact ⟨rfl, hmF.out.ext⟩
     ·rw [hb] at he8
      subst he8
      have HN : Hid (belowTo t u (k + 1) = true) := Lib.hid (by rw [belowTo, hq.out, rowAt_get hlt, rowAt_get hlt2, hb]; rfl)
      clear hb
      go_wp2_with fail
      go_roundw
      case rel => exact ⟨k + 1, by omega, HKK.out, hmF, HN⟩
      case measure => simp [intOf]; omega
   ·obtain rfl : k = (rowsN t t.w t.copies.length).length := by omega
    have e : belowB t u = true := by rw [belowB, HG.out, ← HL1.out, hq.out]; rfl
    go_wp2_with fail
    go_ret
    rw [e]
    exact ⟨rfl, hm.out.ext⟩
end Go.Proofs.YtgakojgkkdmabaaDoor

/- flqref1.Of of one member; flqlaw19.set. -/
import Derived.Test.YtfejidihocoboaaN22
import Derived.Test.YtfejidihocoboaaTrB
set_option linter.unusedVariables false
set_option linter.unusedSimpArgs false
namespace Go.Proofs.Ytfejidihocoboaa
open Go Go.RowKit
open Go.Maps (Keyed)
def OfPost (m : Nat) (W : World) (e : Ending) (w' : World) : Prop :=
  ∃ g, e = .returned (.tuple #[.agg #[.int .i64 4, .slice (some ⟨g, 0, none⟩) 1 1], .int .i64 0]) ∧ Hid (BlkW w' g 4 (2 ^ m)) ∧ W.heap.size ≤ g ∧ Ext No W w'
set_option maxRecDepth 100000 in
set_option maxHeartbeats 4000000 in
theorem of_one (m gb : Nat) (hm : m < 4) (W : World) (h : W.heap[gb]? = some (.cells #[.int .i64 (m : Int)] 3 (0, 0))) :
    Calls Try.prog 49 #[.int .i64 4, .slice (some ⟨gb, 0, none⟩) 1 1] W (OfPost m W) := by
  have hx0 : Ext No W (W.alloc (.cells #[.int .i64 0, .slice none 0 0] 40)) := (Ext.refl _ _).alloc _
  have HX0 := Lib.hid hx0
  have HR := Lib.hid (alloc_top (w := W) (o := .cells #[.int .i64 0, .slice none 0 0] 40) rfl)
  have HGB0 := Lib.hid (hx0.blk h no_no)
  clear h hx0
  have hmz : ¬ (m : Int) < 0 := by omega
  have hnw : nw 4 = 1 := by decide
  have hmz2 : ¬ (4 : Int) ≤ (m : Int) := by omega
  go_enter Try.func49, Try.ntmps49
  go_upto_region 3 with (fail)
  generalize (W.alloc (.cells #[.int .i64 0, .slice none 0 0] 40)) = V at *
  go_wp2_with fail
  refine (rempty_any 4 V (by omega)).mono ?_
  rintro e1 w1 ⟨g0, rfl, hb0, hg0, hx1⟩
  rw [hnw]
  go_upto_region 4 with (fail)
  have hx2 : Ext No w1 (w1.alloc (.cells #[.int .i64 4, .slice (some ⟨g0, 0, none⟩) 1 1] 40)) := (Ext.refl _ _).alloc _
  have HS := Lib.hid (alloc_top (w := w1) (o := .cells #[.int .i64 4, .slice (some ⟨g0, 0, none⟩) 1 1] 40) rfl)
  have HX2 := Lib.hid (hx1.transNo hx2)
  have HB0 := Lib.hid (show BlkW _ g0 4 0 from hx2.blk hb0.out no_no)
  have HSB := Lib.hid (show V.heap.size ≤ w1.heap.size from hx1.size)
  have HGB := Lib.hid (show True ∧ ∀ w, Ext No V w → w.heap[gb]? = some (.cells #[.int .i64 (m : Int)] 3 (0, 0)) from ⟨trivial, fun w hw => hw.blk HGB0.out no_no⟩)
  clear hx1 hx2 hb0 HGB0
  generalize (w1.alloc (.cells #[.int .i64 4, .slice (some ⟨g0, 0, none⟩) 1 1] 40)) = w2 at *
  generalize w1.heap.size = sb at *
  go_wp2_with fail
  go_loopw [7] (fun s7 wr => ∃ (k g : Nat), s7 = .int .i64 k ∧ (k = 0 ∨ k = 1) ∧ Hid (wr.heap[sb]? = some (.cells #[.int .i64 4, .slice (some ⟨g, 0, none⟩) 1 1] 40 (0, 0))) ∧ Hid (k = 0 → BlkW wr g 4 0) ∧ Hid (k = 1 → BlkW wr g 4 (2 ^ m)) ∧ W.heap.size ≤ g ∧ Hid (Ext No V wr)) (fun s7 _ => 1 - (intOf s7).toNat)
  case atStart => exact ⟨0, g0, rfl, .inl rfl, HS, Lib.hid (fun _ => HB0.out), Lib.hid (fun h => absurd h (by decide)), Nat.le_trans HX0.out.size hg0, HX2⟩
  case round =>
    obtain ⟨k, g, rfl, hk, hS, hG0, hG1, hgW, hX⟩ := hrel
    rename World => wr
    rcases hk with rfl | rfl
    · have hG := Lib.hid (hG0.out rfl)
      have cG := cellOf (HGB.out.2 wr hX.out)
      go_upto_region 9 with (fail)
      refine wp_region_heldL [6] (fun w' => Ext No wr w') (by kernel_rfl) ?_ (fun hHeld => ?_)
      · exact (Ext.refl _ _).drew
      have HEV := Lib.hid (show Ext No wr wr.drew from (Ext.refl _ _).drew)
      generalize wr.drew = v0 at *
      refine heldL_take (i := 0) (v := ?_) rfl (by kernel_rfl) (by kernel_rfl) (by kernel_rfl) (by kernel_rfl) (by kernel_rfl) (fun _ _ _ h => h) rfl (fun w hSw => ?_) hHeld ?_
      rotate_left
      · (have hEs : Ext No wr _ := hSw); (have x0 := cellOf (hEs.blk (hS.out) no_no)); go_simp; (try with_reducible rfl)
      try simp only [Act.put, List.setIfInBounds_toArray, List.set_cons_zero, List.set_cons_succ]
      replace hHeld := (ST_set (T := [6]) (i := 0) (by kernel_rfl) _ _).2 hHeld
      refine heldL_free (i := 1) (v := ?_) rfl (by kernel_rfl) (by kernel_rfl) (by kernel_rfl) (by kernel_rfl) (by kernel_rfl) (fun _ _ _ h => h) rfl (fun w => ?_) hHeld ?_
      rotate_left
      · go_simp; (try with_reducible rfl)
      try simp only [Act.put, List.setIfInBounds_toArray, List.set_cons_zero, List.set_cons_succ]
      replace hHeld := (ST_set (T := [6]) (i := 1) (by kernel_rfl) _ _).2 hHeld
      refine heldL_free (i := 2) (v := ?_) rfl (by kernel_rfl) (by kernel_rfl) (by kernel_rfl) (by kernel_rfl) (by kernel_rfl) (fun _ _ _ h => h) rfl (fun w => ?_) hHeld ?_
      rotate_left
      · go_simp; (try with_reducible rfl)
      try simp only [Act.put, List.setIfInBounds_toArray, List.set_cons_zero, List.set_cons_succ]
      replace hHeld := (ST_set (T := [6]) (i := 2) (by kernel_rfl) _ _).2 hHeld
      refine heldL_free (i := 3) (v := ?_) rfl (by kernel_rfl) (by kernel_rfl) (by kernel_rfl) (by kernel_rfl) (by kernel_rfl) (fun _ _ _ h => h) rfl (fun w => ?_) hHeld ?_
      rotate_left
      · go_simp; (try with_reducible rfl)
      try simp only [Act.put, List.setIfInBounds_toArray, List.set_cons_zero, List.set_cons_succ]
      replace hHeld := (ST_set (T := [6]) (i := 3) (by kernel_rfl) _ _).2 hHeld
      refine heldL_take (i := 4) (v := ?_) rfl (by kernel_rfl) (by kernel_rfl) (by kernel_rfl) (by kernel_rfl) (by kernel_rfl) (fun _ _ _ h => h) rfl (fun w hSw => ?_) hHeld ?_
      rotate_left
      · (have hEs : Ext No wr _ := hSw); (have x0 := cellOf (hEs.blk (HGB.out.2 wr hX.out) no_no)); go_simp; (try with_reducible rfl)
      try simp only [Act.put, List.setIfInBounds_toArray, List.set_cons_zero, List.set_cons_succ]
      replace hHeld := (ST_set (T := [6]) (i := 4) (by kernel_rfl) _ _).2 hHeld
      refine heldL_next1 (i := 5) (by kernel_rfl) (NextL.mk rfl rfl (fun K hK => ?_))
      (go_simp; go_at_call 61; (refine (rput_any 4 0 m _ _ hm (BlkW.set (M := No) (HEV.out.blk hG.out no_no) (by omega) (by decide) no_no)).mono ?_); (rintro q1 w1 ⟨g2, rfl, hb2, hg2, hyA⟩); go_simp)
      refine hK.out _ _ ?_ (fun hNew => ?_)
      · intro _; exact HEV.out.transNo hyA
      clear hK K hHeld
      have hHeld := hNew
      clear hNew
      have HE1 := Lib.hid (HEV.out.transNo hyA)
      have HB2 := Lib.hid hb2.out
      have HG2 := Lib.hid (Nat.le_trans HEV.out.size hg2)
      have HS1 := Lib.hid (HE1.out.blk hS.out no_no)
      clear hyA hb2 hg2
      try simp only [Act.put, List.setIfInBounds_toArray, List.set_cons_zero, List.set_cons_succ]
      refine heldL_next1 (i := 6) (by kernel_rfl) (NextL.mk rfl rfl (fun K hK => ?_))
      ((have cS := cellOf HS1.out); (have fS := freeOf HS1.out); go_simp; (clear cS fS))
      refine hK.out _ _ ?_ (fun hNew => ?_)
      · exact fun h => absurd h (by decide)
      clear hK K hHeld
      have hHeld := hNew
      clear hNew
      try simp only [Act.put, List.setIfInBounds_toArray, List.set_cons_zero, List.set_cons_succ]
      refine heldL_done (by kernel_rfl) ?_ _
      clear hHeld
      have hE2 := ext_two (u0 := .int .i64 4) (u1 := .slice (some ⟨g2, 0, none⟩) 1 1) (Ext.refl No w1) sb
      have hS2 := (set_same (j := 1) (u := .slice (some ⟨g2, 0, none⟩) 1 1) (set_same (j := 0) (u := .int .i64 4) HS1.out)).trans rfl
      have hB3 : BlkW ((w1.setCell ⟨sb, 0, none⟩ (.int .i64 4)).setCell ⟨sb, 1, none⟩ (.slice (some ⟨g2, 0, none⟩) 1 1)) g2 4 (0 ||| 2 ^ m) := hE2.blk HB2.out (fun e => by have h1 := lt_of_block hS.out; have h2 := HG2.out; unfold At at e; omega)
      rw [Nat.zero_or] at hB3
      have HB3 := Lib.hid hB3
      have HS2 := Lib.hid hS2
      have HX3 := Lib.hid (show Ext No V _ from (hX.out.transNo HE1.out).trans2 hE2 (fun i hi e => by have := HSB.out; unfold At at e; omega))
      clear hE2 hS2 hB3
      generalize ((w1.setCell ⟨sb, 0, none⟩ (.int .i64 4)).setCell ⟨sb, 1, none⟩ (.slice (some ⟨g2, 0, none⟩) 1 1)) = w3 at *
      go_wp2_with fail
      go_roundw
      case rel => exact ⟨1, g2, rfl, .inr rfl, HS2, Lib.hid (fun h => absurd h (by decide)), Lib.hid (fun _ => HB3.out), Nat.le_trans (HX0.out.transNo hX.out).size HG2.out, HX3⟩
      case measure => simp [intOf]
    · have hcS := cellOf hS.out
      have hR := hX.out.blk HR.out no_no
      have cR := cellOf hR
      have fR := freeOf hR
      have hE := ext_two (u0 := .int .i64 4) (u1 := .slice (some ⟨g, 0, none⟩) 1 1) (Ext.refl No wr) W.heap.size
      have hF := (set_same (j := 1) (u := .slice (some ⟨g, 0, none⟩) 1 1) (set_same (j := 0) (u := .int .i64 4) hR)).trans rfl
      have hBF := hE.blk (hG1.out rfl) (fun e => ne_type (hG1.out rfl) hR (by decide) e)
      go_wp2_with fail
      generalize ((wr.setCell ⟨W.heap.size, 0, none⟩ (.int .i64 4)).setCell ⟨W.heap.size, 1, none⟩ (.slice (some ⟨g, 0, none⟩) 1 1)) = WF at *
      have cF := cellOf hF
      refine ret_ex rfl ?_
      simp [results, Try.results49, go_sem, cF]
      exact ⟨g, rfl, Lib.hid hBF, hgW, (HX0.out.transNo hX.out).trans2 hE (fun i hi e => by unfold At at e; omega)⟩
set_option maxRecDepth 100000 in
set_option maxHeartbeats 2000000 in
theorem lset_any (n : Nat) (hn : n ≤ 1000000) (W : World) : Calls Try.prog 17 #[.int .i64 (n : Int)] W (ROwn 4 (2 ^ (n % 4)) W) := by
  have hx0 : Ext No W (W.alloc (.cells #[.int .i64 0, .slice none 0 0] 40)) := (Ext.refl _ _).alloc _
  have HX0 := Lib.hid hx0
  have HR := Lib.hid (alloc_top (w := W) (o := .cells #[.int .i64 0, .slice none 0 0] 40) rfl)
  clear hx0
  have hm : n % 4 < 4 := by omega
  have hnw : nw 4 = 1 := by decide
  go_enter Try.func17, Try.ntmps17
  go_upto_region 1 with (fail)
  generalize (W.alloc (.cells #[.int .i64 0, .slice none 0 0] 40)) = V at *
  go_wp2_with fail
  have hx1 : Ext No V (V.alloc (.cells #[.int .i64 ((n : Int) % 4)] 3)) := (Ext.refl _ _).alloc _
  have hG := alloc_top (w := V) (o := .cells #[.int .i64 ((n : Int) % 4)] 3) rfl
  have HX1 := Lib.hid hx1
  clear hx1
  generalize (V.alloc (.cells #[.int .i64 ((n : Int) % 4)] 3)) = w1 at *
  have hG2 := hG
  rw [show (Obj.cells #[Value.int .i64 ((n : Int) % 4)] 3 (0, 0)) = Obj.cells #[Value.int .i64 ((n % 4 : Nat) : Int)] 3 (0, 0) from by rw [show ((n % 4 : Nat) : Int) = (n : Int) % 4 from by omega]] at hG2
  clear hG
  refine (of_one (n % 4) _ hm w1 hG2).mono ?_
  rintro e2 w2 ⟨g, rfl, hb, hg, hx2⟩
  have HX2 := Lib.hid (HX1.out.transNo hx2)
  have HB := Lib.hid hb.out
  clear hx2 hb hG2
  have hR := HX2.out.blk HR.out no_no
  have hR2 := (Ext.refl No w2).alloc (.cells #[.int .i64 4, .slice (some ⟨g, 0, none⟩) 1 1] 40) |>.blk hR no_no
  have cR := cellOf hR2
  have fR := freeOf hR2
  have hx3 : Ext No w2 (w2.alloc (.cells #[.int .i64 4, .slice (some ⟨g, 0, none⟩) 1 1] 40)) := (Ext.refl _ _).alloc _
  go_upto_region 2 with (fail)
  have hS := alloc_top (w := w2) (o := .cells #[.int .i64 4, .slice (some ⟨g, 0, none⟩) 1 1] 40) rfl
  have HB3 := Lib.hid (show BlkW _ g 4 (2 ^ (n % 4)) from hx3.blk HB.out no_no)
  have HX3 := Lib.hid (HX2.out.transNo hx3)
  clear hx3
  generalize (w2.alloc (.cells #[.int .i64 4, .slice (some ⟨g, 0, none⟩) 1 1] 40)) = w3 at *
  have cS := cellOf hS
  have hE := ext_two (u0 := .int .i64 4) (u1 := .slice (some ⟨g, 0, none⟩) 1 1) (Ext.refl No w3) W.heap.size
  have hF := (set_same (j := 1) (u := .slice (some ⟨g, 0, none⟩) 1 1) (set_same (j := 0) (u := .int .i64 4) hR2)).trans rfl
  have hBF := hE.blk HB3.out (fun e => ne_type HB3.out hR2 (by decide) e)
  go_wp2_with fail
  generalize ((w3.setCell ⟨W.heap.size, 0, none⟩ (.int .i64 4)).setCell ⟨W.heap.size, 1, none⟩ (.slice (some ⟨g, 0, none⟩) 1 1)) = WF at *
  have cF := cellOf hF
  refine ret_ex rfl ?_
  simp [results, Try.results17, go_sem, cF]
  exact ⟨g, rfl, Lib.hid hBF, Nat.le_trans (HX0.out.transNo HX1.out).size hg, (HX0.out.transNo HX3.out).trans2 hE (fun i hi e => by unfold At at e; omega)⟩
end Go.Proofs.Ytfejidihocoboaa

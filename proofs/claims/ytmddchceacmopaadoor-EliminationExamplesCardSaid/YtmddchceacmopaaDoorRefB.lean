
import Derived.Test.YtmddchceacmopaaDoorRefA
set_option linter.unusedVariables false
set_option linter.unusedSimpArgs false
namespace Go.Proofs.YtmddchceacmopaaDoor
open Go Go.RowKit
set_option maxHeartbeats 2000000 in
theorem rvalidT_no (r : RawT) (sg sk sc : Value) (W : World) (h : RawTAt No W sg sk sc r) (hd : headT r = false) : Calls Tryd.prog 48 #[.agg #[.int .i64 (r.gen.width : Int), sg, .int .i64 (r.kill.width : Int), sk, sc]] W (BoolPost (validT r) W) := by
 have H := Lib.hid h
 have hgv : RawV No W (.agg #[.int .i64 r.gen.width, sg]) r.gen := ⟨_, rfl, h.gen⟩
 have hkv : RawV No W (.agg #[.int .i64 r.kill.width, sk]) r.kill := ⟨_, rfl, h.kill⟩
 have HG := Lib.hid hgv
 have HK := Lib.hid hkv
 have hlen := h.copies.2.1
 obtain ⟨ag, ng, cg, rfl⟩ := h.gen.shaped
 obtain ⟨ak, nk, ck, rfl⟩ := h.kill.shaped
 obtain ⟨ac, cc, rfl⟩ := Row.slice h.copies
 clear h hgv hkv
 rw [validT_head hd]
 unfold headT at hd
 cases h1 : validB r.gen with
 | false =>
  clear hd
  go_enter Tryd.func48, Tryd.ntmps48
  go_wp2_with fail
  refine (rvalid_any _ r.gen _ (HG.out.extNo ((Ext.refl _ _).alloc _))).mono ?_
  rintro e1 w1 ⟨rfl, hx1⟩
  rw [h1]
  go_wp2
  go_ret
  exact ⟨rfl, Ext.transNo (by (repeat (first | (with_reducible exact Ext.refl _ _) | (with_reducible assumption) | (with_reducible refine Ext.drewN ?_ _) | (with_reducible refine Ext.drew ?_) | (with_reducible refine Ext.alloc ?_ _)))) hx1⟩
 | true =>
  cases h2 : validB r.kill with
  | false =>
   clear hd
   go_enter Tryd.func48, Tryd.ntmps48
   go_wp2_with fail
   refine (rvalid_any _ r.gen _ (HG.out.extNo ((Ext.refl _ _).alloc _))).mono ?_
   rintro e1 w1 ⟨rfl, hx1⟩
   rw [h1]
   have hxa : Ext No W w1 := ((Ext.refl _ _).alloc _).transNo hx1
   have cB := cellOf (hx1.blk (alloc_top (w := W) rfl) no_no)
   clear hx1
   go_wp2_with fail
   refine (rvalid_any _ r.kill _ (HK.out.extNo hxa)).mono ?_
   rintro e2 w2 ⟨rfl, hx2⟩
   rw [h2]
   go_wp2
   go_ret
   exact ⟨rfl, hxa.transNo hx2⟩
  | true =>
   rw [h1, h2, Bool.true_and, Bool.true_and] at hd
   by_cases h3 : r.gen.width = r.kill.width
   ·have h4 : ¬ r.copies.length ≤ 64 := fun h4 => by rw [decide_eq_true h3, decide_eq_true h4] at hd; cases hd
    have h3' : (r.gen.width != r.kill.width) = false := by simpa using h3
    have h4' : decide ((64 : Int) < (r.copies.length : Int)) = true := by simp; omega
    clear h3 h4 hd
    go_enter Tryd.func48, Tryd.ntmps48
    go_wp2_with fail
    refine (rvalid_any _ r.gen _ (HG.out.extNo ((Ext.refl _ _).alloc _))).mono ?_
    rintro e1 w1 ⟨rfl, hx1⟩
    rw [h1]
    have hxa : Ext No W w1 := ((Ext.refl _ _).alloc _).transNo hx1
    have hB := hx1.blk (alloc_top (w := W) rfl) no_no
    have cB := cellOf hB
    clear hx1
    go_wp2_with fail
    refine (rvalid_any _ r.kill _ (HK.out.extNo hxa)).mono ?_
    rintro e2 w2 ⟨rfl, hx2⟩
    rw [h2]
    clear cB
    have cB := cellOf (hx2.blk hB no_no)
    go_wp2
    go_ret
    exact ⟨rfl, hxa.transNo hx2⟩
   have h3' : (r.gen.width != r.kill.width) = true := by simpa using h3
   clear h3 hd
   go_enter Tryd.func48, Tryd.ntmps48
   go_wp2_with fail
   refine (rvalid_any _ r.gen _ (HG.out.extNo ((Ext.refl _ _).alloc _))).mono ?_
   rintro e1 w1 ⟨rfl, hx1⟩
   rw [h1]
   have hxa : Ext No W w1 := ((Ext.refl _ _).alloc _).transNo hx1
   have hB := hx1.blk (alloc_top (w := W) rfl) no_no
   have cB := cellOf hB
   clear hx1
   go_wp2_with fail
   refine (rvalid_any _ r.kill _ (HK.out.extNo hxa)).mono ?_
   rintro e2 w2 ⟨rfl, hx2⟩
   rw [h2]
   clear cB
   have cB := cellOf (hx2.blk hB no_no)
   go_wp2
   go_ret
   exact ⟨rfl, hxa.transNo hx2⟩
set_option maxRecDepth 100000 in
set_option maxHeartbeats 4000000 in
theorem rvalidT_any (r : RawT) (sg sk sc : Value) (W : World) (h : RawTAt No W sg sk sc r) : Calls Tryd.prog 48 #[.agg #[.int .i64 (r.gen.width : Int), sg, .int .i64 (r.kill.width : Int), sk, sc]] W (BoolPost (validT r) W) := by
 cases hd : headT r with
 | false => exact rvalidT_no r sg sk sc W h hd
 | true =>
  have HD := Lib.hid hd
  have H := Lib.hid h
  have hgv : RawV No W (.agg #[.int .i64 r.gen.width, sg]) r.gen := ⟨_, rfl, h.gen⟩
  have hkv : RawV No W (.agg #[.int .i64 r.kill.width, sk]) r.kill := ⟨_, rfl, h.kill⟩
  have HG := Lib.hid hgv
  have HK := Lib.hid hkv
  obtain ⟨ag, ng, cg, rfl⟩ := h.gen.shaped
  obtain ⟨ak, nk, ck, rfl⟩ := h.kill.shaped
  obtain ⟨ac, cc, rfl⟩ := Row.slice h.copies
  clear h hgv hkv
  unfold headT at hd
  simp only [Bool.and_eq_true, decide_eq_true_eq] at hd
  obtain ⟨h1, h2, h3, h4⟩ := hd
  have h3' : (r.gen.width != r.kill.width) = false := by simpa using h3
  have h4' : decide ((64 : Int) < (r.copies.length : Int)) = false := by simp; omega
  clear h3
  go_enter Tryd.func48, Tryd.ntmps48
  go_wp2_with fail
  refine (rvalid_any _ r.gen _ (HG.out.extNo ((Ext.refl _ _).alloc _))).mono ?_
  rintro e1 w1 ⟨rfl, hx1⟩
  rw [h1]
  have hxa : Ext No W w1 := ((Ext.refl _ _).alloc _).transNo hx1
  have hB := hx1.blk (alloc_top (w := W) rfl) no_no
  have cB := cellOf hB
  clear hx1
  go_wp2_with fail
  refine (rvalid_any _ r.kill _ (HK.out.extNo hxa)).mono ?_
  rintro e2 w2 ⟨rfl, hx2⟩
  rw [h2]
  have hB2 := Lib.hid (hx2.blk hB no_no)
  have HX2 := Lib.hid (hxa.transNo hx2)
  clear cB hB hxa hx2 h1 h2
  have cB := cellOf hB2.out
  go_wp2_with fail
  clear cB h3' h4'
  go_loopw [4] (fun i wr => ∃ k : Nat, k ≤ r.copies.length ∧ i = .int .i64 k ∧ Hid (Ext No W wr) ∧ Hid (wr.heap[W.heap.size]? = some (.cells #[.int .i64 r.gen.width, .slice ag ng cg, .int .i64 r.kill.width, .slice ak nk ck, .slice ac r.copies.length cc] 30 (0, 0))) ∧ Hid (∀ j (hj : j < r.copies.length), j < k → copyOk r.gen.width r.copies j hj = true)) (fun i _ => r.copies.length - (intOf i).toNat)
  case atStart => exact ⟨0, Nat.zero_le _, rfl, HX2, hB2, Lib.hid (fun j _ hj => absurd hj (Nat.not_lt_zero _))⟩
  clear HX2 hB2
  obtain ⟨k, hk, rfl, hx, hB, hall⟩ := hrel
  by_cases hlt : k < r.copies.length
  ·obtain ⟨b, off, cap', hsl, hb1, _, hcell⟩ := H.out.copies.at hlt
   simp only [Value.slice.injEq] at hsl
   obtain ⟨rfl, _, rfl⟩ := hsl
   obtain ⟨q0, q1⟩ := hcell k hlt
   replace q0 := hx.out.keep q0
   replace q1 := hx.out.keep q1
   have p0 := hx.out.keep (hcell (k - 1) (by omega)).1
   have p1 := hx.out.keep (hcell (k - 1) (by omega)).2
   clear hcell
   have hpos : (0 : Int) ≤ (k : Int) := by omega
   have hkb : k ≤ 64 := by omega
   have HE : Hid (copyOk r.gen.width r.copies k hlt = (inB r.gen.width r.copies[k].1 && (inB r.gen.width r.copies[k].2 && (decide (k = 0) || decide (compareZ r.copies[k - 1] r.copies[k] < 0))))) := Lib.hid rfl
   have hsz : W.heap.size < _ := lt_of_block hB.out
   rename World => wr
   have b0 : wr.cell? ⟨W.heap.size, 0, none⟩ = some (.int .i64 r.gen.width) := cellOf hB.out 0
   have b1' : wr.cell? ⟨W.heap.size, 1, none⟩ = some (.slice ag ng cg) := cellOf hB.out 1
   have b2 : wr.cell? ⟨W.heap.size, 2, none⟩ = some (.int .i64 r.kill.width) := cellOf hB.out 2
   have b3 : wr.cell? ⟨W.heap.size, 3, none⟩ = some (.slice ak nk ck) := cellOf hB.out 3
   have b4 : wr.cell? ⟨W.heap.size, 4, none⟩ = some (.slice (some ⟨b, off, none⟩) r.copies.length cc) := cellOf hB.out 4
   have HKK : Hid (Value.int .i64 ((k : Int) + 1) = .int .i64 ((k + 1 : Nat) : Int)) := Lib.hid (by rw [show ((k + 1 : Nat) : Int) = (k : Int) + 1 from by omega])
   generalize hx1 : r.copies[k] = x at *
   generalize hy1 : r.copies[k - 1] = y at *
   obtain ⟨x1, x2⟩ := x
   obtain ⟨y1, y2⟩ := y
   have HXX := Lib.hid hx1
   have HYY := Lib.hid hy1
   clear hx1 hy1
   simp only at q0 q1 p0 p1 HE
   go_wp2_with fail
   have l5 : (wr.alloc (.cells #[.int .i64 x1, .int .i64 x2] 27)).cell? ⟨wr.heap.size, 0, none⟩ = some (.int .i64 x1) := cellOf (alloc_top rfl) 0
   have l6 : (wr.alloc (.cells #[.int .i64 x1, .int .i64 x2] 27)).cell? ⟨wr.heap.size, 1, none⟩ = some (.int .i64 x2) := cellOf (alloc_top rfl) 1
   replace b0 := keepA (o := .cells #[.int .i64 x1, .int .i64 x2] 27) b0
   replace b1' := keepA (o := .cells #[.int .i64 x1, .int .i64 x2] 27) b1'
   replace b2 := keepA (o := .cells #[.int .i64 x1, .int .i64 x2] 27) b2
   replace b3 := keepA (o := .cells #[.int .i64 x1, .int .i64 x2] 27) b3
   replace b4 := keepA (o := .cells #[.int .i64 x1, .int .i64 x2] 27) b4
   replace p0 := keepA (o := .cells #[.int .i64 x1, .int .i64 x2] 27) p0
   replace p1 := keepA (o := .cells #[.int .i64 x1, .int .i64 x2] 27) p1
   have hx4 : Ext No wr (wr.alloc (.cells #[.int .i64 x1, .int .i64 x2] 27)) := (Ext.refl _ _).alloc _
   have hB4 := Lib.hid (alloc_under (o := .cells #[.int .i64 x1, .int .i64 x2] 27) hB.out)
   have hxW := Lib.hid (hx.out.transNo hx4)
   clear q0 q1 hx hB hsz
   generalize wr.heap.size = D at *
   generalize wr.alloc (.cells #[.int .i64 x1, .int .i64 x2] 27) = w4 at *
   clear hx4
   have l9 : Ext No w4 w4 := Ext.refl _ _
   have hw1 : 0 < k → IntKind.i64.wrap ((k : Int) - 1) = ((k - 1 : Nat) : Int) := fun h => by rw [IntWalk.i64_in _ (by omega)]; omega
   have hp1 : 0 ≤ ((k - 1 : Nat) : Int) := by omega
   have hp2 : ((k - 1 : Nat) : Int) < (r.copies.length : Int) := by omega
   clear b0 b1' b2 b3 hw1
   have hxl : D < w4.heap.size := World.block_lt_of_cell? w4 _ l5
   by_cases n1 : x1 < 0
   ·have d1 : inB r.gen.width x1 = false := by simp only [inB, decide_eq_false_iff_not]; omega
    refine wp_region_held_drew (S := (fun w' => w'.cell? ⟨W.heap.size, 4, none⟩ = some (.slice (some ⟨b, off, none⟩) r.copies.length cc) ∧ w'.cell? ⟨D, 0, none⟩ = some (.int .i64 x1) ∧ w'.cell? ⟨D, 1, none⟩ = some (.int .i64 x2) ∧ w'.cell? ⟨b, off + (k - 1) * 2, none⟩ = some (.int .i64 y1) ∧ w'.cell? ⟨b, off + (k - 1) * 2 + 1, none⟩ = some (.int .i64 y2) ∧ Ext No w4 w')) (by kernel_rfl) ?_ (fun hHeld => ?_)
    ·(go_split_ands; refine ⟨?_, ?_, ?_, ?_, ?_, ?_⟩ <;> (repeat (first | (with_reducible assumption) | (with_reducible exact Ext.refl _ _) | (with_reducible refine keepD ?_) | (with_reducible refine keepA ?_) | (with_reducible refine Ext.drew ?_) | (with_reducible refine Ext.alloc ?_ _) | (with_reducible refine BoxR.drew ?_) | (with_reducible refine BoxR.alloc ?_ _) | (with_reducible refine BoxR.set ?_ _ _) | ((with_reducible refine keepS ?_ ?_); (first | (with_reducible assumption) | omega | (simp; omega) | (exact Nat.le_refl _))) | (with_reducible refine Ext.setAt ?_ _ _) | ((with_reducible refine Ext.own ?_ ?_ _); rotate_left; (first | (with_reducible assumption) | omega | (simp; omega) | (exact Nat.le_refl _))) | (with_reducible refine keepN hyA ?_) | (with_reducible refine Ext.transNo ?_ hyA) | (with_reducible refine BoxR.ext ?_ hyA))))
    refine hHs [0, 1, 2, 3] ?_
    iterate 4
     refine hTn ?_ hHeld (fun w hSw => ?_) ?_
     rotate_left
     ·(try dsimp only at hSw); go_simp; (try with_reducible rfl)
     simp only [Act.put, nzA, nzB, nzC]
    refine hHe ?_
    refine hHs [4, 5, 6, 7] ?_
    iterate 4
     refine hSn hHeld ?_
     simp only [Act.put, nzA, nzB, nzC]
    refine hHe ?_
    refine hHs [8, 9] ?_
    iterate 2
     refine hTn ?_ hHeld (fun w hSw => ?_) ?_
     rotate_left
     ·(try dsimp only at hSw); go_simp; (try with_reducible rfl)
     simp only [Act.put, nzA, nzB, nzC]
    refine hHe ?_
    refine hHs [10, 11, 12] ?_
    iterate 3
     refine hSn hHeld ?_
     simp only [Act.put, nzA, nzB, nzC]
    refine hHe ?_
    refine hHs [13, 14] ?_
    iterate 2
     refine hTn ?_ hHeld (fun w hSw => ?_) ?_
     rotate_left
     ·(try dsimp only at hSw); go_simp; (try with_reducible rfl)
     simp only [Act.put, nzA, nzB, nzC]
    refine hHe ?_
    refine hHs [15, 16, 17, 18] ?_
    iterate 4
     refine hSn hHeld ?_
     simp only [Act.put, nzA, nzB, nzC]
    refine hHe ?_
    refine hHs [19, 20] ?_
    iterate 2
     refine hTn ?_ hHeld (fun w hSw => ?_) ?_
     rotate_left
     ·(try dsimp only at hSw); go_simp; (try with_reducible rfl)
     simp only [Act.put, nzA, nzB, nzC]
    refine hHe ?_
    refine hHs [21, 22, 23, 24, 25, 26, 27, 28, 29, 30, 31, 32, 33] ?_
    iterate 13
     refine hSn hHeld ?_
     simp only [Act.put, nzA, nzB, nzC]
    refine hHe ?_
    refine hTk 34 ?_ hHeld (fun w hSw => ?_) ?_
    rotate_left
    ·(try dsimp only at hSw); go_simp; (try with_reducible rfl)
    simp only [Act.put, nzA, nzB, nzC]
    refine wpAnyH_done (by kernel_rfl) ?_ _
    have lZ := hHeld.2.2.2.2.2
    go_wp2_with fail
    go_ret
    exact ⟨ret_bool (validT_bad k hlt (by rw [HE.out, d1]; rfl)).symm, hxW.out.transNo lZ⟩
   by_cases n2 : r.gen.width ≤ x1
   ·have d1 : inB r.gen.width x1 = false := by simp only [inB, decide_eq_false_iff_not]; omega
    have n1' : decide (x1 < 0) = false := by simpa using n1
    clear n1
    refine wp_region_held_drew (S := (fun w' => w'.cell? ⟨W.heap.size, 4, none⟩ = some (.slice (some ⟨b, off, none⟩) r.copies.length cc) ∧ w'.cell? ⟨D, 0, none⟩ = some (.int .i64 x1) ∧ w'.cell? ⟨D, 1, none⟩ = some (.int .i64 x2) ∧ w'.cell? ⟨b, off + (k - 1) * 2, none⟩ = some (.int .i64 y1) ∧ w'.cell? ⟨b, off + (k - 1) * 2 + 1, none⟩ = some (.int .i64 y2) ∧ Ext No w4 w')) (by kernel_rfl) ?_ (fun hHeld => ?_)
    ·(go_split_ands; refine ⟨?_, ?_, ?_, ?_, ?_, ?_⟩ <;> (repeat (first | (with_reducible assumption) | (with_reducible exact Ext.refl _ _) | (with_reducible refine keepD ?_) | (with_reducible refine keepA ?_) | (with_reducible refine Ext.drew ?_) | (with_reducible refine Ext.alloc ?_ _) | (with_reducible refine BoxR.drew ?_) | (with_reducible refine BoxR.alloc ?_ _) | (with_reducible refine BoxR.set ?_ _ _) | ((with_reducible refine keepS ?_ ?_); (first | (with_reducible assumption) | omega | (simp; omega) | (exact Nat.le_refl _))) | (with_reducible refine Ext.setAt ?_ _ _) | ((with_reducible refine Ext.own ?_ ?_ _); rotate_left; (first | (with_reducible assumption) | omega | (simp; omega) | (exact Nat.le_refl _))) | (with_reducible refine keepN hyA ?_) | (with_reducible refine Ext.transNo ?_ hyA) | (with_reducible refine BoxR.ext ?_ hyA))))
    refine hHs [0, 1, 2, 3, 4, 5, 6, 7, 8, 9] ?_
    iterate 10
     refine hTn ?_ hHeld (fun w hSw => ?_) ?_
     rotate_left
     ·(try dsimp only at hSw); go_simp; (try with_reducible rfl)
     simp only [Act.put, nzA, nzB, nzC]
    refine hHe ?_
    refine hHs [10, 11, 12] ?_
    iterate 3
     refine hSn hHeld ?_
     simp only [Act.put, nzA, nzB, nzC]
    refine hHe ?_
    refine hHs [13, 14] ?_
    iterate 2
     refine hTn ?_ hHeld (fun w hSw => ?_) ?_
     rotate_left
     ·(try dsimp only at hSw); go_simp; (try with_reducible rfl)
     simp only [Act.put, nzA, nzB, nzC]
    refine hHe ?_
    refine hHs [15, 16, 17, 18] ?_
    iterate 4
     refine hSn hHeld ?_
     simp only [Act.put, nzA, nzB, nzC]
    refine hHe ?_
    refine hHs [19, 20] ?_
    iterate 2
     refine hTn ?_ hHeld (fun w hSw => ?_) ?_
     rotate_left
     ·(try dsimp only at hSw); go_simp; (try with_reducible rfl)
     simp only [Act.put, nzA, nzB, nzC]
    refine hHe ?_
    refine hHs [21, 22, 23, 24, 25, 26, 27, 28, 29, 30, 31, 32, 33] ?_
    iterate 13
     refine hSn hHeld ?_
     simp only [Act.put, nzA, nzB, nzC]
    refine hHe ?_
    refine hTk 34 ?_ hHeld (fun w hSw => ?_) ?_
    rotate_left
    ·(try dsimp only at hSw); go_simp; (try with_reducible rfl)
    simp only [Act.put, nzA, nzB, nzC]
    refine wpAnyH_done (by kernel_rfl) ?_ _
    have lZ := hHeld.2.2.2.2.2
    go_wp2_with fail
    go_ret
    exact ⟨ret_bool (validT_bad k hlt (by rw [HE.out, d1]; rfl)).symm, hxW.out.transNo lZ⟩
   have d1 : Hid (inB r.gen.width x1 = true) := Lib.hid (by simp only [inB, decide_eq_true_eq]; omega)
   have n1' : decide (x1 < 0) = false := by simpa using n1
   have n2' : decide (r.gen.width ≤ x1) = false := by simpa using n2
   clear n1 n2
   by_cases n3 : x2 < 0
   ·have d2 : inB r.gen.width x2 = false := by simp only [inB, decide_eq_false_iff_not]; omega
    refine wp_region_held_drew (S := (fun w' => w'.cell? ⟨W.heap.size, 4, none⟩ = some (.slice (some ⟨b, off, none⟩) r.copies.length cc) ∧ w'.cell? ⟨D, 0, none⟩ = some (.int .i64 x1) ∧ w'.cell? ⟨D, 1, none⟩ = some (.int .i64 x2) ∧ w'.cell? ⟨b, off + (k - 1) * 2, none⟩ = some (.int .i64 y1) ∧ w'.cell? ⟨b, off + (k - 1) * 2 + 1, none⟩ = some (.int .i64 y2) ∧ Ext No w4 w')) (by kernel_rfl) ?_ (fun hHeld => ?_)
    ·(go_split_ands; refine ⟨?_, ?_, ?_, ?_, ?_, ?_⟩ <;> (repeat (first | (with_reducible assumption) | (with_reducible exact Ext.refl _ _) | (with_reducible refine keepD ?_) | (with_reducible refine keepA ?_) | (with_reducible refine Ext.drew ?_) | (with_reducible refine Ext.alloc ?_ _) | (with_reducible refine BoxR.drew ?_) | (with_reducible refine BoxR.alloc ?_ _) | (with_reducible refine BoxR.set ?_ _ _) | ((with_reducible refine keepS ?_ ?_); (first | (with_reducible assumption) | omega | (simp; omega) | (exact Nat.le_refl _))) | (with_reducible refine Ext.setAt ?_ _ _) | ((with_reducible refine Ext.own ?_ ?_ _); rotate_left; (first | (with_reducible assumption) | omega | (simp; omega) | (exact Nat.le_refl _))) | (with_reducible refine keepN hyA ?_) | (with_reducible refine Ext.transNo ?_ hyA) | (with_reducible refine BoxR.ext ?_ hyA))))
    refine hHs [0, 1, 2, 3, 4, 5, 6, 7, 8, 9, 10, 11, 12, 13, 14] ?_
    iterate 15
     refine hTn ?_ hHeld (fun w hSw => ?_) ?_
     rotate_left
     ·(try dsimp only at hSw); go_simp; (try with_reducible rfl)
     simp only [Act.put, nzA, nzB, nzC]
    refine hHe ?_
    refine hHs [15, 16, 17, 18] ?_
    iterate 4
     refine hSn hHeld ?_
     simp only [Act.put, nzA, nzB, nzC]
    refine hHe ?_
    refine hHs [19, 20] ?_
    iterate 2
     refine hTn ?_ hHeld (fun w hSw => ?_) ?_
     rotate_left
     ·(try dsimp only at hSw); go_simp; (try with_reducible rfl)
     simp only [Act.put, nzA, nzB, nzC]
    refine hHe ?_
    refine hHs [21, 22, 23, 24, 25, 26, 27, 28, 29, 30, 31, 32, 33] ?_
    iterate 13
     refine hSn hHeld ?_
     simp only [Act.put, nzA, nzB, nzC]
    refine hHe ?_
    refine hTk 34 ?_ hHeld (fun w hSw => ?_) ?_
    rotate_left
    ·(try dsimp only at hSw); go_simp; (try with_reducible rfl)
    simp only [Act.put, nzA, nzB, nzC]
    refine wpAnyH_done (by kernel_rfl) ?_ _
    have lZ := hHeld.2.2.2.2.2
    go_wp2_with fail
    go_ret
    exact ⟨ret_bool (validT_bad k hlt (by rw [HE.out, d1.out, d2]; rfl)).symm, hxW.out.transNo lZ⟩
   by_cases n4 : r.gen.width ≤ x2
   ·have d2 : inB r.gen.width x2 = false := by simp only [inB, decide_eq_false_iff_not]; omega
    have n3' : decide (x2 < 0) = false := by simpa using n3
    clear n3
    refine wp_region_held_drew (S := (fun w' => w'.cell? ⟨W.heap.size, 4, none⟩ = some (.slice (some ⟨b, off, none⟩) r.copies.length cc) ∧ w'.cell? ⟨D, 0, none⟩ = some (.int .i64 x1) ∧ w'.cell? ⟨D, 1, none⟩ = some (.int .i64 x2) ∧ w'.cell? ⟨b, off + (k - 1) * 2, none⟩ = some (.int .i64 y1) ∧ w'.cell? ⟨b, off + (k - 1) * 2 + 1, none⟩ = some (.int .i64 y2) ∧ Ext No w4 w')) (by kernel_rfl) ?_ (fun hHeld => ?_)
    ·(go_split_ands; refine ⟨?_, ?_, ?_, ?_, ?_, ?_⟩ <;> (repeat (first | (with_reducible assumption) | (with_reducible exact Ext.refl _ _) | (with_reducible refine keepD ?_) | (with_reducible refine keepA ?_) | (with_reducible refine Ext.drew ?_) | (with_reducible refine Ext.alloc ?_ _) | (with_reducible refine BoxR.drew ?_) | (with_reducible refine BoxR.alloc ?_ _) | (with_reducible refine BoxR.set ?_ _ _) | ((with_reducible refine keepS ?_ ?_); (first | (with_reducible assumption) | omega | (simp; omega) | (exact Nat.le_refl _))) | (with_reducible refine Ext.setAt ?_ _ _) | ((with_reducible refine Ext.own ?_ ?_ _); rotate_left; (first | (with_reducible assumption) | omega | (simp; omega) | (exact Nat.le_refl _))) | (with_reducible refine keepN hyA ?_) | (with_reducible refine Ext.transNo ?_ hyA) | (with_reducible refine BoxR.ext ?_ hyA))))
    refine hHs [0, 1, 2, 3, 4, 5, 6, 7, 8, 9, 10, 11, 12, 13, 14, 15, 16, 17, 18, 19, 20] ?_
    iterate 21
     refine hTn ?_ hHeld (fun w hSw => ?_) ?_
     rotate_left
     ·(try dsimp only at hSw); go_simp; (try with_reducible rfl)
     simp only [Act.put, nzA, nzB, nzC]
    refine hHe ?_
    refine hHs [21, 22, 23, 24, 25, 26, 27, 28, 29, 30, 31, 32, 33] ?_
    iterate 13
     refine hSn hHeld ?_
     simp only [Act.put, nzA, nzB, nzC]
    refine hHe ?_
    refine hTk 34 ?_ hHeld (fun w hSw => ?_) ?_
    rotate_left
    ·(try dsimp only at hSw); go_simp; (try with_reducible rfl)
    simp only [Act.put, nzA, nzB, nzC]
    refine wpAnyH_done (by kernel_rfl) ?_ _
    have lZ := hHeld.2.2.2.2.2
    go_wp2_with fail
    go_ret
    exact ⟨ret_bool (validT_bad k hlt (by rw [HE.out, d1.out, d2]; rfl)).symm, hxW.out.transNo lZ⟩
   have d2 : Hid (inB r.gen.width x2 = true) := Lib.hid (by simp only [inB, decide_eq_true_eq]; omega)
   have n3' : decide (x2 < 0) = false := by simpa using n3
   have n4' : decide (r.gen.width ≤ x2) = false := by simpa using n4
   clear n3 n4
   by_cases hk0 : k = 0
   ·have HK0 := Lib.hid hk0
    have hkd : decide ((0 : Int) < (k : Int)) = false := decide_eq_false (by omega)
    have hkn : ¬ (0 < k) := by omega
    clear hp1 hp2 hk0
    refine wp_region_held_drew (S := (fun w' => w'.cell? ⟨W.heap.size, 4, none⟩ = some (.slice (some ⟨b, off, none⟩) r.copies.length cc) ∧ w'.cell? ⟨D, 0, none⟩ = some (.int .i64 x1) ∧ w'.cell? ⟨D, 1, none⟩ = some (.int .i64 x2) ∧ w'.cell? ⟨b, off + (k - 1) * 2, none⟩ = some (.int .i64 y1) ∧ w'.cell? ⟨b, off + (k - 1) * 2 + 1, none⟩ = some (.int .i64 y2) ∧ Ext No w4 w')) (by kernel_rfl) ?_ (fun hHeld => ?_)
    ·(go_split_ands; refine ⟨?_, ?_, ?_, ?_, ?_, ?_⟩ <;> (repeat (first | (with_reducible assumption) | (with_reducible exact Ext.refl _ _) | (with_reducible refine keepD ?_) | (with_reducible refine keepA ?_) | (with_reducible refine Ext.drew ?_) | (with_reducible refine Ext.alloc ?_ _) | (with_reducible refine BoxR.drew ?_) | (with_reducible refine BoxR.alloc ?_ _) | (with_reducible refine BoxR.set ?_ _ _) | ((with_reducible refine keepS ?_ ?_); (first | (with_reducible assumption) | omega | (simp; omega) | (exact Nat.le_refl _))) | (with_reducible refine Ext.setAt ?_ _ _) | ((with_reducible refine Ext.own ?_ ?_ _); rotate_left; (first | (with_reducible assumption) | omega | (simp; omega) | (exact Nat.le_refl _))) | (with_reducible refine keepN hyA ?_) | (with_reducible refine Ext.transNo ?_ hyA) | (with_reducible refine BoxR.ext ?_ hyA))))
    refine hHs [0, 1, 2, 3, 4, 5, 6, 7, 8, 9, 10, 11, 12, 13, 14, 15, 16, 17, 18, 19, 20, 21, 22, 23] ?_
    iterate 24
     refine hTn ?_ hHeld (fun w hSw => ?_) ?_
     rotate_left
     ·(try dsimp only at hSw); go_simp; (try with_reducible rfl)
     simp only [Act.put, nzA, nzB, nzC]
    refine hHe ?_
    refine hHs [24, 25, 26, 27, 28, 29, 30, 31, 32] ?_
    iterate 9
     refine hSn hHeld ?_
     simp only [Act.put, nzA, nzB, nzC]
    refine hHe ?_
    refine hHs [33, 34] ?_
    iterate 2
     refine hTn ?_ hHeld (fun w hSw => ?_) ?_
     rotate_left
     ·(try dsimp only at hSw); go_simp; (try with_reducible rfl)
     simp only [Act.put, nzA, nzB, nzC]
    refine hHe ?_
    refine wpAnyH_done (by kernel_rfl) ?_ _
    have lZ := hHeld.2.2.2.2.2
    go_wp2_with fail
    go_roundw
    case rel => exact ⟨k + 1, by omega, HKK.out, Lib.hid (hxW.out.transNo lZ), Lib.hid (lZ.blk hB4.out no_no), Lib.hid (fun j hj hjk => by
     by_cases e : j = k
     ·subst e
      rw [HE.out, d1.out, d2.out, decide_eq_true HK0.out]; rfl
     exact hall.out j hj (by omega))⟩
    case measure => simp [intOf]; omega
   have hkp : 0 < k := by omega
   have hw2 : IntKind.i64.wrap ((k : Int) - 1) = ((k - 1 : Nat) : Int) := by rw [IntWalk.i64_in _ (by omega)]; omega
   have HK0 := Lib.hid hk0
   clear hk0
   have hkd : decide ((0 : Int) < (k : Int)) = true := by simpa using hkp
   cases hbb : beforeB (y1, y2) (x1, x2)
   ·have HBB := Lib.hid hbb
    have HCZ := Lib.hid ((before_cmp (y1, y2) (x1, x2)).symm.trans hbb)
    clear hbb
    refine wp_region_held_drew (S := (fun w' => w'.cell? ⟨W.heap.size, 4, none⟩ = some (.slice (some ⟨b, off, none⟩) r.copies.length cc) ∧ w'.cell? ⟨D, 0, none⟩ = some (.int .i64 x1) ∧ w'.cell? ⟨D, 1, none⟩ = some (.int .i64 x2) ∧ w'.cell? ⟨b, off + (k - 1) * 2, none⟩ = some (.int .i64 y1) ∧ w'.cell? ⟨b, off + (k - 1) * 2 + 1, none⟩ = some (.int .i64 y2) ∧ Ext No w4 w')) (by kernel_rfl) ?_ (fun hHeld => ?_)
    ·(go_split_ands; refine ⟨?_, ?_, ?_, ?_, ?_, ?_⟩ <;> (repeat (first | (with_reducible assumption) | (with_reducible exact Ext.refl _ _) | (with_reducible refine keepD ?_) | (with_reducible refine keepA ?_) | (with_reducible refine Ext.drew ?_) | (with_reducible refine Ext.alloc ?_ _) | (with_reducible refine BoxR.drew ?_) | (with_reducible refine BoxR.alloc ?_ _) | (with_reducible refine BoxR.set ?_ _ _) | ((with_reducible refine keepS ?_ ?_); (first | (with_reducible assumption) | omega | (simp; omega) | (exact Nat.le_refl _))) | (with_reducible refine Ext.setAt ?_ _ _) | ((with_reducible refine Ext.own ?_ ?_ _); rotate_left; (first | (with_reducible assumption) | omega | (simp; omega) | (exact Nat.le_refl _))) | (with_reducible refine keepN hyA ?_) | (with_reducible refine Ext.transNo ?_ hyA) | (with_reducible refine BoxR.ext ?_ hyA))))
    refine hHs [0, 1, 2, 3, 4, 5, 6, 7, 8, 9, 10, 11, 12, 13, 14, 15, 16, 17, 18, 19, 20, 21, 22, 23, 24, 25, 26, 27, 28, 29, 30] ?_
    iterate 31
     refine hTn ?_ hHeld (fun w hSw => ?_) ?_
     rotate_left
     ·(try dsimp only at hSw); go_simp; (try with_reducible rfl)
     simp only [Act.put, nzA, nzB, nzC]
    refine hHe ?_
    refine hHc 31 fun K hK => ?_
    ((try go_simp); go_at_call 79; (with_reducible refine (rbefore_any (y1, y2) (x1, x2) _).mono ?_); (rintro e' w1 ⟨rfl, hyA⟩); (try rw [HBB.out]); go_simp)
    refine hK.out _ _ ?_ ?_
    ·(go_split_ands; refine ⟨?_, ?_, ?_, ?_, ?_, ?_⟩ <;> (repeat (first | (with_reducible assumption) | (with_reducible exact Ext.refl _ _) | (with_reducible refine keepD ?_) | (with_reducible refine keepA ?_) | (with_reducible refine Ext.drew ?_) | (with_reducible refine Ext.alloc ?_ _) | (with_reducible refine BoxR.drew ?_) | (with_reducible refine BoxR.alloc ?_ _) | (with_reducible refine BoxR.set ?_ _ _) | ((with_reducible refine keepS ?_ ?_); (first | (with_reducible assumption) | omega | (simp; omega) | (exact Nat.le_refl _))) | (with_reducible refine Ext.setAt ?_ _ _) | ((with_reducible refine Ext.own ?_ ?_ _); rotate_left; (first | (with_reducible assumption) | omega | (simp; omega) | (exact Nat.le_refl _))) | (with_reducible refine keepN hyA ?_) | (with_reducible refine Ext.transNo ?_ hyA) | (with_reducible refine BoxR.ext ?_ hyA))))
    clear hK K hHeld
    intro hHeld
    refine hHs [32, 33, 34] ?_
    iterate 3
     refine hTn ?_ hHeld (fun w hSw => ?_) ?_
     rotate_left
     ·(try dsimp only at hSw); go_simp; (try with_reducible rfl)
     simp only [Act.put, nzA, nzB, nzC]
    refine hHe ?_
    refine wpAnyH_done (by kernel_rfl) ?_ _
    have lZ := hHeld.2.2.2.2.2
    go_wp2_with fail
    go_ret
    exact ⟨ret_bool (validT_bad k hlt (by rw [HE.out, d1.out, d2.out, HCZ.out, decide_eq_false HK0.out]; rfl)).symm, hxW.out.transNo lZ⟩
   have HBB := Lib.hid hbb
   have HCZ := Lib.hid ((before_cmp (y1, y2) (x1, x2)).symm.trans hbb)
   clear hbb
   refine wp_region_held_drew (S := (fun w' => w'.cell? ⟨W.heap.size, 4, none⟩ = some (.slice (some ⟨b, off, none⟩) r.copies.length cc) ∧ w'.cell? ⟨D, 0, none⟩ = some (.int .i64 x1) ∧ w'.cell? ⟨D, 1, none⟩ = some (.int .i64 x2) ∧ w'.cell? ⟨b, off + (k - 1) * 2, none⟩ = some (.int .i64 y1) ∧ w'.cell? ⟨b, off + (k - 1) * 2 + 1, none⟩ = some (.int .i64 y2) ∧ Ext No w4 w')) (by kernel_rfl) ?_ (fun hHeld => ?_)
   ·(go_split_ands; refine ⟨?_, ?_, ?_, ?_, ?_, ?_⟩ <;> (repeat (first | (with_reducible assumption) | (with_reducible exact Ext.refl _ _) | (with_reducible refine keepD ?_) | (with_reducible refine keepA ?_) | (with_reducible refine Ext.drew ?_) | (with_reducible refine Ext.alloc ?_ _) | (with_reducible refine BoxR.drew ?_) | (with_reducible refine BoxR.alloc ?_ _) | (with_reducible refine BoxR.set ?_ _ _) | ((with_reducible refine keepS ?_ ?_); (first | (with_reducible assumption) | omega | (simp; omega) | (exact Nat.le_refl _))) | (with_reducible refine Ext.setAt ?_ _ _) | ((with_reducible refine Ext.own ?_ ?_ _); rotate_left; (first | (with_reducible assumption) | omega | (simp; omega) | (exact Nat.le_refl _))) | (with_reducible refine keepN hyA ?_) | (with_reducible refine Ext.transNo ?_ hyA) | (with_reducible refine BoxR.ext ?_ hyA))))
   refine hHs [0, 1, 2, 3, 4, 5, 6, 7, 8, 9, 10, 11, 12, 13, 14, 15, 16, 17, 18, 19, 20, 21, 22, 23, 24, 25, 26, 27, 28, 29, 30] ?_
   iterate 31
    refine hTn ?_ hHeld (fun w hSw => ?_) ?_
    rotate_left
    ·(try dsimp only at hSw); go_simp; (try with_reducible rfl)
    simp only [Act.put, nzA, nzB, nzC]
   refine hHe ?_
   refine hHc 31 fun K hK => ?_
   ((try go_simp); go_at_call 79; (with_reducible refine (rbefore_any (y1, y2) (x1, x2) _).mono ?_); (rintro e' w1 ⟨rfl, hyA⟩); (try rw [HBB.out]); go_simp)
   refine hK.out _ _ ?_ ?_
   ·(go_split_ands; refine ⟨?_, ?_, ?_, ?_, ?_, ?_⟩ <;> (repeat (first | (with_reducible assumption) | (with_reducible exact Ext.refl _ _) | (with_reducible refine keepD ?_) | (with_reducible refine keepA ?_) | (with_reducible refine Ext.drew ?_) | (with_reducible refine Ext.alloc ?_ _) | (with_reducible refine BoxR.drew ?_) | (with_reducible refine BoxR.alloc ?_ _) | (with_reducible refine BoxR.set ?_ _ _) | ((with_reducible refine keepS ?_ ?_); (first | (with_reducible assumption) | omega | (simp; omega) | (exact Nat.le_refl _))) | (with_reducible refine Ext.setAt ?_ _ _) | ((with_reducible refine Ext.own ?_ ?_ _); rotate_left; (first | (with_reducible assumption) | omega | (simp; omega) | (exact Nat.le_refl _))) | (with_reducible refine keepN hyA ?_) | (with_reducible refine Ext.transNo ?_ hyA) | (with_reducible refine BoxR.ext ?_ hyA))))
   clear hK K hHeld
   intro hHeld
   refine hHs [32, 33, 34] ?_
   iterate 3
    refine hTn ?_ hHeld (fun w hSw => ?_) ?_
    rotate_left
    ·(try dsimp only at hSw); go_simp; (try with_reducible rfl)
    simp only [Act.put, nzA, nzB, nzC]
   refine hHe ?_
   refine wpAnyH_done (by kernel_rfl) ?_ _
   have lZ := hHeld.2.2.2.2.2
   go_wp2_with fail
   go_roundw
   case rel => exact ⟨k + 1, by omega, HKK.out, Lib.hid (hxW.out.transNo lZ), Lib.hid (lZ.blk hB4.out no_no), Lib.hid (fun j hj hjk => by
    by_cases e : j = k
    ·subst e
     rw [HE.out, d1.out, d2.out, HCZ.out, Bool.or_true]; rfl
    exact hall.out j hj (by omega))⟩
   case measure => simp [intOf]; omega
  have hfin : validT r = true := validT_all HD.out (fun j hj => hall.out j hj (by omega))
  have HF := Lib.hid hfin
  clear hfin
  have cB := cellOf hB.out
  have hge : ¬ (k : Int) < (r.copies.length : Int) := by omega
  go_wp2_with fail
  go_ret
  rw [HF.out]
  exact ⟨rfl, hx.out⟩

/- The walk of TransferStarLeast. -/
import Derived.Test.YtgakojgkkdmabaaDoorTr46
set_option linter.unusedVariables false
set_option linter.unusedSimpArgs false
namespace Go.Proofs.YtgakojgkkdmabaaDoor
open Go Go.RowKit

set_option maxRecDepth 100000 in
set_option maxHeartbeats 8000000 in
theorem transferStarLeast_any (tl : Value) (zs : List Int) (w : World) (ht : Ints No w .i64 tl zs) (hT : TabW w) : Calls Tryd.prog 10 #[tl] w fun e w' => e = .returned (.bool true) ∧ Ext No w w' := by
  have HT := Lib.hid ht
  have HTB := Lib.hid hT
  obtain ⟨at', ct', rfl⟩ := ht.slice
  clear ht hT
  go_enter Tryd.func10, Tryd.ntmps10
  go_wp2_with fail
  refine (new_any _ zs _ HT.out).mono ?_
  rintro e0 w0 ⟨rfl, ht0, hx0, hs0⟩
  have HT0 := Lib.hid ht0
  have HX0 := Lib.hid hx0
  clear ht0 hx0 hs0
  go_wp2_with fail
  refine (width_any _ _ HT0.out).mono ?_
  rintro e1 w1 ⟨W8, hw8, rfl, ht1, hx1⟩
  have HT1 := Lib.hid ht1
  have HX1 := Lib.hid (HX0.out.trans2 hx1 (fun i hi e => by cases e; exact absurd hi (Nat.lt_irrefl _)))
  clear HX0 HT0 ht1 hx1
  go_wp2_with fail
  have hlt1 := HT1.out.lt
  refine (gtr_any _ W8 _ (by omega) HT1.out).mono ?_
  rintro e2 w2 ⟨t, sg, sk, sc, hw, rfl, hF, ht2, hx2⟩
  subst hw
  obtain ⟨afg, cfg, rfl⟩ := hF.out.gen.slice
  obtain ⟨afk, cfk, rfl⟩ := hF.out.kill.slice
  obtain ⟨afc, cfc, rfl⟩ := Row.slice hF.out.copies
  have HWF := Lib.hid (show t.w = t.w from rfl)
  have hF2 := Lib.hid (hF.out.mono (M' := At w.heap.size) (fun i _ e => by cases e; exact hlt1))
  clear hF
  have HT2 := Lib.hid ht2
  have HX2 := Lib.hid (HX1.out.trans2 hx2 (fun i hi e => by cases e; exact absurd hi (Nat.lt_irrefl _)))
  have hsz2 := hx2.size
  clear HX1 HT1 ht2 hx2
  go_wp2_with fail
  have hlt2 := HT2.out.lt
  refine (gset_any _ t.w _ (by omega) HT2.out).mono ?_
  rintro e3 w3 ⟨m, gs, hm, rfl, hb, hlo, ht3, hx3⟩
  have HMS := Lib.hid hm
  have hS3 := Lib.hid (hb.out.set (M := At w.heap.size) (Nat.le_trans hw8 (by decide)) hm (fun e => by unfold At at e; omega))
  clear hm hb hlo
  have hF3 := Lib.hid (hF2.out.ext hx3 (fun i _ e => e))
  have HT3 := Lib.hid ht3
  have HX3 := Lib.hid (HX2.out.trans2 hx3 (fun i hi e => by cases e; exact absurd hi (Nat.lt_irrefl _)))
  have hsz3 := hx3.size
  clear HX2 HT2 ht3 hx3 hF2
  go_wp2_with fail
  have hlt3 := HT3.out.lt
  refine (gset_any _ t.w _ (by omega) HT3.out).mono ?_
  rintro e4 w4 ⟨q, gy, hm, rfl, hb, hlo, ht4, hx4⟩
  have HMY := Lib.hid hm
  have hY4 := Lib.hid (hb.out.set (M := At w.heap.size) (Nat.le_trans hw8 (by decide)) hm (fun e => by unfold At at e; omega))
  clear hm hb hlo
  have hF4 := Lib.hid (hF3.out.ext hx4 (fun i _ e => e))
  have hS4 := Lib.hid (hS3.out.ext hx4 (fun i _ e => e))
  have HT4 := Lib.hid ht4
  have HX4 := Lib.hid (HX3.out.trans2 hx4 (fun i hi e => by cases e; exact absurd hi (Nat.lt_irrefl _)))
  have hsz4 := hx4.size
  clear HX3 HT3 ht4 hx4 hF3 hS3
  go_wp2_with fail
  have hx5 : Ext No w4 (((w4.alloc (.cells #[.int .i64 (t.w : Int), .slice afg (nw t.w) cfg, .int .i64 (t.w : Int), .slice afk (nw t.w) cfk, .slice afc t.copies.length cfc] 28)).alloc (.cells #[.int .i64 (t.w : Int), .slice (some ⟨gs, 0, none⟩) (nw t.w) (nw t.w)] 25)).alloc (.cells #[.int .i64 (t.w : Int), .slice (some ⟨gy, 0, none⟩) (nw t.w) (nw t.w)] 25)) := (((Ext.refl _ _).alloc _).alloc _).alloc _
  have hF := Lib.hid (show TrBoxM (At (w4.heap.size + 2)) w4.heap.size t.w t.copies.length t afg cfg afk cfk afc cfc (((w4.alloc (.cells #[.int .i64 (t.w : Int), .slice afg (nw t.w) cfg, .int .i64 (t.w : Int), .slice afk (nw t.w) cfk, .slice afc t.copies.length cfc] 28)).alloc (.cells #[.int .i64 (t.w : Int), .slice (some ⟨gs, 0, none⟩) (nw t.w) (nw t.w)] 25)).alloc (.cells #[.int .i64 (t.w : Int), .slice (some ⟨gy, 0, none⟩) (nw t.w) (nw t.w)] 25)) from ⟨alloc_under (alloc_under (alloc_top rfl)), (hF4.out.early (M' := (At (w4.heap.size + 2))) (fun i e => by unfold At at e; omega)).extNo hx5⟩)
  have hS := Lib.hid (show SetBoxM (At (w4.heap.size + 2)) (w4.heap.size + 1) t.w m (some ⟨gs, 0, none⟩) (nw t.w) (((w4.alloc (.cells #[.int .i64 (t.w : Int), .slice afg (nw t.w) cfg, .int .i64 (t.w : Int), .slice afk (nw t.w) cfk, .slice afc t.copies.length cfc] 28)).alloc (.cells #[.int .i64 (t.w : Int), .slice (some ⟨gs, 0, none⟩) (nw t.w) (nw t.w)] 25)).alloc (.cells #[.int .i64 (t.w : Int), .slice (some ⟨gy, 0, none⟩) (nw t.w) (nw t.w)] 25)) from ⟨alloc_under (alloc_top (by simp)), (hS4.out.earlyM (M' := (At (w4.heap.size + 2))) (fun i e => by unfold At at e; omega)).extNo hx5⟩)
  have hY := Lib.hid (show SetBoxM (At (w4.heap.size + 2)) (w4.heap.size + 2) t.w q (some ⟨gy, 0, none⟩) (nw t.w) (((w4.alloc (.cells #[.int .i64 (t.w : Int), .slice afg (nw t.w) cfg, .int .i64 (t.w : Int), .slice afk (nw t.w) cfk, .slice afc t.copies.length cfc] 28)).alloc (.cells #[.int .i64 (t.w : Int), .slice (some ⟨gs, 0, none⟩) (nw t.w) (nw t.w)] 25)).alloc (.cells #[.int .i64 (t.w : Int), .slice (some ⟨gy, 0, none⟩) (nw t.w) (nw t.w)] 25)) from ⟨alloc_top (by simp), (hY4.out.earlyM (M' := (At (w4.heap.size + 2))) (fun i e => by unfold At at e; omega)).extNo hx5⟩)
  have HX := Lib.hid (HX4.out.transNo hx5)
  have hTB := Lib.hid (HTB.out.ext HX.out)
  have hFw : w.heap.size ≤ w4.heap.size := HX4.out.size
  clear HX4 HT4 hx5 HT hF4 hS4 hY4 hlt1 hlt2 hlt3 hsz2 hsz3 hsz4
  generalize (((w4.alloc (.cells #[.int .i64 (t.w : Int), .slice afg (nw t.w) cfg, .int .i64 (t.w : Int), .slice afk (nw t.w) cfk, .slice afc t.copies.length cfc] 28)).alloc (.cells #[.int .i64 (t.w : Int), .slice (some ⟨gs, 0, none⟩) (nw t.w) (nw t.w)] 25)).alloc (.cells #[.int .i64 (t.w : Int), .slice (some ⟨gy, 0, none⟩) (nw t.w) (nw t.w)] 25)) = V at *
  generalize w4.heap.size = F at *
  refine (star8M (At (F + 2)) t t.w _ _ _ _ rfl (fun b e => by cases e; exact lt_of_block hY.out.box) hw8 hTB.out hF.out.tr.no).mono ?_
  rintro eX u1 ⟨aXg, cXg, aXk, cXk, aXc, nX, cXc, rfl, hX0, hy⟩
  have hz := hy.alloc (.cells #[.int .i64 (t.w : Int), .slice aXg (nw t.w) cXg, .int .i64 (t.w : Int), .slice aXk (nw t.w) cXk, .slice aXc nX cXc] 28)
  have hz1 : Ext No u1 (u1.alloc (.cells #[.int .i64 (t.w : Int), .slice aXg (nw t.w) cXg, .int .i64 (t.w : Int), .slice aXk (nw t.w) cXk, .slice aXc nX cXc] 28)) := (Ext.refl _ _).alloc _
  have kF := Lib.hid (hF.out.ext hz)
  have kS := Lib.hid (hS.out.ext hz)
  have kY := Lib.hid (hY.out.ext hz)
  have kX := Lib.hid (show TrBoxM (At (F + 2)) u1.heap.size t.w nX (starT t) aXg cXg aXk cXk aXc cXc (u1.alloc (.cells #[.int .i64 (t.w : Int), .slice aXg (nw t.w) cXg, .int .i64 (t.w : Int), .slice aXk (nw t.w) cXk, .slice aXc nX cXc] 28)) from ⟨alloc_top rfl, hX0.out.extNo hz1⟩)
  have kE := Lib.hid (HX.out.transNo hz)
  have kT := Lib.hid (hTB.out.ext hz)
  have kneX : F + 2 < u1.heap.size := lt_of_block (hy.blk hY.out.box no_no)
  clear hF hS hY hX0 hy hz hz1 HX hTB
  have xF := cellOf kF.out.box
  go_wp2_with fail
  clear xF
  generalize (u1.alloc (.cells #[.int .i64 (t.w : Int), .slice aXg (nw t.w) cXg, .int .i64 (t.w : Int), .slice aXk (nw t.w) cXk, .slice aXc nX cXc] 28)) = V1 at *
  generalize u1.heap.size = DX at *
  have hF := kF
  have hS := kS
  have hY := kY
  have hX := kX
  have HX := kE
  have hTB := kT
  clear kF kS kY kX kE kT
  have hneX : Hid (F + 2 < DX) := Lib.hid kneX
  clear kneX
  go_loopw [10] (fun i wr => ∃ (k : Nat) (a : Option Addr) (c : Nat), k ≤ t.w + 1 ∧ i = .int .i64 k ∧ Hid (SetBoxM (At (F + 2)) (F + 2) t.w (upN t q k) a c wr) ∧ Hid (TrBoxM (At (F + 2)) (F) t.w (t.copies.length) (t) afg cfg afk cfk afc cfc wr) ∧ Hid (SetBoxM (At (F + 2)) (F + 1) t.w (m) (some ⟨gs, 0, none⟩) (nw t.w) wr) ∧ Hid (TrBoxM (At (F + 2)) (DX) t.w (nX) (starT t) aXg cXg aXk cXk aXc cXc wr) ∧ Hid (Ext No w wr)) (fun i _ => t.w + 1 - (intOf i).toNat)
  case atStart => exact ⟨0, _, _, Nat.zero_le _, rfl, hY, hF, hS, hX, HX⟩
  case round =>
    clear hY hF hS hX HX hTB
    obtain ⟨k, aY, cY', hk, rfl, hY, hF, hS, hX, HX⟩ := hrel
    rename World => wr
    have hpos : (0 : Int) ≤ (k : Int) := by omega
    by_cases hlt : k < t.w + 1
    · have hle : (k : Int) ≤ (t.w : Int) := by omega
      have HKK : Hid (Value.int .i64 ((k : Int) + 1) = .int .i64 ((k + 1 : Nat) : Int)) := Lib.hid (by rw [show ((k + 1 : Nat) : Int) = (k : Int) + 1 from by omega])
      have hYb := hY.out.box
      have cF := cellOf hF.out.box
      have m0 : wr.cell? ⟨F, 0, none⟩ = some (.int .i64 (t.w : Int)) := cF 0
      have m1 : wr.cell? ⟨F, 1, none⟩ = some (.slice afg (nw t.w) cfg) := cF 1
      have m2 : wr.cell? ⟨F, 2, none⟩ = some (.int .i64 (t.w : Int)) := cF 2
      have m3 : wr.cell? ⟨F, 3, none⟩ = some (.slice afk (nw t.w) cfk) := cF 3
      have m4 : wr.cell? ⟨F, 4, none⟩ = some (.slice afc t.copies.length cfc) := cF 4
      clear cF
      have l0 : Ext No w wr := HX.out
      have l1 : Ext (At (F + 2)) wr wr := Ext.refl _ _
      have cY := cellOf hYb
      have fY := freeOf hYb
      clear hYb
      go_wp2_with fail
      refine wp_region_held_drew (S := (fun w' => w'.cell? ⟨F, 0, none⟩ = some (.int .i64 (t.w : Int)) ∧ w'.cell? ⟨F, 1, none⟩ = some (.slice afg (nw t.w) cfg) ∧ w'.cell? ⟨F, 2, none⟩ = some (.int .i64 (t.w : Int)) ∧ w'.cell? ⟨F, 3, none⟩ = some (.slice afk (nw t.w) cfk) ∧ w'.cell? ⟨F, 4, none⟩ = some (.slice afc t.copies.length cfc) ∧ Ext No w w' ∧ Ext (At (F + 2)) wr w')) (by kernel_rfl) ?_ (fun hHeld => ?_)
      · (go_split_ands; refine ⟨?_, ?_, ?_, ?_, ?_, ?_, ?_⟩ <;> (repeat (first | (with_reducible assumption) | (with_reducible exact Ext.refl _ _) | (with_reducible refine keepD ?_) | (with_reducible refine keepA ?_) | (with_reducible refine Ext.drew ?_) | (with_reducible refine Ext.alloc ?_ _) | (with_reducible refine BoxR.drew ?_) | (with_reducible refine BoxR.alloc ?_ _) | (with_reducible refine BoxR.set ?_ _ _) | ((with_reducible refine keepS ?_ ?_); (first | (with_reducible assumption) | omega | (simp; omega) | (exact Nat.le_refl _))) | (with_reducible refine Ext.setAt ?_ _ _) | ((with_reducible refine Ext.own ?_ ?_ _); rotate_left; (first | (with_reducible assumption) | omega | (simp; omega) | (exact Nat.le_refl _))) | (with_reducible refine keepN hyA ?_) | (with_reducible refine Ext.transNo ?_ hyA) | (with_reducible refine BoxR.ext ?_ hyA))))
      
      refine held_take (i := 1) (v := ?_) rfl (by kernel_rfl) (by kernel_rfl) (by kernel_rfl) (fun _ _ _ h => h) rfl (fun w hSw => ?_) hHeld ?_
      rotate_left
      · (try dsimp only at hSw); go_simp; (try with_reducible rfl)
      try simp only [Act.put, List.setIfInBounds_toArray, List.set_cons_zero, List.set_cons_succ]
      refine held_next2 (i := 0) (j := 2) (by kernel_rfl) (NextOp.mk rfl rfl (fun K hK => ?_)) (NextOp.mk rfl rfl (fun K hK => ?_))
      · go_simp
        refine hK.out _ _ ?_ (fun hNew => ?_)
        · (go_split_ands; refine ⟨?_, ?_, ?_, ?_, ?_, ?_, ?_⟩ <;> (repeat (first | (with_reducible assumption) | (with_reducible exact Ext.refl _ _) | (with_reducible refine keepD ?_) | (with_reducible refine keepA ?_) | (with_reducible refine Ext.drew ?_) | (with_reducible refine Ext.alloc ?_ _) | (with_reducible refine BoxR.drew ?_) | (with_reducible refine BoxR.alloc ?_ _) | (with_reducible refine BoxR.set ?_ _ _) | ((with_reducible refine keepS ?_ ?_); (first | (with_reducible assumption) | omega | (simp; omega) | (exact Nat.le_refl _))) | (with_reducible refine Ext.setAt ?_ _ _) | ((with_reducible refine Ext.own ?_ ?_ _); rotate_left; (first | (with_reducible assumption) | omega | (simp; omega) | (exact Nat.le_refl _))) | (with_reducible refine keepN hyA ?_) | (with_reducible refine Ext.transNo ?_ hyA) | (with_reducible refine BoxR.ext ?_ hyA))))
        clear hK K hHeld
        have hHeld := hNew
        clear hNew
        skip
        try simp only [Act.put, List.setIfInBounds_toArray, List.set_cons_zero, List.set_cons_succ]
        refine held_call (i := 2) rfl (by kernel_rfl) rfl (fun K hK => ?_)
        go_simp
        refine hK.out _ _ ?_ (fun hNew => ?_)
        · (go_split_ands; refine ⟨?_, ?_, ?_, ?_, ?_, ?_, ?_⟩ <;> (repeat (first | (with_reducible assumption) | (with_reducible exact Ext.refl _ _) | (with_reducible refine keepD ?_) | (with_reducible refine keepA ?_) | (with_reducible refine Ext.drew ?_) | (with_reducible refine Ext.alloc ?_ _) | (with_reducible refine BoxR.drew ?_) | (with_reducible refine BoxR.alloc ?_ _) | (with_reducible refine BoxR.set ?_ _ _) | ((with_reducible refine keepS ?_ ?_); (first | (with_reducible assumption) | omega | (simp; omega) | (exact Nat.le_refl _))) | (with_reducible refine Ext.setAt ?_ _ _) | ((with_reducible refine Ext.own ?_ ?_ _); rotate_left; (first | (with_reducible assumption) | omega | (simp; omega) | (exact Nat.le_refl _))) | (with_reducible refine keepN hyA ?_) | (with_reducible refine Ext.transNo ?_ hyA) | (with_reducible refine BoxR.ext ?_ hyA))))
        clear hK K hHeld
        have hHeld := hNew
        clear hNew
        skip
        try simp only [Act.put, List.setIfInBounds_toArray, List.set_cons_zero, List.set_cons_succ]
        refine held_call (i := 3) rfl (by kernel_rfl) rfl (fun K hK => ?_)
        ((try go_simp); (go_at_call 31); (with_reducible refine (lapplyM (At (F + 2)) t t.w (upN t q k) _ _ _ _ _ rfl ?_ (hF.out.tr.no.extNo ((Ext.refl No wr).drew)) (hY.out.set.no.extNo ((Ext.refl No wr).drew))).mono ?_); (exact (fun b e => by cases e; exact lt_of_block (((Ext.refl No wr).drew).blk hY.out.box no_no))); (rintro e1 w1 ⟨a1, c1, rfl, h1, hyA⟩); (have hyC := ((Ext.refl No wr).drew).transNo hyA); (have hY1 := Lib.hid (hY.out.ext hyC)); (have cY := cellOf hY1.out.box); (have fY := freeOf hY1.out.box); go_simp)
        refine hK.out _ _ ?_ (fun hNew => ?_)
        · (go_split_ands; refine ⟨?_, ?_, ?_, ?_, ?_, ?_, ?_⟩ <;> (repeat (first | (with_reducible assumption) | (with_reducible exact Ext.refl _ _) | (with_reducible refine keepD ?_) | (with_reducible refine keepA ?_) | (with_reducible refine Ext.drew ?_) | (with_reducible refine Ext.alloc ?_ _) | (with_reducible refine BoxR.drew ?_) | (with_reducible refine BoxR.alloc ?_ _) | (with_reducible refine BoxR.set ?_ _ _) | ((with_reducible refine keepS ?_ ?_); (first | (with_reducible assumption) | omega | (simp; omega) | (exact Nat.le_refl _))) | (with_reducible refine Ext.setAt ?_ _ _) | ((with_reducible refine Ext.own ?_ ?_ _); rotate_left; (first | (with_reducible assumption) | omega | (simp; omega) | (exact Nat.le_refl _))) | (with_reducible refine keepN hyA ?_) | (with_reducible refine Ext.transNo ?_ hyA) | (with_reducible refine BoxR.ext ?_ hyA))))
        clear hK K hHeld
        have hHeld := hNew
        clear hNew
        clear hyA
        try simp only [Act.put, List.setIfInBounds_toArray, List.set_cons_zero, List.set_cons_succ]
        refine held_call (i := 4) rfl (by kernel_rfl) rfl (fun K hK => ?_)
        ((try go_simp); (go_at_call 30); (with_reducible refine (union_any (At (F + 2)) t.w (upN t q k) (applyT t (upN t q k)) _ _ _ ?_ hY1.out.set.no h1.out.no).mono ?_); (exact (fun b e => by cases e; exact lt_of_block hY1.out.box)); (rintro e2 w2 ⟨a2, c2, rfl, h2, hyA⟩); (have hyD := hyA); (have hY2 := Lib.hid (hY1.out.ext hyD)); (have cY := cellOf hY2.out.box); (have fY := freeOf hY2.out.box); go_simp)
        refine hK.out _ _ ?_ (fun hNew => ?_)
        · (go_split_ands; refine ⟨?_, ?_, ?_, ?_, ?_, ?_, ?_⟩ <;> (repeat (first | (with_reducible assumption) | (with_reducible exact Ext.refl _ _) | (with_reducible refine keepD ?_) | (with_reducible refine keepA ?_) | (with_reducible refine Ext.drew ?_) | (with_reducible refine Ext.alloc ?_ _) | (with_reducible refine BoxR.drew ?_) | (with_reducible refine BoxR.alloc ?_ _) | (with_reducible refine BoxR.set ?_ _ _) | ((with_reducible refine keepS ?_ ?_); (first | (with_reducible assumption) | omega | (simp; omega) | (exact Nat.le_refl _))) | (with_reducible refine Ext.setAt ?_ _ _) | ((with_reducible refine Ext.own ?_ ?_ _); rotate_left; (first | (with_reducible assumption) | omega | (simp; omega) | (exact Nat.le_refl _))) | (with_reducible refine keepN hyA ?_) | (with_reducible refine Ext.transNo ?_ hyA) | (with_reducible refine BoxR.ext ?_ hyA))))
        clear hK K hHeld
        have hHeld := hNew
        clear hNew
        clear hyA
        try simp only [Act.put, List.setIfInBounds_toArray, List.set_cons_zero, List.set_cons_succ]
        refine held_take (i := 5) (v := ?_) rfl (by kernel_rfl) (by kernel_rfl) (by kernel_rfl) (fun _ _ _ h => h) rfl (fun w hSw => ?_) hHeld ?_
        rotate_left
        · (try dsimp only at hSw); go_simp; (try with_reducible rfl)
        try simp only [Act.put, List.setIfInBounds_toArray, List.set_cons_zero, List.set_cons_succ]
        refine held_take (i := 6) (v := ?_) rfl (by kernel_rfl) (by kernel_rfl) (by kernel_rfl) (fun _ _ _ h => h) rfl (fun w hSw => ?_) hHeld ?_
        rotate_left
        · (try dsimp only at hSw); go_simp; (try with_reducible rfl)
        try simp only [Act.put, List.setIfInBounds_toArray, List.set_cons_zero, List.set_cons_succ]
        refine held_take (i := 7) (v := ?_) rfl (by kernel_rfl) (by kernel_rfl) (by kernel_rfl) (fun _ _ _ h => h) rfl (fun w hSw => ?_) hHeld ?_
        rotate_left
        · (try dsimp only at hSw); go_simp; (try with_reducible rfl)
        try simp only [Act.put, List.setIfInBounds_toArray, List.set_cons_zero, List.set_cons_succ]
        refine held_call (i := 8) rfl (by kernel_rfl) rfl (fun K hK => ?_)
        go_simp
        refine hK.out _ _ ?_ (fun hNew => ?_)
        · (go_split_ands; refine ⟨?_, ?_, ?_, ?_, ?_, ?_, ?_⟩ <;> (repeat (first | (with_reducible assumption) | (with_reducible exact Ext.refl _ _) | (with_reducible refine keepD ?_) | (with_reducible refine keepA ?_) | (with_reducible refine Ext.drew ?_) | (with_reducible refine Ext.alloc ?_ _) | (with_reducible refine BoxR.drew ?_) | (with_reducible refine BoxR.alloc ?_ _) | (with_reducible refine BoxR.set ?_ _ _) | ((with_reducible refine keepS ?_ ?_); (first | (with_reducible assumption) | omega | (simp; omega) | (exact Nat.le_refl _))) | (with_reducible refine Ext.setAt ?_ _ _) | ((with_reducible refine Ext.own ?_ ?_ _); rotate_left; (first | (with_reducible assumption) | omega | (simp; omega) | (exact Nat.le_refl _))) | (with_reducible refine keepN hyA ?_) | (with_reducible refine Ext.transNo ?_ hyA) | (with_reducible refine BoxR.ext ?_ hyA))))
        clear hK K hHeld
        have hHeld := hNew
        clear hNew
        skip
        try simp only [Act.put, List.setIfInBounds_toArray, List.set_cons_zero, List.set_cons_succ]
        refine wpAnyH_done (by kernel_rfl) ?_ _
        go_wp2_with fail
        have hE := (((hyC.transNo hyD).ofNo (M := (At (F + 2)))).setAt 0 (.int .i64 (t.w : Int))).setAt 1 (.slice a2 (nw t.w) c2)
        have nF : ¬ (At (F + 2)) F := by unfold At; omega
        have nS : ¬ (At (F + 2)) (F + 1) := by unfold At; omega
        have nX : ¬ (At (F + 2)) DX := by have := hneX.out; unfold At; omega
        have HE := Lib.hid (HX.out.trans2 hE (fun i hi e => by unfold At at e; omega))
        have pY := Lib.hid (hY2.out.put h2.out)
        have pF := Lib.hid (hF.out.extM hE nF)
        have pS := Lib.hid (hS.out.extM hE nS)
        have pX := Lib.hid (hX.out.extM hE nX)
        go_roundw
        case rel => exact ⟨k + 1, a2, c2, by omega, HKK.out, pY, pF, pS, pX, HE⟩
        case measure => simp [intOf]; omega
      · go_simp
        refine hK.out _ _ ?_ (fun hNew => ?_)
        · (go_split_ands; refine ⟨?_, ?_, ?_, ?_, ?_, ?_, ?_⟩ <;> (repeat (first | (with_reducible assumption) | (with_reducible exact Ext.refl _ _) | (with_reducible refine keepD ?_) | (with_reducible refine keepA ?_) | (with_reducible refine Ext.drew ?_) | (with_reducible refine Ext.alloc ?_ _) | (with_reducible refine BoxR.drew ?_) | (with_reducible refine BoxR.alloc ?_ _) | (with_reducible refine BoxR.set ?_ _ _) | ((with_reducible refine keepS ?_ ?_); (first | (with_reducible assumption) | omega | (simp; omega) | (exact Nat.le_refl _))) | (with_reducible refine Ext.setAt ?_ _ _) | ((with_reducible refine Ext.own ?_ ?_ _); rotate_left; (first | (with_reducible assumption) | omega | (simp; omega) | (exact Nat.le_refl _))) | (with_reducible refine keepN hyA ?_) | (with_reducible refine Ext.transNo ?_ hyA) | (with_reducible refine BoxR.ext ?_ hyA))))
        clear hK K hHeld
        have hHeld := hNew
        clear hNew
        skip
        try simp only [Act.put, List.setIfInBounds_toArray, List.set_cons_zero, List.set_cons_succ]
        refine held_next2 (i := 0) (j := 3) (by kernel_rfl) (NextOp.mk rfl rfl (fun K hK => ?_)) (NextOp.mk rfl rfl (fun K hK => ?_))
        · go_simp
          refine hK.out _ _ ?_ (fun hNew => ?_)
          · (go_split_ands; refine ⟨?_, ?_, ?_, ?_, ?_, ?_, ?_⟩ <;> (repeat (first | (with_reducible assumption) | (with_reducible exact Ext.refl _ _) | (with_reducible refine keepD ?_) | (with_reducible refine keepA ?_) | (with_reducible refine Ext.drew ?_) | (with_reducible refine Ext.alloc ?_ _) | (with_reducible refine BoxR.drew ?_) | (with_reducible refine BoxR.alloc ?_ _) | (with_reducible refine BoxR.set ?_ _ _) | ((with_reducible refine keepS ?_ ?_); (first | (with_reducible assumption) | omega | (simp; omega) | (exact Nat.le_refl _))) | (with_reducible refine Ext.setAt ?_ _ _) | ((with_reducible refine Ext.own ?_ ?_ _); rotate_left; (first | (with_reducible assumption) | omega | (simp; omega) | (exact Nat.le_refl _))) | (with_reducible refine keepN hyA ?_) | (with_reducible refine Ext.transNo ?_ hyA) | (with_reducible refine BoxR.ext ?_ hyA))))
          clear hK K hHeld
          have hHeld := hNew
          clear hNew
          skip
          try simp only [Act.put, List.setIfInBounds_toArray, List.set_cons_zero, List.set_cons_succ]
          refine held_call (i := 3) rfl (by kernel_rfl) rfl (fun K hK => ?_)
          ((try go_simp); (go_at_call 31); (with_reducible refine (lapplyM (At (F + 2)) t t.w (upN t q k) _ _ _ _ _ rfl ?_ (hF.out.tr.no.extNo ((Ext.refl No wr).drew)) (hY.out.set.no.extNo ((Ext.refl No wr).drew))).mono ?_); (exact (fun b e => by cases e; exact lt_of_block (((Ext.refl No wr).drew).blk hY.out.box no_no))); (rintro e1 w1 ⟨a1, c1, rfl, h1, hyA⟩); (have hyC := ((Ext.refl No wr).drew).transNo hyA); (have hY1 := Lib.hid (hY.out.ext hyC)); (have cY := cellOf hY1.out.box); (have fY := freeOf hY1.out.box); go_simp)
          refine hK.out _ _ ?_ (fun hNew => ?_)
          · (go_split_ands; refine ⟨?_, ?_, ?_, ?_, ?_, ?_, ?_⟩ <;> (repeat (first | (with_reducible assumption) | (with_reducible exact Ext.refl _ _) | (with_reducible refine keepD ?_) | (with_reducible refine keepA ?_) | (with_reducible refine Ext.drew ?_) | (with_reducible refine Ext.alloc ?_ _) | (with_reducible refine BoxR.drew ?_) | (with_reducible refine BoxR.alloc ?_ _) | (with_reducible refine BoxR.set ?_ _ _) | ((with_reducible refine keepS ?_ ?_); (first | (with_reducible assumption) | omega | (simp; omega) | (exact Nat.le_refl _))) | (with_reducible refine Ext.setAt ?_ _ _) | ((with_reducible refine Ext.own ?_ ?_ _); rotate_left; (first | (with_reducible assumption) | omega | (simp; omega) | (exact Nat.le_refl _))) | (with_reducible refine keepN hyA ?_) | (with_reducible refine Ext.transNo ?_ hyA) | (with_reducible refine BoxR.ext ?_ hyA))))
          clear hK K hHeld
          have hHeld := hNew
          clear hNew
          clear hyA
          try simp only [Act.put, List.setIfInBounds_toArray, List.set_cons_zero, List.set_cons_succ]
          refine held_call (i := 4) rfl (by kernel_rfl) rfl (fun K hK => ?_)
          ((try go_simp); (go_at_call 30); (with_reducible refine (union_any (At (F + 2)) t.w (upN t q k) (applyT t (upN t q k)) _ _ _ ?_ hY1.out.set.no h1.out.no).mono ?_); (exact (fun b e => by cases e; exact lt_of_block hY1.out.box)); (rintro e2 w2 ⟨a2, c2, rfl, h2, hyA⟩); (have hyD := hyA); (have hY2 := Lib.hid (hY1.out.ext hyD)); (have cY := cellOf hY2.out.box); (have fY := freeOf hY2.out.box); go_simp)
          refine hK.out _ _ ?_ (fun hNew => ?_)
          · (go_split_ands; refine ⟨?_, ?_, ?_, ?_, ?_, ?_, ?_⟩ <;> (repeat (first | (with_reducible assumption) | (with_reducible exact Ext.refl _ _) | (with_reducible refine keepD ?_) | (with_reducible refine keepA ?_) | (with_reducible refine Ext.drew ?_) | (with_reducible refine Ext.alloc ?_ _) | (with_reducible refine BoxR.drew ?_) | (with_reducible refine BoxR.alloc ?_ _) | (with_reducible refine BoxR.set ?_ _ _) | ((with_reducible refine keepS ?_ ?_); (first | (with_reducible assumption) | omega | (simp; omega) | (exact Nat.le_refl _))) | (with_reducible refine Ext.setAt ?_ _ _) | ((with_reducible refine Ext.own ?_ ?_ _); rotate_left; (first | (with_reducible assumption) | omega | (simp; omega) | (exact Nat.le_refl _))) | (with_reducible refine keepN hyA ?_) | (with_reducible refine Ext.transNo ?_ hyA) | (with_reducible refine BoxR.ext ?_ hyA))))
          clear hK K hHeld
          have hHeld := hNew
          clear hNew
          clear hyA
          try simp only [Act.put, List.setIfInBounds_toArray, List.set_cons_zero, List.set_cons_succ]
          refine held_take (i := 5) (v := ?_) rfl (by kernel_rfl) (by kernel_rfl) (by kernel_rfl) (fun _ _ _ h => h) rfl (fun w hSw => ?_) hHeld ?_
          rotate_left
          · (try dsimp only at hSw); go_simp; (try with_reducible rfl)
          try simp only [Act.put, List.setIfInBounds_toArray, List.set_cons_zero, List.set_cons_succ]
          refine held_take (i := 6) (v := ?_) rfl (by kernel_rfl) (by kernel_rfl) (by kernel_rfl) (fun _ _ _ h => h) rfl (fun w hSw => ?_) hHeld ?_
          rotate_left
          · (try dsimp only at hSw); go_simp; (try with_reducible rfl)
          try simp only [Act.put, List.setIfInBounds_toArray, List.set_cons_zero, List.set_cons_succ]
          refine held_take (i := 7) (v := ?_) rfl (by kernel_rfl) (by kernel_rfl) (by kernel_rfl) (fun _ _ _ h => h) rfl (fun w hSw => ?_) hHeld ?_
          rotate_left
          · (try dsimp only at hSw); go_simp; (try with_reducible rfl)
          try simp only [Act.put, List.setIfInBounds_toArray, List.set_cons_zero, List.set_cons_succ]
          refine held_call (i := 8) rfl (by kernel_rfl) rfl (fun K hK => ?_)
          go_simp
          refine hK.out _ _ ?_ (fun hNew => ?_)
          · (go_split_ands; refine ⟨?_, ?_, ?_, ?_, ?_, ?_, ?_⟩ <;> (repeat (first | (with_reducible assumption) | (with_reducible exact Ext.refl _ _) | (with_reducible refine keepD ?_) | (with_reducible refine keepA ?_) | (with_reducible refine Ext.drew ?_) | (with_reducible refine Ext.alloc ?_ _) | (with_reducible refine BoxR.drew ?_) | (with_reducible refine BoxR.alloc ?_ _) | (with_reducible refine BoxR.set ?_ _ _) | ((with_reducible refine keepS ?_ ?_); (first | (with_reducible assumption) | omega | (simp; omega) | (exact Nat.le_refl _))) | (with_reducible refine Ext.setAt ?_ _ _) | ((with_reducible refine Ext.own ?_ ?_ _); rotate_left; (first | (with_reducible assumption) | omega | (simp; omega) | (exact Nat.le_refl _))) | (with_reducible refine keepN hyA ?_) | (with_reducible refine Ext.transNo ?_ hyA) | (with_reducible refine BoxR.ext ?_ hyA))))
          clear hK K hHeld
          have hHeld := hNew
          clear hNew
          skip
          try simp only [Act.put, List.setIfInBounds_toArray, List.set_cons_zero, List.set_cons_succ]
          refine wpAnyH_done (by kernel_rfl) ?_ _
          go_wp2_with fail
          have hE := (((hyC.transNo hyD).ofNo (M := (At (F + 2)))).setAt 0 (.int .i64 (t.w : Int))).setAt 1 (.slice a2 (nw t.w) c2)
          have nF : ¬ (At (F + 2)) F := by unfold At; omega
          have nS : ¬ (At (F + 2)) (F + 1) := by unfold At; omega
          have nX : ¬ (At (F + 2)) DX := by have := hneX.out; unfold At; omega
          have HE := Lib.hid (HX.out.trans2 hE (fun i hi e => by unfold At at e; omega))
          have pY := Lib.hid (hY2.out.put h2.out)
          have pF := Lib.hid (hF.out.extM hE nF)
          have pS := Lib.hid (hS.out.extM hE nS)
          have pX := Lib.hid (hX.out.extM hE nX)
          go_roundw
          case rel => exact ⟨k + 1, a2, c2, by omega, HKK.out, pY, pF, pS, pX, HE⟩
          case measure => simp [intOf]; omega
        · ((try go_simp); (go_at_call 31); (with_reducible refine (lapplyM (At (F + 2)) t t.w (upN t q k) _ _ _ _ _ rfl ?_ (hF.out.tr.no.extNo ((Ext.refl No wr).drew)) (hY.out.set.no.extNo ((Ext.refl No wr).drew))).mono ?_); (exact (fun b e => by cases e; exact lt_of_block (((Ext.refl No wr).drew).blk hY.out.box no_no))); (rintro e1 w1 ⟨a1, c1, rfl, h1, hyA⟩); (have hyC := ((Ext.refl No wr).drew).transNo hyA); (have hY1 := Lib.hid (hY.out.ext hyC)); (have cY := cellOf hY1.out.box); (have fY := freeOf hY1.out.box); go_simp)
          refine hK.out _ _ ?_ (fun hNew => ?_)
          · (go_split_ands; refine ⟨?_, ?_, ?_, ?_, ?_, ?_, ?_⟩ <;> (repeat (first | (with_reducible assumption) | (with_reducible exact Ext.refl _ _) | (with_reducible refine keepD ?_) | (with_reducible refine keepA ?_) | (with_reducible refine Ext.drew ?_) | (with_reducible refine Ext.alloc ?_ _) | (with_reducible refine BoxR.drew ?_) | (with_reducible refine BoxR.alloc ?_ _) | (with_reducible refine BoxR.set ?_ _ _) | ((with_reducible refine keepS ?_ ?_); (first | (with_reducible assumption) | omega | (simp; omega) | (exact Nat.le_refl _))) | (with_reducible refine Ext.setAt ?_ _ _) | ((with_reducible refine Ext.own ?_ ?_ _); rotate_left; (first | (with_reducible assumption) | omega | (simp; omega) | (exact Nat.le_refl _))) | (with_reducible refine keepN hyA ?_) | (with_reducible refine Ext.transNo ?_ hyA) | (with_reducible refine BoxR.ext ?_ hyA))))
          clear hK K hHeld
          have hHeld := hNew
          clear hNew
          clear hyA
          try simp only [Act.put, List.setIfInBounds_toArray, List.set_cons_zero, List.set_cons_succ]
          refine held_call (i := 0) rfl (by kernel_rfl) rfl (fun K hK => ?_)
          go_simp
          refine hK.out _ _ ?_ (fun hNew => ?_)
          · (go_split_ands; refine ⟨?_, ?_, ?_, ?_, ?_, ?_, ?_⟩ <;> (repeat (first | (with_reducible assumption) | (with_reducible exact Ext.refl _ _) | (with_reducible refine keepD ?_) | (with_reducible refine keepA ?_) | (with_reducible refine Ext.drew ?_) | (with_reducible refine Ext.alloc ?_ _) | (with_reducible refine BoxR.drew ?_) | (with_reducible refine BoxR.alloc ?_ _) | (with_reducible refine BoxR.set ?_ _ _) | ((with_reducible refine keepS ?_ ?_); (first | (with_reducible assumption) | omega | (simp; omega) | (exact Nat.le_refl _))) | (with_reducible refine Ext.setAt ?_ _ _) | ((with_reducible refine Ext.own ?_ ?_ _); rotate_left; (first | (with_reducible assumption) | omega | (simp; omega) | (exact Nat.le_refl _))) | (with_reducible refine keepN hyA ?_) | (with_reducible refine Ext.transNo ?_ hyA) | (with_reducible refine BoxR.ext ?_ hyA))))
          clear hK K hHeld
          have hHeld := hNew
          clear hNew
          skip
          try simp only [Act.put, List.setIfInBounds_toArray, List.set_cons_zero, List.set_cons_succ]
          refine held_call (i := 4) rfl (by kernel_rfl) rfl (fun K hK => ?_)
          ((try go_simp); (go_at_call 30); (with_reducible refine (union_any (At (F + 2)) t.w (upN t q k) (applyT t (upN t q k)) _ _ _ ?_ hY1.out.set.no h1.out.no).mono ?_); (exact (fun b e => by cases e; exact lt_of_block hY1.out.box)); (rintro e2 w2 ⟨a2, c2, rfl, h2, hyA⟩); (have hyD := hyA); (have hY2 := Lib.hid (hY1.out.ext hyD)); (have cY := cellOf hY2.out.box); (have fY := freeOf hY2.out.box); go_simp)
          refine hK.out _ _ ?_ (fun hNew => ?_)
          · (go_split_ands; refine ⟨?_, ?_, ?_, ?_, ?_, ?_, ?_⟩ <;> (repeat (first | (with_reducible assumption) | (with_reducible exact Ext.refl _ _) | (with_reducible refine keepD ?_) | (with_reducible refine keepA ?_) | (with_reducible refine Ext.drew ?_) | (with_reducible refine Ext.alloc ?_ _) | (with_reducible refine BoxR.drew ?_) | (with_reducible refine BoxR.alloc ?_ _) | (with_reducible refine BoxR.set ?_ _ _) | ((with_reducible refine keepS ?_ ?_); (first | (with_reducible assumption) | omega | (simp; omega) | (exact Nat.le_refl _))) | (with_reducible refine Ext.setAt ?_ _ _) | ((with_reducible refine Ext.own ?_ ?_ _); rotate_left; (first | (with_reducible assumption) | omega | (simp; omega) | (exact Nat.le_refl _))) | (with_reducible refine keepN hyA ?_) | (with_reducible refine Ext.transNo ?_ hyA) | (with_reducible refine BoxR.ext ?_ hyA))))
          clear hK K hHeld
          have hHeld := hNew
          clear hNew
          clear hyA
          try simp only [Act.put, List.setIfInBounds_toArray, List.set_cons_zero, List.set_cons_succ]
          refine held_take (i := 5) (v := ?_) rfl (by kernel_rfl) (by kernel_rfl) (by kernel_rfl) (fun _ _ _ h => h) rfl (fun w hSw => ?_) hHeld ?_
          rotate_left
          · (try dsimp only at hSw); go_simp; (try with_reducible rfl)
          try simp only [Act.put, List.setIfInBounds_toArray, List.set_cons_zero, List.set_cons_succ]
          refine held_take (i := 6) (v := ?_) rfl (by kernel_rfl) (by kernel_rfl) (by kernel_rfl) (fun _ _ _ h => h) rfl (fun w hSw => ?_) hHeld ?_
          rotate_left
          · (try dsimp only at hSw); go_simp; (try with_reducible rfl)
          try simp only [Act.put, List.setIfInBounds_toArray, List.set_cons_zero, List.set_cons_succ]
          refine held_take (i := 7) (v := ?_) rfl (by kernel_rfl) (by kernel_rfl) (by kernel_rfl) (fun _ _ _ h => h) rfl (fun w hSw => ?_) hHeld ?_
          rotate_left
          · (try dsimp only at hSw); go_simp; (try with_reducible rfl)
          try simp only [Act.put, List.setIfInBounds_toArray, List.set_cons_zero, List.set_cons_succ]
          refine held_call (i := 8) rfl (by kernel_rfl) rfl (fun K hK => ?_)
          go_simp
          refine hK.out _ _ ?_ (fun hNew => ?_)
          · (go_split_ands; refine ⟨?_, ?_, ?_, ?_, ?_, ?_, ?_⟩ <;> (repeat (first | (with_reducible assumption) | (with_reducible exact Ext.refl _ _) | (with_reducible refine keepD ?_) | (with_reducible refine keepA ?_) | (with_reducible refine Ext.drew ?_) | (with_reducible refine Ext.alloc ?_ _) | (with_reducible refine BoxR.drew ?_) | (with_reducible refine BoxR.alloc ?_ _) | (with_reducible refine BoxR.set ?_ _ _) | ((with_reducible refine keepS ?_ ?_); (first | (with_reducible assumption) | omega | (simp; omega) | (exact Nat.le_refl _))) | (with_reducible refine Ext.setAt ?_ _ _) | ((with_reducible refine Ext.own ?_ ?_ _); rotate_left; (first | (with_reducible assumption) | omega | (simp; omega) | (exact Nat.le_refl _))) | (with_reducible refine keepN hyA ?_) | (with_reducible refine Ext.transNo ?_ hyA) | (with_reducible refine BoxR.ext ?_ hyA))))
          clear hK K hHeld
          have hHeld := hNew
          clear hNew
          skip
          try simp only [Act.put, List.setIfInBounds_toArray, List.set_cons_zero, List.set_cons_succ]
          refine wpAnyH_done (by kernel_rfl) ?_ _
          go_wp2_with fail
          have hE := (((hyC.transNo hyD).ofNo (M := (At (F + 2)))).setAt 0 (.int .i64 (t.w : Int))).setAt 1 (.slice a2 (nw t.w) c2)
          have nF : ¬ (At (F + 2)) F := by unfold At; omega
          have nS : ¬ (At (F + 2)) (F + 1) := by unfold At; omega
          have nX : ¬ (At (F + 2)) DX := by have := hneX.out; unfold At; omega
          have HE := Lib.hid (HX.out.trans2 hE (fun i hi e => by unfold At at e; omega))
          have pY := Lib.hid (hY2.out.put h2.out)
          have pF := Lib.hid (hF.out.extM hE nF)
          have pS := Lib.hid (hS.out.extM hE nS)
          have pX := Lib.hid (hX.out.extM hE nX)
          go_roundw
          case rel => exact ⟨k + 1, a2, c2, by omega, HKK.out, pY, pF, pS, pX, HE⟩
          case measure => simp [intOf]; omega
    · obtain rfl : k = t.w + 1 := by omega
      have hge : (t.w : Int) < ((t.w + 1 : Nat) : Int) := by omega
      have hTB := Lib.hid (HTB.out.ext HX.out)
      have xY := cellOf hY.out.box
      have fY := freeOf hY.out.box
      have xS := cellOf hS.out.box
      go_wp2_with fail
      clear xS
      refine (union_any (At (F + 2)) t.w (upN t q (t.w + 1)) m _ _ _ (fun b e => by cases e; exact lt_of_block hY.out.box) hY.out.set.no hS.out.set.no).mono ?_
      rintro eU wU ⟨aU, cU, rfl, hU, hy⟩
      have hE := ((hy.ofNo (M := (At (F + 2)))).setAt 0 (.int .i64 (t.w : Int))).setAt 1 (.slice aU (nw t.w) cU)
      have hbY := hy.blk hY.out.box no_no
      have pY := Lib.hid ((hY.out.ext hy).put hU.out)
      have pF := Lib.hid (hF.out.extM hE (by unfold At; omega))
      have pS := Lib.hid (hS.out.extM hE (by unfold At; omega))
      have pX := Lib.hid (hX.out.extM hE (by have := hneX.out; unfold At; omega))
      have HE := Lib.hid (HX.out.trans2 hE (fun i hi e => by unfold At at e; omega))
      clear hY hF hS hX HX xY fY hE hU hy hTB
      have xY := cellOf hbY
      have fY := freeOf hbY
      clear hbY
      go_wp2_with fail
      clear xY fY
      generalize ((wU.setCell ⟨F + 2, 0, none⟩ (.int .i64 (t.w : Int))).setCell ⟨F + 2, 1, none⟩ (.slice aU (nw t.w) cU)) = VU at *
      have hY := pY
      have hF := pF
      have hS := pS
      have hX := pX
      have HX := HE
      have hTB := Lib.hid (HTB.out.ext HX.out)
      clear pY pF pS pX HE
      clear hge hlt hk hpos
      obtain ⟨r, hr⟩ : ∃ r, r = orN (upN t q (t.w + 1)) m := ⟨_, rfl⟩
      rw [← hr] at hY
      have HR := Lib.hid hr
      clear hr
      go_loopw [11] (fun i wr => ∃ (k : Nat) (a : Option Addr) (c : Nat), k ≤ t.w + 1 ∧ i = .int .i64 k ∧ Hid (SetBoxM (At (F + 2)) (F + 2) t.w (upN t r k) a c wr) ∧ Hid (TrBoxM (At (F + 2)) (F) t.w (t.copies.length) (t) afg cfg afk cfk afc cfc wr) ∧ Hid (SetBoxM (At (F + 2)) (F + 1) t.w (m) (some ⟨gs, 0, none⟩) (nw t.w) wr) ∧ Hid (TrBoxM (At (F + 2)) (DX) t.w (nX) (starT t) aXg cXg aXk cXk aXc cXc wr) ∧ Hid (Ext No w wr)) (fun i _ => t.w + 1 - (intOf i).toNat)
      case atStart => exact ⟨0, _, _, Nat.zero_le _, rfl, hY, hF, hS, hX, HX⟩
      case round =>
        clear hY hF hS hX HX hTB
        obtain ⟨k, aY, cY', hk, rfl, hY, hF, hS, hX, HX⟩ := hrel
        rename World => wr
        have hpos : (0 : Int) ≤ (k : Int) := by omega
        by_cases hlt : k < t.w + 1
        · have hle : (k : Int) ≤ (t.w : Int) := by omega
          have HKK : Hid (Value.int .i64 ((k : Int) + 1) = .int .i64 ((k + 1 : Nat) : Int)) := Lib.hid (by rw [show ((k + 1 : Nat) : Int) = (k : Int) + 1 from by omega])
          have hYb := hY.out.box
          have cF := cellOf hF.out.box
          have m0 : wr.cell? ⟨F, 0, none⟩ = some (.int .i64 (t.w : Int)) := cF 0
          have m1 : wr.cell? ⟨F, 1, none⟩ = some (.slice afg (nw t.w) cfg) := cF 1
          have m2 : wr.cell? ⟨F, 2, none⟩ = some (.int .i64 (t.w : Int)) := cF 2
          have m3 : wr.cell? ⟨F, 3, none⟩ = some (.slice afk (nw t.w) cfk) := cF 3
          have m4 : wr.cell? ⟨F, 4, none⟩ = some (.slice afc t.copies.length cfc) := cF 4
          clear cF
          have l0 : Ext No w wr := HX.out
          have l1 : Ext (At (F + 2)) wr wr := Ext.refl _ _
          have cY := cellOf hYb
          have fY := freeOf hYb
          clear hYb
          go_wp2_with fail
          refine wp_region_held_drew (S := (fun w' => w'.cell? ⟨F, 0, none⟩ = some (.int .i64 (t.w : Int)) ∧ w'.cell? ⟨F, 1, none⟩ = some (.slice afg (nw t.w) cfg) ∧ w'.cell? ⟨F, 2, none⟩ = some (.int .i64 (t.w : Int)) ∧ w'.cell? ⟨F, 3, none⟩ = some (.slice afk (nw t.w) cfk) ∧ w'.cell? ⟨F, 4, none⟩ = some (.slice afc t.copies.length cfc) ∧ Ext No w w' ∧ Ext (At (F + 2)) wr w')) (by kernel_rfl) ?_ (fun hHeld => ?_)
          · (go_split_ands; refine ⟨?_, ?_, ?_, ?_, ?_, ?_, ?_⟩ <;> (repeat (first | (with_reducible assumption) | (with_reducible exact Ext.refl _ _) | (with_reducible refine keepD ?_) | (with_reducible refine keepA ?_) | (with_reducible refine Ext.drew ?_) | (with_reducible refine Ext.alloc ?_ _) | (with_reducible refine BoxR.drew ?_) | (with_reducible refine BoxR.alloc ?_ _) | (with_reducible refine BoxR.set ?_ _ _) | ((with_reducible refine keepS ?_ ?_); (first | (with_reducible assumption) | omega | (simp; omega) | (exact Nat.le_refl _))) | (with_reducible refine Ext.setAt ?_ _ _) | ((with_reducible refine Ext.own ?_ ?_ _); rotate_left; (first | (with_reducible assumption) | omega | (simp; omega) | (exact Nat.le_refl _))) | (with_reducible refine keepN hyA ?_) | (with_reducible refine Ext.transNo ?_ hyA) | (with_reducible refine BoxR.ext ?_ hyA))))
          
          refine held_take (i := 1) (v := ?_) rfl (by kernel_rfl) (by kernel_rfl) (by kernel_rfl) (fun _ _ _ h => h) rfl (fun w hSw => ?_) hHeld ?_
          rotate_left
          · (try dsimp only at hSw); go_simp; (try with_reducible rfl)
          try simp only [Act.put, List.setIfInBounds_toArray, List.set_cons_zero, List.set_cons_succ]
          refine held_next2 (i := 0) (j := 2) (by kernel_rfl) (NextOp.mk rfl rfl (fun K hK => ?_)) (NextOp.mk rfl rfl (fun K hK => ?_))
          · go_simp
            refine hK.out _ _ ?_ (fun hNew => ?_)
            · (go_split_ands; refine ⟨?_, ?_, ?_, ?_, ?_, ?_, ?_⟩ <;> (repeat (first | (with_reducible assumption) | (with_reducible exact Ext.refl _ _) | (with_reducible refine keepD ?_) | (with_reducible refine keepA ?_) | (with_reducible refine Ext.drew ?_) | (with_reducible refine Ext.alloc ?_ _) | (with_reducible refine BoxR.drew ?_) | (with_reducible refine BoxR.alloc ?_ _) | (with_reducible refine BoxR.set ?_ _ _) | ((with_reducible refine keepS ?_ ?_); (first | (with_reducible assumption) | omega | (simp; omega) | (exact Nat.le_refl _))) | (with_reducible refine Ext.setAt ?_ _ _) | ((with_reducible refine Ext.own ?_ ?_ _); rotate_left; (first | (with_reducible assumption) | omega | (simp; omega) | (exact Nat.le_refl _))) | (with_reducible refine keepN hyA ?_) | (with_reducible refine Ext.transNo ?_ hyA) | (with_reducible refine BoxR.ext ?_ hyA))))
            clear hK K hHeld
            have hHeld := hNew
            clear hNew
            skip
            try simp only [Act.put, List.setIfInBounds_toArray, List.set_cons_zero, List.set_cons_succ]
            refine held_call (i := 2) rfl (by kernel_rfl) rfl (fun K hK => ?_)
            go_simp
            refine hK.out _ _ ?_ (fun hNew => ?_)
            · (go_split_ands; refine ⟨?_, ?_, ?_, ?_, ?_, ?_, ?_⟩ <;> (repeat (first | (with_reducible assumption) | (with_reducible exact Ext.refl _ _) | (with_reducible refine keepD ?_) | (with_reducible refine keepA ?_) | (with_reducible refine Ext.drew ?_) | (with_reducible refine Ext.alloc ?_ _) | (with_reducible refine BoxR.drew ?_) | (with_reducible refine BoxR.alloc ?_ _) | (with_reducible refine BoxR.set ?_ _ _) | ((with_reducible refine keepS ?_ ?_); (first | (with_reducible assumption) | omega | (simp; omega) | (exact Nat.le_refl _))) | (with_reducible refine Ext.setAt ?_ _ _) | ((with_reducible refine Ext.own ?_ ?_ _); rotate_left; (first | (with_reducible assumption) | omega | (simp; omega) | (exact Nat.le_refl _))) | (with_reducible refine keepN hyA ?_) | (with_reducible refine Ext.transNo ?_ hyA) | (with_reducible refine BoxR.ext ?_ hyA))))
            clear hK K hHeld
            have hHeld := hNew
            clear hNew
            skip
            try simp only [Act.put, List.setIfInBounds_toArray, List.set_cons_zero, List.set_cons_succ]
            refine held_call (i := 3) rfl (by kernel_rfl) rfl (fun K hK => ?_)
            ((try go_simp); (go_at_call 31); (with_reducible refine (lapplyM (At (F + 2)) t t.w (upN t r k) _ _ _ _ _ rfl ?_ (hF.out.tr.no.extNo ((Ext.refl No wr).drew)) (hY.out.set.no.extNo ((Ext.refl No wr).drew))).mono ?_); (exact (fun b e => by cases e; exact lt_of_block (((Ext.refl No wr).drew).blk hY.out.box no_no))); (rintro e1 w1 ⟨a1, c1, rfl, h1, hyA⟩); (have hyC := ((Ext.refl No wr).drew).transNo hyA); (have hY1 := Lib.hid (hY.out.ext hyC)); (have cY := cellOf hY1.out.box); (have fY := freeOf hY1.out.box); go_simp)
            refine hK.out _ _ ?_ (fun hNew => ?_)
            · (go_split_ands; refine ⟨?_, ?_, ?_, ?_, ?_, ?_, ?_⟩ <;> (repeat (first | (with_reducible assumption) | (with_reducible exact Ext.refl _ _) | (with_reducible refine keepD ?_) | (with_reducible refine keepA ?_) | (with_reducible refine Ext.drew ?_) | (with_reducible refine Ext.alloc ?_ _) | (with_reducible refine BoxR.drew ?_) | (with_reducible refine BoxR.alloc ?_ _) | (with_reducible refine BoxR.set ?_ _ _) | ((with_reducible refine keepS ?_ ?_); (first | (with_reducible assumption) | omega | (simp; omega) | (exact Nat.le_refl _))) | (with_reducible refine Ext.setAt ?_ _ _) | ((with_reducible refine Ext.own ?_ ?_ _); rotate_left; (first | (with_reducible assumption) | omega | (simp; omega) | (exact Nat.le_refl _))) | (with_reducible refine keepN hyA ?_) | (with_reducible refine Ext.transNo ?_ hyA) | (with_reducible refine BoxR.ext ?_ hyA))))
            clear hK K hHeld
            have hHeld := hNew
            clear hNew
            clear hyA
            try simp only [Act.put, List.setIfInBounds_toArray, List.set_cons_zero, List.set_cons_succ]
            refine held_call (i := 4) rfl (by kernel_rfl) rfl (fun K hK => ?_)
            ((try go_simp); (go_at_call 30); (with_reducible refine (union_any (At (F + 2)) t.w (upN t r k) (applyT t (upN t r k)) _ _ _ ?_ hY1.out.set.no h1.out.no).mono ?_); (exact (fun b e => by cases e; exact lt_of_block hY1.out.box)); (rintro e2 w2 ⟨a2, c2, rfl, h2, hyA⟩); (have hyD := hyA); (have hY2 := Lib.hid (hY1.out.ext hyD)); (have cY := cellOf hY2.out.box); (have fY := freeOf hY2.out.box); go_simp)
            refine hK.out _ _ ?_ (fun hNew => ?_)
            · (go_split_ands; refine ⟨?_, ?_, ?_, ?_, ?_, ?_, ?_⟩ <;> (repeat (first | (with_reducible assumption) | (with_reducible exact Ext.refl _ _) | (with_reducible refine keepD ?_) | (with_reducible refine keepA ?_) | (with_reducible refine Ext.drew ?_) | (with_reducible refine Ext.alloc ?_ _) | (with_reducible refine BoxR.drew ?_) | (with_reducible refine BoxR.alloc ?_ _) | (with_reducible refine BoxR.set ?_ _ _) | ((with_reducible refine keepS ?_ ?_); (first | (with_reducible assumption) | omega | (simp; omega) | (exact Nat.le_refl _))) | (with_reducible refine Ext.setAt ?_ _ _) | ((with_reducible refine Ext.own ?_ ?_ _); rotate_left; (first | (with_reducible assumption) | omega | (simp; omega) | (exact Nat.le_refl _))) | (with_reducible refine keepN hyA ?_) | (with_reducible refine Ext.transNo ?_ hyA) | (with_reducible refine BoxR.ext ?_ hyA))))
            clear hK K hHeld
            have hHeld := hNew
            clear hNew
            clear hyA
            try simp only [Act.put, List.setIfInBounds_toArray, List.set_cons_zero, List.set_cons_succ]
            refine held_take (i := 5) (v := ?_) rfl (by kernel_rfl) (by kernel_rfl) (by kernel_rfl) (fun _ _ _ h => h) rfl (fun w hSw => ?_) hHeld ?_
            rotate_left
            · (try dsimp only at hSw); go_simp; (try with_reducible rfl)
            try simp only [Act.put, List.setIfInBounds_toArray, List.set_cons_zero, List.set_cons_succ]
            refine held_take (i := 6) (v := ?_) rfl (by kernel_rfl) (by kernel_rfl) (by kernel_rfl) (fun _ _ _ h => h) rfl (fun w hSw => ?_) hHeld ?_
            rotate_left
            · (try dsimp only at hSw); go_simp; (try with_reducible rfl)
            try simp only [Act.put, List.setIfInBounds_toArray, List.set_cons_zero, List.set_cons_succ]
            refine held_take (i := 7) (v := ?_) rfl (by kernel_rfl) (by kernel_rfl) (by kernel_rfl) (fun _ _ _ h => h) rfl (fun w hSw => ?_) hHeld ?_
            rotate_left
            · (try dsimp only at hSw); go_simp; (try with_reducible rfl)
            try simp only [Act.put, List.setIfInBounds_toArray, List.set_cons_zero, List.set_cons_succ]
            refine held_call (i := 8) rfl (by kernel_rfl) rfl (fun K hK => ?_)
            go_simp
            refine hK.out _ _ ?_ (fun hNew => ?_)
            · (go_split_ands; refine ⟨?_, ?_, ?_, ?_, ?_, ?_, ?_⟩ <;> (repeat (first | (with_reducible assumption) | (with_reducible exact Ext.refl _ _) | (with_reducible refine keepD ?_) | (with_reducible refine keepA ?_) | (with_reducible refine Ext.drew ?_) | (with_reducible refine Ext.alloc ?_ _) | (with_reducible refine BoxR.drew ?_) | (with_reducible refine BoxR.alloc ?_ _) | (with_reducible refine BoxR.set ?_ _ _) | ((with_reducible refine keepS ?_ ?_); (first | (with_reducible assumption) | omega | (simp; omega) | (exact Nat.le_refl _))) | (with_reducible refine Ext.setAt ?_ _ _) | ((with_reducible refine Ext.own ?_ ?_ _); rotate_left; (first | (with_reducible assumption) | omega | (simp; omega) | (exact Nat.le_refl _))) | (with_reducible refine keepN hyA ?_) | (with_reducible refine Ext.transNo ?_ hyA) | (with_reducible refine BoxR.ext ?_ hyA))))
            clear hK K hHeld
            have hHeld := hNew
            clear hNew
            skip
            try simp only [Act.put, List.setIfInBounds_toArray, List.set_cons_zero, List.set_cons_succ]
            refine wpAnyH_done (by kernel_rfl) ?_ _
            go_wp2_with fail
            have hE := (((hyC.transNo hyD).ofNo (M := (At (F + 2)))).setAt 0 (.int .i64 (t.w : Int))).setAt 1 (.slice a2 (nw t.w) c2)
            have nF : ¬ (At (F + 2)) F := by unfold At; omega
            have nS : ¬ (At (F + 2)) (F + 1) := by unfold At; omega
            have nX : ¬ (At (F + 2)) DX := by have := hneX.out; unfold At; omega
            have HE := Lib.hid (HX.out.trans2 hE (fun i hi e => by unfold At at e; omega))
            have pY := Lib.hid (hY2.out.put h2.out)
            have pF := Lib.hid (hF.out.extM hE nF)
            have pS := Lib.hid (hS.out.extM hE nS)
            have pX := Lib.hid (hX.out.extM hE nX)
            go_roundw
            case rel => exact ⟨k + 1, a2, c2, by omega, HKK.out, pY, pF, pS, pX, HE⟩
            case measure => simp [intOf]; omega
          · go_simp
            refine hK.out _ _ ?_ (fun hNew => ?_)
            · (go_split_ands; refine ⟨?_, ?_, ?_, ?_, ?_, ?_, ?_⟩ <;> (repeat (first | (with_reducible assumption) | (with_reducible exact Ext.refl _ _) | (with_reducible refine keepD ?_) | (with_reducible refine keepA ?_) | (with_reducible refine Ext.drew ?_) | (with_reducible refine Ext.alloc ?_ _) | (with_reducible refine BoxR.drew ?_) | (with_reducible refine BoxR.alloc ?_ _) | (with_reducible refine BoxR.set ?_ _ _) | ((with_reducible refine keepS ?_ ?_); (first | (with_reducible assumption) | omega | (simp; omega) | (exact Nat.le_refl _))) | (with_reducible refine Ext.setAt ?_ _ _) | ((with_reducible refine Ext.own ?_ ?_ _); rotate_left; (first | (with_reducible assumption) | omega | (simp; omega) | (exact Nat.le_refl _))) | (with_reducible refine keepN hyA ?_) | (with_reducible refine Ext.transNo ?_ hyA) | (with_reducible refine BoxR.ext ?_ hyA))))
            clear hK K hHeld
            have hHeld := hNew
            clear hNew
            skip
            try simp only [Act.put, List.setIfInBounds_toArray, List.set_cons_zero, List.set_cons_succ]
            refine held_next2 (i := 0) (j := 3) (by kernel_rfl) (NextOp.mk rfl rfl (fun K hK => ?_)) (NextOp.mk rfl rfl (fun K hK => ?_))
            · go_simp
              refine hK.out _ _ ?_ (fun hNew => ?_)
              · (go_split_ands; refine ⟨?_, ?_, ?_, ?_, ?_, ?_, ?_⟩ <;> (repeat (first | (with_reducible assumption) | (with_reducible exact Ext.refl _ _) | (with_reducible refine keepD ?_) | (with_reducible refine keepA ?_) | (with_reducible refine Ext.drew ?_) | (with_reducible refine Ext.alloc ?_ _) | (with_reducible refine BoxR.drew ?_) | (with_reducible refine BoxR.alloc ?_ _) | (with_reducible refine BoxR.set ?_ _ _) | ((with_reducible refine keepS ?_ ?_); (first | (with_reducible assumption) | omega | (simp; omega) | (exact Nat.le_refl _))) | (with_reducible refine Ext.setAt ?_ _ _) | ((with_reducible refine Ext.own ?_ ?_ _); rotate_left; (first | (with_reducible assumption) | omega | (simp; omega) | (exact Nat.le_refl _))) | (with_reducible refine keepN hyA ?_) | (with_reducible refine Ext.transNo ?_ hyA) | (with_reducible refine BoxR.ext ?_ hyA))))
              clear hK K hHeld
              have hHeld := hNew
              clear hNew
              skip
              try simp only [Act.put, List.setIfInBounds_toArray, List.set_cons_zero, List.set_cons_succ]
              refine held_call (i := 3) rfl (by kernel_rfl) rfl (fun K hK => ?_)
              ((try go_simp); (go_at_call 31); (with_reducible refine (lapplyM (At (F + 2)) t t.w (upN t r k) _ _ _ _ _ rfl ?_ (hF.out.tr.no.extNo ((Ext.refl No wr).drew)) (hY.out.set.no.extNo ((Ext.refl No wr).drew))).mono ?_); (exact (fun b e => by cases e; exact lt_of_block (((Ext.refl No wr).drew).blk hY.out.box no_no))); (rintro e1 w1 ⟨a1, c1, rfl, h1, hyA⟩); (have hyC := ((Ext.refl No wr).drew).transNo hyA); (have hY1 := Lib.hid (hY.out.ext hyC)); (have cY := cellOf hY1.out.box); (have fY := freeOf hY1.out.box); go_simp)
              refine hK.out _ _ ?_ (fun hNew => ?_)
              · (go_split_ands; refine ⟨?_, ?_, ?_, ?_, ?_, ?_, ?_⟩ <;> (repeat (first | (with_reducible assumption) | (with_reducible exact Ext.refl _ _) | (with_reducible refine keepD ?_) | (with_reducible refine keepA ?_) | (with_reducible refine Ext.drew ?_) | (with_reducible refine Ext.alloc ?_ _) | (with_reducible refine BoxR.drew ?_) | (with_reducible refine BoxR.alloc ?_ _) | (with_reducible refine BoxR.set ?_ _ _) | ((with_reducible refine keepS ?_ ?_); (first | (with_reducible assumption) | omega | (simp; omega) | (exact Nat.le_refl _))) | (with_reducible refine Ext.setAt ?_ _ _) | ((with_reducible refine Ext.own ?_ ?_ _); rotate_left; (first | (with_reducible assumption) | omega | (simp; omega) | (exact Nat.le_refl _))) | (with_reducible refine keepN hyA ?_) | (with_reducible refine Ext.transNo ?_ hyA) | (with_reducible refine BoxR.ext ?_ hyA))))
              clear hK K hHeld
              have hHeld := hNew
              clear hNew
              clear hyA
              try simp only [Act.put, List.setIfInBounds_toArray, List.set_cons_zero, List.set_cons_succ]
              refine held_call (i := 4) rfl (by kernel_rfl) rfl (fun K hK => ?_)
              ((try go_simp); (go_at_call 30); (with_reducible refine (union_any (At (F + 2)) t.w (upN t r k) (applyT t (upN t r k)) _ _ _ ?_ hY1.out.set.no h1.out.no).mono ?_); (exact (fun b e => by cases e; exact lt_of_block hY1.out.box)); (rintro e2 w2 ⟨a2, c2, rfl, h2, hyA⟩); (have hyD := hyA); (have hY2 := Lib.hid (hY1.out.ext hyD)); (have cY := cellOf hY2.out.box); (have fY := freeOf hY2.out.box); go_simp)
              refine hK.out _ _ ?_ (fun hNew => ?_)
              · (go_split_ands; refine ⟨?_, ?_, ?_, ?_, ?_, ?_, ?_⟩ <;> (repeat (first | (with_reducible assumption) | (with_reducible exact Ext.refl _ _) | (with_reducible refine keepD ?_) | (with_reducible refine keepA ?_) | (with_reducible refine Ext.drew ?_) | (with_reducible refine Ext.alloc ?_ _) | (with_reducible refine BoxR.drew ?_) | (with_reducible refine BoxR.alloc ?_ _) | (with_reducible refine BoxR.set ?_ _ _) | ((with_reducible refine keepS ?_ ?_); (first | (with_reducible assumption) | omega | (simp; omega) | (exact Nat.le_refl _))) | (with_reducible refine Ext.setAt ?_ _ _) | ((with_reducible refine Ext.own ?_ ?_ _); rotate_left; (first | (with_reducible assumption) | omega | (simp; omega) | (exact Nat.le_refl _))) | (with_reducible refine keepN hyA ?_) | (with_reducible refine Ext.transNo ?_ hyA) | (with_reducible refine BoxR.ext ?_ hyA))))
              clear hK K hHeld
              have hHeld := hNew
              clear hNew
              clear hyA
              try simp only [Act.put, List.setIfInBounds_toArray, List.set_cons_zero, List.set_cons_succ]
              refine held_take (i := 5) (v := ?_) rfl (by kernel_rfl) (by kernel_rfl) (by kernel_rfl) (fun _ _ _ h => h) rfl (fun w hSw => ?_) hHeld ?_
              rotate_left
              · (try dsimp only at hSw); go_simp; (try with_reducible rfl)
              try simp only [Act.put, List.setIfInBounds_toArray, List.set_cons_zero, List.set_cons_succ]
              refine held_take (i := 6) (v := ?_) rfl (by kernel_rfl) (by kernel_rfl) (by kernel_rfl) (fun _ _ _ h => h) rfl (fun w hSw => ?_) hHeld ?_
              rotate_left
              · (try dsimp only at hSw); go_simp; (try with_reducible rfl)
              try simp only [Act.put, List.setIfInBounds_toArray, List.set_cons_zero, List.set_cons_succ]
              refine held_take (i := 7) (v := ?_) rfl (by kernel_rfl) (by kernel_rfl) (by kernel_rfl) (fun _ _ _ h => h) rfl (fun w hSw => ?_) hHeld ?_
              rotate_left
              · (try dsimp only at hSw); go_simp; (try with_reducible rfl)
              try simp only [Act.put, List.setIfInBounds_toArray, List.set_cons_zero, List.set_cons_succ]
              refine held_call (i := 8) rfl (by kernel_rfl) rfl (fun K hK => ?_)
              go_simp
              refine hK.out _ _ ?_ (fun hNew => ?_)
              · (go_split_ands; refine ⟨?_, ?_, ?_, ?_, ?_, ?_, ?_⟩ <;> (repeat (first | (with_reducible assumption) | (with_reducible exact Ext.refl _ _) | (with_reducible refine keepD ?_) | (with_reducible refine keepA ?_) | (with_reducible refine Ext.drew ?_) | (with_reducible refine Ext.alloc ?_ _) | (with_reducible refine BoxR.drew ?_) | (with_reducible refine BoxR.alloc ?_ _) | (with_reducible refine BoxR.set ?_ _ _) | ((with_reducible refine keepS ?_ ?_); (first | (with_reducible assumption) | omega | (simp; omega) | (exact Nat.le_refl _))) | (with_reducible refine Ext.setAt ?_ _ _) | ((with_reducible refine Ext.own ?_ ?_ _); rotate_left; (first | (with_reducible assumption) | omega | (simp; omega) | (exact Nat.le_refl _))) | (with_reducible refine keepN hyA ?_) | (with_reducible refine Ext.transNo ?_ hyA) | (with_reducible refine BoxR.ext ?_ hyA))))
              clear hK K hHeld
              have hHeld := hNew
              clear hNew
              skip
              try simp only [Act.put, List.setIfInBounds_toArray, List.set_cons_zero, List.set_cons_succ]
              refine wpAnyH_done (by kernel_rfl) ?_ _
              go_wp2_with fail
              have hE := (((hyC.transNo hyD).ofNo (M := (At (F + 2)))).setAt 0 (.int .i64 (t.w : Int))).setAt 1 (.slice a2 (nw t.w) c2)
              have nF : ¬ (At (F + 2)) F := by unfold At; omega
              have nS : ¬ (At (F + 2)) (F + 1) := by unfold At; omega
              have nX : ¬ (At (F + 2)) DX := by have := hneX.out; unfold At; omega
              have HE := Lib.hid (HX.out.trans2 hE (fun i hi e => by unfold At at e; omega))
              have pY := Lib.hid (hY2.out.put h2.out)
              have pF := Lib.hid (hF.out.extM hE nF)
              have pS := Lib.hid (hS.out.extM hE nS)
              have pX := Lib.hid (hX.out.extM hE nX)
              go_roundw
              case rel => exact ⟨k + 1, a2, c2, by omega, HKK.out, pY, pF, pS, pX, HE⟩
              case measure => simp [intOf]; omega
            · ((try go_simp); (go_at_call 31); (with_reducible refine (lapplyM (At (F + 2)) t t.w (upN t r k) _ _ _ _ _ rfl ?_ (hF.out.tr.no.extNo ((Ext.refl No wr).drew)) (hY.out.set.no.extNo ((Ext.refl No wr).drew))).mono ?_); (exact (fun b e => by cases e; exact lt_of_block (((Ext.refl No wr).drew).blk hY.out.box no_no))); (rintro e1 w1 ⟨a1, c1, rfl, h1, hyA⟩); (have hyC := ((Ext.refl No wr).drew).transNo hyA); (have hY1 := Lib.hid (hY.out.ext hyC)); (have cY := cellOf hY1.out.box); (have fY := freeOf hY1.out.box); go_simp)
              refine hK.out _ _ ?_ (fun hNew => ?_)
              · (go_split_ands; refine ⟨?_, ?_, ?_, ?_, ?_, ?_, ?_⟩ <;> (repeat (first | (with_reducible assumption) | (with_reducible exact Ext.refl _ _) | (with_reducible refine keepD ?_) | (with_reducible refine keepA ?_) | (with_reducible refine Ext.drew ?_) | (with_reducible refine Ext.alloc ?_ _) | (with_reducible refine BoxR.drew ?_) | (with_reducible refine BoxR.alloc ?_ _) | (with_reducible refine BoxR.set ?_ _ _) | ((with_reducible refine keepS ?_ ?_); (first | (with_reducible assumption) | omega | (simp; omega) | (exact Nat.le_refl _))) | (with_reducible refine Ext.setAt ?_ _ _) | ((with_reducible refine Ext.own ?_ ?_ _); rotate_left; (first | (with_reducible assumption) | omega | (simp; omega) | (exact Nat.le_refl _))) | (with_reducible refine keepN hyA ?_) | (with_reducible refine Ext.transNo ?_ hyA) | (with_reducible refine BoxR.ext ?_ hyA))))
              clear hK K hHeld
              have hHeld := hNew
              clear hNew
              clear hyA
              try simp only [Act.put, List.setIfInBounds_toArray, List.set_cons_zero, List.set_cons_succ]
              refine held_call (i := 0) rfl (by kernel_rfl) rfl (fun K hK => ?_)
              go_simp
              refine hK.out _ _ ?_ (fun hNew => ?_)
              · (go_split_ands; refine ⟨?_, ?_, ?_, ?_, ?_, ?_, ?_⟩ <;> (repeat (first | (with_reducible assumption) | (with_reducible exact Ext.refl _ _) | (with_reducible refine keepD ?_) | (with_reducible refine keepA ?_) | (with_reducible refine Ext.drew ?_) | (with_reducible refine Ext.alloc ?_ _) | (with_reducible refine BoxR.drew ?_) | (with_reducible refine BoxR.alloc ?_ _) | (with_reducible refine BoxR.set ?_ _ _) | ((with_reducible refine keepS ?_ ?_); (first | (with_reducible assumption) | omega | (simp; omega) | (exact Nat.le_refl _))) | (with_reducible refine Ext.setAt ?_ _ _) | ((with_reducible refine Ext.own ?_ ?_ _); rotate_left; (first | (with_reducible assumption) | omega | (simp; omega) | (exact Nat.le_refl _))) | (with_reducible refine keepN hyA ?_) | (with_reducible refine Ext.transNo ?_ hyA) | (with_reducible refine BoxR.ext ?_ hyA))))
              clear hK K hHeld
              have hHeld := hNew
              clear hNew
              skip
              try simp only [Act.put, List.setIfInBounds_toArray, List.set_cons_zero, List.set_cons_succ]
              refine held_call (i := 4) rfl (by kernel_rfl) rfl (fun K hK => ?_)
              ((try go_simp); (go_at_call 30); (with_reducible refine (union_any (At (F + 2)) t.w (upN t r k) (applyT t (upN t r k)) _ _ _ ?_ hY1.out.set.no h1.out.no).mono ?_); (exact (fun b e => by cases e; exact lt_of_block hY1.out.box)); (rintro e2 w2 ⟨a2, c2, rfl, h2, hyA⟩); (have hyD := hyA); (have hY2 := Lib.hid (hY1.out.ext hyD)); (have cY := cellOf hY2.out.box); (have fY := freeOf hY2.out.box); go_simp)
              refine hK.out _ _ ?_ (fun hNew => ?_)
              · (go_split_ands; refine ⟨?_, ?_, ?_, ?_, ?_, ?_, ?_⟩ <;> (repeat (first | (with_reducible assumption) | (with_reducible exact Ext.refl _ _) | (with_reducible refine keepD ?_) | (with_reducible refine keepA ?_) | (with_reducible refine Ext.drew ?_) | (with_reducible refine Ext.alloc ?_ _) | (with_reducible refine BoxR.drew ?_) | (with_reducible refine BoxR.alloc ?_ _) | (with_reducible refine BoxR.set ?_ _ _) | ((with_reducible refine keepS ?_ ?_); (first | (with_reducible assumption) | omega | (simp; omega) | (exact Nat.le_refl _))) | (with_reducible refine Ext.setAt ?_ _ _) | ((with_reducible refine Ext.own ?_ ?_ _); rotate_left; (first | (with_reducible assumption) | omega | (simp; omega) | (exact Nat.le_refl _))) | (with_reducible refine keepN hyA ?_) | (with_reducible refine Ext.transNo ?_ hyA) | (with_reducible refine BoxR.ext ?_ hyA))))
              clear hK K hHeld
              have hHeld := hNew
              clear hNew
              clear hyA
              try simp only [Act.put, List.setIfInBounds_toArray, List.set_cons_zero, List.set_cons_succ]
              refine held_take (i := 5) (v := ?_) rfl (by kernel_rfl) (by kernel_rfl) (by kernel_rfl) (fun _ _ _ h => h) rfl (fun w hSw => ?_) hHeld ?_
              rotate_left
              · (try dsimp only at hSw); go_simp; (try with_reducible rfl)
              try simp only [Act.put, List.setIfInBounds_toArray, List.set_cons_zero, List.set_cons_succ]
              refine held_take (i := 6) (v := ?_) rfl (by kernel_rfl) (by kernel_rfl) (by kernel_rfl) (fun _ _ _ h => h) rfl (fun w hSw => ?_) hHeld ?_
              rotate_left
              · (try dsimp only at hSw); go_simp; (try with_reducible rfl)
              try simp only [Act.put, List.setIfInBounds_toArray, List.set_cons_zero, List.set_cons_succ]
              refine held_take (i := 7) (v := ?_) rfl (by kernel_rfl) (by kernel_rfl) (by kernel_rfl) (fun _ _ _ h => h) rfl (fun w hSw => ?_) hHeld ?_
              rotate_left
              · (try dsimp only at hSw); go_simp; (try with_reducible rfl)
              try simp only [Act.put, List.setIfInBounds_toArray, List.set_cons_zero, List.set_cons_succ]
              refine held_call (i := 8) rfl (by kernel_rfl) rfl (fun K hK => ?_)
              go_simp
              refine hK.out _ _ ?_ (fun hNew => ?_)
              · (go_split_ands; refine ⟨?_, ?_, ?_, ?_, ?_, ?_, ?_⟩ <;> (repeat (first | (with_reducible assumption) | (with_reducible exact Ext.refl _ _) | (with_reducible refine keepD ?_) | (with_reducible refine keepA ?_) | (with_reducible refine Ext.drew ?_) | (with_reducible refine Ext.alloc ?_ _) | (with_reducible refine BoxR.drew ?_) | (with_reducible refine BoxR.alloc ?_ _) | (with_reducible refine BoxR.set ?_ _ _) | ((with_reducible refine keepS ?_ ?_); (first | (with_reducible assumption) | omega | (simp; omega) | (exact Nat.le_refl _))) | (with_reducible refine Ext.setAt ?_ _ _) | ((with_reducible refine Ext.own ?_ ?_ _); rotate_left; (first | (with_reducible assumption) | omega | (simp; omega) | (exact Nat.le_refl _))) | (with_reducible refine keepN hyA ?_) | (with_reducible refine Ext.transNo ?_ hyA) | (with_reducible refine BoxR.ext ?_ hyA))))
              clear hK K hHeld
              have hHeld := hNew
              clear hNew
              skip
              try simp only [Act.put, List.setIfInBounds_toArray, List.set_cons_zero, List.set_cons_succ]
              refine wpAnyH_done (by kernel_rfl) ?_ _
              go_wp2_with fail
              have hE := (((hyC.transNo hyD).ofNo (M := (At (F + 2)))).setAt 0 (.int .i64 (t.w : Int))).setAt 1 (.slice a2 (nw t.w) c2)
              have nF : ¬ (At (F + 2)) F := by unfold At; omega
              have nS : ¬ (At (F + 2)) (F + 1) := by unfold At; omega
              have nX : ¬ (At (F + 2)) DX := by have := hneX.out; unfold At; omega
              have HE := Lib.hid (HX.out.trans2 hE (fun i hi e => by unfold At at e; omega))
              have pY := Lib.hid (hY2.out.put h2.out)
              have pF := Lib.hid (hF.out.extM hE nF)
              have pS := Lib.hid (hS.out.extM hE nS)
              have pX := Lib.hid (hX.out.extM hE nX)
              go_roundw
              case rel => exact ⟨k + 1, a2, c2, by omega, HKK.out, pY, pF, pS, pX, HE⟩
              case measure => simp [intOf]; omega
        · obtain rfl : k = t.w + 1 := by omega
          have hge : (t.w : Int) < ((t.w + 1 : Nat) : Int) := by omega
          have hTB := Lib.hid (HTB.out.ext HX.out)
          have xX := cellOf hX.out.box
          go_wp2_with fail
          clear xX
          refine (star8M (At (F + 2)) (starT t) t.w _ _ _ _ rfl (fun b e => by cases e; exact lt_of_block hY.out.box) hw8 hTB.out hX.out.tr.no).mono ?_
          rintro eZ u51 ⟨aZg, cZg, aZk, cZk, aZc, nZ, cZc, rfl, hZ0, hy⟩
          have hz := hy.alloc (.cells #[.int .i64 (t.w : Int), .slice aZg (nw t.w) cZg, .int .i64 (t.w : Int), .slice aZk (nw t.w) cZk, .slice aZc nZ cZc] 28)
          have hz1 : Ext No u51 (u51.alloc (.cells #[.int .i64 (t.w : Int), .slice aZg (nw t.w) cZg, .int .i64 (t.w : Int), .slice aZk (nw t.w) cZk, .slice aZc nZ cZc] 28)) := (Ext.refl _ _).alloc _
          have kF := Lib.hid (hF.out.ext hz)
          have kS := Lib.hid (hS.out.ext hz)
          have kY := Lib.hid (hY.out.ext hz)
          have kX := Lib.hid (hX.out.ext hz)
          have kZ := Lib.hid (show TrBoxM (At (F + 2)) u51.heap.size t.w nZ (starT (starT t)) aZg cZg aZk cZk aZc cZc (u51.alloc (.cells #[.int .i64 (t.w : Int), .slice aZg (nw t.w) cZg, .int .i64 (t.w : Int), .slice aZk (nw t.w) cZk, .slice aZc nZ cZc] 28)) from ⟨alloc_top rfl, hZ0.out.extNo hz1⟩)
          have kE := Lib.hid (HX.out.transNo hz)
          have kT := Lib.hid (hTB.out.ext hz)
          have kneZ : F + 2 < u51.heap.size := lt_of_block (hy.blk hY.out.box no_no)
          clear hF hS hY hX hZ0 hy hz hz1 HX hTB
          go_wp2_with fail
          generalize (u51.alloc (.cells #[.int .i64 (t.w : Int), .slice aZg (nw t.w) cZg, .int .i64 (t.w : Int), .slice aZk (nw t.w) cZk, .slice aZc nZ cZc] 28)) = V51 at *
          generalize u51.heap.size = DZ at *
          have hF := kF
          have hS := kS
          have hY := kY
          have hX := kX
          have hZ := kZ
          have HX := kE
          have hTB := kT
          clear kF kS kY kX kZ kE kT
          clear kneZ
          have hot := hF.out.tr.ok
          have hox : TrOk (starT t) := hX.out.tr.ok
          have hoz : TrOk (starT (starT t)) := hZ.out.tr.ok
          have hml := hS.out.set.hm
          have ESS : Hid (starT t = starT (starT t)) := Lib.hid (star_star hot hox hoz).symm
          have ESB : Hid (subN (applyT (starT t) m) (upN t r (t.w + 1)) = true) := Lib.hid (by rw [HR.out]; exact star_in hot hox hml (upN_lt hot HMY.out _))
          clear hot hox hoz hml
          have l0 : Ext No V51 V51 := Ext.refl _ _
          have cZ := cellOf hZ.out.box
          have m0 : V51.cell? ⟨DZ, 0, none⟩ = some (.int .i64 (t.w : Int)) := cZ 0
          have m1 : V51.cell? ⟨DZ, 1, none⟩ = some (.slice aZg (nw t.w) cZg) := cZ 1
          have m2 : V51.cell? ⟨DZ, 2, none⟩ = some (.int .i64 (t.w : Int)) := cZ 2
          have m3 : V51.cell? ⟨DZ, 3, none⟩ = some (.slice aZk (nw t.w) cZk) := cZ 3
          have m4 : V51.cell? ⟨DZ, 4, none⟩ = some (.slice aZc nZ cZc) := cZ 4
          clear cZ
          have cX := cellOf hX.out.box
          have m5 : V51.cell? ⟨DX, 0, none⟩ = some (.int .i64 (t.w : Int)) := cX 0
          have m6 : V51.cell? ⟨DX, 1, none⟩ = some (.slice aXg (nw t.w) cXg) := cX 1
          have m7 : V51.cell? ⟨DX, 2, none⟩ = some (.int .i64 (t.w : Int)) := cX 2
          have m8 : V51.cell? ⟨DX, 3, none⟩ = some (.slice aXk (nw t.w) cXk) := cX 3
          have m9 : V51.cell? ⟨DX, 4, none⟩ = some (.slice aXc nX cXc) := cX 4
          clear cX
          have cY := cellOf hY.out.box
          have m10 : V51.cell? ⟨F + 2, 0, none⟩ = some (.int .i64 (t.w : Int)) := cY 0
          have m11 : V51.cell? ⟨F + 2, 1, none⟩ = some (.slice aY (nw t.w) cY') := cY 1
          clear cY
          have cS := cellOf hS.out.box
          have m12 : V51.cell? ⟨F + 1, 0, none⟩ = some (.int .i64 (t.w : Int)) := cS 0
          have m13 : V51.cell? ⟨F + 1, 1, none⟩ = some (.slice (some ⟨gs, 0, none⟩) (nw t.w) (nw t.w)) := cS 1
          clear cS
          go_wp2_with fail
          go_region_held3 (fun w' => w'.cell? ⟨DZ, 0, none⟩ = some (.int .i64 (t.w : Int)) ∧ w'.cell? ⟨DZ, 1, none⟩ = some (.slice aZg (nw t.w) cZg) ∧ w'.cell? ⟨DZ, 2, none⟩ = some (.int .i64 (t.w : Int)) ∧ w'.cell? ⟨DZ, 3, none⟩ = some (.slice aZk (nw t.w) cZk) ∧ w'.cell? ⟨DZ, 4, none⟩ = some (.slice aZc nZ cZc) ∧ w'.cell? ⟨DX, 0, none⟩ = some (.int .i64 (t.w : Int)) ∧ w'.cell? ⟨DX, 1, none⟩ = some (.slice aXg (nw t.w) cXg) ∧ w'.cell? ⟨DX, 2, none⟩ = some (.int .i64 (t.w : Int)) ∧ w'.cell? ⟨DX, 3, none⟩ = some (.slice aXk (nw t.w) cXk) ∧ w'.cell? ⟨DX, 4, none⟩ = some (.slice aXc nX cXc) ∧ w'.cell? ⟨F + 2, 0, none⟩ = some (.int .i64 (t.w : Int)) ∧ w'.cell? ⟨F + 2, 1, none⟩ = some (.slice aY (nw t.w) cY') ∧ w'.cell? ⟨F + 1, 0, none⟩ = some (.int .i64 (t.w : Int)) ∧ w'.cell? ⟨F + 1, 1, none⟩ = some (.slice (some ⟨gs, 0, none⟩) (nw t.w) (nw t.w)) ∧ Ext No V51 w')
            ((go_split_ands; refine ⟨?_, ?_, ?_, ?_, ?_, ?_, ?_, ?_, ?_, ?_, ?_, ?_, ?_, ?_, ?_⟩ <;> (repeat (first | (with_reducible assumption) | (with_reducible exact Ext.refl _ _) | (with_reducible refine keepD ?_) | (with_reducible refine keepA ?_) | (with_reducible refine Ext.drew ?_) | (with_reducible refine Ext.alloc ?_ _) | (with_reducible refine BoxR.drew ?_) | (with_reducible refine BoxR.alloc ?_ _) | (with_reducible refine BoxR.set ?_ _ _) | ((with_reducible refine keepS ?_ ?_); (first | (with_reducible assumption) | omega | (simp; omega) | (exact Nat.le_refl _))) | (with_reducible refine Ext.setAt ?_ _ _) | ((with_reducible refine Ext.own ?_ ?_ _); rotate_left; (first | (with_reducible assumption) | omega | (simp; omega) | (exact Nat.le_refl _))) | (with_reducible refine keepN hyA ?_) | (with_reducible refine Ext.transNo ?_ hyA) | (with_reducible refine BoxR.ext ?_ hyA)))))
            (first
              | ((go_at_call 26); (try go_split_ands); (with_reducible refine (requals_true (starT (starT t)) (starT t) t.w _ _ _ _ _ _ _ rfl rfl ESS.out (hZ.out.tr.no.extNo ?_) (hX.out.tr.no.extNo ?_)).mono ?_); (with_reducible assumption); (with_reducible assumption); (rintro e71 w71 ⟨rfl, hyA⟩); (have hx71 := Ext.transNo (show Ext No V51 _ from by with_reducible assumption) hyA))
              | ((go_at_call 39); (try go_split_ands); (with_reducible refine (bvalid_true t.w (upN t r (t.w + 1)) _ _ (hY.out.set.no.extNo ?_)).mono ?_); (with_reducible assumption); (rintro e72 w72 ⟨rfl, hyA⟩); (have hx72 := Ext.transNo (show Ext No V51 _ from by with_reducible assumption) hyA))
              | ((go_at_call 31); (try go_split_ands); (with_reducible refine (lapply_w (starT t) t.w m _ _ _ _ _ rfl (hX.out.tr.no.extNo ?_) (hS.out.set.no.extNo ?_)).mono ?_); (with_reducible assumption); (with_reducible assumption); (rintro e73 w73 ⟨a73, c73, rfl, h73, hyA⟩); (have hx73 := Ext.transNo (show Ext No V51 _ from by with_reducible assumption) hyA))
              | ((go_at_call 35); (try go_split_ands); (with_reducible refine (subset_true t.w (applyT (starT t) m) (upN t r (t.w + 1)) _ _ _ ESB.out h73.out.no (hY.out.set.no.extNo ?_)).mono ?_); (with_reducible assumption); (rintro e74 w74 ⟨rfl, hyA⟩); (have hx74 := Ext.transNo (show Ext No V51 _ from by with_reducible assumption) hyA))
              | ((go_at_call 21); (try go_split_ands); (with_reducible refine (sane_any _).mono ?_); (rintro e75 w75 ⟨rfl, hyA⟩); (have hx75 := Ext.transNo (show Ext No V51 _ from by with_reducible assumption) hyA)))
          all_goals
            go_wp2_with fail
            go_ret
            exact ⟨rfl, HX.out.transNo (by with_reducible assumption)⟩
end Go.Proofs.YtgakojgkkdmabaaDoor

/- The walk of TransferMeans. -/
import Derived.Test.YtgakojgkkdmabaaDoorTrG
import Derived.Test.YtgakojgkkdmabaaDoorTr17
set_option linter.unusedVariables false
set_option linter.unusedSimpArgs false
namespace Go.Proofs.YtgakojgkkdmabaaDoor
open Go Go.RowKit

set_option maxRecDepth 100000 in
set_option maxHeartbeats 8000000 in
theorem transferMeans_any (tl : Value) (zs : List Int) (w : World) (ht : Ints No w .i64 tl zs) (hT : TabW w) : Calls Tryd.prog 11 #[tl] w fun e w' => e = .returned (.bool true) ∧ Ext No w w' := by
  have HT := Lib.hid ht
  have HTB := Lib.hid hT
  obtain ⟨at', ct', rfl⟩ := ht.slice
  clear ht hT
  go_enter Tryd.func11, Tryd.ntmps11
  go_wp2_with fail
  refine (new_any _ zs _ HT.out).mono ?_
  rintro e0 w0 ⟨rfl, ht0, hx0, hs0⟩
  have HT0 := Lib.hid ht0
  have HX0 := Lib.hid hx0
  clear ht0 hx0 hs0
  go_wp2_with fail
  refine (width_any _ _ HT0.out).mono ?_
  rintro e1 w1 ⟨W8, hw8, rfl, ht1, hx1⟩
  have HT1 := Lib.hid ht1
  have HX1 := Lib.hid (HX0.out.trans2 hx1 (fun i hi e => by cases e; exact absurd hi (Nat.lt_irrefl _)))
  clear HX0 HT0 ht1 hx1
  go_wp2_with fail
  have hlt1 := HT1.out.lt
  refine (gtr_any _ W8 _ (by omega) HT1.out).mono ?_
  rintro e2 w2 ⟨t, sg, sk, sc, hw, rfl, hF, ht2, hx2⟩
  subst hw
  obtain ⟨afg, cfg, rfl⟩ := hF.out.gen.slice
  obtain ⟨afk, cfk, rfl⟩ := hF.out.kill.slice
  obtain ⟨afc, cfc, rfl⟩ := Row.slice hF.out.copies
  have hF2 := Lib.hid (hF.out.mono (M' := At w.heap.size) (fun i _ e => by cases e; exact hlt1))
  have HT2 := Lib.hid ht2
  have HX2 := Lib.hid (HX1.out.trans2 hx2 (fun i hi e => by cases e; exact absurd hi (Nat.lt_irrefl _)))
  have hs2 := hx2.size
  clear HX1 HT1 ht2 hx2 hF
  have hlt2 := HT2.out.lt
  go_wp2_with fail
  refine (gtr_any _ t.w _ (by omega) HT2.out).mono ?_
  rintro e3 w3 ⟨u, ug, uk, uc, hu, rfl, hG, ht3, hx3⟩
  have HU := Lib.hid hu
  have hug := hG.out.gen.slice
  have huk := hG.out.kill.slice
  rw [hu] at hug huk
  obtain ⟨agg, cgg, rfl⟩ := hug
  obtain ⟨agk, cgk, rfl⟩ := huk
  obtain ⟨agc, cgc, rfl⟩ := Row.slice hG.out.copies
  clear hu
  have hF3 := Lib.hid (hF2.out.ext hx3 (fun i _ e => e))
  have hG3 := Lib.hid (hG.out.mono (M' := At w.heap.size) (fun i _ e => by cases e; exact hlt2))
  have HT3 := Lib.hid ht3
  have HX3 := Lib.hid (HX2.out.trans2 hx3 (fun i hi e => by cases e; exact absurd hi (Nat.lt_irrefl _)))
  clear HX2 HT2 ht3 hx3 hF2 hG
  go_wp2_with fail
  refine (gset_any _ t.w _ (by omega) HT3.out).mono ?_
  rintro e4 w4 ⟨m, gs, hm, rfl, hb, _, ht4, hx4⟩
  have HM := Lib.hid hm
  have hw256 := hF3.out.ok.w
  have hS4 := Lib.hid (hb.out.setNo hw256 hm)
  have hF4 := Lib.hid (hF3.out.ext hx4 (fun i _ e => e)).no
  have hG4 := Lib.hid (hG3.out.ext hx4 (fun i _ e => e)).no
  have HX4 := Lib.hid (HX3.out.trans2 hx4 (fun i hi e => by cases e; exact absurd hi (Nat.lt_irrefl _)))
  clear HX3 HT3 ht4 hx4 hF3 hG3 hb hm hlt1 hlt2 hs2
  go_wp2_with fail
  have hx5 : Ext No w4 (((w4.alloc (.cells #[.int .i64 (t.w : Int), .slice afg (nw t.w) cfg, .int .i64 (t.w : Int), .slice afk (nw t.w) cfk, .slice afc t.copies.length cfc] 28)).alloc (.cells #[.int .i64 (t.w : Int), .slice agg (nw t.w) cgg, .int .i64 (t.w : Int), .slice agk (nw t.w) cgk, .slice agc u.copies.length cgc] 28)).alloc (.cells #[.int .i64 (t.w : Int), .slice (some ⟨gs, 0, none⟩) (nw t.w) (nw t.w)] 25)) := (((Ext.refl _ _).alloc _).alloc _).alloc _
  have hF := Lib.hid (show TrBox w4.heap.size t.w t.copies.length t afg cfg afk cfk afc cfc (((w4.alloc (.cells #[.int .i64 (t.w : Int), .slice afg (nw t.w) cfg, .int .i64 (t.w : Int), .slice afk (nw t.w) cfk, .slice afc t.copies.length cfc] 28)).alloc (.cells #[.int .i64 (t.w : Int), .slice agg (nw t.w) cgg, .int .i64 (t.w : Int), .slice agk (nw t.w) cgk, .slice agc u.copies.length cgc] 28)).alloc (.cells #[.int .i64 (t.w : Int), .slice (some ⟨gs, 0, none⟩) (nw t.w) (nw t.w)] 25)) from ⟨alloc_under (alloc_under (alloc_top rfl)), hF4.out.extNo hx5⟩)
  have hG := Lib.hid (show TrBox (w4.heap.size + 1) t.w u.copies.length u agg cgg agk cgk agc cgc (((w4.alloc (.cells #[.int .i64 (t.w : Int), .slice afg (nw t.w) cfg, .int .i64 (t.w : Int), .slice afk (nw t.w) cfk, .slice afc t.copies.length cfc] 28)).alloc (.cells #[.int .i64 (t.w : Int), .slice agg (nw t.w) cgg, .int .i64 (t.w : Int), .slice agk (nw t.w) cgk, .slice agc u.copies.length cgc] 28)).alloc (.cells #[.int .i64 (t.w : Int), .slice (some ⟨gs, 0, none⟩) (nw t.w) (nw t.w)] 25)) from ⟨alloc_under (alloc_top (by simp)), hG4.out.extNo hx5⟩)
  have hS := Lib.hid (show SetBox (w4.heap.size + 2) t.w m (some ⟨gs, 0, none⟩) (nw t.w) (((w4.alloc (.cells #[.int .i64 (t.w : Int), .slice afg (nw t.w) cfg, .int .i64 (t.w : Int), .slice afk (nw t.w) cfk, .slice afc t.copies.length cfc] 28)).alloc (.cells #[.int .i64 (t.w : Int), .slice agg (nw t.w) cgg, .int .i64 (t.w : Int), .slice agk (nw t.w) cgk, .slice agc u.copies.length cgc] 28)).alloc (.cells #[.int .i64 (t.w : Int), .slice (some ⟨gs, 0, none⟩) (nw t.w) (nw t.w)] 25)) from ⟨alloc_top (by simp), hS4.out.extNo hx5⟩)
  have HX := Lib.hid (HX4.out.transNo hx5)
  have hTB := Lib.hid (HTB.out.ext HX.out)
  clear HX4 hF4 hG4 hS4 hx5 HT HTB
  generalize (((w4.alloc (.cells #[.int .i64 (t.w : Int), .slice afg (nw t.w) cfg, .int .i64 (t.w : Int), .slice afk (nw t.w) cfk, .slice afc t.copies.length cfc] 28)).alloc (.cells #[.int .i64 (t.w : Int), .slice agg (nw t.w) cgg, .int .i64 (t.w : Int), .slice agk (nw t.w) cgk, .slice agc u.copies.length cgc] 28)).alloc (.cells #[.int .i64 (t.w : Int), .slice (some ⟨gs, 0, none⟩) (nw t.w) (nw t.w)] 25)) = V at *
  generalize w4.heap.size = F at *
  refine (compose8 t u _ _ _ _ _ _ _ hw8 HU.out hTB.out hF.out.tr hG.out.tr).mono ?_
  rintro eC w6 ⟨aCg, cCg, aCk, cCk, aCc, nC, cCc, rfl, hC0, hy⟩
  have hz := hy.alloc (.cells #[.int .i64 (t.w : Int), .slice aCg (nw t.w) cCg, .int .i64 (t.w : Int), .slice aCk (nw t.w) cCk, .slice aCc nC cCc] 28)
  have hz1 : Ext No w6 (w6.alloc (.cells #[.int .i64 (t.w : Int), .slice aCg (nw t.w) cCg, .int .i64 (t.w : Int), .slice aCk (nw t.w) cCk, .slice aCc nC cCc] 28)) := (Ext.refl _ _).alloc _
  have kF := Lib.hid (hF.out.ext hz)
  have kG := Lib.hid (hG.out.ext hz)
  have kS := Lib.hid (hS.out.ext hz)
  have kC := Lib.hid (show TrBox w6.heap.size t.w nC (compT t u) aCg cCg aCk cCk aCc cCc (w6.alloc (.cells #[.int .i64 (t.w : Int), .slice aCg (nw t.w) cCg, .int .i64 (t.w : Int), .slice aCk (nw t.w) cCk, .slice aCc nC cCc] 28)) from ⟨alloc_top rfl, hC0.out.extNo hz1⟩)
  have kE := Lib.hid (HX.out.transNo hz)
  have kT := Lib.hid (hTB.out.ext hz)
  clear hF hG hS hC0 hy hz hz1 HX hTB
  have xF := cellOf kF.out.box
  have xG := cellOf kG.out.box
  go_wp2_with fail
  clear xF xG
  generalize (w6.alloc (.cells #[.int .i64 (t.w : Int), .slice aCg (nw t.w) cCg, .int .i64 (t.w : Int), .slice aCk (nw t.w) cCk, .slice aCc nC cCc] 28)) = V6 at *
  generalize w6.heap.size = DC at *
  have hF := kF
  have hG := kG
  have hS := kS
  have hC := kC
  have HX := kE
  have hTB := kT
  clear kF kG kS kC kE kT
  refine (join8 t u _ _ _ _ _ _ _ hw8 HU.out hTB.out hF.out.tr hG.out.tr).mono ?_
  rintro eJ w7 ⟨aJg, cJg, aJk, cJk, aJc, nJ, cJc, rfl, hJ0, hy⟩
  have hz := hy.alloc (.cells #[.int .i64 (t.w : Int), .slice aJg (nw t.w) cJg, .int .i64 (t.w : Int), .slice aJk (nw t.w) cJk, .slice aJc nJ cJc] 28)
  have hz1 : Ext No w7 (w7.alloc (.cells #[.int .i64 (t.w : Int), .slice aJg (nw t.w) cJg, .int .i64 (t.w : Int), .slice aJk (nw t.w) cJk, .slice aJc nJ cJc] 28)) := (Ext.refl _ _).alloc _
  have kF := Lib.hid (hF.out.ext hz)
  have kG := Lib.hid (hG.out.ext hz)
  have kS := Lib.hid (hS.out.ext hz)
  have kC := Lib.hid (hC.out.ext hz)
  have kJ := Lib.hid (show TrBox w7.heap.size t.w nJ (joinT t u) aJg cJg aJk cJk aJc cJc (w7.alloc (.cells #[.int .i64 (t.w : Int), .slice aJg (nw t.w) cJg, .int .i64 (t.w : Int), .slice aJk (nw t.w) cJk, .slice aJc nJ cJc] 28)) from ⟨alloc_top rfl, hJ0.out.extNo hz1⟩)
  have kE := Lib.hid (HX.out.transNo hz)
  have kT := Lib.hid (hTB.out.ext hz)
  clear hF hG hS hC hJ0 hy hz hz1 HX hTB
  have xF := cellOf kF.out.box
  go_wp2_with fail
  clear xF
  generalize (w7.alloc (.cells #[.int .i64 (t.w : Int), .slice aJg (nw t.w) cJg, .int .i64 (t.w : Int), .slice aJk (nw t.w) cJk, .slice aJc nJ cJc] 28)) = V7 at *
  generalize w7.heap.size = DJ at *
  have hF := kF
  have hG := kG
  have hS := kS
  have hC := kC
  have hJ := kJ
  have HX := kE
  have hTB := kT
  clear kF kG kS kC kJ kE kT
  refine (star8 t _ _ _ _ hw8 hTB.out hF.out.tr).mono ?_
  rintro eX w8 ⟨aXg, cXg, aXk, cXk, aXc, nX, cXc, rfl, hX0, hy⟩
  have hz := hy.alloc (.cells #[.int .i64 (t.w : Int), .slice aXg (nw t.w) cXg, .int .i64 (t.w : Int), .slice aXk (nw t.w) cXk, .slice aXc nX cXc] 28)
  have hz1 : Ext No w8 (w8.alloc (.cells #[.int .i64 (t.w : Int), .slice aXg (nw t.w) cXg, .int .i64 (t.w : Int), .slice aXk (nw t.w) cXk, .slice aXc nX cXc] 28)) := (Ext.refl _ _).alloc _
  have kF := Lib.hid (hF.out.ext hz)
  have kG := Lib.hid (hG.out.ext hz)
  have kS := Lib.hid (hS.out.ext hz)
  have kC := Lib.hid (hC.out.ext hz)
  have kJ := Lib.hid (hJ.out.ext hz)
  have kX := Lib.hid (show TrBox w8.heap.size t.w nX (starT t) aXg cXg aXk cXk aXc cXc (w8.alloc (.cells #[.int .i64 (t.w : Int), .slice aXg (nw t.w) cXg, .int .i64 (t.w : Int), .slice aXk (nw t.w) cXk, .slice aXc nX cXc] 28)) from ⟨alloc_top rfl, hX0.out.extNo hz1⟩)
  have kE := Lib.hid (HX.out.transNo hz)
  have kT := Lib.hid (hTB.out.ext hz)
  clear hF hG hS hC hJ hX0 hy hz hz1 HX hTB
  have xF := cellOf kF.out.box
  have xS := cellOf kS.out.box
  go_wp2_with fail
  clear xF xS
  generalize (w8.alloc (.cells #[.int .i64 (t.w : Int), .slice aXg (nw t.w) cXg, .int .i64 (t.w : Int), .slice aXk (nw t.w) cXk, .slice aXc nX cXc] 28)) = V8 at *
  generalize w8.heap.size = DX at *
  have hF := kF
  have hG := kG
  have hS := kS
  have hC := kC
  have hJ := kJ
  have hX := kX
  have HX := kE
  have hTB := kT
  clear kF kG kS kC kJ kX kE kT
  refine (lapply_w t t.w m _ _ _ _ _ rfl hF.out.tr hS.out.set).mono ?_
  rintro e9 w9 ⟨a9, c9, rfl, h9, hy⟩
  have kF := Lib.hid (hF.out.ext hy)
  have kG := Lib.hid (hG.out.ext hy)
  have kS := Lib.hid (hS.out.ext hy)
  have kC := Lib.hid (hC.out.ext hy)
  have kJ := Lib.hid (hJ.out.ext hy)
  have kX := Lib.hid (hX.out.ext hy)
  have kE := Lib.hid (HX.out.transNo hy)
  have kT := Lib.hid (hTB.out.ext hy)
  clear hF hG hS hC hJ hX HX hTB
  have hF := kF
  have hG := kG
  have hS := kS
  have hC := kC
  have hJ := kJ
  have hX := kX
  have HX := kE
  have hTB := kT
  clear kF kG kS kC kJ kX kE kT
  have h90 := Lib.hid h9.out
  clear h9 hy
  go_wp2_with fail
  refine (rvalid_set t.w _ _ _ h90.out).mono ?_
  rintro e10 w10 ⟨rfl, hy⟩
  have kF := Lib.hid (hF.out.ext hy)
  have kG := Lib.hid (hG.out.ext hy)
  have kS := Lib.hid (hS.out.ext hy)
  have kC := Lib.hid (hC.out.ext hy)
  have kJ := Lib.hid (hJ.out.ext hy)
  have kX := Lib.hid (hX.out.ext hy)
  have kE := Lib.hid (HX.out.transNo hy)
  have kT := Lib.hid (hTB.out.ext hy)
  clear hF hG hS hC hJ hX HX hTB
  have hF := kF
  have hG := kG
  have hS := kS
  have hC := kC
  have hJ := kJ
  have hX := kX
  have HX := kE
  have hTB := kT
  clear kF kG kS kC kJ kX kE kT
  clear hy h90
  go_wp2_with fail
  go_cut [14] (fun s14 wx => ∃ D a c, s14 = .pointer (some ⟨D, 0, none⟩) ∧ Hid (SetBox D t.w (orN (applyT t m) (applyT u m)) a c wx) ∧ Hid (Ext No w10 wx))
  case first =>
    have cF := cellOf hF.out.box
    have cG := cellOf hG.out.box
    have cS := cellOf hS.out.box
    have l0 : Ext No w10 w10 := Ext.refl _ _
    have m0 : w10.cell? ⟨F, 0, none⟩ = some (.int .i64 (t.w : Int)) := cF 0
    have m1 : w10.cell? ⟨F, 1, none⟩ = some (.slice afg (nw t.w) cfg) := cF 1
    have m2 : w10.cell? ⟨F, 2, none⟩ = some (.int .i64 (t.w : Int)) := cF 2
    have m3 : w10.cell? ⟨F, 3, none⟩ = some (.slice afk (nw t.w) cfk) := cF 3
    have m4 : w10.cell? ⟨F, 4, none⟩ = some (.slice afc t.copies.length cfc) := cF 4
    have m5 : w10.cell? ⟨F + 1, 0, none⟩ = some (.int .i64 (t.w : Int)) := cG 0
    have m6 : w10.cell? ⟨F + 1, 1, none⟩ = some (.slice agg (nw t.w) cgg) := cG 1
    have m7 : w10.cell? ⟨F + 1, 2, none⟩ = some (.int .i64 (t.w : Int)) := cG 2
    have m8 : w10.cell? ⟨F + 1, 3, none⟩ = some (.slice agk (nw t.w) cgk) := cG 3
    have m9 : w10.cell? ⟨F + 1, 4, none⟩ = some (.slice agc u.copies.length cgc) := cG 4
    have m10 : w10.cell? ⟨F + 2, 0, none⟩ = some (.int .i64 (t.w : Int)) := cS 0
    have m11 : w10.cell? ⟨F + 2, 1, none⟩ = some (.slice (some ⟨gs, 0, none⟩) (nw t.w) (nw t.w)) := cS 1
    clear cF cG cS
    have hFl : F + 2 < w10.heap.size := lt_of_block hS.out.box
    go_region_held3 (fun w' => w'.cell? ⟨F, 0, none⟩ = some (.int .i64 (t.w : Int)) ∧ w'.cell? ⟨F, 1, none⟩ = some (.slice afg (nw t.w) cfg) ∧ w'.cell? ⟨F, 2, none⟩ = some (.int .i64 (t.w : Int)) ∧ w'.cell? ⟨F, 3, none⟩ = some (.slice afk (nw t.w) cfk) ∧ w'.cell? ⟨F, 4, none⟩ = some (.slice afc t.copies.length cfc) ∧ w'.cell? ⟨F + 1, 0, none⟩ = some (.int .i64 (t.w : Int)) ∧ w'.cell? ⟨F + 1, 1, none⟩ = some (.slice agg (nw t.w) cgg) ∧ w'.cell? ⟨F + 1, 2, none⟩ = some (.int .i64 (t.w : Int)) ∧ w'.cell? ⟨F + 1, 3, none⟩ = some (.slice agk (nw t.w) cgk) ∧ w'.cell? ⟨F + 1, 4, none⟩ = some (.slice agc u.copies.length cgc) ∧ w'.cell? ⟨F + 2, 0, none⟩ = some (.int .i64 (t.w : Int)) ∧ w'.cell? ⟨F + 2, 1, none⟩ = some (.slice (some ⟨gs, 0, none⟩) (nw t.w) (nw t.w)) ∧ Ext No w10 w')
      ((go_split_ands; refine ⟨?_, ?_, ?_, ?_, ?_, ?_, ?_, ?_, ?_, ?_, ?_, ?_, ?_⟩ <;> (repeat (first | (with_reducible assumption) | (with_reducible exact Ext.refl _ _) | (with_reducible refine keepD ?_) | (with_reducible refine keepA ?_) | (with_reducible refine Ext.drew ?_) | (with_reducible refine Ext.alloc ?_ _) | (with_reducible refine BoxR.drew ?_) | (with_reducible refine BoxR.alloc ?_ _) | (with_reducible refine BoxR.set ?_ _ _) | ((with_reducible refine keepS ?_ ?_); (first | (with_reducible assumption) | omega | (simp; omega) | (exact Nat.le_refl _))) | (with_reducible refine Ext.setAt ?_ _ _) | ((with_reducible refine Ext.own ?_ ?_ _); rotate_left; (first | (with_reducible assumption) | omega | (simp; omega) | (exact Nat.le_refl _))) | (with_reducible refine keepN hyA ?_) | (with_reducible refine Ext.transNo ?_ hyA) | (with_reducible refine BoxR.ext ?_ hyA)))))
      (first
        | ((go_at_call 31); (try go_split_ands); (with_reducible refine (lapply_w t t.w m _ _ _ _ _ rfl (hF.out.tr.extNo ?_) (hS.out.set.extNo ?_)).mono ?_); (with_reducible assumption); (with_reducible assumption); (rintro e11 w11 ⟨a11, c11, rfl, h11, hyA⟩); (have hx11 := Ext.transNo (show Ext No w10 _ from by with_reducible assumption) hyA); (have hy11 := hyA); (have hsz11 := hx11.size))
        | ((go_at_call 31); (try go_split_ands); (with_reducible refine (lapply_w u t.w m _ _ _ _ _ HU.out (hG.out.tr.extNo ?_) (hS.out.set.extNo ?_)).mono ?_); (with_reducible assumption); (with_reducible assumption); (rintro e12 w12 ⟨a12, c12, rfl, h12, hyA⟩); (have hx12 := Ext.transNo (show Ext No w10 _ from by with_reducible assumption) hyA); (have hy12 := hyA); (have hsz12 := hx12.size))
        | ((go_at_call 30); (try go_split_ands); (with_reducible refine (union_lo t.w (applyT t m) (applyT u m) _ _ _ (h11.out.extNo ?_) (h12.out.extNo ?_)).mono ?_); (repeat (first | (with_reducible assumption) | (with_reducible exact Ext.refl _ _) | (with_reducible refine Ext.alloc ?_ _) | (with_reducible refine Ext.drew ?_) | (with_reducible refine Ext.transNo ?_ hy12))); (have hx6 := (show Ext No w10 _ from by with_reducible assumption)); (rintro e7 w7 ⟨a7, c7, rfl, hs7, hyA⟩); (have hyC := hyA); (have hx7 := Ext.transNo (show Ext No w10 _ from by with_reducible assumption) hyC); (first | (with_reducible have hi := two_facts2 hyC (alloc_top (o := (.cells #[.int .i64 0, .slice none 0 0] 25)) rfl)) | (with_reducible have hi := two_facts2 hyC (hy12.blk (alloc_top (o := (.cells #[.int .i64 0, .slice none 0 0] 25)) rfl) no_no)) | (with_reducible have hi := two_facts2 hyC (hy12.blk (hy11.blk (alloc_top (o := (.cells #[.int .i64 0, .slice none 0 0] 25)) rfl) no_no) no_no)) | skip); (try ((obtain ⟨hi, hlt⟩ := hi); (have HI := Lib.hid hi); (have HL := Lib.hid hlt); (have cI := cellOf hi); (have fI := freeOf hi); (clear hi hlt)))))
    all_goals
      go_wp2_with fail
      go_meet
      refine ⟨_, a7, c7, rfl, Lib.hid ?_, Lib.hid ?_⟩
      · first
        | (with_reducible exact ⟨alloc_top rfl, hs7.out.no.extNo ((Ext.refl _ _).alloc _)⟩)
        | exact ⟨(set_same (j := 1) (set_same (j := 0) HI.out)).trans rfl, (hs7.out.early2 HL.out).no⟩
      · first
        | (with_reducible exact hx7.alloc _)
        | exact ext2 hx7 hsz12
        | exact ext2 hx7 hsz11
        | exact ext2 hx7 (Nat.le_refl _)
  case rest =>
    obtain ⟨DU, aU, cU, rfl, hU, hyU⟩ := hcut
    have hy := hyU.out
    clear hyU
    have kF := Lib.hid (hF.out.ext hy)
    have kG := Lib.hid (hG.out.ext hy)
    have kS := Lib.hid (hS.out.ext hy)
    have kC := Lib.hid (hC.out.ext hy)
    have kJ := Lib.hid (hJ.out.ext hy)
    have kX := Lib.hid (hX.out.ext hy)
    have kE := Lib.hid (HX.out.transNo hy)
    have kT := Lib.hid (hTB.out.ext hy)
    clear hF hG hS hC hJ hX HX hTB
    have hF := kF
    have hG := kG
    have hS := kS
    have hC := kC
    have hJ := kJ
    have hX := kX
    have HX := kE
    have hTB := kT
    clear kF kG kS kC kJ kX kE kT
    clear hy
    have cX := cellOf hX.out.box
    have cS := cellOf hS.out.box
    go_wp2_with fail
    clear cX cS
    have HWX := Lib.hid (show (starT t).w = t.w from rfl)
    refine (lapply_w (starT t) t.w m _ _ _ _ _ HWX.out hX.out.tr hS.out.set).mono ?_
    rintro eL w13 ⟨aL, cL, rfl, hL0, hy⟩
    have hz := hy.alloc (.cells #[.int .i64 (t.w : Int), .slice aL (nw t.w) cL] 25)
    have hL := Lib.hid (show SetBox w13.heap.size t.w (applyT (starT t) m) aL cL (w13.alloc (.cells #[.int .i64 (t.w : Int), .slice aL (nw t.w) cL] 25)) from ⟨alloc_top rfl, hL0.out.extNo ((Ext.refl _ _).alloc _)⟩)
    have kF := Lib.hid (hF.out.ext hz)
    have kG := Lib.hid (hG.out.ext hz)
    have kS := Lib.hid (hS.out.ext hz)
    have kC := Lib.hid (hC.out.ext hz)
    have kJ := Lib.hid (hJ.out.ext hz)
    have kX := Lib.hid (hX.out.ext hz)
    have kU := Lib.hid (hU.out.ext hz)
    have kE := Lib.hid (HX.out.transNo hz)
    have kT := Lib.hid (hTB.out.ext hz)
    clear hF hG hS hC hJ hX hU HX hTB
    have hF := kF
    have hG := kG
    have hS := kS
    have hC := kC
    have hJ := kJ
    have hX := kX
    have hU := kU
    have HX := kE
    have hTB := kT
    clear kF kG kS kC kJ kX kU kE kT
    clear hy hz hL0
    go_wp2_with fail
    generalize (w13.alloc (.cells #[.int .i64 (t.w : Int), .slice aL (nw t.w) cL] 25)) = V14 at *
    generalize w13.heap.size = DL at *
    have hot := hF.out.tr.ok
    have hou := hG.out.tr.ok
    have hoc : TrOk (compT t u) := hC.out.tr.ok
    have hoj : TrOk (joinT t u) := hJ.out.tr.ok
    have hox : TrOk (starT t) := hX.out.tr.ok
    have hml := hS.out.set.hm
    have EC : Hid (applyT (compT t u) m = applyT u (applyT t m)) := Lib.hid (mean_compose hot hou HU.out hml hoc)
    have EJ : Hid (applyT (joinT t u) m = orN (applyT t m) (applyT u m)) := Lib.hid (mean_join hot hou HU.out hml hoj)
    have E1 : Hid (subN m (applyT (starT t) m) = true) := Lib.hid (star_ge hot hml hox)
    have E2 : Hid (subN (applyT t (applyT (starT t) m)) (applyT (starT t) m) = true) := Lib.hid (star_fix hot hml hox)
    have HWC := Lib.hid (show (compT t u).w = t.w from rfl)
    have HWJ := Lib.hid (show (joinT t u).w = t.w from rfl)
    clear hot hou hoc hoj hox hml
    have cF := cellOf hF.out.box
    have cG := cellOf hG.out.box
    have cS := cellOf hS.out.box
    have cC := cellOf hC.out.box
    have cJ := cellOf hJ.out.box
    have cU' := cellOf hU.out.box
    have cL' := cellOf hL.out.box
    have l0 : Ext No V14 V14 := Ext.refl _ _
    have m0 : V14.cell? ⟨F, 0, none⟩ = some (.int .i64 (t.w : Int)) := cF 0
    have m1 : V14.cell? ⟨F, 1, none⟩ = some (.slice afg (nw t.w) cfg) := cF 1
    have m2 : V14.cell? ⟨F, 2, none⟩ = some (.int .i64 (t.w : Int)) := cF 2
    have m3 : V14.cell? ⟨F, 3, none⟩ = some (.slice afk (nw t.w) cfk) := cF 3
    have m4 : V14.cell? ⟨F, 4, none⟩ = some (.slice afc t.copies.length cfc) := cF 4
    have m5 : V14.cell? ⟨F + 1, 0, none⟩ = some (.int .i64 (t.w : Int)) := cG 0
    have m6 : V14.cell? ⟨F + 1, 1, none⟩ = some (.slice agg (nw t.w) cgg) := cG 1
    have m7 : V14.cell? ⟨F + 1, 2, none⟩ = some (.int .i64 (t.w : Int)) := cG 2
    have m8 : V14.cell? ⟨F + 1, 3, none⟩ = some (.slice agk (nw t.w) cgk) := cG 3
    have m9 : V14.cell? ⟨F + 1, 4, none⟩ = some (.slice agc u.copies.length cgc) := cG 4
    have m10 : V14.cell? ⟨F + 2, 0, none⟩ = some (.int .i64 (t.w : Int)) := cS 0
    have m11 : V14.cell? ⟨F + 2, 1, none⟩ = some (.slice (some ⟨gs, 0, none⟩) (nw t.w) (nw t.w)) := cS 1
    have m12 : V14.cell? ⟨DC, 0, none⟩ = some (.int .i64 (t.w : Int)) := cC 0
    have m13 : V14.cell? ⟨DC, 1, none⟩ = some (.slice aCg (nw t.w) cCg) := cC 1
    have m14 : V14.cell? ⟨DC, 2, none⟩ = some (.int .i64 (t.w : Int)) := cC 2
    have m15 : V14.cell? ⟨DC, 3, none⟩ = some (.slice aCk (nw t.w) cCk) := cC 3
    have m16 : V14.cell? ⟨DC, 4, none⟩ = some (.slice aCc nC cCc) := cC 4
    have m17 : V14.cell? ⟨DJ, 0, none⟩ = some (.int .i64 (t.w : Int)) := cJ 0
    have m18 : V14.cell? ⟨DJ, 1, none⟩ = some (.slice aJg (nw t.w) cJg) := cJ 1
    have m19 : V14.cell? ⟨DJ, 2, none⟩ = some (.int .i64 (t.w : Int)) := cJ 2
    have m20 : V14.cell? ⟨DJ, 3, none⟩ = some (.slice aJk (nw t.w) cJk) := cJ 3
    have m21 : V14.cell? ⟨DJ, 4, none⟩ = some (.slice aJc nJ cJc) := cJ 4
    have m22 : V14.cell? ⟨DU, 0, none⟩ = some (.int .i64 (t.w : Int)) := cU' 0
    have m23 : V14.cell? ⟨DU, 1, none⟩ = some (.slice aU (nw t.w) cU) := cU' 1
    have m24 : V14.cell? ⟨DL, 0, none⟩ = some (.int .i64 (t.w : Int)) := cL' 0
    have m25 : V14.cell? ⟨DL, 1, none⟩ = some (.slice aL (nw t.w) cL) := cL' 1
    clear cF cG cS cC cJ cU' cL'
    go_region_held3 (fun w' => w'.cell? ⟨F, 0, none⟩ = some (.int .i64 (t.w : Int)) ∧ w'.cell? ⟨F, 1, none⟩ = some (.slice afg (nw t.w) cfg) ∧ w'.cell? ⟨F, 2, none⟩ = some (.int .i64 (t.w : Int)) ∧ w'.cell? ⟨F, 3, none⟩ = some (.slice afk (nw t.w) cfk) ∧ w'.cell? ⟨F, 4, none⟩ = some (.slice afc t.copies.length cfc) ∧ w'.cell? ⟨F + 1, 0, none⟩ = some (.int .i64 (t.w : Int)) ∧ w'.cell? ⟨F + 1, 1, none⟩ = some (.slice agg (nw t.w) cgg) ∧ w'.cell? ⟨F + 1, 2, none⟩ = some (.int .i64 (t.w : Int)) ∧ w'.cell? ⟨F + 1, 3, none⟩ = some (.slice agk (nw t.w) cgk) ∧ w'.cell? ⟨F + 1, 4, none⟩ = some (.slice agc u.copies.length cgc) ∧ w'.cell? ⟨F + 2, 0, none⟩ = some (.int .i64 (t.w : Int)) ∧ w'.cell? ⟨F + 2, 1, none⟩ = some (.slice (some ⟨gs, 0, none⟩) (nw t.w) (nw t.w)) ∧ w'.cell? ⟨DC, 0, none⟩ = some (.int .i64 (t.w : Int)) ∧ w'.cell? ⟨DC, 1, none⟩ = some (.slice aCg (nw t.w) cCg) ∧ w'.cell? ⟨DC, 2, none⟩ = some (.int .i64 (t.w : Int)) ∧ w'.cell? ⟨DC, 3, none⟩ = some (.slice aCk (nw t.w) cCk) ∧ w'.cell? ⟨DC, 4, none⟩ = some (.slice aCc nC cCc) ∧ w'.cell? ⟨DJ, 0, none⟩ = some (.int .i64 (t.w : Int)) ∧ w'.cell? ⟨DJ, 1, none⟩ = some (.slice aJg (nw t.w) cJg) ∧ w'.cell? ⟨DJ, 2, none⟩ = some (.int .i64 (t.w : Int)) ∧ w'.cell? ⟨DJ, 3, none⟩ = some (.slice aJk (nw t.w) cJk) ∧ w'.cell? ⟨DJ, 4, none⟩ = some (.slice aJc nJ cJc) ∧ w'.cell? ⟨DU, 0, none⟩ = some (.int .i64 (t.w : Int)) ∧ w'.cell? ⟨DU, 1, none⟩ = some (.slice aU (nw t.w) cU) ∧ w'.cell? ⟨DL, 0, none⟩ = some (.int .i64 (t.w : Int)) ∧ w'.cell? ⟨DL, 1, none⟩ = some (.slice aL (nw t.w) cL) ∧ Ext No V14 w')
      ((go_split_ands; refine ⟨?_, ?_, ?_, ?_, ?_, ?_, ?_, ?_, ?_, ?_, ?_, ?_, ?_, ?_, ?_, ?_, ?_, ?_, ?_, ?_, ?_, ?_, ?_, ?_, ?_, ?_, ?_⟩; (repeat (first | (with_reducible assumption) | (with_reducible exact Ext.refl _ _) | (with_reducible refine keepD ?_) | (with_reducible refine keepA ?_) | (with_reducible refine Ext.drew ?_) | (with_reducible refine Ext.alloc ?_ _) | (with_reducible refine BoxR.drew ?_) | (with_reducible refine BoxR.alloc ?_ _) | (with_reducible refine BoxR.set ?_ _ _) | ((with_reducible refine keepS ?_ ?_); (first | (with_reducible assumption) | omega | (simp; omega) | (exact Nat.le_refl _))) | (with_reducible refine Ext.setAt ?_ _ _) | ((with_reducible refine Ext.own ?_ ?_ _); rotate_left; (first | (with_reducible assumption) | omega | (simp; omega) | (exact Nat.le_refl _))) | (with_reducible refine keepN hyA ?_) | (with_reducible refine Ext.transNo ?_ hyA) | (with_reducible refine BoxR.ext ?_ hyA)))))
      (first
        | ((go_at_call 31); (try go_split_ands); (with_reducible refine (lapply_w (compT t u) t.w m _ _ _ _ _ HWC.out (hC.out.tr.extNo ?_) (hS.out.set.extNo ?_)).mono ?_); (with_reducible assumption); (with_reducible assumption); (rintro e21 w21 ⟨a21, c21, rfl, h21, hyA⟩); (have hx21 := Ext.transNo (show Ext No V14 _ from by with_reducible assumption) hyA); (have hy21 := hyA))
        | ((go_at_call 31); (try go_split_ands); (with_reducible refine (lapply_w t t.w m _ _ _ _ _ rfl (hF.out.tr.extNo ?_) (hS.out.set.extNo ?_)).mono ?_); (with_reducible assumption); (with_reducible assumption); (rintro e22 w22 ⟨a22, c22, rfl, h22, hyA⟩); (have hx22 := Ext.transNo (show Ext No V14 _ from by with_reducible assumption) hyA); (have hy22 := hyA))
        | ((go_at_call 31); (try go_split_ands); (with_reducible refine (lapply_w u t.w (applyT t m) _ _ _ _ _ HU.out (hG.out.tr.extNo ?_) h22.out).mono ?_); (with_reducible assumption); (rintro e23 w23 ⟨a23, c23, rfl, h23, hyA⟩); (have hx23 := Ext.transNo (show Ext No V14 _ from by with_reducible assumption) hyA); (have hy23 := hyA))
        | ((go_at_call 32); (try go_split_ands); (with_reducible refine (rsame_set t.w (applyT u (applyT t m)) _ _ _ ?_ h23.out).mono ?_); (rw [← EC.out]; exact (h21.out.extNo hy22).extNo hy23); (rintro e24 w24 ⟨rfl, hyA⟩); (have hx24 := Ext.transNo (show Ext No V14 _ from by with_reducible assumption) hyA))
        | ((go_at_call 31); (try go_split_ands); (with_reducible refine (lapply_w (joinT t u) t.w m _ _ _ _ _ HWJ.out (hJ.out.tr.extNo ?_) (hS.out.set.extNo ?_)).mono ?_); (with_reducible assumption); (with_reducible assumption); (rintro e25 w25 ⟨a25, c25, rfl, h25, hyA⟩); (have hx25 := Ext.transNo (show Ext No V14 _ from by with_reducible assumption) hyA))
        | ((go_at_call 32); (try go_split_ands); (with_reducible refine (rsame_set t.w (orN (applyT t m) (applyT u m)) _ _ _ ?_ (hU.out.set.extNo ?_)).mono ?_); (rw [← EJ.out]; exact h25.out); (with_reducible assumption); (rintro e26 w26 ⟨rfl, hyA⟩); (have hx26 := Ext.transNo (show Ext No V14 _ from by with_reducible assumption) hyA))
        | ((go_at_call 35); (try go_split_ands); (with_reducible refine (subset_true t.w m (applyT (starT t) m) _ _ _ E1.out (hS.out.set.extNo ?_) (hL.out.set.extNo ?_)).mono ?_); (with_reducible assumption); (with_reducible assumption); (rintro e27 w27 ⟨rfl, hyA⟩); (have hx27 := Ext.transNo (show Ext No V14 _ from by with_reducible assumption) hyA))
        | ((go_at_call 31); (try go_split_ands); (with_reducible refine (lapply_w t t.w (applyT (starT t) m) _ _ _ _ _ rfl (hF.out.tr.extNo ?_) (hL.out.set.extNo ?_)).mono ?_); (with_reducible assumption); (with_reducible assumption); (rintro e28 w28 ⟨a28, c28, rfl, h28, hyA⟩); (have hx28 := Ext.transNo (show Ext No V14 _ from by with_reducible assumption) hyA))
        | ((go_at_call 35); (try go_split_ands); (with_reducible refine (subset_true t.w (applyT t (applyT (starT t) m)) (applyT (starT t) m) _ _ _ E2.out h28.out.no (hL.out.set.extNo ?_)).mono ?_); (with_reducible assumption); (rintro e29 w29 ⟨rfl, hyA⟩); (have hx29 := Ext.transNo (show Ext No V14 _ from by with_reducible assumption) hyA))
        | ((go_at_call 21); (try go_split_ands); (with_reducible refine (sane_any _).mono ?_); (rintro e30 w30 ⟨rfl, hyA⟩); (have hx30 := Ext.transNo (show Ext No V14 _ from by with_reducible assumption) hyA)))
    all_goals
      go_wp2_with fail
      go_ret
      exact ⟨rfl, HX.out.transNo (by with_reducible assumption)⟩
end Go.Proofs.YtgakojgkkdmabaaDoor

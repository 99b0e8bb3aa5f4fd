/- The walk of TransferMonoid. -/
import Derived.Test.YtgakojgkkdmabaaDoorTr46
set_option linter.unusedVariables false
set_option linter.unusedSimpArgs false
namespace Go.Proofs.YtgakojgkkdmabaaDoor
open Go Go.RowKit

theorem identity8 (w : Nat) (W : World) (hw : w ≤ 8) : Calls Tryd.prog 22 #[.int .i64 (w : Int)] W (TrWM No w (idT w) W) :=
  (identity_any No w W (fun _ e => e.elim) (by omega)).mono (fun _ _ h => by
    obtain ⟨ag, cg, ak, ck, ac, cc, h1, h2, h3⟩ := h
    exact ⟨ag, cg, ak, ck, ac, _, cc, h1, h2, h3⟩)
set_option maxRecDepth 100000 in
set_option maxHeartbeats 1000000 in
theorem identity_no (z : Int) (W : World) (hz : rangedB z = false) : Calls Tryd.prog 22 #[.int .i64 z] W (TrNo 3 W) := by
  go_enter Tryd.func22, Tryd.ntmps22
  go_wp2_with fail
  have hB0 : (W.alloc (.cells #[.int .i64 0, .slice none 0 0, .int .i64 0, .slice none 0 0, .slice none 0 0] 28)).heap[W.heap.size]? = some (.cells #[.int .i64 0, .slice none 0 0, .int .i64 0, .slice none 0 0, .slice none 0 0] 28 (0, 0)) := alloc_top rfl
  have hx0 : Ext No W (W.alloc (.cells #[.int .i64 0, .slice none 0 0, .int .i64 0, .slice none 0 0, .slice none 0 0] 28)) := (Ext.refl _ _).alloc _
  refine (bempty_no z _ hz).mono ?_
  rintro e1 w1 ⟨rfl, hx1⟩
  have hB1 := alloc_under (o := .cells #[.int .i64 0, .slice none 0 0] 25) (hx1.blk hB0 no_no)
  have hx2 := (hx0.transNo hx1).alloc (.cells #[.int .i64 0, .slice none 0 0] 25)
  have cC := cellOf hB1
  have fC := freeOf hB1
  have HC := Lib.hid hB1
  clear hx0 hx1 hB0 hB1
  go_wp2_with fail
  generalize w1.alloc (.cells #[.int .i64 0, .slice none 0 0] 25) = w2 at *
  have hfin := BoxR.fin5 ⟨_, rfl, HC.out⟩ (.int .i64 0) (.slice none 0 0) (.int .i64 0) (.slice none 0 0) (.slice none 0 0)
  have hE := set5 w2 W.heap.size (.int .i64 0) (.slice none 0 0) (.int .i64 0) (.slice none 0 0) (.slice none 0 0)
  clear cC fC
  generalize (((((w2.setCell ⟨W.heap.size, 0, none⟩ (.int .i64 0)).setCell ⟨W.heap.size, 1, none⟩ (.slice none 0 0)).setCell ⟨W.heap.size, 2, none⟩ (.int .i64 0)).setCell ⟨W.heap.size, 3, none⟩ (.slice none 0 0)).setCell ⟨W.heap.size, 4, none⟩ (.slice none 0 0)) = WF at *
  have cF := cellOf hfin
  refine ret_ex rfl ?_
  simp [results, Tryd.results22, go_sem, cF]
  exact ⟨rfl, hx2.trans2 hE (fun i hi e => by unfold At at e; omega)⟩

set_option maxRecDepth 100000 in
set_option maxHeartbeats 16000000 in
theorem transferMonoid_any (tl : Value) (zs : List Int) (w : World) (ht : Ints No w .i64 tl zs) (hT : TabW w) : Calls Tryd.prog 4 #[tl] w fun e w' => e = .returned (.bool true) ∧ Ext No w w' := by
  have HT := Lib.hid ht
  have HTB := Lib.hid hT
  obtain ⟨at', ct', rfl⟩ := ht.slice
  clear ht hT
  go_enter Tryd.func4, Tryd.ntmps4
  go_wp2_with fail
  refine (new_any _ zs _ HT.out).mono ?_
  rintro e0 w0 ⟨rfl, ht0, hx0, hs0⟩
  have HT0 := Lib.hid ht0
  have HX0 := Lib.hid hx0
  clear ht0 hx0 hs0
  go_wp2_with fail
  refine (width_any _ _ HT0.out).mono ?_
  rintro e1 w1 ⟨W8, hw8, rfl, ht1, hx1⟩
  have HT1 := Lib.hid ht1
  have HX1 := Lib.hid (HX0.out.trans2 hx1 (fun i hi e => by cases e; exact absurd hi (Nat.lt_irrefl _)))
  clear HX0 HT0 ht1 hx1
  go_wp2_with fail
  have hlt1 := HT1.out.lt
  refine (gtr_any _ W8 _ (by omega) HT1.out).mono ?_
  rintro e2 w2 ⟨t, sg, sk, sc, hw, rfl, hF, ht2, hx2⟩
  subst hw
  obtain ⟨afg, cfg, rfl⟩ := hF.out.gen.slice
  obtain ⟨afk, cfk, rfl⟩ := hF.out.kill.slice
  obtain ⟨afc, cfc, rfl⟩ := Row.slice hF.out.copies
  have HWF := Lib.hid (show t.w = t.w from rfl)
  have hF2 := Lib.hid (hF.out.mono (M' := At w.heap.size) (fun i _ e => by cases e; exact hlt1))
  clear hF
  have HT2 := Lib.hid ht2
  have HX2 := Lib.hid (HX1.out.trans2 hx2 (fun i hi e => by cases e; exact absurd hi (Nat.lt_irrefl _)))
  have hsz2 := hx2.size
  clear HX1 HT1 ht2 hx2
  go_wp2_with fail
  have hlt2 := HT2.out.lt
  refine (gtr_any _ t.w _ (by omega) HT2.out).mono ?_
  rintro e3 w3 ⟨u, sg, sk, sc, hu, rfl, hG, ht3, hx3⟩
  have HWG := Lib.hid hu
  have hug := hG.out.gen.slice
  have huk := hG.out.kill.slice
  rw [hu] at hug huk
  obtain ⟨agg, cgg, rfl⟩ := hug
  obtain ⟨agk, cgk, rfl⟩ := huk
  obtain ⟨agc, cgc, rfl⟩ := Row.slice hG.out.copies
  clear hu
  have hG3 := Lib.hid (hG.out.mono (M' := At w.heap.size) (fun i _ e => by cases e; exact hlt2))
  clear hG
  have hF3 := Lib.hid (hF2.out.ext hx3 (fun i _ e => e))
  have HT3 := Lib.hid ht3
  have HX3 := Lib.hid (HX2.out.trans2 hx3 (fun i hi e => by cases e; exact absurd hi (Nat.lt_irrefl _)))
  have hsz3 := hx3.size
  clear HX2 HT2 ht3 hx3 hF2
  go_wp2_with fail
  have hlt3 := HT3.out.lt
  refine (gtr_any _ t.w _ (by omega) HT3.out).mono ?_
  rintro e4 w4 ⟨v, sg, sk, sc, hu, rfl, hH, ht4, hx4⟩
  have HWH := Lib.hid hu
  have hug := hH.out.gen.slice
  have huk := hH.out.kill.slice
  rw [hu] at hug huk
  obtain ⟨ahg, chg, rfl⟩ := hug
  obtain ⟨ahk, chk, rfl⟩ := huk
  obtain ⟨ahc, chc, rfl⟩ := Row.slice hH.out.copies
  clear hu
  have hH4 := Lib.hid (hH.out.mono (M' := At w.heap.size) (fun i _ e => by cases e; exact hlt3))
  clear hH
  have hF4 := Lib.hid (hF3.out.ext hx4 (fun i _ e => e))
  have hG4 := Lib.hid (hG3.out.ext hx4 (fun i _ e => e))
  have HT4 := Lib.hid ht4
  have HX4 := Lib.hid (HX3.out.trans2 hx4 (fun i hi e => by cases e; exact absurd hi (Nat.lt_irrefl _)))
  have hsz4 := hx4.size
  clear HX3 HT3 ht4 hx4 hF3 hG3
  go_wp2_with fail
  have hx5 : Ext No w4 (((w4.alloc (.cells #[.int .i64 (t.w : Int), .slice afg (nw t.w) cfg, .int .i64 (t.w : Int), .slice afk (nw t.w) cfk, .slice afc t.copies.length cfc] 28)).alloc (.cells #[.int .i64 (t.w : Int), .slice agg (nw t.w) cgg, .int .i64 (t.w : Int), .slice agk (nw t.w) cgk, .slice agc u.copies.length cgc] 28)).alloc (.cells #[.int .i64 (t.w : Int), .slice ahg (nw t.w) chg, .int .i64 (t.w : Int), .slice ahk (nw t.w) chk, .slice ahc v.copies.length chc] 28)) := (((Ext.refl _ _).alloc _).alloc _).alloc _
  have hF := Lib.hid (show TrBoxM No w4.heap.size t.w t.copies.length t afg cfg afk cfk afc cfc (((w4.alloc (.cells #[.int .i64 (t.w : Int), .slice afg (nw t.w) cfg, .int .i64 (t.w : Int), .slice afk (nw t.w) cfk, .slice afc t.copies.length cfc] 28)).alloc (.cells #[.int .i64 (t.w : Int), .slice agg (nw t.w) cgg, .int .i64 (t.w : Int), .slice agk (nw t.w) cgk, .slice agc u.copies.length cgc] 28)).alloc (.cells #[.int .i64 (t.w : Int), .slice ahg (nw t.w) chg, .int .i64 (t.w : Int), .slice ahk (nw t.w) chk, .slice ahc v.copies.length chc] 28)) from ⟨alloc_under (alloc_under (alloc_top rfl)), (hF4.out.early (M' := No) (fun i e => by cases e)).extNo hx5⟩)
  have hG := Lib.hid (show TrBoxM No (w4.heap.size + 1) t.w u.copies.length u agg cgg agk cgk agc cgc (((w4.alloc (.cells #[.int .i64 (t.w : Int), .slice afg (nw t.w) cfg, .int .i64 (t.w : Int), .slice afk (nw t.w) cfk, .slice afc t.copies.length cfc] 28)).alloc (.cells #[.int .i64 (t.w : Int), .slice agg (nw t.w) cgg, .int .i64 (t.w : Int), .slice agk (nw t.w) cgk, .slice agc u.copies.length cgc] 28)).alloc (.cells #[.int .i64 (t.w : Int), .slice ahg (nw t.w) chg, .int .i64 (t.w : Int), .slice ahk (nw t.w) chk, .slice ahc v.copies.length chc] 28)) from ⟨alloc_under (alloc_top (by simp)), (hG4.out.early (M' := No) (fun i e => by cases e)).extNo hx5⟩)
  have hH := Lib.hid (show TrBoxM No (w4.heap.size + 2) t.w v.copies.length v ahg chg ahk chk ahc chc (((w4.alloc (.cells #[.int .i64 (t.w : Int), .slice afg (nw t.w) cfg, .int .i64 (t.w : Int), .slice afk (nw t.w) cfk, .slice afc t.copies.length cfc] 28)).alloc (.cells #[.int .i64 (t.w : Int), .slice agg (nw t.w) cgg, .int .i64 (t.w : Int), .slice agk (nw t.w) cgk, .slice agc u.copies.length cgc] 28)).alloc (.cells #[.int .i64 (t.w : Int), .slice ahg (nw t.w) chg, .int .i64 (t.w : Int), .slice ahk (nw t.w) chk, .slice ahc v.copies.length chc] 28)) from ⟨alloc_top (by simp), (hH4.out.early (M' := No) (fun i e => by cases e)).extNo hx5⟩)
  have HX := Lib.hid (HX4.out.transNo hx5)
  have hTB := Lib.hid (HTB.out.ext HX.out)
  have hFw : w.heap.size ≤ w4.heap.size := HX4.out.size
  clear HX4 HT4 hx5 HT hF4 hG4 hH4 hlt1 hlt2 hlt3 hsz2 hsz3 hsz4
  generalize (((w4.alloc (.cells #[.int .i64 (t.w : Int), .slice afg (nw t.w) cfg, .int .i64 (t.w : Int), .slice afk (nw t.w) cfk, .slice afc t.copies.length cfc] 28)).alloc (.cells #[.int .i64 (t.w : Int), .slice agg (nw t.w) cgg, .int .i64 (t.w : Int), .slice agk (nw t.w) cgk, .slice agc u.copies.length cgc] 28)).alloc (.cells #[.int .i64 (t.w : Int), .slice ahg (nw t.w) chg, .int .i64 (t.w : Int), .slice ahk (nw t.w) chk, .slice ahc v.copies.length chc] 28)) = V at *
  generalize w4.heap.size = F at *
  refine (identity8 t.w _ hw8).mono ?_
  rintro eI u1 ⟨aIg, cIg, aIk, cIk, aIc, nI, cIc, rfl, hI0, hy⟩
  have hz := hy.alloc (.cells #[.int .i64 (t.w : Int), .slice aIg (nw t.w) cIg, .int .i64 (t.w : Int), .slice aIk (nw t.w) cIk, .slice aIc nI cIc] 28)
  have hz1 : Ext No u1 (u1.alloc (.cells #[.int .i64 (t.w : Int), .slice aIg (nw t.w) cIg, .int .i64 (t.w : Int), .slice aIk (nw t.w) cIk, .slice aIc nI cIc] 28)) := (Ext.refl _ _).alloc _
  have kF := Lib.hid (hF.out.ext hz)
  have kG := Lib.hid (hG.out.ext hz)
  have kH := Lib.hid (hH.out.ext hz)
  have kI := Lib.hid (show TrBoxM No u1.heap.size t.w nI (idT t.w) aIg cIg aIk cIk aIc cIc (u1.alloc (.cells #[.int .i64 (t.w : Int), .slice aIg (nw t.w) cIg, .int .i64 (t.w : Int), .slice aIk (nw t.w) cIk, .slice aIc nI cIc] 28)) from ⟨alloc_top rfl, hI0.out.extNo hz1⟩)
  have kE := Lib.hid (HX.out.transNo hz)
  have kT := Lib.hid (hTB.out.ext hz)
  clear hF hG hH hI0 hy hz hz1 HX hTB
  have xF := cellOf kF.out.box
  have xG := cellOf kG.out.box
  go_wp2_with fail
  clear xF xG
  generalize (u1.alloc (.cells #[.int .i64 (t.w : Int), .slice aIg (nw t.w) cIg, .int .i64 (t.w : Int), .slice aIk (nw t.w) cIk, .slice aIc nI cIc] 28)) = V1 at *
  generalize u1.heap.size = DI at *
  have hF := kF
  have hG := kG
  have hH := kH
  have hI := kI
  have HX := kE
  have hTB := kT
  clear kF kG kH kI kE kT
  refine (comp8M No (t) (u) t.w _ _ _ _ _ _ _ rfl HWG.out (fun _ e => e.elim) hw8 hTB.out hF.out.tr hG.out.tr).mono ?_
  rintro eP u2 ⟨aPg, cPg, aPk, cPk, aPc, nP, cPc, rfl, hP0, hy⟩
  have hz := hy.alloc (.cells #[.int .i64 (t.w : Int), .slice aPg (nw t.w) cPg, .int .i64 (t.w : Int), .slice aPk (nw t.w) cPk, .slice aPc nP cPc] 28)
  have hz1 : Ext No u2 (u2.alloc (.cells #[.int .i64 (t.w : Int), .slice aPg (nw t.w) cPg, .int .i64 (t.w : Int), .slice aPk (nw t.w) cPk, .slice aPc nP cPc] 28)) := (Ext.refl _ _).alloc _
  have kF := Lib.hid (hF.out.ext hz)
  have kG := Lib.hid (hG.out.ext hz)
  have kH := Lib.hid (hH.out.ext hz)
  have kI := Lib.hid (hI.out.ext hz)
  have kP := Lib.hid (show TrBoxM No u2.heap.size t.w nP (compT t u) aPg cPg aPk cPk aPc cPc (u2.alloc (.cells #[.int .i64 (t.w : Int), .slice aPg (nw t.w) cPg, .int .i64 (t.w : Int), .slice aPk (nw t.w) cPk, .slice aPc nP cPc] 28)) from ⟨alloc_top rfl, hP0.out.extNo hz1⟩)
  have kE := Lib.hid (HX.out.transNo hz)
  have kT := Lib.hid (hTB.out.ext hz)
  clear hF hG hH hI hP0 hy hz hz1 HX hTB
  have xG := cellOf kG.out.box
  have xH := cellOf kH.out.box
  go_wp2_with fail
  clear xG xH
  generalize (u2.alloc (.cells #[.int .i64 (t.w : Int), .slice aPg (nw t.w) cPg, .int .i64 (t.w : Int), .slice aPk (nw t.w) cPk, .slice aPc nP cPc] 28)) = V2 at *
  generalize u2.heap.size = DP at *
  have hF := kF
  have hG := kG
  have hH := kH
  have hI := kI
  have hP := kP
  have HX := kE
  have hTB := kT
  clear kF kG kH kI kP kE kT
  refine (comp8M No (u) (v) t.w _ _ _ _ _ _ _ HWG.out HWH.out (fun _ e => e.elim) hw8 hTB.out hG.out.tr hH.out.tr).mono ?_
  rintro eQ u3 ⟨aQg, cQg, aQk, cQk, aQc, nQ, cQc, rfl, hQ0, hy⟩
  have hz := hy.alloc (.cells #[.int .i64 (t.w : Int), .slice aQg (nw t.w) cQg, .int .i64 (t.w : Int), .slice aQk (nw t.w) cQk, .slice aQc nQ cQc] 28)
  have hz1 : Ext No u3 (u3.alloc (.cells #[.int .i64 (t.w : Int), .slice aQg (nw t.w) cQg, .int .i64 (t.w : Int), .slice aQk (nw t.w) cQk, .slice aQc nQ cQc] 28)) := (Ext.refl _ _).alloc _
  have kF := Lib.hid (hF.out.ext hz)
  have kG := Lib.hid (hG.out.ext hz)
  have kH := Lib.hid (hH.out.ext hz)
  have kI := Lib.hid (hI.out.ext hz)
  have kP := Lib.hid (hP.out.ext hz)
  have kQ := Lib.hid (show TrBoxM No u3.heap.size t.w nQ (compT u v) aQg cQg aQk cQk aQc cQc (u3.alloc (.cells #[.int .i64 (t.w : Int), .slice aQg (nw t.w) cQg, .int .i64 (t.w : Int), .slice aQk (nw t.w) cQk, .slice aQc nQ cQc] 28)) from ⟨alloc_top rfl, hQ0.out.extNo hz1⟩)
  have kE := Lib.hid (HX.out.transNo hz)
  have kT := Lib.hid (hTB.out.ext hz)
  clear hF hG hH hI hP hQ0 hy hz hz1 HX hTB
  have xP := cellOf kP.out.box
  have xH := cellOf kH.out.box
  go_wp2_with fail
  clear xP xH
  generalize (u3.alloc (.cells #[.int .i64 (t.w : Int), .slice aQg (nw t.w) cQg, .int .i64 (t.w : Int), .slice aQk (nw t.w) cQk, .slice aQc nQ cQc] 28)) = V3 at *
  generalize u3.heap.size = DQ at *
  have hF := kF
  have hG := kG
  have hH := kH
  have hI := kI
  have hP := kP
  have hQ := kQ
  have HX := kE
  have hTB := kT
  clear kF kG kH kI kP kQ kE kT
  refine (comp8M No (compT t u) (v) t.w _ _ _ _ _ _ _ rfl HWH.out (fun _ e => e.elim) hw8 hTB.out hP.out.tr hH.out.tr).mono ?_
  rintro eA u4 ⟨aAg, cAg, aAk, cAk, aAc, nA, cAc, rfl, hA0, hy⟩
  have hz := hy.alloc (.cells #[.int .i64 (t.w : Int), .slice aAg (nw t.w) cAg, .int .i64 (t.w : Int), .slice aAk (nw t.w) cAk, .slice aAc nA cAc] 28)
  have hz1 : Ext No u4 (u4.alloc (.cells #[.int .i64 (t.w : Int), .slice aAg (nw t.w) cAg, .int .i64 (t.w : Int), .slice aAk (nw t.w) cAk, .slice aAc nA cAc] 28)) := (Ext.refl _ _).alloc _
  have kF := Lib.hid (hF.out.ext hz)
  have kG := Lib.hid (hG.out.ext hz)
  have kH := Lib.hid (hH.out.ext hz)
  have kI := Lib.hid (hI.out.ext hz)
  have kP := Lib.hid (hP.out.ext hz)
  have kQ := Lib.hid (hQ.out.ext hz)
  have kA := Lib.hid (show TrBoxM No u4.heap.size t.w nA (compT (compT t u) v) aAg cAg aAk cAk aAc cAc (u4.alloc (.cells #[.int .i64 (t.w : Int), .slice aAg (nw t.w) cAg, .int .i64 (t.w : Int), .slice aAk (nw t.w) cAk, .slice aAc nA cAc] 28)) from ⟨alloc_top rfl, hA0.out.extNo hz1⟩)
  have kE := Lib.hid (HX.out.transNo hz)
  have kT := Lib.hid (hTB.out.ext hz)
  clear hF hG hH hI hP hQ hA0 hy hz hz1 HX hTB
  have xF := cellOf kF.out.box
  have xQ := cellOf kQ.out.box
  go_wp2_with fail
  clear xF xQ
  generalize (u4.alloc (.cells #[.int .i64 (t.w : Int), .slice aAg (nw t.w) cAg, .int .i64 (t.w : Int), .slice aAk (nw t.w) cAk, .slice aAc nA cAc] 28)) = V4 at *
  generalize u4.heap.size = DA at *
  have hF := kF
  have hG := kG
  have hH := kH
  have hI := kI
  have hP := kP
  have hQ := kQ
  have hA := kA
  have HX := kE
  have hTB := kT
  clear kF kG kH kI kP kQ kA kE kT
  refine (comp8M No (t) (compT u v) t.w _ _ _ _ _ _ _ rfl HWG.out (fun _ e => e.elim) hw8 hTB.out hF.out.tr hQ.out.tr).mono ?_
  rintro eB u5 ⟨aBg, cBg, aBk, cBk, aBc, nB, cBc, rfl, hB0, hy⟩
  have hz := hy.alloc (.cells #[.int .i64 (t.w : Int), .slice aBg (nw t.w) cBg, .int .i64 (t.w : Int), .slice aBk (nw t.w) cBk, .slice aBc nB cBc] 28)
  have hz1 : Ext No u5 (u5.alloc (.cells #[.int .i64 (t.w : Int), .slice aBg (nw t.w) cBg, .int .i64 (t.w : Int), .slice aBk (nw t.w) cBk, .slice aBc nB cBc] 28)) := (Ext.refl _ _).alloc _
  have kF := Lib.hid (hF.out.ext hz)
  have kG := Lib.hid (hG.out.ext hz)
  have kH := Lib.hid (hH.out.ext hz)
  have kI := Lib.hid (hI.out.ext hz)
  have kP := Lib.hid (hP.out.ext hz)
  have kQ := Lib.hid (hQ.out.ext hz)
  have kA := Lib.hid (hA.out.ext hz)
  have kB := Lib.hid (show TrBoxM No u5.heap.size t.w nB (compT t (compT u v)) aBg cBg aBk cBk aBc cBc (u5.alloc (.cells #[.int .i64 (t.w : Int), .slice aBg (nw t.w) cBg, .int .i64 (t.w : Int), .slice aBk (nw t.w) cBk, .slice aBc nB cBc] 28)) from ⟨alloc_top rfl, hB0.out.extNo hz1⟩)
  have kE := Lib.hid (HX.out.transNo hz)
  have kT := Lib.hid (hTB.out.ext hz)
  clear hF hG hH hI hP hQ hA hB0 hy hz hz1 HX hTB
  have xF := cellOf kF.out.box
  have xG := cellOf kG.out.box
  go_wp2_with fail
  clear xF xG
  generalize (u5.alloc (.cells #[.int .i64 (t.w : Int), .slice aBg (nw t.w) cBg, .int .i64 (t.w : Int), .slice aBk (nw t.w) cBk, .slice aBc nB cBc] 28)) = V5 at *
  generalize u5.heap.size = DB at *
  have hF := kF
  have hG := kG
  have hH := kH
  have hI := kI
  have hP := kP
  have hQ := kQ
  have hA := kA
  have hB := kB
  have HX := kE
  have hTB := kT
  clear kF kG kH kI kP kQ kA kB kE kT
  refine (join8M No (t) (u) t.w _ _ _ _ _ _ _ rfl HWG.out (fun _ e => e.elim) hw8 hTB.out hF.out.tr hG.out.tr).mono ?_
  rintro eJ u6 ⟨aJg, cJg, aJk, cJk, aJc, nJ, cJc, rfl, hJ0, hy⟩
  have hz := hy.alloc (.cells #[.int .i64 (t.w : Int), .slice aJg (nw t.w) cJg, .int .i64 (t.w : Int), .slice aJk (nw t.w) cJk, .slice aJc nJ cJc] 28)
  have hz1 : Ext No u6 (u6.alloc (.cells #[.int .i64 (t.w : Int), .slice aJg (nw t.w) cJg, .int .i64 (t.w : Int), .slice aJk (nw t.w) cJk, .slice aJc nJ cJc] 28)) := (Ext.refl _ _).alloc _
  have kF := Lib.hid (hF.out.ext hz)
  have kG := Lib.hid (hG.out.ext hz)
  have kH := Lib.hid (hH.out.ext hz)
  have kI := Lib.hid (hI.out.ext hz)
  have kP := Lib.hid (hP.out.ext hz)
  have kQ := Lib.hid (hQ.out.ext hz)
  have kA := Lib.hid (hA.out.ext hz)
  have kB := Lib.hid (hB.out.ext hz)
  have kJ := Lib.hid (show TrBoxM No u6.heap.size t.w nJ (joinT t u) aJg cJg aJk cJk aJc cJc (u6.alloc (.cells #[.int .i64 (t.w : Int), .slice aJg (nw t.w) cJg, .int .i64 (t.w : Int), .slice aJk (nw t.w) cJk, .slice aJc nJ cJc] 28)) from ⟨alloc_top rfl, hJ0.out.extNo hz1⟩)
  have kE := Lib.hid (HX.out.transNo hz)
  have kT := Lib.hid (hTB.out.ext hz)
  clear hF hG hH hI hP hQ hA hB hJ0 hy hz hz1 HX hTB
  have xJ := cellOf kJ.out.box
  have xH := cellOf kH.out.box
  go_wp2_with fail
  clear xJ xH
  generalize (u6.alloc (.cells #[.int .i64 (t.w : Int), .slice aJg (nw t.w) cJg, .int .i64 (t.w : Int), .slice aJk (nw t.w) cJk, .slice aJc nJ cJc] 28)) = V6 at *
  generalize u6.heap.size = DJ at *
  have hF := kF
  have hG := kG
  have hH := kH
  have hI := kI
  have hP := kP
  have hQ := kQ
  have hA := kA
  have hB := kB
  have hJ := kJ
  have HX := kE
  have hTB := kT
  clear kF kG kH kI kP kQ kA kB kJ kE kT
  refine (comp8M No (joinT t u) (v) t.w _ _ _ _ _ _ _ rfl HWH.out (fun _ e => e.elim) hw8 hTB.out hJ.out.tr hH.out.tr).mono ?_
  rintro eC u7 ⟨aCg, cCg, aCk, cCk, aCc, nC, cCc, rfl, hC0, hy⟩
  have hz := hy.alloc (.cells #[.int .i64 (t.w : Int), .slice aCg (nw t.w) cCg, .int .i64 (t.w : Int), .slice aCk (nw t.w) cCk, .slice aCc nC cCc] 28)
  have hz1 : Ext No u7 (u7.alloc (.cells #[.int .i64 (t.w : Int), .slice aCg (nw t.w) cCg, .int .i64 (t.w : Int), .slice aCk (nw t.w) cCk, .slice aCc nC cCc] 28)) := (Ext.refl _ _).alloc _
  have kF := Lib.hid (hF.out.ext hz)
  have kG := Lib.hid (hG.out.ext hz)
  have kH := Lib.hid (hH.out.ext hz)
  have kI := Lib.hid (hI.out.ext hz)
  have kP := Lib.hid (hP.out.ext hz)
  have kQ := Lib.hid (hQ.out.ext hz)
  have kA := Lib.hid (hA.out.ext hz)
  have kB := Lib.hid (hB.out.ext hz)
  have kJ := Lib.hid (hJ.out.ext hz)
  have kC := Lib.hid (show TrBoxM No u7.heap.size t.w nC (compT (joinT t u) v) aCg cCg aCk cCk aCc cCc (u7.alloc (.cells #[.int .i64 (t.w : Int), .slice aCg (nw t.w) cCg, .int .i64 (t.w : Int), .slice aCk (nw t.w) cCk, .slice aCc nC cCc] 28)) from ⟨alloc_top rfl, hC0.out.extNo hz1⟩)
  have kE := Lib.hid (HX.out.transNo hz)
  have kT := Lib.hid (hTB.out.ext hz)
  clear hF hG hH hI hP hQ hA hB hJ hC0 hy hz hz1 HX hTB
  have xF := cellOf kF.out.box
  have xH := cellOf kH.out.box
  go_wp2_with fail
  clear xF xH
  generalize (u7.alloc (.cells #[.int .i64 (t.w : Int), .slice aCg (nw t.w) cCg, .int .i64 (t.w : Int), .slice aCk (nw t.w) cCk, .slice aCc nC cCc] 28)) = V7 at *
  generalize u7.heap.size = DC at *
  have hF := kF
  have hG := kG
  have hH := kH
  have hI := kI
  have hP := kP
  have hQ := kQ
  have hA := kA
  have hB := kB
  have hJ := kJ
  have hC := kC
  have HX := kE
  have hTB := kT
  clear kF kG kH kI kP kQ kA kB kJ kC kE kT
  refine (comp8M No (t) (v) t.w _ _ _ _ _ _ _ rfl HWH.out (fun _ e => e.elim) hw8 hTB.out hF.out.tr hH.out.tr).mono ?_
  rintro eK u8 ⟨aKg, cKg, aKk, cKk, aKc, nK, cKc, rfl, hK0, hy⟩
  have hz := hy.alloc (.cells #[.int .i64 (t.w : Int), .slice aKg (nw t.w) cKg, .int .i64 (t.w : Int), .slice aKk (nw t.w) cKk, .slice aKc nK cKc] 28)
  have hz1 : Ext No u8 (u8.alloc (.cells #[.int .i64 (t.w : Int), .slice aKg (nw t.w) cKg, .int .i64 (t.w : Int), .slice aKk (nw t.w) cKk, .slice aKc nK cKc] 28)) := (Ext.refl _ _).alloc _
  have kF := Lib.hid (hF.out.ext hz)
  have kG := Lib.hid (hG.out.ext hz)
  have kH := Lib.hid (hH.out.ext hz)
  have kI := Lib.hid (hI.out.ext hz)
  have kP := Lib.hid (hP.out.ext hz)
  have kQ := Lib.hid (hQ.out.ext hz)
  have kA := Lib.hid (hA.out.ext hz)
  have kB := Lib.hid (hB.out.ext hz)
  have kJ := Lib.hid (hJ.out.ext hz)
  have kC := Lib.hid (hC.out.ext hz)
  have kK := Lib.hid (show TrBoxM No u8.heap.size t.w nK (compT t v) aKg cKg aKk cKk aKc cKc (u8.alloc (.cells #[.int .i64 (t.w : Int), .slice aKg (nw t.w) cKg, .int .i64 (t.w : Int), .slice aKk (nw t.w) cKk, .slice aKc nK cKc] 28)) from ⟨alloc_top rfl, hK0.out.extNo hz1⟩)
  have kE := Lib.hid (HX.out.transNo hz)
  have kT := Lib.hid (hTB.out.ext hz)
  clear hF hG hH hI hP hQ hA hB hJ hC hK0 hy hz hz1 HX hTB
  have xK := cellOf kK.out.box
  have xQ := cellOf kQ.out.box
  go_wp2_with fail
  clear xK xQ
  generalize (u8.alloc (.cells #[.int .i64 (t.w : Int), .slice aKg (nw t.w) cKg, .int .i64 (t.w : Int), .slice aKk (nw t.w) cKk, .slice aKc nK cKc] 28)) = V8 at *
  generalize u8.heap.size = DK at *
  have hF := kF
  have hG := kG
  have hH := kH
  have hI := kI
  have hP := kP
  have hQ := kQ
  have hA := kA
  have hB := kB
  have hJ := kJ
  have hC := kC
  have hK := kK
  have HX := kE
  have hTB := kT
  clear kF kG kH kI kP kQ kA kB kJ kC kK kE kT
  refine (join8M No (compT t v) (compT u v) t.w _ _ _ _ _ _ _ rfl HWG.out (fun _ e => e.elim) hw8 hTB.out hK.out.tr hQ.out.tr).mono ?_
  rintro eD u9 ⟨aDg, cDg, aDk, cDk, aDc, nD, cDc, rfl, hD0, hy⟩
  have hz := hy.alloc (.cells #[.int .i64 (t.w : Int), .slice aDg (nw t.w) cDg, .int .i64 (t.w : Int), .slice aDk (nw t.w) cDk, .slice aDc nD cDc] 28)
  have hz1 : Ext No u9 (u9.alloc (.cells #[.int .i64 (t.w : Int), .slice aDg (nw t.w) cDg, .int .i64 (t.w : Int), .slice aDk (nw t.w) cDk, .slice aDc nD cDc] 28)) := (Ext.refl _ _).alloc _
  have kF := Lib.hid (hF.out.ext hz)
  have kG := Lib.hid (hG.out.ext hz)
  have kH := Lib.hid (hH.out.ext hz)
  have kI := Lib.hid (hI.out.ext hz)
  have kP := Lib.hid (hP.out.ext hz)
  have kQ := Lib.hid (hQ.out.ext hz)
  have kA := Lib.hid (hA.out.ext hz)
  have kB := Lib.hid (hB.out.ext hz)
  have kJ := Lib.hid (hJ.out.ext hz)
  have kC := Lib.hid (hC.out.ext hz)
  have kK := Lib.hid (hK.out.ext hz)
  have kD := Lib.hid (show TrBoxM No u9.heap.size t.w nD (joinT (compT t v) (compT u v)) aDg cDg aDk cDk aDc cDc (u9.alloc (.cells #[.int .i64 (t.w : Int), .slice aDg (nw t.w) cDg, .int .i64 (t.w : Int), .slice aDk (nw t.w) cDk, .slice aDc nD cDc] 28)) from ⟨alloc_top rfl, hD0.out.extNo hz1⟩)
  have kE := Lib.hid (HX.out.transNo hz)
  have kT := Lib.hid (hTB.out.ext hz)
  clear hF hG hH hI hP hQ hA hB hJ hC hK hD0 hy hz hz1 HX hTB
  have xI := cellOf kI.out.box
  have xF := cellOf kF.out.box
  go_wp2_with fail
  clear xI xF
  generalize (u9.alloc (.cells #[.int .i64 (t.w : Int), .slice aDg (nw t.w) cDg, .int .i64 (t.w : Int), .slice aDk (nw t.w) cDk, .slice aDc nD cDc] 28)) = V9 at *
  generalize u9.heap.size = DD at *
  have hF := kF
  have hG := kG
  have hH := kH
  have hI := kI
  have hP := kP
  have hQ := kQ
  have hA := kA
  have hB := kB
  have hJ := kJ
  have hC := kC
  have hK := kK
  have hD := kD
  have HX := kE
  have hTB := kT
  clear kF kG kH kI kP kQ kA kB kJ kC kK kD kE kT
  refine (comp8M No (idT t.w) (t) t.w _ _ _ _ _ _ _ rfl rfl (fun _ e => e.elim) hw8 hTB.out hI.out.tr hF.out.tr).mono ?_
  rintro eL u10 ⟨aLg, cLg, aLk, cLk, aLc, nL, cLc, rfl, hL0, hy⟩
  have hz := hy.alloc (.cells #[.int .i64 (t.w : Int), .slice aLg (nw t.w) cLg, .int .i64 (t.w : Int), .slice aLk (nw t.w) cLk, .slice aLc nL cLc] 28)
  have hz1 : Ext No u10 (u10.alloc (.cells #[.int .i64 (t.w : Int), .slice aLg (nw t.w) cLg, .int .i64 (t.w : Int), .slice aLk (nw t.w) cLk, .slice aLc nL cLc] 28)) := (Ext.refl _ _).alloc _
  have kF := Lib.hid (hF.out.ext hz)
  have kG := Lib.hid (hG.out.ext hz)
  have kH := Lib.hid (hH.out.ext hz)
  have kI := Lib.hid (hI.out.ext hz)
  have kP := Lib.hid (hP.out.ext hz)
  have kQ := Lib.hid (hQ.out.ext hz)
  have kA := Lib.hid (hA.out.ext hz)
  have kB := Lib.hid (hB.out.ext hz)
  have kJ := Lib.hid (hJ.out.ext hz)
  have kC := Lib.hid (hC.out.ext hz)
  have kK := Lib.hid (hK.out.ext hz)
  have kD := Lib.hid (hD.out.ext hz)
  have kL := Lib.hid (show TrBoxM No u10.heap.size t.w nL (compT (idT t.w) t) aLg cLg aLk cLk aLc cLc (u10.alloc (.cells #[.int .i64 (t.w : Int), .slice aLg (nw t.w) cLg, .int .i64 (t.w : Int), .slice aLk (nw t.w) cLk, .slice aLc nL cLc] 28)) from ⟨alloc_top rfl, hL0.out.extNo hz1⟩)
  have kE := Lib.hid (HX.out.transNo hz)
  have kT := Lib.hid (hTB.out.ext hz)
  clear hF hG hH hI hP hQ hA hB hJ hC hK hD hL0 hy hz hz1 HX hTB
  have xF := cellOf kF.out.box
  have xI := cellOf kI.out.box
  go_wp2_with fail
  clear xF xI
  generalize (u10.alloc (.cells #[.int .i64 (t.w : Int), .slice aLg (nw t.w) cLg, .int .i64 (t.w : Int), .slice aLk (nw t.w) cLk, .slice aLc nL cLc] 28)) = V10 at *
  generalize u10.heap.size = DL at *
  have hF := kF
  have hG := kG
  have hH := kH
  have hI := kI
  have hP := kP
  have hQ := kQ
  have hA := kA
  have hB := kB
  have hJ := kJ
  have hC := kC
  have hK := kK
  have hD := kD
  have hL := kL
  have HX := kE
  have hTB := kT
  clear kF kG kH kI kP kQ kA kB kJ kC kK kD kL kE kT
  refine (comp8M No (t) (idT t.w) t.w _ _ _ _ _ _ _ rfl rfl (fun _ e => e.elim) hw8 hTB.out hF.out.tr hI.out.tr).mono ?_
  rintro eR u11 ⟨aRg, cRg, aRk, cRk, aRc, nR, cRc, rfl, hR0, hy⟩
  have hz := hy.alloc (.cells #[.int .i64 (t.w : Int), .slice aRg (nw t.w) cRg, .int .i64 (t.w : Int), .slice aRk (nw t.w) cRk, .slice aRc nR cRc] 28)
  have hz1 : Ext No u11 (u11.alloc (.cells #[.int .i64 (t.w : Int), .slice aRg (nw t.w) cRg, .int .i64 (t.w : Int), .slice aRk (nw t.w) cRk, .slice aRc nR cRc] 28)) := (Ext.refl _ _).alloc _
  have kF := Lib.hid (hF.out.ext hz)
  have kG := Lib.hid (hG.out.ext hz)
  have kH := Lib.hid (hH.out.ext hz)
  have kI := Lib.hid (hI.out.ext hz)
  have kP := Lib.hid (hP.out.ext hz)
  have kQ := Lib.hid (hQ.out.ext hz)
  have kA := Lib.hid (hA.out.ext hz)
  have kB := Lib.hid (hB.out.ext hz)
  have kJ := Lib.hid (hJ.out.ext hz)
  have kC := Lib.hid (hC.out.ext hz)
  have kK := Lib.hid (hK.out.ext hz)
  have kD := Lib.hid (hD.out.ext hz)
  have kL := Lib.hid (hL.out.ext hz)
  have kR := Lib.hid (show TrBoxM No u11.heap.size t.w nR (compT t (idT t.w)) aRg cRg aRk cRk aRc cRc (u11.alloc (.cells #[.int .i64 (t.w : Int), .slice aRg (nw t.w) cRg, .int .i64 (t.w : Int), .slice aRk (nw t.w) cRk, .slice aRc nR cRc] 28)) from ⟨alloc_top rfl, hR0.out.extNo hz1⟩)
  have kE := Lib.hid (HX.out.transNo hz)
  have kT := Lib.hid (hTB.out.ext hz)
  clear hF hG hH hI hP hQ hA hB hJ hC hK hD hL hR0 hy hz hz1 HX hTB
  have xF := cellOf kF.out.box
  go_wp2_with fail
  clear xF
  generalize (u11.alloc (.cells #[.int .i64 (t.w : Int), .slice aRg (nw t.w) cRg, .int .i64 (t.w : Int), .slice aRk (nw t.w) cRk, .slice aRc nR cRc] 28)) = V11 at *
  generalize u11.heap.size = DR at *
  have hF := kF
  have hG := kG
  have hH := kH
  have hI := kI
  have hP := kP
  have hQ := kQ
  have hA := kA
  have hB := kB
  have hJ := kJ
  have hC := kC
  have hK := kK
  have hD := kD
  have hL := kL
  have hR := kR
  have HX := kE
  have hTB := kT
  clear kF kG kH kI kP kQ kA kB kJ kC kK kD kL kR kE kT
  refine (canon8M No t t.w _ _ _ _ rfl (fun _ e => e.elim) hw8 hTB.out hF.out.tr).mono ?_
  rintro eN u12 ⟨aNg, cNg, aNk, cNk, aNc, nN, cNc, rfl, hN0, hy⟩
  have hz := hy.alloc (.cells #[.int .i64 (t.w : Int), .slice aNg (nw t.w) cNg, .int .i64 (t.w : Int), .slice aNk (nw t.w) cNk, .slice aNc nN cNc] 28)
  have hz1 : Ext No u12 (u12.alloc (.cells #[.int .i64 (t.w : Int), .slice aNg (nw t.w) cNg, .int .i64 (t.w : Int), .slice aNk (nw t.w) cNk, .slice aNc nN cNc] 28)) := (Ext.refl _ _).alloc _
  have kF := Lib.hid (hF.out.ext hz)
  have kG := Lib.hid (hG.out.ext hz)
  have kH := Lib.hid (hH.out.ext hz)
  have kI := Lib.hid (hI.out.ext hz)
  have kP := Lib.hid (hP.out.ext hz)
  have kQ := Lib.hid (hQ.out.ext hz)
  have kA := Lib.hid (hA.out.ext hz)
  have kB := Lib.hid (hB.out.ext hz)
  have kJ := Lib.hid (hJ.out.ext hz)
  have kC := Lib.hid (hC.out.ext hz)
  have kK := Lib.hid (hK.out.ext hz)
  have kD := Lib.hid (hD.out.ext hz)
  have kL := Lib.hid (hL.out.ext hz)
  have kR := Lib.hid (hR.out.ext hz)
  have kN := Lib.hid (show TrBoxM No u12.heap.size t.w nN (canonT t) aNg cNg aNk cNk aNc cNc (u12.alloc (.cells #[.int .i64 (t.w : Int), .slice aNg (nw t.w) cNg, .int .i64 (t.w : Int), .slice aNk (nw t.w) cNk, .slice aNc nN cNc] 28)) from ⟨alloc_top rfl, hN0.out.extNo hz1⟩)
  have kE := Lib.hid (HX.out.transNo hz)
  have kT := Lib.hid (hTB.out.ext hz)
  clear hF hG hH hI hP hQ hA hB hJ hC hK hD hL hR hN0 hy hz hz1 HX hTB
  go_wp2_with fail
  generalize (u12.alloc (.cells #[.int .i64 (t.w : Int), .slice aNg (nw t.w) cNg, .int .i64 (t.w : Int), .slice aNk (nw t.w) cNk, .slice aNc nN cNc] 28)) = V12 at *
  generalize u12.heap.size = DN at *
  have hF := kF
  have hG := kG
  have hH := kH
  have hI := kI
  have hP := kP
  have hQ := kQ
  have hA := kA
  have hB := kB
  have hJ := kJ
  have hC := kC
  have hK := kK
  have hD := kD
  have hL := kL
  have hR := kR
  have hN := kN
  have HX := kE
  have hTB := kT
  clear kF kG kH kI kP kQ kA kB kJ kC kK kD kL kR kN kE kT
  have hzn : rangedB (-1 - (t.w : Int)) = false := decide_eq_false (fun h => by omega)
  have hwr : wrap64 (-1 - (t.w : Int)) = -1 - (t.w : Int) := by unfold wrap64; omega
  go_wp2_with fail
  refine (identity_no _ _ hzn).mono ?_
  rintro eZ uZ ⟨rfl, hy⟩
  have hz := hy.alloc (.cells #[.int .i64 0, .slice none 0 0, .int .i64 0, .slice none 0 0, .slice none 0 0] 28)
  have kF := Lib.hid (hF.out.ext hz)
  have kG := Lib.hid (hG.out.ext hz)
  have kH := Lib.hid (hH.out.ext hz)
  have kI := Lib.hid (hI.out.ext hz)
  have kP := Lib.hid (hP.out.ext hz)
  have kQ := Lib.hid (hQ.out.ext hz)
  have kA := Lib.hid (hA.out.ext hz)
  have kB := Lib.hid (hB.out.ext hz)
  have kJ := Lib.hid (hJ.out.ext hz)
  have kC := Lib.hid (hC.out.ext hz)
  have kK := Lib.hid (hK.out.ext hz)
  have kD := Lib.hid (hD.out.ext hz)
  have kL := Lib.hid (hL.out.ext hz)
  have kR := Lib.hid (hR.out.ext hz)
  have kN := Lib.hid (hN.out.ext hz)
  have kE := Lib.hid (HX.out.transNo hz)
  have kT := Lib.hid (hTB.out.ext hz)
  clear hF hG hH hI hP hQ hA hB hJ hC hK hD hL hR hN HX hTB
  have hF := kF
  have hG := kG
  have hH := kH
  have hI := kI
  have hP := kP
  have hQ := kQ
  have hA := kA
  have hB := kB
  have hJ := kJ
  have hC := kC
  have hK := kK
  have hD := kD
  have hL := kL
  have hR := kR
  have hN := kN
  have HX := kE
  have hTB := kT
  clear kF kG kH kI kP kQ kA kB kJ kC kK kD kL kR kN kE kT
  clear hy hz
  have ho := fun (x : Prop) (h : x) => h
  have hot := hF.out.tr.ok
  have hou := hG.out.tr.ok
  have hov := hH.out.tr.ok
  have hoP : TrOk (compT t u) := hP.out.tr.ok
  have hoQ : TrOk (compT u v) := hQ.out.tr.ok
  have hoA : TrOk (compT (compT t u) v) := hA.out.tr.ok
  have hoB : TrOk (compT t (compT u v)) := hB.out.tr.ok
  have hoJ : TrOk (joinT t u) := hJ.out.tr.ok
  have hoC : TrOk (compT (joinT t u) v) := hC.out.tr.ok
  have hoK : TrOk (compT t v) := hK.out.tr.ok
  have hoD : TrOk (joinT (compT t v) (compT u v)) := hD.out.tr.ok
  have hoL : TrOk (compT (idT t.w) t) := hL.out.tr.ok
  have hoR : TrOk (compT t (idT t.w)) := hR.out.tr.ok
  have hoN : TrOk (canonT t) := hN.out.tr.ok
  have E1 := Lib.hid (comp_assoc hot hou hov HWG.out HWH.out hoP hoQ hoA hoB).symm
  have E2 := Lib.hid (comp_join hot hou hov HWG.out HWH.out hoJ hoK hoQ hoC hoD).symm
  have E3 := Lib.hid (comp_idL hot hoL hoN).symm
  have E4 := Lib.hid (comp_idR hot hoR hoN).symm
  clear ho hot hou hov hoP hoQ hoA hoB hoJ hoC hoK hoD hoL hoR hoN
  have xA := cellOf hA.out.box
  have xB := cellOf hB.out.box
  have xC := cellOf hC.out.box
  have xD := cellOf hD.out.box
  have xL := cellOf hL.out.box
  have xR := cellOf hR.out.box
  have xN := cellOf hN.out.box
  go_wp2_with fail
  clear xA xB xC xD xL xR xN
  refine (requals_true (compT (compT t u) v) (compT t (compT u v)) t.w _ _ _ _ _ _ _ rfl rfl E1.out hA.out.tr hB.out.tr).mono ?_
  rintro eq1 wq1 ⟨rfl, hy⟩
  have kF := Lib.hid (hF.out.ext hy)
  have kG := Lib.hid (hG.out.ext hy)
  have kH := Lib.hid (hH.out.ext hy)
  have kI := Lib.hid (hI.out.ext hy)
  have kP := Lib.hid (hP.out.ext hy)
  have kQ := Lib.hid (hQ.out.ext hy)
  have kA := Lib.hid (hA.out.ext hy)
  have kB := Lib.hid (hB.out.ext hy)
  have kJ := Lib.hid (hJ.out.ext hy)
  have kC := Lib.hid (hC.out.ext hy)
  have kK := Lib.hid (hK.out.ext hy)
  have kD := Lib.hid (hD.out.ext hy)
  have kL := Lib.hid (hL.out.ext hy)
  have kR := Lib.hid (hR.out.ext hy)
  have kN := Lib.hid (hN.out.ext hy)
  have kE := Lib.hid (HX.out.transNo hy)
  have kT := Lib.hid (hTB.out.ext hy)
  clear hF hG hH hI hP hQ hA hB hJ hC hK hD hL hR hN HX hTB
  have hF := kF
  have hG := kG
  have hH := kH
  have hI := kI
  have hP := kP
  have hQ := kQ
  have hA := kA
  have hB := kB
  have hJ := kJ
  have hC := kC
  have hK := kK
  have hD := kD
  have hL := kL
  have hR := kR
  have hN := kN
  have HX := kE
  have hTB := kT
  clear kF kG kH kI kP kQ kA kB kJ kC kK kD kL kR kN kE kT
  clear hy
  have xC := cellOf hC.out.box
  have xD := cellOf hD.out.box
  have xL := cellOf hL.out.box
  have xN := cellOf hN.out.box
  have xR := cellOf hR.out.box
  go_wp2_with fail
  clear xC xD xL xN xR
  refine (requals_true (compT (joinT t u) v) (joinT (compT t v) (compT u v)) t.w _ _ _ _ _ _ _ rfl rfl E2.out hC.out.tr hD.out.tr).mono ?_
  rintro eq2 wq2 ⟨rfl, hy⟩
  have kF := Lib.hid (hF.out.ext hy)
  have kG := Lib.hid (hG.out.ext hy)
  have kH := Lib.hid (hH.out.ext hy)
  have kI := Lib.hid (hI.out.ext hy)
  have kP := Lib.hid (hP.out.ext hy)
  have kQ := Lib.hid (hQ.out.ext hy)
  have kA := Lib.hid (hA.out.ext hy)
  have kB := Lib.hid (hB.out.ext hy)
  have kJ := Lib.hid (hJ.out.ext hy)
  have kC := Lib.hid (hC.out.ext hy)
  have kK := Lib.hid (hK.out.ext hy)
  have kD := Lib.hid (hD.out.ext hy)
  have kL := Lib.hid (hL.out.ext hy)
  have kR := Lib.hid (hR.out.ext hy)
  have kN := Lib.hid (hN.out.ext hy)
  have kE := Lib.hid (HX.out.transNo hy)
  have kT := Lib.hid (hTB.out.ext hy)
  clear hF hG hH hI hP hQ hA hB hJ hC hK hD hL hR hN HX hTB
  have hF := kF
  have hG := kG
  have hH := kH
  have hI := kI
  have hP := kP
  have hQ := kQ
  have hA := kA
  have hB := kB
  have hJ := kJ
  have hC := kC
  have hK := kK
  have hD := kD
  have hL := kL
  have hR := kR
  have hN := kN
  have HX := kE
  have hTB := kT
  clear kF kG kH kI kP kQ kA kB kJ kC kK kD kL kR kN kE kT
  clear hy
  have xL := cellOf hL.out.box
  have xN := cellOf hN.out.box
  have xR := cellOf hR.out.box
  go_wp2_with fail
  clear xL xN xR
  refine (requals_true (compT (idT t.w) t) (canonT t) t.w _ _ _ _ _ _ _ rfl rfl E3.out hL.out.tr hN.out.tr).mono ?_
  rintro eq3 wq3 ⟨rfl, hy⟩
  have kF := Lib.hid (hF.out.ext hy)
  have kG := Lib.hid (hG.out.ext hy)
  have kH := Lib.hid (hH.out.ext hy)
  have kI := Lib.hid (hI.out.ext hy)
  have kP := Lib.hid (hP.out.ext hy)
  have kQ := Lib.hid (hQ.out.ext hy)
  have kA := Lib.hid (hA.out.ext hy)
  have kB := Lib.hid (hB.out.ext hy)
  have kJ := Lib.hid (hJ.out.ext hy)
  have kC := Lib.hid (hC.out.ext hy)
  have kK := Lib.hid (hK.out.ext hy)
  have kD := Lib.hid (hD.out.ext hy)
  have kL := Lib.hid (hL.out.ext hy)
  have kR := Lib.hid (hR.out.ext hy)
  have kN := Lib.hid (hN.out.ext hy)
  have kE := Lib.hid (HX.out.transNo hy)
  have kT := Lib.hid (hTB.out.ext hy)
  clear hF hG hH hI hP hQ hA hB hJ hC hK hD hL hR hN HX hTB
  have hF := kF
  have hG := kG
  have hH := kH
  have hI := kI
  have hP := kP
  have hQ := kQ
  have hA := kA
  have hB := kB
  have hJ := kJ
  have hC := kC
  have hK := kK
  have hD := kD
  have hL := kL
  have hR := kR
  have hN := kN
  have HX := kE
  have hTB := kT
  clear kF kG kH kI kP kQ kA kB kJ kC kK kD kL kR kN kE kT
  clear hy
  have xR := cellOf hR.out.box
  have xN := cellOf hN.out.box
  go_wp2_with fail
  clear xR xN
  refine (requals_true (compT t (idT t.w)) (canonT t) t.w _ _ _ _ _ _ _ rfl rfl E4.out hR.out.tr hN.out.tr).mono ?_
  rintro eq4 wq4 ⟨rfl, hy⟩
  have kF := Lib.hid (hF.out.ext hy)
  have kG := Lib.hid (hG.out.ext hy)
  have kH := Lib.hid (hH.out.ext hy)
  have kI := Lib.hid (hI.out.ext hy)
  have kP := Lib.hid (hP.out.ext hy)
  have kQ := Lib.hid (hQ.out.ext hy)
  have kA := Lib.hid (hA.out.ext hy)
  have kB := Lib.hid (hB.out.ext hy)
  have kJ := Lib.hid (hJ.out.ext hy)
  have kC := Lib.hid (hC.out.ext hy)
  have kK := Lib.hid (hK.out.ext hy)
  have kD := Lib.hid (hD.out.ext hy)
  have kL := Lib.hid (hL.out.ext hy)
  have kR := Lib.hid (hR.out.ext hy)
  have kN := Lib.hid (hN.out.ext hy)
  have kE := Lib.hid (HX.out.transNo hy)
  have kT := Lib.hid (hTB.out.ext hy)
  clear hF hG hH hI hP hQ hA hB hJ hC hK hD hL hR hN HX hTB
  have hF := kF
  have hG := kG
  have hH := kH
  have hI := kI
  have hP := kP
  have hQ := kQ
  have hA := kA
  have hB := kB
  have hJ := kJ
  have hC := kC
  have hK := kK
  have hD := kD
  have hL := kL
  have hR := kR
  have hN := kN
  have HX := kE
  have hTB := kT
  clear kF kG kH kI kP kQ kA kB kJ kC kK kD kL kR kN kE kT
  clear hy
  go_wp2_with fail
  refine (sane_any _).mono ?_
  rintro eS wS ⟨rfl, hy⟩
  have kE := HX.out.transNo hy
  go_wp2_with fail
  go_ret
  exact ⟨rfl, kE⟩
end Go.Proofs.YtgakojgkkdmabaaDoor

/- The walk of TransferExamples. -/
import Derived.Test.YtgakojgkkdmabaaDoorTr46
set_option linter.unusedVariables false
set_option linter.unusedSimpArgs false
namespace Go.Proofs.YtgakojgkkdmabaaDoor
open Go Go.RowKit

def ROwn3 (m : Nat) (W : World) (e : Ending) (w' : World) : Prop :=
  ∃ g, e = .returned (.agg #[.int .i64 3, .slice (some ⟨g, 0, none⟩) (nw 3) (nw 3)]) ∧ Hid (BlkW w' g 3 m) ∧ W.heap.size ≤ g ∧ Ext No W w'
theorem rempty3 (W : World) : Calls Tryd.prog 29 #[.int .i64 3] W (ROwn3 0 W) := rempty_any 3 W (by decide)
theorem rput30 (sl : Value) (W : World) (h : SetAt No W sl 3 0) : Calls Tryd.prog 36 #[.agg #[.int .i64 3, sl], .int .i64 0] W (ROwn3 1 W) := rput_any 3 0 0 sl W (by decide) h
def Tr3 (t : TrD) (W : World) (e : Ending) (w' : World) : Prop :=
  ∃ ag cg ak ck ac n cc, e = .returned (.tuple #[.agg #[.int .i64 3, .slice ag (nw 3) cg, .int .i64 3, .slice ak (nw 3) ck, .slice ac n cc], .int .i64 0]) ∧
    Hid (TrAt No w' (.slice ag (nw 3) cg) (.slice ak (nw 3) ck) (.slice ac n cc) t) ∧ Ext No W w'
theorem comp3 (t u t' : TrD) (g1 k1 c1 g2 k2 c2 : Value) (W : World) (e : compT t u = t') (hw : t.w = 3) (hu : u.w = 3) (hT : TabW W) (h1 : TrAt No W g1 k1 c1 t) (h2 : TrAt No W g2 k2 c2 u) :
    Calls Tryd.prog 23 #[.agg #[.int .i64 3, g1, .int .i64 3, k1, c1], .agg #[.int .i64 3, g2, .int .i64 3, k2, c2]] W (Tr3 t' W) := by
  subst e
  exact comp8M No t u 3 _ _ _ _ _ _ W hw hu (fun _ e => e.elim) (by decide) hT h1 h2
theorem star3 (t t' : TrD) (g1 k1 c1 : Value) (W : World) (e : starT t = t') (hw : t.w = 3) (hT : TabW W) (h1 : TrAt No W g1 k1 c1 t) :
    Calls Tryd.prog 27 #[.agg #[.int .i64 3, g1, .int .i64 3, k1, c1]] W (Tr3 t' W) := by
  subst e
  exact star8M No t 3 _ _ _ W hw (fun _ e => e.elim) (by decide) hT h1
theorem requals3 (t : TrD) (g1 k1 c1 g2 k2 c2 : Value) (W : World) (hw : t.w = 3) (h1 : TrAt No W g1 k1 c1 t) (h2 : TrAt No W g2 k2 c2 t) :
    Calls Tryd.prog 26 #[.agg #[.int .i64 3, g1, .int .i64 3, k1, c1], .agg #[.int .i64 3, g2, .int .i64 3, k2, c2]] W (BoolPost true W) :=
  requals_true t t 3 _ _ _ _ _ _ W hw hw rfl h1 h2
theorem trOk_small (w g k : Nat) (hw : w ≤ 256) (hg : g < 2 ^ w) (hk : k < 2 ^ w) : TrOk ⟨w, g, k, []⟩ := ⟨hw, hg, hk, by simp, fun i h => by simp at h, fun i h => by simp at h⟩
theorem tr_nil {W : World} {g1 g2 m1 m2 : Nat} (b1 : BlkW W g1 3 m1) (b2 : BlkW W g2 3 m2) (h1 : m1 < 2 ^ 3) (h2 : m2 < 2 ^ 3) : TrAt No W (.slice (some ⟨g1, 0, none⟩) (nw 3) (nw 3)) (.slice (some ⟨g2, 0, none⟩) (nw 3) (nw 3)) (.slice none 0 0) ⟨3, m1, m2, []⟩ :=
  ⟨b1.setNo (by decide) h1, b2.setNo (by decide) h2, Row.nil _ _ _ _ _ (by omega), trOk_small 3 m1 m2 (by decide) h1 h2⟩
theorem blk_under {w : World} {g n m : Nat} {o : Obj} (h : BlkW w g n m) : BlkW (w.alloc o) g n m := alloc_under h
theorem box_early {V w5 : World} {D g m : Nat} {x y : Value} (hx : Ext No V w5) (hD : V.heap.size ≤ D) (hi : w5.heap[D]? = some (.cells #[.int .i64 0, .slice none 0 0, .int .i64 0, .slice none 0 0, .slice none 0 0] 28 (0, 0))) (hb : BlkW w5 g 3 m) (hne : D < g) :
    BlkW (((((w5.setCell ⟨D, 0, none⟩ (.int .i64 3)).setCell ⟨D, 1, none⟩ x).setCell ⟨D, 2, none⟩ (.int .i64 3)).setCell ⟨D, 3, none⟩ y).setCell ⟨D, 4, none⟩ (.slice none 0 0)) g 3 m ∧
    (((((w5.setCell ⟨D, 0, none⟩ (.int .i64 3)).setCell ⟨D, 1, none⟩ x).setCell ⟨D, 2, none⟩ (.int .i64 3)).setCell ⟨D, 3, none⟩ y).setCell ⟨D, 4, none⟩ (.slice none 0 0)).heap[D]? = some (.cells #[.int .i64 3, x, .int .i64 3, y, .slice none 0 0] 28 (0, 0)) ∧
    Ext No V (((((w5.setCell ⟨D, 0, none⟩ (.int .i64 3)).setCell ⟨D, 1, none⟩ x).setCell ⟨D, 2, none⟩ (.int .i64 3)).setCell ⟨D, 3, none⟩ y).setCell ⟨D, 4, none⟩ (.slice none 0 0)) := by
  have hE := set5 w5 D (.int .i64 3) x (.int .i64 3) y (.slice none 0 0)
  exact ⟨hE.blk hb (by unfold At; omega), BoxR.fin5 ⟨_, rfl, hi⟩ _ _ _ _ _, hx.trans2 hE (fun i hi e => by unfold At at e; omega)⟩
def exS : TrD := ⟨3, 0, 0, [(0, 1), (1, 2)]⟩
def exW : TrD := ⟨3, 0, 0, [(0, 1), (0, 2), (1, 2)]⟩
theorem exS_ok : TrOk exS := ⟨by decide, by decide, by decide, by decide, by decide, fun i h => by
  have h2 : i + 1 < 2 := h
  obtain rfl : i = 0 := by omega
  show compareZ (0, 1) (1, 2) < 0
  decide⟩
theorem exW_ok : TrOk exW := ⟨by decide, by decide, by decide, by decide, by decide, fun i h => by
  have h2 : i + 1 < 3 := h
  have h3 : i = 0 ∨ i = 1 := by omega
  rcases h3 with rfl | rfl
  · show compareZ (0, 1) (0, 2) < 0
    decide
  · show compareZ (0, 2) (1, 2) < 0
    decide⟩
theorem ex2 : compT ⟨3, 0, 1, []⟩ ⟨3, 1, 0, []⟩ = ⟨3, 1, 1, []⟩ := by kernel_rfl
theorem ex3 : starT exS = exW := by kernel_rfl

set_option maxRecDepth 100000 in
set_option maxHeartbeats 8000000 in
theorem transferExamples_any (w : World) (hT : TabW w) : Calls Tryd.prog 8 #[] w fun e w' => e = .returned (.bool true) ∧ Ext No w w' := by
  have HT := Lib.hid hT
  clear hT
  go_enter Tryd.func8, Tryd.ntmps8
  go_wp2_with fail
  refine (rempty3 _).mono ?_
  rintro e1 w1 ⟨g1, rfl, hb1, _, hx1⟩
  go_wp2_with fail
  refine (rput30 _ _ (BlkW.setNo hb1.out (by decide) (by decide))).mono ?_
  rintro e2 w2 ⟨gz, rfl, hb2, _, hx2⟩
  have hz : Ext No w2 (w2.alloc (.cells #[.int .i64 3, .slice (some ⟨gz, 0, none⟩) (nw 3) (nw 3)] 25)) := (Ext.refl _ _).alloc _
  have hZ := Lib.hid (alloc_top (w := w2) (o := .cells #[.int .i64 3, .slice (some ⟨gz, 0, none⟩) (nw 3) (nw 3)] 25) rfl)
  have hB := Lib.hid (show BlkW _ gz 3 1 from hz.blk hb2.out no_no)
  have HX := Lib.hid ((hx1.transNo hx2).transNo hz)
  clear hb1 hb2 hx1 hx2 hz
  go_wp2_with fail
  generalize (w2.alloc (.cells #[.int .i64 3, .slice (some ⟨gz, 0, none⟩) (nw 3) (nw 3)] 25)) = V1 at *
  generalize w2.heap.size = DZ at *
  go_cut [2] (fun s2 wx => ∃ D G, s2 = .pointer (some ⟨D, 0, none⟩) ∧ Hid (BlkW wx G 3 0) ∧ Hid (wx.heap[D]? = some (.cells #[.int .i64 3, .slice (some ⟨G, 0, none⟩) (nw 3) (nw 3), .int .i64 3, .slice (some ⟨gz, 0, none⟩) (nw 3) (nw 3), .slice none 0 0] 28 (0, 0))) ∧ Hid (Ext No V1 wx))
  case first =>
    have cZ := cellOf hZ.out
    have m0 : V1.cell? ⟨DZ, 0, none⟩ = some (.int .i64 3) := cZ 0
    have m1 : V1.cell? ⟨DZ, 1, none⟩ = some (.slice (some ⟨gz, 0, none⟩) (nw 3) (nw 3)) := cZ 1
    have l0 : Ext No V1 V1 := Ext.refl _ _
    have hlZ : DZ < V1.heap.size := lt_of_block hZ.out
    clear cZ
    go_region_held3 (fun w' => w'.cell? ⟨DZ, 0, none⟩ = some (.int .i64 3) ∧ w'.cell? ⟨DZ, 1, none⟩ = some (.slice (some ⟨gz, 0, none⟩) (nw 3) (nw 3)) ∧ Ext No V1 w')
      ((go_split_ands; refine ⟨?_, ?_, ?_⟩ <;> (repeat (first | (with_reducible assumption) | (with_reducible exact Ext.refl _ _) | (with_reducible refine keepD ?_) | (with_reducible refine keepA ?_) | (with_reducible refine Ext.drew ?_) | (with_reducible refine Ext.alloc ?_ _) | (with_reducible refine BoxR.drew ?_) | (with_reducible refine BoxR.alloc ?_ _) | (with_reducible refine BoxR.set ?_ _ _) | ((with_reducible refine keepS ?_ ?_); (first | (with_reducible assumption) | omega | (simp; omega) | (exact Nat.le_refl _))) | (with_reducible refine Ext.setAt ?_ _ _) | ((with_reducible refine Ext.own ?_ ?_ _); rotate_left; (first | (with_reducible assumption) | omega | (simp; omega) | (exact Nat.le_refl _))) | (with_reducible refine keepN hyA ?_) | (with_reducible refine Ext.transNo ?_ hyA) | (with_reducible refine BoxR.ext ?_ hyA)))))
      (first
        | ((go_at_call 29); (try go_split_ands); (with_reducible refine (rempty3 _).mono ?_); (rintro e5 w5 ⟨g5, rfl, hb5, hg5, hyA⟩); (have hyC := hyA); (have hx5 := Ext.transNo (show Ext No V1 _ from by with_reducible assumption) hyA); (first | (with_reducible have hi := two_facts2 hyC (alloc_top (o := (.cells #[.int .i64 0, .slice none 0 0, .int .i64 0, .slice none 0 0, .slice none 0 0] 28)) rfl)) | skip); (try ((obtain ⟨hi, hlt⟩ := hi); (have HI := Lib.hid hi); (have HL := Lib.hid hlt); (have cI := cellOf hi); (have fI := freeOf hi); (clear hi hlt)))))
    all_goals
      go_wp2_with fail
      go_meet
      first
      | (with_reducible exact ⟨_, g5, rfl, Lib.hid (blk_under hb5.out), Lib.hid (alloc_top rfl), Lib.hid (hx5.alloc _)⟩)
      | exact (have hq := box_early hx5 (Nat.le_refl _) HI.out hb5.out (Nat.lt_of_lt_of_le HL.out hg5); ⟨_, g5, rfl, Lib.hid hq.1, Lib.hid hq.2.1, Lib.hid hq.2.2⟩)
  case rest =>
  obtain ⟨D2, gn2, rfl, hb2, hD2, hy⟩ := hcut
  rename World => V1n
  have kZ := Lib.hid (hy.out.blk hZ.out no_no)
  have kB := Lib.hid (show BlkW _ gz 3 1 from hy.out.blk hB.out no_no)
  have kX := Lib.hid (HX.out.transNo hy.out)
  clear hZ hB HX hy
  have hZ := kZ
  have hB := kB
  have HX := kX
  clear kZ kB kX
  go_wp2_with fail
  go_cut [3] (fun s2 wx => ∃ D G, s2 = .pointer (some ⟨D, 0, none⟩) ∧ Hid (BlkW wx G 3 0) ∧ Hid (wx.heap[D]? = some (.cells #[.int .i64 3, .slice (some ⟨gz, 0, none⟩) (nw 3) (nw 3), .int .i64 3, .slice (some ⟨G, 0, none⟩) (nw 3) (nw 3), .slice none 0 0] 28 (0, 0))) ∧ Hid (Ext No V1n wx))
  case first =>
    have cZ := cellOf hZ.out
    have m0 : V1n.cell? ⟨DZ, 0, none⟩ = some (.int .i64 3) := cZ 0
    have m1 : V1n.cell? ⟨DZ, 1, none⟩ = some (.slice (some ⟨gz, 0, none⟩) (nw 3) (nw 3)) := cZ 1
    have l0 : Ext No V1n V1n := Ext.refl _ _
    have hlZ : DZ < V1n.heap.size := lt_of_block hZ.out
    clear cZ
    go_region_held3 (fun w' => w'.cell? ⟨DZ, 0, none⟩ = some (.int .i64 3) ∧ w'.cell? ⟨DZ, 1, none⟩ = some (.slice (some ⟨gz, 0, none⟩) (nw 3) (nw 3)) ∧ Ext No V1n w')
      ((go_split_ands; refine ⟨?_, ?_, ?_⟩ <;> (repeat (first | (with_reducible assumption) | (with_reducible exact Ext.refl _ _) | (with_reducible refine keepD ?_) | (with_reducible refine keepA ?_) | (with_reducible refine Ext.drew ?_) | (with_reducible refine Ext.alloc ?_ _) | (with_reducible refine BoxR.drew ?_) | (with_reducible refine BoxR.alloc ?_ _) | (with_reducible refine BoxR.set ?_ _ _) | ((with_reducible refine keepS ?_ ?_); (first | (with_reducible assumption) | omega | (simp; omega) | (exact Nat.le_refl _))) | (with_reducible refine Ext.setAt ?_ _ _) | ((with_reducible refine Ext.own ?_ ?_ _); rotate_left; (first | (with_reducible assumption) | omega | (simp; omega) | (exact Nat.le_refl _))) | (with_reducible refine keepN hyA ?_) | (with_reducible refine Ext.transNo ?_ hyA) | (with_reducible refine BoxR.ext ?_ hyA)))))
      (first
        | ((go_at_call 29); (try go_split_ands); (with_reducible refine (rempty3 _).mono ?_); (rintro e5 w5 ⟨g5, rfl, hb5, hg5, hyA⟩); (have hyC := hyA); (have hx5 := Ext.transNo (show Ext No V1n _ from by with_reducible assumption) hyA); (first | (with_reducible have hi := two_facts2 hyC (alloc_top (o := (.cells #[.int .i64 0, .slice none 0 0, .int .i64 0, .slice none 0 0, .slice none 0 0] 28)) rfl)) | skip); (try ((obtain ⟨hi, hlt⟩ := hi); (have HI := Lib.hid hi); (have HL := Lib.hid hlt); (have cI := cellOf hi); (have fI := freeOf hi); (clear hi hlt)))))
    all_goals
      go_wp2_with fail
      go_meet
      first
      | (with_reducible exact ⟨_, g5, rfl, Lib.hid (blk_under hb5.out), Lib.hid (alloc_top rfl), Lib.hid (hx5.alloc _)⟩)
      | exact (have hq := box_early hx5 (Nat.le_refl _) HI.out hb5.out (Nat.lt_of_lt_of_le HL.out hg5); ⟨_, g5, rfl, Lib.hid hq.1, Lib.hid hq.2.1, Lib.hid hq.2.2⟩)
  case rest =>
  obtain ⟨D3, gn3, rfl, hb3, hD3, hy⟩ := hcut
  rename World => V1nn
  have kZ := Lib.hid (hy.out.blk hZ.out no_no)
  have kB := Lib.hid (show BlkW _ gz 3 1 from hy.out.blk hB.out no_no)
  have kX := Lib.hid (HX.out.transNo hy.out)
  have k2 := Lib.hid (show BlkW _ gn2 3 0 from hy.out.blk hb2.out no_no)
  have k3 := Lib.hid (hy.out.blk hD2.out no_no)
  clear hb2 hD2
  have hb2 := k2
  have hD2 := k3
  clear k2 k3
  clear hZ hB HX hy
  have hZ := kZ
  have hB := kB
  have HX := kX
  clear kZ kB kX
  have c2 := cellOf hD2.out
  have c3 := cellOf hD3.out
  go_wp2_with fail
  clear c2 c3
  refine (comp3 ⟨3, 0, 1, []⟩ ⟨3, 1, 0, []⟩ ⟨3, 1, 1, []⟩ _ _ _ _ _ _ _ ex2 rfl rfl (HT.out.ext HX.out) (tr_nil hb2.out hB.out (by decide) (by decide)) (tr_nil hB.out hb3.out (by decide) (by decide))).mono ?_
  rintro e4 w4 ⟨ag, cg, ak, ck, ac, n, cc, rfl, hTr, hy⟩
  have hz := hy.alloc (.cells #[.int .i64 3, .slice ag (nw 3) cg, .int .i64 3, .slice ak (nw 3) ck, .slice ac n cc] 28)
  have hC := Lib.hid (alloc_top (w := w4) (o := .cells #[.int .i64 3, .slice ag (nw 3) cg, .int .i64 3, .slice ak (nw 3) ck, .slice ac n cc] 28) rfl)
  have hTC := Lib.hid (hTr.out.extNo (show Ext No w4 (w4.alloc (.cells #[.int .i64 3, .slice ag (nw 3) cg, .int .i64 3, .slice ak (nw 3) ck, .slice ac n cc] 28)) from (Ext.refl _ _).alloc _))
  have kZ := Lib.hid (hz.blk hZ.out no_no)
  have kB := Lib.hid (show BlkW _ gz 3 1 from hz.blk hB.out no_no)
  have kX := Lib.hid (HX.out.transNo hz)
  clear hZ hB HX hy hz hb2 hb3 hD2 hD3 hTr
  have hZ := kZ
  have hB := kB
  have HX := kX
  clear kZ kB kX
  go_wp2_with fail
  generalize (w4.alloc (.cells #[.int .i64 3, .slice ag (nw 3) cg, .int .i64 3, .slice ak (nw 3) ck, .slice ac n cc] 28)) = V4 at *
  generalize w4.heap.size = DC at *
  refine (rempty3 _).mono ?_
  rintro e5a w5a ⟨ga5, rfl, hba, _, hya⟩
  go_wp2_with fail
  refine (rempty3 _).mono ?_
  rintro e5b w5b ⟨gb5, rfl, hbb, _, hyb⟩
  have hy := hya.transNo hyb
  have hz : Ext No V4 (w5b.alloc (.cells #[.int .i64 0, .int .i64 1, .int .i64 1, .int .i64 2] 50)) := hy.alloc _
  have hk := alloc_top (w := w5b) (o := (.cells #[.int .i64 0, .int .i64 1, .int .i64 1, .int .i64 2] 50)) rfl
  have hTS := Lib.hid (show TrAt No (w5b.alloc (.cells #[.int .i64 0, .int .i64 1, .int .i64 1, .int .i64 2] 50)) (.slice (some ⟨ga5, 0, none⟩) (nw 3) (nw 3)) (.slice (some ⟨gb5, 0, none⟩) (nw 3) (nw 3)) (.slice (some ⟨w5b.heap.size, 0, none⟩) 2 2) exS from ⟨BlkW.setNo (show BlkW _ ga5 3 0 from alloc_under (hyb.blk hba.out no_no)) (by decide) (by decide), BlkW.setNo (show BlkW _ gb5 3 0 from alloc_under hbb.out) (by decide) (by decide), Row.block hk rfl no_no (by decide), exS_ok⟩)
  have kZ := Lib.hid (hz.blk hZ.out no_no)
  have kB := Lib.hid (show BlkW _ gz 3 1 from hz.blk hB.out no_no)
  have kX := Lib.hid (HX.out.transNo hz)
  have kC := Lib.hid (hz.blk hC.out no_no)
  have kTC := Lib.hid (hTC.out.extNo hz)
  clear hZ hB HX hy hz hba hbb hya hyb hC hTC hk
  have hZ := kZ
  have hB := kB
  have HX := kX
  have hC := kC
  have hTC := kTC
  clear kZ kB kX kC kTC
  go_wp2_with fail
  generalize (w5b.alloc (.cells #[.int .i64 0, .int .i64 1, .int .i64 1, .int .i64 2] 50)) = V5 at *
  generalize w5b.heap.size = DK at *
  refine (star3 exS exW _ _ _ _ ex3 rfl (HT.out.ext HX.out) hTS.out).mono ?_
  rintro e6 w6 ⟨bg, dg, bk, dk, bc, n2, dc, rfl, hTr, hy⟩
  have hz := hy.alloc (.cells #[.int .i64 3, .slice bg (nw 3) dg, .int .i64 3, .slice bk (nw 3) dk, .slice bc n2 dc] 28)
  have hS := Lib.hid (alloc_top (w := w6) (o := .cells #[.int .i64 3, .slice bg (nw 3) dg, .int .i64 3, .slice bk (nw 3) dk, .slice bc n2 dc] 28) rfl)
  have hTQ := Lib.hid (hTr.out.extNo (show Ext No w6 (w6.alloc (.cells #[.int .i64 3, .slice bg (nw 3) dg, .int .i64 3, .slice bk (nw 3) dk, .slice bc n2 dc] 28)) from (Ext.refl _ _).alloc _))
  have kZ := Lib.hid (hz.blk hZ.out no_no)
  have kB := Lib.hid (show BlkW _ gz 3 1 from hz.blk hB.out no_no)
  have kX := Lib.hid (HX.out.transNo hz)
  have kC := Lib.hid (hz.blk hC.out no_no)
  have kTC := Lib.hid (hTC.out.extNo hz)
  clear hZ hB HX hy hz hC hTC hTr hTS
  have hZ := kZ
  have hB := kB
  have HX := kX
  have hC := kC
  have hTC := kTC
  clear kZ kB kX kC kTC
  go_wp2_with fail
  generalize (w6.alloc (.cells #[.int .i64 3, .slice bg (nw 3) dg, .int .i64 3, .slice bk (nw 3) dk, .slice bc n2 dc] 28)) = V6 at *
  generalize w6.heap.size = DS at *
  refine (rempty3 _).mono ?_
  rintro e7a w7a ⟨ga7, rfl, hba, _, hya⟩
  go_wp2_with fail
  refine (rempty3 _).mono ?_
  rintro e7b w7b ⟨gb7, rfl, hbb, _, hyb⟩
  have hy := hya.transNo hyb
  have hz : Ext No V6 ((w7b.alloc (.cells #[.int .i64 0, .int .i64 1, .int .i64 0, .int .i64 2, .int .i64 1, .int .i64 2] 50)).alloc (.cells #[.int .i64 3, .slice (some ⟨ga7, 0, none⟩) (nw 3) (nw 3), .int .i64 3, .slice (some ⟨gb7, 0, none⟩) (nw 3) (nw 3), .slice (some ⟨w7b.heap.size, 0, none⟩) 3 3] 28)) := (hy.alloc _).alloc _
  have hk : ((w7b.alloc (.cells #[.int .i64 0, .int .i64 1, .int .i64 0, .int .i64 2, .int .i64 1, .int .i64 2] 50)).alloc (.cells #[.int .i64 3, .slice (some ⟨ga7, 0, none⟩) (nw 3) (nw 3), .int .i64 3, .slice (some ⟨gb7, 0, none⟩) (nw 3) (nw 3), .slice (some ⟨w7b.heap.size, 0, none⟩) 3 3] 28)).heap[w7b.heap.size]? = some (.cells #[.int .i64 0, .int .i64 1, .int .i64 0, .int .i64 2, .int .i64 1, .int .i64 2] 50 (0, 0)) := alloc_under (alloc_top rfl)
  have hWt : ((w7b.alloc (.cells #[.int .i64 0, .int .i64 1, .int .i64 0, .int .i64 2, .int .i64 1, .int .i64 2] 50)).alloc (.cells #[.int .i64 3, .slice (some ⟨ga7, 0, none⟩) (nw 3) (nw 3), .int .i64 3, .slice (some ⟨gb7, 0, none⟩) (nw 3) (nw 3), .slice (some ⟨w7b.heap.size, 0, none⟩) 3 3] 28)).heap[w7b.heap.size + 1]? = some (.cells #[.int .i64 3, .slice (some ⟨ga7, 0, none⟩) (nw 3) (nw 3), .int .i64 3, .slice (some ⟨gb7, 0, none⟩) (nw 3) (nw 3), .slice (some ⟨w7b.heap.size, 0, none⟩) 3 3] 28 (0, 0)) := alloc_top (by simp)
  have hTW := Lib.hid (show TrAt No ((w7b.alloc (.cells #[.int .i64 0, .int .i64 1, .int .i64 0, .int .i64 2, .int .i64 1, .int .i64 2] 50)).alloc (.cells #[.int .i64 3, .slice (some ⟨ga7, 0, none⟩) (nw 3) (nw 3), .int .i64 3, .slice (some ⟨gb7, 0, none⟩) (nw 3) (nw 3), .slice (some ⟨w7b.heap.size, 0, none⟩) 3 3] 28)) (.slice (some ⟨ga7, 0, none⟩) (nw 3) (nw 3)) (.slice (some ⟨gb7, 0, none⟩) (nw 3) (nw 3)) (.slice (some ⟨w7b.heap.size, 0, none⟩) 3 3) exW from ⟨BlkW.setNo (show BlkW _ ga7 3 0 from alloc_under (alloc_under (hyb.blk hba.out no_no))) (by decide) (by decide), BlkW.setNo (show BlkW _ gb7 3 0 from alloc_under (alloc_under hbb.out)) (by decide) (by decide), Row.block hk rfl no_no (by decide), exW_ok⟩)
  have kZ := Lib.hid (hz.blk hZ.out no_no)
  have kB := Lib.hid (show BlkW _ gz 3 1 from hz.blk hB.out no_no)
  have kX := Lib.hid (HX.out.transNo hz)
  have kC := Lib.hid (hz.blk hC.out no_no)
  have kTC := Lib.hid (hTC.out.extNo hz)
  have kS := Lib.hid (hz.blk hS.out no_no)
  have kTQ := Lib.hid (hTQ.out.extNo hz)
  have kW := Lib.hid hWt
  clear hZ hB HX hy hz hba hbb hya hyb hC hTC hk hS hTQ hWt
  have xZ := cellOf kZ.out
  have xC := cellOf kC.out
  go_wp2_with fail
  generalize ((w7b.alloc (.cells #[.int .i64 0, .int .i64 1, .int .i64 0, .int .i64 2, .int .i64 1, .int .i64 2] 50)).alloc (.cells #[.int .i64 3, .slice (some ⟨ga7, 0, none⟩) (nw 3) (nw 3), .int .i64 3, .slice (some ⟨gb7, 0, none⟩) (nw 3) (nw 3), .slice (some ⟨w7b.heap.size, 0, none⟩) 3 3] 28)) = V7 at *
  generalize w7b.heap.size = DW at *
  clear xZ xC
  refine (requals3 ⟨3, 1, 1, []⟩ _ _ _ _ _ _ _ rfl kTC.out (tr_nil kB.out kB.out (by decide) (by decide))).mono ?_
  rintro e8 w8 ⟨rfl, hy⟩
  have hS := Lib.hid (hy.blk kS.out no_no)
  have hTQ := Lib.hid (kTQ.out.extNo hy)
  have hWt := Lib.hid (hy.blk kW.out no_no)
  have hTW2 := Lib.hid (hTW.out.extNo hy)
  have HX := Lib.hid (kX.out.transNo hy)
  clear kZ kB kX kC kTC kS kTQ kW hTW hy
  have xS := cellOf hS.out
  have xW := cellOf hWt.out
  go_wp2_with fail
  clear xS xW
  refine (requals3 exW _ _ _ _ _ _ _ rfl hTQ.out hTW2.out).mono ?_
  rintro e9 w9 ⟨rfl, hy⟩
  have HX9 := Lib.hid (HX.out.transNo hy)
  clear hy HX
  go_wp2_with fail
  refine (sane_any _).mono ?_
  rintro eS wS ⟨rfl, hy⟩
  have kE := HX9.out.transNo hy
  go_wp2_with fail
  go_ret
  exact ⟨rfl, kE⟩
end Go.Proofs.YtgakojgkkdmabaaDoor

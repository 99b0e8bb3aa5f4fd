
import Derived.Test.YtmddchceacmopaaDoorE30
import Derived.Test.YtmddchceacmopaaDoorER
set_option linter.unusedVariables false
set_option linter.unusedSimpArgs false
namespace Go.Proofs.YtmddchceacmopaaDoor
open Go Go.RowKit

def exF : TrD := ⟨3, 0, 0, [(0, 1)]⟩
def exG : TrD := ⟨3, 0, 7, [(1, 2)]⟩
def exW : WebD := ⟨3, [[], [(0, exF)], [(1, exG)]], [0, 0, 0]⟩
def exC : TrD := compT exF exG
theorem exF_ok : TrOk exF := ⟨by decide, by decide, by decide, by decide, fun i h => by
 have : i = 0 := by simp [exF] at h; omega
 subst this; exact ⟨rfl, rfl⟩, fun i h => by simp [exF] at h⟩
theorem exG_ok : TrOk exG := ⟨by decide, by decide, by decide, by decide, fun i h => by
 have : i = 0 := by simp [exG] at h; omega
 subst this; exact ⟨rfl, rfl⟩, fun i h => by simp [exG] at h⟩
theorem exC_ok : TrOk exC ∧ exC.w = 3 := comp_ok (by decide) ⟨exF_ok, rfl⟩ ⟨exG_ok, rfl⟩
theorem exW_ok : WebOk8 exW := webOk8_of (by decide) (by decide) (by decide) rfl (fun l hl => by
 rcases List.mem_cons.1 hl with rfl | hl
 ·exact ⟨List.Pairwise.nil, fun p hp => (by cases hp), fun p hp => (by cases hp)⟩
 ·rcases List.mem_cons.1 hl with rfl | hl
  ·refine ⟨by simp [froms], fun p hp => ?_, fun p hp => ?_⟩
   ·obtain rfl := List.mem_singleton.1 hp; show 0 < 3; omega
   obtain rfl := List.mem_singleton.1 hp; exact ⟨exF_ok, rfl⟩
  obtain rfl := List.mem_singleton.1 hl
  refine ⟨by simp [froms], fun p hp => ?_, fun p hp => ?_⟩
  ·obtain rfl := List.mem_singleton.1 hp; show 1 < 3; omega
  obtain rfl := List.mem_singleton.1 hp; exact ⟨exG_ok, rfl⟩) (fun m hm => by
 have : m = 0 := by simpa using hm
 subst this; decide)
theorem exW_el : (elimW exW 1).w = 3 ∧ (elimW exW 1).ins.length = 3 ∧ arcW (elimW exW 1) 2 = [(0, exC)] ∧ (arcW (elimW exW 1) 1).length = 1 := by
 refine ⟨by kernel_rfl, by kernel_rfl, by kernel_rfl, by kernel_rfl⟩
theorem exW_at {w : World} {q1 q2 q3 q4 gS gA gK gB gL qC qD : Nat} (hS : BlkW w gS 3 0) (h1 : w.heap[q1]? = some (.cells #[.int .i64 3, .slice (some ⟨gS, 0, none⟩) (nw 3) (nw 3), .int .i64 3, .slice (some ⟨gS, 0, none⟩) (nw 3) (nw 3), .int .i64 3, .slice (some ⟨gS, 0, none⟩) (nw 3) (nw 3)] 24 (0, 0))) (h2 : w.heap[q2]? = some (.cells #[.int .i64 0, .int .i64 3, .slice (some ⟨gA, 0, none⟩) (nw 3) (nw 3), .int .i64 3, .slice (some ⟨gK, 0, none⟩) (nw 3) (nw 3), .slice (some ⟨qC, 0, none⟩) 1 1] 33 (0, 0))) (h3 : w.heap[q3]? = some (.cells #[.int .i64 1, .int .i64 3, .slice (some ⟨gB, 0, none⟩) (nw 3) (nw 3), .int .i64 3, .slice (some ⟨gL, 0, none⟩) (nw 3) (nw 3), .slice (some ⟨qD, 0, none⟩) 1 1] 33 (0, 0))) (h4 : w.heap[q4]? = some (.cells #[.slice none 0 0, .slice (some ⟨q2, 0, none⟩) 1 1, .slice (some ⟨q3, 0, none⟩) 1 1] 34 (0, 0)))
  (hA : BlkW w gA 3 0) (hK : BlkW w gK 3 0) (hC : w.heap[qC]? = some (.cells #[.int .i64 0, .int .i64 1] 27 (0, 0))) (hB : BlkW w gB 3 0) (hL : BlkW w gL 3 7) (hD : w.heap[qD]? = some (.cells #[.int .i64 1, .int .i64 2] 27 (0, 0))) : WbAt No w (.slice (some ⟨q1, 0, none⟩) 3 3) (.slice (some ⟨q4, 0, none⟩) 3 3) exW := by
 have hs : SetAt No w (.slice (some ⟨gS, 0, none⟩) (nw 3) (nw 3)) 3 0 := hS.set (by decide) (by decide) no_no
 have hb : LAt kS No w (.slice (some ⟨q1, 0, none⟩) 3 3) [(setN 3 0, .slice (some ⟨gS, 0, none⟩) (nw 3) (nw 3)), (setN 3 0, .slice (some ⟨gS, 0, none⟩) (nw 3) (nw 3)), (setN 3 0, .slice (some ⟨gS, 0, none⟩) (nw 3) (nw 3))] := ⟨Row.block h1 rfl no_no (by omega), fun p hp => by
  have : p = (setN 3 0, .slice (some ⟨gS, 0, none⟩) (nw 3) (nw 3)) := by simpa using hp
  subst this; exact hs.words⟩
 have hf : RawTAt No w (.slice (some ⟨gA, 0, none⟩) (nw 3) (nw 3)) (.slice (some ⟨gK, 0, none⟩) (nw 3) (nw 3)) (.slice (some ⟨qC, 0, none⟩) 1 1) (rawT exF) := ⟨(hA.set (by decide) (by decide) no_no).words, (hK.set (by decide) (by decide) no_no).words, Row.block hC rfl no_no (by omega)⟩
 have hg : RawTAt No w (.slice (some ⟨gB, 0, none⟩) (nw 3) (nw 3)) (.slice (some ⟨gL, 0, none⟩) (nw 3) (nw 3)) (.slice (some ⟨qD, 0, none⟩) 1 1) (rawT exG) := ⟨(hB.set (by decide) (by decide) no_no).words, (hL.set (by decide) (by decide) no_no).words, Row.block hD rfl no_no (by omega)⟩
 have ha1 : LAt kA No w (.slice (some ⟨q2, 0, none⟩) 1 1) [((0 : Int), rawT exF, Value.slice (some ⟨gA, 0, none⟩) (nw 3) (nw 3), Value.slice (some ⟨gK, 0, none⟩) (nw 3) (nw 3), Value.slice (some ⟨qC, 0, none⟩) 1 1)] := ⟨Row.block h2 rfl no_no (by omega), fun p hp => by
  obtain rfl := List.mem_singleton.1 hp; exact hf⟩
 have ha2 : LAt kA No w (.slice (some ⟨q3, 0, none⟩) 1 1) [((1 : Int), rawT exG, Value.slice (some ⟨gB, 0, none⟩) (nw 3) (nw 3), Value.slice (some ⟨gL, 0, none⟩) (nw 3) (nw 3), Value.slice (some ⟨qD, 0, none⟩) 1 1)] := ⟨Row.block h3 rfl no_no (by omega), fun p hp => by
  obtain rfl := List.mem_singleton.1 hp; exact hg⟩
 refine ⟨exW_ok.ok, hb.setsV rfl (by decide) (fun m hm => by
  have : m = 0 := by simpa [exW] using hm
  subst this; decide), [([], .slice none 0 0), ([((0 : Int), rawT exF, Value.slice (some ⟨gA, 0, none⟩) (nw 3) (nw 3), Value.slice (some ⟨gK, 0, none⟩) (nw 3) (nw 3), Value.slice (some ⟨qC, 0, none⟩) 1 1)], .slice (some ⟨q2, 0, none⟩) 1 1), ([((1 : Int), rawT exG, Value.slice (some ⟨gB, 0, none⟩) (nw 3) (nw 3), Value.slice (some ⟨gL, 0, none⟩) (nw 3) (nw 3), Value.slice (some ⟨qD, 0, none⟩) 1 1)], .slice (some ⟨q3, 0, none⟩) 1 1)], ⟨Row.block h4 rfl no_no (by omega), fun p hp => ?_⟩, rfl, fun i hi => ?_⟩
 ·rcases List.mem_cons.1 hp with rfl | hp
  ·exact ⟨Row.nil _ _ _ _ _ (by omega), fun q hq => by cases hq⟩
  rcases List.mem_cons.1 hp with rfl | hp
  ·exact ha1
  obtain rfl := List.mem_singleton.1 hp; exact ha2
 have hi3 : i < 3 := hi
 rcases i with _ | _ | _ | i
 ·rfl
 ·rfl
 ·rfl
 omega
def EW3Post (W : World) (e : Ending) (w' : World) : Prop := ∃ (Q : WebD) (vb vi : Value), e = .returned (.tuple #[.agg #[.int .i64 3, vb, vi], .int .i64 0]) ∧ Hid (WbAt No w' vb vi Q) ∧ Hid (Q.w = 3 ∧ Q.ins.length = 3 ∧ arcW Q 2 = [(0, exC)] ∧ (arcW Q 1).length = 1) ∧ Ext No W w'
theorem eliminate3 (vb vi : Value) (W : World) (h : WbAt No W vb vi exW) (hT : TabW W) : Calls Tryd.prog 7 #[.agg #[.int .i64 3, vb, vi], .int .i64 1] W (EW3Post W) := by
 have h1 := eliminateW_any exW 1 vb vi W exW_ok h hT (by decide)
 refine Calls.mono h1 ?_
 rintro e w' ⟨vb1, vi1, rfl, h2, h3⟩
 obtain ⟨e1, e2, e3, e4⟩ := exW_el
 rw [e1]
 exact ⟨_, vb1, vi1, rfl, h2, Lib.hid ⟨e1, e2, e3, e4⟩, h3⟩
def TrW3 (t : TrD) (W : World) (e : Ending) (w' : World) : Prop :=
 ∃ ag cg ak ck ac n cc, e = .returned (.tuple #[.agg #[.int .i64 3, .slice ag (nw 3) cg, .int .i64 3, .slice ak (nw 3) ck, .slice ac n cc], .int .i64 0]) ∧ Hid (TrAt No w' (.slice ag (nw 3) cg) (.slice ak (nw 3) ck) (.slice ac n cc) t) ∧ Ext No W w'
theorem rcomp3 (g1 k1 c1 g2 k2 c2 : Value) (W : World) (h1 : TrAt No W g1 k1 c1 exF) (h2 : TrAt No W g2 k2 c2 exG) : Calls Tryd.prog 8 #[.agg #[.int .i64 3, g1, .int .i64 3, k1, c1], .agg #[.int .i64 3, g2, .int .i64 3, k2, c2]] W (TrW3 exC W) := rcomp8 exF exG 3 g1 k1 c1 g2 k2 c2 W rfl rfl (by decide) h1 h2
theorem requals3 (t : TrD) (g1 k1 c1 g2 k2 c2 : Value) (W : World) (hw : t.w = 3) (h1 : TrAt No W g1 k1 c1 t) (h2 : TrAt No W g2 k2 c2 t) : Calls Tryd.prog 9 #[.agg #[.int .i64 3, g1, .int .i64 3, k1, c1], .agg #[.int .i64 3, g2, .int .i64 3, k2, c2]] W (BoolPost true W) := requals_true t t 3 g1 k1 c1 g2 k2 c2 W hw hw rfl h1 h2
def ROwn3E (m : Nat) (W : World) (e : Ending) (w' : World) : Prop :=
 ∃ g, e = .returned (.agg #[.int .i64 3, .slice (some ⟨g, 0, none⟩) (nw 3) (nw 3)]) ∧ Hid (BlkW w' g 3 m) ∧ W.heap.size ≤ g ∧ Ext No W w'
theorem rempty3E (W : World) : Calls Tryd.prog 5 #[.int .i64 3] W (ROwn3E 0 W) := rempty_any 3 W (by decide)
theorem rfull3E (W : World) : Calls Tryd.prog 6 #[.int .i64 3] W (ROwn3E 7 W) := rfull_any 3 W (by decide)
set_option maxRecDepth 100000 in
set_option maxHeartbeats 16000000 in
theorem eliminationExamples_any (W : World) (hT : TabW W) : Calls Tryd.prog 3 #[] W (BoolPost true W) := by
 have HT := Lib.hid hT
 clear hT
 go_enter Tryd.func3, Tryd.ntmps3
 go_wp2_with fail
 refine (rempty3E _).mono ?_
 rintro e1 w1 ⟨gA, rfl, hb1, _, hx1⟩
 go_wp2_with fail
 refine (rempty3E _).mono ?_
 rintro e2 w2 ⟨gK, rfl, hb2, _, hx2⟩
 have hA2 : BlkW w2 gA 3 0 := hb1.out.step hx2
 go_upto_region 2 with (fail)
 have hx : Ext No w2 ((w2.alloc (.cells #[.int .i64 0, .int .i64 1] 27)).alloc (.cells #[.int .i64 3, .slice (some ⟨gA, 0, none⟩) (nw 3) (nw 3), .int .i64 3, .slice (some ⟨gK, 0, none⟩) (nw 3) (nw 3), .slice (some ⟨w2.heap.size, 0, none⟩) 1 1] 30)) := ((Ext.refl _ _).alloc _).alloc _
 have HC := Lib.hid (show ((w2.alloc (.cells #[.int .i64 0, .int .i64 1] 27)).alloc (.cells #[.int .i64 3, .slice (some ⟨gA, 0, none⟩) (nw 3) (nw 3), .int .i64 3, .slice (some ⟨gK, 0, none⟩) (nw 3) (nw 3), .slice (some ⟨w2.heap.size, 0, none⟩) 1 1] 30)).heap[w2.heap.size]? = some (.cells #[.int .i64 0, .int .i64 1] 27 (0, 0)) from alloc_under (alloc_top rfl))
 have HF := Lib.hid (show ((w2.alloc (.cells #[.int .i64 0, .int .i64 1] 27)).alloc (.cells #[.int .i64 3, .slice (some ⟨gA, 0, none⟩) (nw 3) (nw 3), .int .i64 3, .slice (some ⟨gK, 0, none⟩) (nw 3) (nw 3), .slice (some ⟨w2.heap.size, 0, none⟩) 1 1] 30)).heap[w2.heap.size + 1]? = some (.cells #[.int .i64 3, .slice (some ⟨gA, 0, none⟩) (nw 3) (nw 3), .int .i64 3, .slice (some ⟨gK, 0, none⟩) (nw 3) (nw 3), .slice (some ⟨w2.heap.size, 0, none⟩) 1 1] 30 (0, 0)) from alloc_top (by simp))
 have HA := Lib.hid (hA2.step hx)
 have HK := Lib.hid ((show BlkW w2 gK 3 0 from hb2.out).step hx)
 have HX := Lib.hid ((hx1.transNo hx2).transNo hx)
 clear hx hx1 hx2 hb1 hb2 hA2
 generalize ((w2.alloc (.cells #[.int .i64 0, .int .i64 1] 27)).alloc (.cells #[.int .i64 3, .slice (some ⟨gA, 0, none⟩) (nw 3) (nw 3), .int .i64 3, .slice (some ⟨gK, 0, none⟩) (nw 3) (nw 3), .slice (some ⟨w2.heap.size, 0, none⟩) 1 1] 30)) = V1 at *
 generalize w2.heap.size = qC at *
 go_wp2_with fail
 refine (rempty3E _).mono ?_
 rintro e3 w3 ⟨gB, rfl, hb3, _, hx3⟩
 go_wp2_with fail
 refine (rfull3E _).mono ?_
 rintro e4 w4 ⟨gL, rfl, hb4, _, hx4⟩
 have hB4 : BlkW w4 gB 3 0 := hb3.out.step hx4
 go_upto_region 3 with (fail)
 have hx : Ext No w4 ((w4.alloc (.cells #[.int .i64 1, .int .i64 2] 27)).alloc (.cells #[.int .i64 3, .slice (some ⟨gB, 0, none⟩) (nw 3) (nw 3), .int .i64 3, .slice (some ⟨gL, 0, none⟩) (nw 3) (nw 3), .slice (some ⟨w4.heap.size, 0, none⟩) 1 1] 30)) := ((Ext.refl _ _).alloc _).alloc _
 have HD := Lib.hid (show ((w4.alloc (.cells #[.int .i64 1, .int .i64 2] 27)).alloc (.cells #[.int .i64 3, .slice (some ⟨gB, 0, none⟩) (nw 3) (nw 3), .int .i64 3, .slice (some ⟨gL, 0, none⟩) (nw 3) (nw 3), .slice (some ⟨w4.heap.size, 0, none⟩) 1 1] 30)).heap[w4.heap.size]? = some (.cells #[.int .i64 1, .int .i64 2] 27 (0, 0)) from alloc_under (alloc_top rfl))
 have HG := Lib.hid (show ((w4.alloc (.cells #[.int .i64 1, .int .i64 2] 27)).alloc (.cells #[.int .i64 3, .slice (some ⟨gB, 0, none⟩) (nw 3) (nw 3), .int .i64 3, .slice (some ⟨gL, 0, none⟩) (nw 3) (nw 3), .slice (some ⟨w4.heap.size, 0, none⟩) 1 1] 30)).heap[w4.heap.size + 1]? = some (.cells #[.int .i64 3, .slice (some ⟨gB, 0, none⟩) (nw 3) (nw 3), .int .i64 3, .slice (some ⟨gL, 0, none⟩) (nw 3) (nw 3), .slice (some ⟨w4.heap.size, 0, none⟩) 1 1] 30 (0, 0)) from alloc_top (by simp))
 have HB := Lib.hid (hB4.step hx)
 have HL := Lib.hid ((show BlkW w4 gL 3 7 from hb4.out).step hx)
 have hxx := (hx3.transNo hx4).transNo hx
 replace HC := Lib.hid (hxx.blk HC.out no_no)
 replace HF := Lib.hid (hxx.blk HF.out no_no)
 replace HA := Lib.hid (HA.out.step hxx)
 replace HK := Lib.hid (HK.out.step hxx)
 replace HX := Lib.hid (HX.out.transNo hxx)
 clear hx hx3 hx4 hxx hb3 hb4 hB4
 generalize ((w4.alloc (.cells #[.int .i64 1, .int .i64 2] 27)).alloc (.cells #[.int .i64 3, .slice (some ⟨gB, 0, none⟩) (nw 3) (nw 3), .int .i64 3, .slice (some ⟨gL, 0, none⟩) (nw 3) (nw 3), .slice (some ⟨w4.heap.size, 0, none⟩) 1 1] 30)) = V2 at *
 generalize w4.heap.size = qD at *
 go_wp2_with fail
 refine (rempty3E _).mono ?_
 rintro e5 w5 ⟨gS, rfl, hb5, _, hx5⟩
 go_upto_region 4 with (fail)
 have hx : Ext No w5 (w5.alloc (.cells #[.int .i64 3, .slice (some ⟨gS, 0, none⟩) (nw 3) (nw 3)] 24)) := (Ext.refl _ _).alloc _
 have HSB := Lib.hid (alloc_top (w := w5) (o := .cells #[.int .i64 3, .slice (some ⟨gS, 0, none⟩) (nw 3) (nw 3)] 24) rfl)
 have HS := Lib.hid ((show BlkW w5 gS 3 0 from hb5.out).step hx)
 have hxx := hx5.transNo hx
 replace HC := Lib.hid (hxx.blk HC.out no_no)
 replace HF := Lib.hid (hxx.blk HF.out no_no)
 replace HD := Lib.hid (hxx.blk HD.out no_no)
 replace HG := Lib.hid (hxx.blk HG.out no_no)
 replace HA := Lib.hid (HA.out.step hxx)
 replace HK := Lib.hid (HK.out.step hxx)
 replace HB := Lib.hid (HB.out.step hxx)
 replace HL := Lib.hid (HL.out.step hxx)
 replace HX := Lib.hid (HX.out.transNo hxx)
 clear hx hx5 hxx hb5
 generalize (w5.alloc (.cells #[.int .i64 3, .slice (some ⟨gS, 0, none⟩) (nw 3) (nw 3)] 24)) = V3 at *
 generalize w5.heap.size = bS at *
 have cS := cellOf HSB.out
 have cF := cellOf HF.out
 have cG := cellOf HG.out
 have lF := lt_of_block HF.out
 have lG := lt_of_block HG.out
 have lS := lt_of_block HSB.out
 have lG2 : qD < V3.heap.size := by omega
 have lF2 : qC < V3.heap.size := by omega
 go_upto_region 5 with (fail)
 clear cS cF cG lF lG lS lG2 lF2
 have hx : Ext No V3 (((((V3.alloc (.cells #[.int .i64 3, .slice (some ⟨gS, 0, none⟩) (nw 3) (nw 3), .int .i64 3, .slice (some ⟨gS, 0, none⟩) (nw 3) (nw 3), .int .i64 3, .slice (some ⟨gS, 0, none⟩) (nw 3) (nw 3)] 24)).alloc (.cells #[.int .i64 0, .int .i64 3, .slice (some ⟨gA, 0, none⟩) (nw 3) (nw 3), .int .i64 3, .slice (some ⟨gK, 0, none⟩) (nw 3) (nw 3), .slice (some ⟨qC, 0, none⟩) 1 1] 33)).alloc (.cells #[.int .i64 1, .int .i64 3, .slice (some ⟨gB, 0, none⟩) (nw 3) (nw 3), .int .i64 3, .slice (some ⟨gL, 0, none⟩) (nw 3) (nw 3), .slice (some ⟨qD, 0, none⟩) 1 1] 33)).alloc (.cells #[.slice none 0 0, .slice (some ⟨V3.heap.size + 1, 0, none⟩) 1 1, .slice (some ⟨V3.heap.size + 2, 0, none⟩) 1 1] 34)).alloc (.cells #[.int .i64 3, .slice (some ⟨V3.heap.size, 0, none⟩) 3 3, .slice (some ⟨V3.heap.size + 3, 0, none⟩) 3 3] 37)) := (((((Ext.refl _ _).alloc _).alloc _).alloc _).alloc _).alloc _
 have h1 : (((((V3.alloc (.cells #[.int .i64 3, .slice (some ⟨gS, 0, none⟩) (nw 3) (nw 3), .int .i64 3, .slice (some ⟨gS, 0, none⟩) (nw 3) (nw 3), .int .i64 3, .slice (some ⟨gS, 0, none⟩) (nw 3) (nw 3)] 24)).alloc (.cells #[.int .i64 0, .int .i64 3, .slice (some ⟨gA, 0, none⟩) (nw 3) (nw 3), .int .i64 3, .slice (some ⟨gK, 0, none⟩) (nw 3) (nw 3), .slice (some ⟨qC, 0, none⟩) 1 1] 33)).alloc (.cells #[.int .i64 1, .int .i64 3, .slice (some ⟨gB, 0, none⟩) (nw 3) (nw 3), .int .i64 3, .slice (some ⟨gL, 0, none⟩) (nw 3) (nw 3), .slice (some ⟨qD, 0, none⟩) 1 1] 33)).alloc (.cells #[.slice none 0 0, .slice (some ⟨V3.heap.size + 1, 0, none⟩) 1 1, .slice (some ⟨V3.heap.size + 2, 0, none⟩) 1 1] 34)).alloc (.cells #[.int .i64 3, .slice (some ⟨V3.heap.size, 0, none⟩) 3 3, .slice (some ⟨V3.heap.size + 3, 0, none⟩) 3 3] 37)).heap[V3.heap.size]? = some (.cells #[.int .i64 3, .slice (some ⟨gS, 0, none⟩) (nw 3) (nw 3), .int .i64 3, .slice (some ⟨gS, 0, none⟩) (nw 3) (nw 3), .int .i64 3, .slice (some ⟨gS, 0, none⟩) (nw 3) (nw 3)] 24 (0, 0)) := alloc_under (alloc_under (alloc_under (alloc_under (alloc_top rfl))))
 have h2 : (((((V3.alloc (.cells #[.int .i64 3, .slice (some ⟨gS, 0, none⟩) (nw 3) (nw 3), .int .i64 3, .slice (some ⟨gS, 0, none⟩) (nw 3) (nw 3), .int .i64 3, .slice (some ⟨gS, 0, none⟩) (nw 3) (nw 3)] 24)).alloc (.cells #[.int .i64 0, .int .i64 3, .slice (some ⟨gA, 0, none⟩) (nw 3) (nw 3), .int .i64 3, .slice (some ⟨gK, 0, none⟩) (nw 3) (nw 3), .slice (some ⟨qC, 0, none⟩) 1 1] 33)).alloc (.cells #[.int .i64 1, .int .i64 3, .slice (some ⟨gB, 0, none⟩) (nw 3) (nw 3), .int .i64 3, .slice (some ⟨gL, 0, none⟩) (nw 3) (nw 3), .slice (some ⟨qD, 0, none⟩) 1 1] 33)).alloc (.cells #[.slice none 0 0, .slice (some ⟨V3.heap.size + 1, 0, none⟩) 1 1, .slice (some ⟨V3.heap.size + 2, 0, none⟩) 1 1] 34)).alloc (.cells #[.int .i64 3, .slice (some ⟨V3.heap.size, 0, none⟩) 3 3, .slice (some ⟨V3.heap.size + 3, 0, none⟩) 3 3] 37)).heap[V3.heap.size + 1]? = some (.cells #[.int .i64 0, .int .i64 3, .slice (some ⟨gA, 0, none⟩) (nw 3) (nw 3), .int .i64 3, .slice (some ⟨gK, 0, none⟩) (nw 3) (nw 3), .slice (some ⟨qC, 0, none⟩) 1 1] 33 (0, 0)) := alloc_under (alloc_under (alloc_under (alloc_top (by simp))))
 have h3 : (((((V3.alloc (.cells #[.int .i64 3, .slice (some ⟨gS, 0, none⟩) (nw 3) (nw 3), .int .i64 3, .slice (some ⟨gS, 0, none⟩) (nw 3) (nw 3), .int .i64 3, .slice (some ⟨gS, 0, none⟩) (nw 3) (nw 3)] 24)).alloc (.cells #[.int .i64 0, .int .i64 3, .slice (some ⟨gA, 0, none⟩) (nw 3) (nw 3), .int .i64 3, .slice (some ⟨gK, 0, none⟩) (nw 3) (nw 3), .slice (some ⟨qC, 0, none⟩) 1 1] 33)).alloc (.cells #[.int .i64 1, .int .i64 3, .slice (some ⟨gB, 0, none⟩) (nw 3) (nw 3), .int .i64 3, .slice (some ⟨gL, 0, none⟩) (nw 3) (nw 3), .slice (some ⟨qD, 0, none⟩) 1 1] 33)).alloc (.cells #[.slice none 0 0, .slice (some ⟨V3.heap.size + 1, 0, none⟩) 1 1, .slice (some ⟨V3.heap.size + 2, 0, none⟩) 1 1] 34)).alloc (.cells #[.int .i64 3, .slice (some ⟨V3.heap.size, 0, none⟩) 3 3, .slice (some ⟨V3.heap.size + 3, 0, none⟩) 3 3] 37)).heap[V3.heap.size + 2]? = some (.cells #[.int .i64 1, .int .i64 3, .slice (some ⟨gB, 0, none⟩) (nw 3) (nw 3), .int .i64 3, .slice (some ⟨gL, 0, none⟩) (nw 3) (nw 3), .slice (some ⟨qD, 0, none⟩) 1 1] 33 (0, 0)) := alloc_under (alloc_under (alloc_top (by simp)))
 have h4 : (((((V3.alloc (.cells #[.int .i64 3, .slice (some ⟨gS, 0, none⟩) (nw 3) (nw 3), .int .i64 3, .slice (some ⟨gS, 0, none⟩) (nw 3) (nw 3), .int .i64 3, .slice (some ⟨gS, 0, none⟩) (nw 3) (nw 3)] 24)).alloc (.cells #[.int .i64 0, .int .i64 3, .slice (some ⟨gA, 0, none⟩) (nw 3) (nw 3), .int .i64 3, .slice (some ⟨gK, 0, none⟩) (nw 3) (nw 3), .slice (some ⟨qC, 0, none⟩) 1 1] 33)).alloc (.cells #[.int .i64 1, .int .i64 3, .slice (some ⟨gB, 0, none⟩) (nw 3) (nw 3), .int .i64 3, .slice (some ⟨gL, 0, none⟩) (nw 3) (nw 3), .slice (some ⟨qD, 0, none⟩) 1 1] 33)).alloc (.cells #[.slice none 0 0, .slice (some ⟨V3.heap.size + 1, 0, none⟩) 1 1, .slice (some ⟨V3.heap.size + 2, 0, none⟩) 1 1] 34)).alloc (.cells #[.int .i64 3, .slice (some ⟨V3.heap.size, 0, none⟩) 3 3, .slice (some ⟨V3.heap.size + 3, 0, none⟩) 3 3] 37)).heap[V3.heap.size + 3]? = some (.cells #[.slice none 0 0, .slice (some ⟨V3.heap.size + 1, 0, none⟩) 1 1, .slice (some ⟨V3.heap.size + 2, 0, none⟩) 1 1] 34 (0, 0)) := alloc_under (alloc_top (by simp))
 have h5 : (((((V3.alloc (.cells #[.int .i64 3, .slice (some ⟨gS, 0, none⟩) (nw 3) (nw 3), .int .i64 3, .slice (some ⟨gS, 0, none⟩) (nw 3) (nw 3), .int .i64 3, .slice (some ⟨gS, 0, none⟩) (nw 3) (nw 3)] 24)).alloc (.cells #[.int .i64 0, .int .i64 3, .slice (some ⟨gA, 0, none⟩) (nw 3) (nw 3), .int .i64 3, .slice (some ⟨gK, 0, none⟩) (nw 3) (nw 3), .slice (some ⟨qC, 0, none⟩) 1 1] 33)).alloc (.cells #[.int .i64 1, .int .i64 3, .slice (some ⟨gB, 0, none⟩) (nw 3) (nw 3), .int .i64 3, .slice (some ⟨gL, 0, none⟩) (nw 3) (nw 3), .slice (some ⟨qD, 0, none⟩) 1 1] 33)).alloc (.cells #[.slice none 0 0, .slice (some ⟨V3.heap.size + 1, 0, none⟩) 1 1, .slice (some ⟨V3.heap.size + 2, 0, none⟩) 1 1] 34)).alloc (.cells #[.int .i64 3, .slice (some ⟨V3.heap.size, 0, none⟩) 3 3, .slice (some ⟨V3.heap.size + 3, 0, none⟩) 3 3] 37)).heap[V3.heap.size + 4]? = some (.cells #[.int .i64 3, .slice (some ⟨V3.heap.size, 0, none⟩) 3 3, .slice (some ⟨V3.heap.size + 3, 0, none⟩) 3 3] 37 (0, 0)) := alloc_top (by simp)
 have HW := Lib.hid (exW_at (HS.out.step hx) h1 h2 h3 h4 (HA.out.step hx) (HK.out.step hx) (hx.blk HC.out no_no) (HB.out.step hx) (HL.out.step hx) (hx.blk HD.out no_no))
 have HWB := Lib.hid h5
 have HTF := Lib.hid (show TrAt No V3 (.slice (some ⟨gA, 0, none⟩) (nw 3) (nw 3)) (.slice (some ⟨gK, 0, none⟩) (nw 3) (nw 3)) (.slice (some ⟨qC, 0, none⟩) 1 1) exF from ⟨HA.out.set (by decide) (by decide) no_no, HK.out.set (by decide) (by decide) no_no, Row.block HC.out rfl no_no (by omega), exF_ok⟩)
 have HTG := Lib.hid (show TrAt No V3 (.slice (some ⟨gB, 0, none⟩) (nw 3) (nw 3)) (.slice (some ⟨gL, 0, none⟩) (nw 3) (nw 3)) (.slice (some ⟨qD, 0, none⟩) 1 1) exG from ⟨HB.out.set (by decide) (by decide) no_no, HL.out.set (by decide) (by decide) no_no, Row.block HD.out rfl no_no (by omega), exG_ok⟩)
 have HXV := Lib.hid (HX.out.transNo hx)
 have HX3 := Lib.hid hx
 clear hx h1 h2 h3 h4 h5 HX HS HSB
 generalize (((((V3.alloc (.cells #[.int .i64 3, .slice (some ⟨gS, 0, none⟩) (nw 3) (nw 3), .int .i64 3, .slice (some ⟨gS, 0, none⟩) (nw 3) (nw 3), .int .i64 3, .slice (some ⟨gS, 0, none⟩) (nw 3) (nw 3)] 24)).alloc (.cells #[.int .i64 0, .int .i64 3, .slice (some ⟨gA, 0, none⟩) (nw 3) (nw 3), .int .i64 3, .slice (some ⟨gK, 0, none⟩) (nw 3) (nw 3), .slice (some ⟨qC, 0, none⟩) 1 1] 33)).alloc (.cells #[.int .i64 1, .int .i64 3, .slice (some ⟨gB, 0, none⟩) (nw 3) (nw 3), .int .i64 3, .slice (some ⟨gL, 0, none⟩) (nw 3) (nw 3), .slice (some ⟨qD, 0, none⟩) 1 1] 33)).alloc (.cells #[.slice none 0 0, .slice (some ⟨V3.heap.size + 1, 0, none⟩) 1 1, .slice (some ⟨V3.heap.size + 2, 0, none⟩) 1 1] 34)).alloc (.cells #[.int .i64 3, .slice (some ⟨V3.heap.size, 0, none⟩) 3 3, .slice (some ⟨V3.heap.size + 3, 0, none⟩) 3 3] 37)) = V4 at *
 generalize V3.heap.size = q1 at *
 have cW := cellOf HWB.out
 go_wp2_with fail
 clear cW
 refine (eliminate3 _ _ _ HW.out (HT.out.ext HXV.out)).mono ?_
 rintro e6 w6 ⟨Q, vb1, vi1, rfl, hW6, hQ, hx6⟩
 obtain ⟨a7, c7, a8, c8, rfl, rfl⟩ := hW6.out.slices
 rw [hQ.out.2.1] at hW6 ⊢
 go_upto_region 6 with (fail)
 have hx : Ext No w6 (w6.alloc (.cells #[.int .i64 3, .slice a7 3 c7, .slice a8 3 c8] 37)) := (Ext.refl _ _).alloc _
 have HQB := Lib.hid (alloc_top (w := w6) (o := .cells #[.int .i64 3, .slice a7 3 c7, .slice a8 3 c8] 37) rfl)
 have HWQ := Lib.hid (hW6.out.extNo hx)
 have hxx := HX3.out.transNo (hx6.transNo hx)
 have HX6 := Lib.hid (HXV.out.transNo (hx6.transNo hx))
 replace HF := Lib.hid (hxx.blk HF.out no_no)
 replace HG := Lib.hid (hxx.blk HG.out no_no)
 replace HTF := Lib.hid (HTF.out.extNo hxx)
 replace HTG := Lib.hid (HTG.out.extNo hxx)
 clear hx hxx hx6 hW6 HXV HX3 HWB HW HA HK HB HL HC HD
 generalize (w6.alloc (.cells #[.int .i64 3, .slice a7 3 c7, .slice a8 3 c8] 37)) = V6 at *
 generalize w6.heap.size = bQ at *
 have cF := cellOf HF.out
 have cG := cellOf HG.out
 go_wp2_with fail
 clear cF cG
 refine (rcomp3 _ _ _ _ _ _ _ HTF.out HTG.out).mono ?_
 rintro e7 w8 ⟨d1, x1, d2, x2, d3, n3, x3, rfl, hTC, hx7⟩
 go_upto_region 7 with (fail)
 have hx : Ext No w8 (w8.alloc (.cells #[.int .i64 3, .slice d1 (nw 3) x1, .int .i64 3, .slice d2 (nw 3) x2, .slice d3 n3 x3] 30)) := (Ext.refl _ _).alloc _
 have HCB := Lib.hid (alloc_top (w := w8) (o := .cells #[.int .i64 3, .slice d1 (nw 3) x1, .int .i64 3, .slice d2 (nw 3) x2, .slice d3 n3 x3] 30) rfl)
 have HTC := Lib.hid (hTC.out.extNo hx)
 have hxx := hx7.transNo hx
 have HQ := Lib.hid (hxx.blk HQB.out no_no)
 have HX9 := Lib.hid (HX6.out.transNo hxx)
 have hw9 := HWQ.out.extNo hxx
 obtain ⟨bi, oi, ki, aA, cA, hve, g2, harc⟩ := hw9.arcs (i := 2) (by rw [hQ.out.2.1]; decide)
 obtain ⟨bi1, oi1, ki1, aA1, cA1, hve1, g1, -⟩ := hw9.arcs (i := 1) (by rw [hQ.out.2.1]; decide)
 rw [hQ.out.2.1] at hve hve1
 simp only [Value.slice.injEq] at hve hve1
 obtain ⟨rfl, -, rfl⟩ := hve
 obtain ⟨hve1, -, -⟩ := hve1
 simp only [Option.some.injEq, Addr.mk.injEq, and_true] at hve1
 obtain ⟨rfl, rfl⟩ := hve1
 rw [hQ.out.2.2.2] at g1
 have hra := harc.out
 rw [hQ.out.2.2.1] at hra g2
 obtain ⟨ba, oa, ka, ag, cg, ak, ck, ac, nc, cc, hve, gt, HTQ, -⟩ := ArcsW.at (w := 3) (fun p hp => by obtain rfl := List.mem_singleton.1 hp; exact exC_ok) hra (k := 0) (m := 0) (f := exC) (by decide) rfl
 simp only [List.length_singleton, Value.slice.injEq] at hve g2
 obtain ⟨rfl, -, rfl⟩ := hve
 simp only [Nat.zero_mul, Nat.add_zero] at gt
 have HCA := Lib.hid gt.1
 have HCF := Lib.hid gt.2
 have HC2 := Lib.hid g2
 have HC1 := Lib.hid g1
 clear hx hxx hx7 hTC hw9 harc hra gt g1 g2 HQB HX6 HWQ HTF HTG HF HG
 generalize (w8.alloc (.cells #[.int .i64 3, .slice d1 (nw 3) x1, .int .i64 3, .slice d2 (nw 3) x2, .slice d3 n3 x3] 30)) = w9 at *
 generalize w8.heap.size = bC at *
 refine wp_region_held_drew (S := (fun w' => Ext No w9 w')) (by kernel_rfl) ?_ (fun hHeld => ?_)
 ·exact (Ext.refl _ _).drew
 refine hHs [0, 1, 2, 3, 4, 5, 6, 7, 8, 9, 10, 11] ?_
 iterate 12
  refine hTn ?_ hHeld (fun w hSw => ?_) ?_
  rotate_left
  ·(have q0 := cellOf ((show Ext No w9 _ from hSw).blk HQ.out no_no)); go_simp; (try with_reducible rfl)
  simp only [Act.put, nzA, nzB, nzC]
 refine hHe ?_
 refine hHs [12, 13, 14, 15, 16, 17] ?_
 iterate 6
  refine hTn ?_ hHeld (fun w hSw => ?_) ?_
  rotate_left
  ·(have q0 := (show Ext No w9 _ from hSw).keep HC2.out); go_simp; (try with_reducible rfl)
  simp only [Act.put, nzA, nzB, nzC]
 refine hHe ?_
 refine hHs [18, 19] ?_
 iterate 2
  refine hTn ?_ hHeld (fun w hSw => ?_) ?_
  rotate_left
  ·(have q0 := cellOf ((show Ext No w9 _ from hSw).blk HQ.out no_no)); go_simp; (try with_reducible rfl)
  simp only [Act.put, nzA, nzB, nzC]
 refine hHe ?_
 refine hHs [20, 21, 22] ?_
 iterate 3
  refine hTn ?_ hHeld (fun w hSw => ?_) ?_
  rotate_left
  ·(have q0 := (show Ext No w9 _ from hSw).keep HC2.out); go_simp; (try with_reducible rfl)
  simp only [Act.put, nzA, nzB, nzC]
 refine hHe ?_
 refine hHs [23, 24, 25, 26, 27] ?_
 iterate 5
  refine hTn ?_ hHeld (fun w hSw => ?_) ?_
  rotate_left
  ·(have q0 := (show Ext No w9 _ from hSw).keep HCA.out); go_simp; (try with_reducible rfl)
  simp only [Act.put, nzA, nzB, nzC]
 refine hHe ?_
 refine hHs [28, 29] ?_
 iterate 2
  refine hTn ?_ hHeld (fun w hSw => ?_) ?_
  rotate_left
  ·(have q0 := cellOf ((show Ext No w9 _ from hSw).blk HQ.out no_no)); go_simp; (try with_reducible rfl)
  simp only [Act.put, nzA, nzB, nzC]
 refine hHe ?_
 refine hHs [30, 31, 32] ?_
 iterate 3
  refine hTn ?_ hHeld (fun w hSw => ?_) ?_
  rotate_left
  ·(have q0 := (show Ext No w9 _ from hSw).keep HC2.out); go_simp; (try with_reducible rfl)
  simp only [Act.put, nzA, nzB, nzC]
 refine hHe ?_
 refine hTk 33 ?_ hHeld (fun w hSw => ?_) ?_
 rotate_left
 ·(obtain ⟨p1, p2, p3, p4, p5⟩ := HCF.out); (have x1 := (show Ext No w9 _ from hSw).keep p1); (have x2 := (show Ext No w9 _ from hSw).keep p2); (have x3 := (show Ext No w9 _ from hSw).keep p3); (have x4 := (show Ext No w9 _ from hSw).keep p4); (have x5 := (show Ext No w9 _ from hSw).keep p5); go_simp; (try with_reducible rfl)
 simp only [Act.put, nzA, nzB, nzC]
 refine hTk 34 ?_ hHeld (fun w hSw => ?_) ?_
 rotate_left
 ·(have x0 := cellOf ((show Ext No w9 _ from hSw).blk HCB.out no_no)); go_simp; (try with_reducible rfl)
 simp only [Act.put, nzA, nzB, nzC]
 refine hHc 35 fun K hK => ?_
 (go_simp; (go_at_call 9); (refine (requals3 exC _ _ _ _ _ _ _ rfl (HTQ.out.extNo (show Ext No w9 _ from hHeld)) (HTC.out.extNo (show Ext No w9 _ from hHeld)) ).mono ?_); (rintro e5 v1 ⟨rfl, hyA⟩); go_simp)
 refine hK.out _ _ ?_ ?_
 ·exact Ext.transNo (show Ext No w9 _ from hHeld) hyA
 clear hK K hHeld
 intro hHeld
 clear hyA
 try simp only [Act.put, nzA, nzB, nzC]
 refine hHs [36, 37, 38, 39, 40] ?_
 iterate 5
  refine hTn ?_ hHeld (fun w hSw => ?_) ?_
  rotate_left
  ·(have q0 := cellOf ((show Ext No w9 _ from hSw).blk HQ.out no_no)); go_simp; (try with_reducible rfl)
  simp only [Act.put, nzA, nzB, nzC]
 refine hHe ?_
 refine hHs [41, 42, 43, 44, 45] ?_
 iterate 5
  refine hTn ?_ hHeld (fun w hSw => ?_) ?_
  rotate_left
  ·(have q0 := (show Ext No w9 _ from hSw).keep HC1.out); go_simp; (try with_reducible rfl)
  simp only [Act.put, nzA, nzB, nzC]
 refine hHe ?_
 refine hHc 46 fun K hK => ?_
 (go_simp; (go_at_call 10); (refine (sane13_any _ (HT.out.ext (HX9.out.transNo (show Ext No w9 _ from hHeld)))).mono ?_); (rintro e6 v2 ⟨rfl, hyA⟩); go_simp)
 refine hK.out _ _ ?_ ?_
 ·exact Ext.transNo (show Ext No w9 _ from hHeld) hyA
 clear hK K hHeld
 intro hHeld
 try simp only [Act.put, nzA, nzB, nzC]
 refine hHs [47, 48] ?_
 iterate 2
  refine hTn ?_ hHeld (fun w hSw => ?_) ?_
  rotate_left
  ·go_simp; (try with_reducible rfl)
  simp only [Act.put, nzA, nzB, nzC]
 refine hHe ?_
 refine wpAnyH_done (by kernel_rfl) ?_ _
 go_wp2_with fail
 go_ret
 exact ⟨rfl, HX9.out.transNo (show Ext No w9 _ from hHeld)⟩

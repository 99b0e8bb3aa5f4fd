
import Derived.Test.YtmddchceacmopaaDoorE29
set_option linter.unusedVariables false
set_option linter.unusedSimpArgs false
namespace Go.Proofs.YtmddchceacmopaaDoor
open Go Go.RowKit
theorem BlkW.step {w w' : World} {g x m : Nat} (h : BlkW w g x m) (hx : Ext No w w') : BlkW w' g x m := hx.blk h no_no
theorem BlkW.setNE {w m g : Nat} {w' : World} (h : BlkW w' g w m) (hw : w ≤ 256) (hm : m < 2 ^ w) : SetAt No w' (.slice (some ⟨g, 0, none⟩) (nw w) (nw w)) w m := h.set hw hm no_no
def ROwn2E (m : Nat) (W : World) (e : Ending) (w' : World) : Prop :=
 ∃ g, e = .returned (.agg #[.int .i64 2, .slice (some ⟨g, 0, none⟩) (nw 2) (nw 2)]) ∧ Hid (BlkW w' g 2 m) ∧ W.heap.size ≤ g ∧ Ext No W w'
theorem rempty2E (W : World) : Calls Tryd.prog 5 #[.int .i64 2] W (ROwn2E 0 W) := rempty_any 2 W (by decide)
theorem rput20E (sl : Value) (W : World) (h : SetAt No W sl 2 0) : Calls Tryd.prog 16 #[.agg #[.int .i64 2, sl], .int .i64 0] W (ROwn2E 1 W) := rput_any 2 0 0 sl W (by decide) h
theorem rfull2E (W : World) : Calls Tryd.prog 6 #[.int .i64 2] W (ROwn2E 3 W) := rfull_any 2 W (by decide)
theorem rsame2E (m : Nat) (u v : Value) (W : World) (hs : SetAt No W u 2 m) (ht : SetAt No W v 2 m) : Calls Tryd.prog 26 #[.agg #[.int .i64 2, u], .agg #[.int .i64 2, v]] W (BoolPost true W) := by
 have h := rsame_any _ _ _ _ W hs.raw ht.raw
 rw [show sameB (setN 2 m) (setN 2 m) = true from decide_eq_true ⟨rfl, rfl⟩] at h
 exact h
def sanF : TrD := ⟨2, 0, 0, [(0, 1)]⟩
def sanW : WebD := ⟨2, [[(0, sanF)]], [1]⟩
theorem sanF_ok : TrOk sanF := ⟨by decide, by decide, by decide, by decide, fun i h => by
 have : i = 0 := by simp [sanF] at h; omega
 subst this; exact ⟨rfl, rfl⟩, fun i h => by simp [sanF] at h⟩
theorem sanW_ok : WebOk8 sanW := webOk8_of (by decide) (by decide) (by decide) rfl (fun l hl => by
 obtain rfl : l = [(0, sanF)] := List.mem_singleton.1 hl
 refine ⟨by simp [froms], fun p hp => ?_, fun p hp => ?_⟩
 ·obtain rfl := List.mem_singleton.1 hp; show 0 < 1; omega
 ·obtain rfl := List.mem_singleton.1 hp; exact ⟨sanF_ok, rfl⟩) (fun m hm => by
 obtain rfl : m = 1 := List.mem_singleton.1 hm
 decide)
theorem sanW_res : resolveW sanW 0 = ⟨2, [[]], [3]⟩ := by kernel_rfl
theorem sanW_at {w : World} {q2 q5 q6 g1 gA gK qC : Nat} (h1 : BlkW w g1 2 1) (h2 : w.heap[q2]? = some (.cells #[.int .i64 2, .slice (some ⟨g1, 0, none⟩) (nw 2) (nw 2)] 24 (0, 0))) (h5 : w.heap[q5]? = some (.cells #[.int .i64 0, .int .i64 2, .slice (some ⟨gA, 0, none⟩) (nw 2) (nw 2), .int .i64 2, .slice (some ⟨gK, 0, none⟩) (nw 2) (nw 2), .slice (some ⟨qC, 0, none⟩) 1 1] 33 (0, 0)))
  (h6 : w.heap[q6]? = some (.cells #[.slice (some ⟨q5, 0, none⟩) 1 1] 34 (0, 0))) (hA : BlkW w gA 2 0) (hK : BlkW w gK 2 0) (hC : w.heap[qC]? = some (.cells #[.int .i64 0, .int .i64 1] 27 (0, 0))) : WbAt No w (.slice (some ⟨q2, 0, none⟩) 1 1) (.slice (some ⟨q6, 0, none⟩) 1 1) sanW := by
 have hs : SetAt No w (.slice (some ⟨g1, 0, none⟩) (nw 2) (nw 2)) 2 1 := h1.set (by decide) (by decide) no_no
 have hb : LAt kS No w (.slice (some ⟨q2, 0, none⟩) 1 1) [(setN 2 1, .slice (some ⟨g1, 0, none⟩) (nw 2) (nw 2))] := ⟨Row.block h2 rfl no_no (by omega), fun p hp => by
  obtain rfl := List.mem_singleton.1 hp; exact hs.words⟩
 have hf : RawTAt No w (.slice (some ⟨gA, 0, none⟩) (nw 2) (nw 2)) (.slice (some ⟨gK, 0, none⟩) (nw 2) (nw 2)) (.slice (some ⟨qC, 0, none⟩) 1 1) (rawT sanF) := ⟨(hA.set (by decide) (by decide) no_no).words, (hK.set (by decide) (by decide) no_no).words, Row.block hC rfl no_no (by omega)⟩
 have ha : LAt kA No w (.slice (some ⟨q5, 0, none⟩) 1 1) [((0 : Int), rawT sanF, .slice (some ⟨gA, 0, none⟩) (nw 2) (nw 2), .slice (some ⟨gK, 0, none⟩) (nw 2) (nw 2), Value.slice (some ⟨qC, 0, none⟩) 1 1)] := ⟨Row.block h5 rfl no_no (by omega), fun p hp => by
  obtain rfl := List.mem_singleton.1 hp; exact hf⟩
 refine ⟨sanW_ok.ok, hb.setsV rfl (by decide) (fun m hm => by obtain rfl : m = 1 := List.mem_singleton.1 hm; decide), [([((0 : Int), rawT sanF, .slice (some ⟨gA, 0, none⟩) (nw 2) (nw 2), .slice (some ⟨gK, 0, none⟩) (nw 2) (nw 2), Value.slice (some ⟨qC, 0, none⟩) 1 1)], .slice (some ⟨q5, 0, none⟩) 1 1)], ⟨Row.block h6 rfl no_no (by omega), fun p hp => by
  obtain rfl := List.mem_singleton.1 hp; exact ha⟩, rfl, fun i hi => ?_⟩
 obtain rfl : i = 0 := by simp at hi; omega
 rfl
def EWPost2 (W : World) (e : Ending) (w' : World) : Prop := ∃ (vb vi : Value), e = .returned (.tuple #[.agg #[.int .i64 2, vb, vi], .int .i64 0]) ∧ Hid (WbAt No w' vb vi ⟨2, [[]], [3]⟩) ∧ Ext No W w'
theorem resolve2 (vb vi : Value) (W : World) (h : WbAt No W vb vi sanW) (hT : TabW W) : Calls Tryd.prog 27 #[.agg #[.int .i64 2, vb, vi], .int .i64 0] W (EWPost2 W) := by
 have h1 := resolveW_any sanW 0 vb vi W sanW_ok h hT (by decide)
 refine Calls.mono h1 ?_
 rintro e w' ⟨vb1, vi1, rfl, h2, h3⟩
 have h4 := h2.out
 rw [sanW_res] at h4 ⊢
 exact ⟨vb1, vi1, rfl, Lib.hid h4, h3⟩
set_option maxRecDepth 100000 in
set_option maxHeartbeats 16000000 in
theorem sane13_any (W : World) (hT : TabW W) : Calls Tryd.prog 10 #[] W (BoolPost true W) := by
 have HT := Lib.hid hT
 clear hT
 go_enter Tryd.func10, Tryd.ntmps10
 go_wp2_with fail
 refine (rempty2E _).mono ?_
 rintro e1 w1 ⟨gA, rfl, hb1, _, hx1⟩
 go_wp2_with fail
 refine (rempty2E _).mono ?_
 rintro e2 w2 ⟨gK, rfl, hb2, _, hx2⟩
 have HA := Lib.hid (show BlkW w2 gA 2 0 from hb1.out.step hx2)
 have HX2 := Lib.hid (hx1.transNo hx2)
 clear hx1 hx2 hb1
 go_upto_region 2 with (fail)
 have hx : Ext No w2 ((w2.alloc (.cells #[.int .i64 0, .int .i64 1] 27)).alloc (.cells #[.int .i64 2, .slice (some ⟨gA, 0, none⟩) (nw 2) (nw 2), .int .i64 2, .slice (some ⟨gK, 0, none⟩) (nw 2) (nw 2), .slice (some ⟨w2.heap.size, 0, none⟩) 1 1] 30)) := ((Ext.refl _ _).alloc _).alloc _
 have HC := Lib.hid (show ((w2.alloc (.cells #[.int .i64 0, .int .i64 1] 27)).alloc (.cells #[.int .i64 2, .slice (some ⟨gA, 0, none⟩) (nw 2) (nw 2), .int .i64 2, .slice (some ⟨gK, 0, none⟩) (nw 2) (nw 2), .slice (some ⟨w2.heap.size, 0, none⟩) 1 1] 30)).heap[w2.heap.size]? = some (.cells #[.int .i64 0, .int .i64 1] 27 (0, 0)) from alloc_under (alloc_top rfl))
 have HF := Lib.hid (show ((w2.alloc (.cells #[.int .i64 0, .int .i64 1] 27)).alloc (.cells #[.int .i64 2, .slice (some ⟨gA, 0, none⟩) (nw 2) (nw 2), .int .i64 2, .slice (some ⟨gK, 0, none⟩) (nw 2) (nw 2), .slice (some ⟨w2.heap.size, 0, none⟩) 1 1] 30)).heap[w2.heap.size + 1]? = some (.cells #[.int .i64 2, .slice (some ⟨gA, 0, none⟩) (nw 2) (nw 2), .int .i64 2, .slice (some ⟨gK, 0, none⟩) (nw 2) (nw 2), .slice (some ⟨w2.heap.size, 0, none⟩) 1 1] 30 (0, 0)) from alloc_top (by simp))
 replace HA := Lib.hid (HA.out.step hx)
 have HK := Lib.hid (show BlkW _ gK 2 0 from (show BlkW w2 gK 2 0 from hb2.out).step hx)
 have HX := Lib.hid (HX2.out.transNo hx)
 clear hx hb2 HX2
 generalize ((w2.alloc (.cells #[.int .i64 0, .int .i64 1] 27)).alloc (.cells #[.int .i64 2, .slice (some ⟨gA, 0, none⟩) (nw 2) (nw 2), .int .i64 2, .slice (some ⟨gK, 0, none⟩) (nw 2) (nw 2), .slice (some ⟨w2.heap.size, 0, none⟩) 1 1] 30)) = V at *
 generalize w2.heap.size = qC at *
 go_cut [2] (fun s2 wx => ∃ D q2 q5 q6 g1, s2 = .pointer (some ⟨D, 0, none⟩) ∧ Hid (Ext No V wx) ∧ Hid (wx.heap[D]? = some (.cells #[.int .i64 2, .slice (some ⟨q2, 0, none⟩) 1 1, .slice (some ⟨q6, 0, none⟩) 1 1] 37 (0, 0))) ∧ Hid (BlkW wx g1 2 1) ∧ Hid (wx.heap[q2]? = some (.cells #[.int .i64 2, .slice (some ⟨g1, 0, none⟩) (nw 2) (nw 2)] 24 (0, 0))) ∧ Hid (wx.heap[q5]? = some (.cells #[.int .i64 0, .int .i64 2, .slice (some ⟨gA, 0, none⟩) (nw 2) (nw 2), .int .i64 2, .slice (some ⟨gK, 0, none⟩) (nw 2) (nw 2), .slice (some ⟨qC, 0, none⟩) 1 1] 33 (0, 0))) ∧ Hid (wx.heap[q6]? = some (.cells #[.slice (some ⟨q5, 0, none⟩) 1 1] 34 (0, 0))))
 case first =>
  refine wp_region_held_drew (S := (fun w' => Ext No V w')) (by kernel_rfl) ?_ (fun hHeld => ?_)
  ·exact (Ext.refl _ _).drew
  have hE := Lib.hid (show Ext No V V.drew from (Ext.refl _ _).drew)
  generalize V.drew = v at *
  refine hHs [3, 4] ?_
  iterate 2
   refine hTn ?_ hHeld (fun w hSw => ?_) ?_
   rotate_left
   ·(have q0 := cellOf ((show Ext No V _ from hSw).blk HF.out no_no)); go_simp; (try with_reducible rfl)
   simp only [Act.put, nzA, nzB, nzC]
  refine hHe ?_
  have hst : Tg 1 := trivial
  iterate 7
   all_goals first
    | ((guard_hyp hst : Tg 1); (clear hst); (refine held_next3 (i := 0) (j := 5) (k := 8) (by kernel_rfl) (NextOp.mk rfl rfl (fun K hK => have hop : Tg 1000 := trivial; have hst : Tg 2 := trivial; ?_)) (NextOp.mk rfl rfl (fun K hK => have hop : Tg 1005 := trivial; have hst : Tg 3 := trivial; ?_)) (NextOp.mk rfl rfl (fun K hK => have hop : Tg 1008 := trivial; have hst : Tg 4 := trivial; ?_))))
    | ((guard_hyp hst : Tg 2); (clear hst); (refine held_next3 (i := 1) (j := 5) (k := 8) (by kernel_rfl) (NextOp.mk rfl rfl (fun K hK => have hop : Tg 1001 := trivial; have hst : Tg 5 := trivial; ?_)) (NextOp.mk rfl rfl (fun K hK => have hop : Tg 1005 := trivial; have hst : Tg 6 := trivial; ?_)) (NextOp.mk rfl rfl (fun K hK => have hop : Tg 1008 := trivial; have hst : Tg 7 := trivial; ?_))))
    | ((guard_hyp hst : Tg 3); (clear hst); (refine held_next3 (i := 0) (j := 6) (k := 8) (by kernel_rfl) (NextOp.mk rfl rfl (fun K hK => have hop : Tg 1000 := trivial; have hst : Tg 6 := trivial; ?_)) (NextOp.mk rfl rfl (fun K hK => have hop : Tg 1006 := trivial; have hst : Tg 8 := trivial; ?_)) (NextOp.mk rfl rfl (fun K hK => have hop : Tg 1008 := trivial; have hst : Tg 9 := trivial; ?_))))
    | ((guard_hyp hst : Tg 4); (clear hst); (refine held_next2 (i := 0) (j := 5) (by kernel_rfl) (NextOp.mk rfl rfl (fun K hK => have hop : Tg 1000 := trivial; have hst : Tg 7 := trivial; ?_)) (NextOp.mk rfl rfl (fun K hK => have hop : Tg 1005 := trivial; have hst : Tg 9 := trivial; ?_))))
    | ((guard_hyp hst : Tg 5); (clear hst); (refine held_next3 (i := 2) (j := 5) (k := 8) (by kernel_rfl) (NextOp.mk rfl rfl (fun K hK => have hop : Tg 1002 := trivial; have hst : Tg 10 := trivial; ?_)) (NextOp.mk rfl rfl (fun K hK => have hop : Tg 1005 := trivial; have hst : Tg 11 := trivial; ?_)) (NextOp.mk rfl rfl (fun K hK => have hop : Tg 1008 := trivial; have hst : Tg 12 := trivial; ?_))))
    | ((guard_hyp hst : Tg 6); (clear hst); (refine held_next3 (i := 1) (j := 6) (k := 8) (by kernel_rfl) (NextOp.mk rfl rfl (fun K hK => have hop : Tg 1001 := trivial; have hst : Tg 11 := trivial; ?_)) (NextOp.mk rfl rfl (fun K hK => have hop : Tg 1006 := trivial; have hst : Tg 13 := trivial; ?_)) (NextOp.mk rfl rfl (fun K hK => have hop : Tg 1008 := trivial; have hst : Tg 14 := trivial; ?_))))
    | ((guard_hyp hst : Tg 7); (clear hst); (refine held_next2 (i := 1) (j := 5) (by kernel_rfl) (NextOp.mk rfl rfl (fun K hK => have hop : Tg 1001 := trivial; have hst : Tg 12 := trivial; ?_)) (NextOp.mk rfl rfl (fun K hK => have hop : Tg 1005 := trivial; have hst : Tg 14 := trivial; ?_))))
    | ((guard_hyp hst : Tg 8); (clear hst); (refine held_next2 (i := 0) (j := 8) (by kernel_rfl) (NextOp.mk rfl rfl (fun K hK => have hop : Tg 1000 := trivial; have hst : Tg 13 := trivial; ?_)) (NextOp.mk rfl rfl (fun K hK => have hop : Tg 1008 := trivial; have hst : Tg 15 := trivial; ?_))))
    | ((guard_hyp hst : Tg 9); (clear hst); (refine held_next2 (i := 0) (j := 6) (by kernel_rfl) (NextOp.mk rfl rfl (fun K hK => have hop : Tg 1000 := trivial; have hst : Tg 14 := trivial; ?_)) (NextOp.mk rfl rfl (fun K hK => have hop : Tg 1006 := trivial; have hst : Tg 15 := trivial; ?_))))
    | ((guard_hyp hst : Tg 10); (clear hst); (refine held_next2 (i := 5) (j := 8) (by kernel_rfl) (NextOp.mk rfl rfl (fun K hK => have hop : Tg 1005 := trivial; have hst : Tg 16 := trivial; ?_)) (NextOp.mk rfl rfl (fun K hK => have hop : Tg 1008 := trivial; have hst : Tg 17 := trivial; ?_))))
    | ((guard_hyp hst : Tg 11); (clear hst); (refine held_next3 (i := 2) (j := 6) (k := 8) (by kernel_rfl) (NextOp.mk rfl rfl (fun K hK => have hop : Tg 1002 := trivial; have hst : Tg 16 := trivial; ?_)) (NextOp.mk rfl rfl (fun K hK => have hop : Tg 1006 := trivial; have hst : Tg 18 := trivial; ?_)) (NextOp.mk rfl rfl (fun K hK => have hop : Tg 1008 := trivial; have hst : Tg 19 := trivial; ?_))))
    | ((guard_hyp hst : Tg 12); (clear hst); (refine held_next2 (i := 2) (j := 5) (by kernel_rfl) (NextOp.mk rfl rfl (fun K hK => have hop : Tg 1002 := trivial; have hst : Tg 17 := trivial; ?_)) (NextOp.mk rfl rfl (fun K hK => have hop : Tg 1005 := trivial; have hst : Tg 19 := trivial; ?_))))
    | ((guard_hyp hst : Tg 13); (clear hst); (refine held_next2 (i := 1) (j := 8) (by kernel_rfl) (NextOp.mk rfl rfl (fun K hK => have hop : Tg 1001 := trivial; have hst : Tg 18 := trivial; ?_)) (NextOp.mk rfl rfl (fun K hK => have hop : Tg 1008 := trivial; have hst : Tg 20 := trivial; ?_))))
    | ((guard_hyp hst : Tg 14); (clear hst); (refine held_next2 (i := 1) (j := 6) (by kernel_rfl) (NextOp.mk rfl rfl (fun K hK => have hop : Tg 1001 := trivial; have hst : Tg 19 := trivial; ?_)) (NextOp.mk rfl rfl (fun K hK => have hop : Tg 1006 := trivial; have hst : Tg 20 := trivial; ?_))))
    | ((guard_hyp hst : Tg 15); (clear hst); (refine held_call (i := 0) rfl (by kernel_rfl) rfl (fun K hK => have hop : Tg 1000 := trivial; have hst : Tg 20 := trivial; ?_)))
    | ((guard_hyp hst : Tg 16); (clear hst); (refine held_next2 (i := 6) (j := 8) (by kernel_rfl) (NextOp.mk rfl rfl (fun K hK => have hop : Tg 1006 := trivial; have hst : Tg 21 := trivial; ?_)) (NextOp.mk rfl rfl (fun K hK => have hop : Tg 1008 := trivial; have hst : Tg 22 := trivial; ?_))))
    | ((guard_hyp hst : Tg 17); (clear hst); (refine held_call (i := 5) rfl (by kernel_rfl) rfl (fun K hK => have hop : Tg 1005 := trivial; have hst : Tg 22 := trivial; ?_)))
    | ((guard_hyp hst : Tg 18); (clear hst); (refine held_next2 (i := 2) (j := 8) (by kernel_rfl) (NextOp.mk rfl rfl (fun K hK => have hop : Tg 1002 := trivial; have hst : Tg 21 := trivial; ?_)) (NextOp.mk rfl rfl (fun K hK => have hop : Tg 1008 := trivial; have hst : Tg 23 := trivial; ?_))))
    | ((guard_hyp hst : Tg 19); (clear hst); (refine held_next2 (i := 2) (j := 6) (by kernel_rfl) (NextOp.mk rfl rfl (fun K hK => have hop : Tg 1002 := trivial; have hst : Tg 22 := trivial; ?_)) (NextOp.mk rfl rfl (fun K hK => have hop : Tg 1006 := trivial; have hst : Tg 23 := trivial; ?_))))
    | ((guard_hyp hst : Tg 20); (clear hst); (refine held_call (i := 1) rfl (by kernel_rfl) rfl (fun K hK => have hop : Tg 1001 := trivial; have hst : Tg 23 := trivial; ?_)))
    | ((guard_hyp hst : Tg 21); (clear hst); (refine held_next2 (i := 7) (j := 8) (by kernel_rfl) (NextOp.mk rfl rfl (fun K hK => have hop : Tg 1007 := trivial; have hst : Tg 24 := trivial; ?_)) (NextOp.mk rfl rfl (fun K hK => have hop : Tg 1008 := trivial; have hst : Tg 25 := trivial; ?_))))
    | ((guard_hyp hst : Tg 22); (clear hst); (refine held_call (i := 6) rfl (by kernel_rfl) rfl (fun K hK => have hop : Tg 1006 := trivial; have hst : Tg 25 := trivial; ?_)))
    | ((guard_hyp hst : Tg 23); (clear hst); (refine held_call (i := 2) rfl (by kernel_rfl) rfl (fun K hK => have hop : Tg 1002 := trivial; have hst : Tg 25 := trivial; ?_)))
    | ((guard_hyp hst : Tg 24); (clear hst); (refine held_call (i := 8) rfl (by kernel_rfl) rfl (fun K hK => have hop : Tg 1008 := trivial; have hst : Tg 26 := trivial; ?_)))
    | ((guard_hyp hst : Tg 25); (clear hst); (refine held_call (i := 7) rfl (by kernel_rfl) rfl (fun K hK => have hop : Tg 1007 := trivial; have hst : Tg 26 := trivial; ?_)))
   all_goals first
    | ((guard_hyp hop : Tg 1000); (clear hop); ((go_simp); (go_at_call 5); (refine (rempty2E v).mono ?_); (rintro e1 u ⟨g0, rfl, hb, hlo, hyA⟩); (go_simp)); (refine hK.out _ _ (by exact Ext.transNo (show Ext No V _ from hHeld) hyA) (fun hNew => ?_)); (clear hK K hHeld); (have hHeld := hNew); (clear hNew); ((try replace b1 := Lib.hid (b1.out.step hyA)); (try replace s2 := Lib.hid (hyA.blk s2.out no_no)); (try replace a5 := Lib.hid (hyA.blk a5.out no_no)); (try replace i6 := Lib.hid (hyA.blk i6.out no_no)); (try replace d8 := Lib.hid (hyA.blk d8.out no_no)); (replace hE := Lib.hid (hE.out.transNo hyA)); (have b0 := hb); (clear hyA hlo hb); (generalize u = v at *)); (try simp only [Act.put, nzA, nzB, nzC]))
    | ((guard_hyp hop : Tg 1001); (clear hop); ((go_simp); (go_at_call 16); (refine (rput20E _ v (BlkW.setNE (show BlkW _ g0 2 0 from b0.out) (by decide) (by decide))).mono ?_); (rintro e1 u ⟨g1, rfl, hb, hlo, hyA⟩); (go_simp)); (refine hK.out _ _ (by exact Ext.transNo (show Ext No V _ from hHeld) hyA) (fun hNew => ?_)); (clear hK K hHeld); (have hHeld := hNew); (clear hNew); ((try have nb1 := Lib.hid (show g1 ≠ D from fun e => by have := lt_of_block d8.out; omega)); (try replace b0 := Lib.hid (b0.out.step hyA)); (try replace s2 := Lib.hid (hyA.blk s2.out no_no)); (try replace a5 := Lib.hid (hyA.blk a5.out no_no)); (try replace i6 := Lib.hid (hyA.blk i6.out no_no)); (try replace d8 := Lib.hid (hyA.blk d8.out no_no)); (replace hE := Lib.hid (hE.out.transNo hyA)); (have b1 := hb); (clear hyA hlo hb); (generalize u = v at *)); (try simp only [Act.put, nzA, nzB, nzC]))
    | ((guard_hyp hop : Tg 1002); (clear hop); ((go_simp)); (refine hK.out _ _ (by exact Ext.alloc (show Ext No V _ from hHeld) _) (fun hNew => ?_)); (clear hK K hHeld); (have hHeld := hNew); (clear hNew); ((try have ns2 := Lib.hid (show v.heap.size ≠ D from (Nat.ne_of_lt (lt_of_block d8.out)).symm)); (have hyA := (Ext.refl No v).alloc (.cells #[.int .i64 2, .slice (some ⟨g1, 0, none⟩) (nw 2) (nw 2)] 24)); (try replace b0 := Lib.hid (b0.out.step hyA)); (try replace b1 := Lib.hid (b1.out.step hyA)); (try replace a5 := Lib.hid (hyA.blk a5.out no_no)); (try replace i6 := Lib.hid (hyA.blk i6.out no_no)); (try replace d8 := Lib.hid (hyA.blk d8.out no_no)); (replace hE := Lib.hid (hE.out.transNo hyA)); (have s2 := Lib.hid (alloc_top (w := v) (o := (.cells #[.int .i64 2, .slice (some ⟨g1, 0, none⟩) (nw 2) (nw 2)] 24)) rfl)); (clear hyA); (generalize v.heap.size = q2 at *); (generalize (v.alloc (.cells #[.int .i64 2, .slice (some ⟨g1, 0, none⟩) (nw 2) (nw 2)] 24)) = v at *)); (try simp only [Act.put, nzA, nzB, nzC]))
    | ((guard_hyp hop : Tg 1005); (clear hop); ((go_simp)); (refine hK.out _ _ (by exact Ext.alloc (show Ext No V _ from hHeld) _) (fun hNew => ?_)); (clear hK K hHeld); (have hHeld := hNew); (clear hNew); ((try have na5 := Lib.hid (show v.heap.size ≠ D from (Nat.ne_of_lt (lt_of_block d8.out)).symm)); (have hyA := (Ext.refl No v).alloc (.cells #[.int .i64 0, .int .i64 2, .slice (some ⟨gA, 0, none⟩) (nw 2) (nw 2), .int .i64 2, .slice (some ⟨gK, 0, none⟩) (nw 2) (nw 2), .slice (some ⟨qC, 0, none⟩) 1 1] 33)); (try replace b0 := Lib.hid (b0.out.step hyA)); (try replace b1 := Lib.hid (b1.out.step hyA)); (try replace s2 := Lib.hid (hyA.blk s2.out no_no)); (try replace i6 := Lib.hid (hyA.blk i6.out no_no)); (try replace d8 := Lib.hid (hyA.blk d8.out no_no)); (replace hE := Lib.hid (hE.out.transNo hyA)); (have a5 := Lib.hid (alloc_top (w := v) (o := (.cells #[.int .i64 0, .int .i64 2, .slice (some ⟨gA, 0, none⟩) (nw 2) (nw 2), .int .i64 2, .slice (some ⟨gK, 0, none⟩) (nw 2) (nw 2), .slice (some ⟨qC, 0, none⟩) 1 1] 33)) rfl)); (clear hyA); (generalize v.heap.size = q5 at *); (generalize (v.alloc (.cells #[.int .i64 0, .int .i64 2, .slice (some ⟨gA, 0, none⟩) (nw 2) (nw 2), .int .i64 2, .slice (some ⟨gK, 0, none⟩) (nw 2) (nw 2), .slice (some ⟨qC, 0, none⟩) 1 1] 33)) = v at *)); (try simp only [Act.put, nzA, nzB, nzC]))
    | ((guard_hyp hop : Tg 1006); (clear hop); ((go_simp)); (refine hK.out _ _ (by exact Ext.alloc (show Ext No V _ from hHeld) _) (fun hNew => ?_)); (clear hK K hHeld); (have hHeld := hNew); (clear hNew); ((try have ni6 := Lib.hid (show v.heap.size ≠ D from (Nat.ne_of_lt (lt_of_block d8.out)).symm)); (have hyA := (Ext.refl No v).alloc (.cells #[.slice (some ⟨q5, 0, none⟩) 1 1] 34)); (try replace b0 := Lib.hid (b0.out.step hyA)); (try replace b1 := Lib.hid (b1.out.step hyA)); (try replace s2 := Lib.hid (hyA.blk s2.out no_no)); (try replace a5 := Lib.hid (hyA.blk a5.out no_no)); (try replace d8 := Lib.hid (hyA.blk d8.out no_no)); (replace hE := Lib.hid (hE.out.transNo hyA)); (have i6 := Lib.hid (alloc_top (w := v) (o := (.cells #[.slice (some ⟨q5, 0, none⟩) 1 1] 34)) rfl)); (clear hyA); (generalize v.heap.size = q6 at *); (generalize (v.alloc (.cells #[.slice (some ⟨q5, 0, none⟩) 1 1] 34)) = v at *)); (try simp only [Act.put, nzA, nzB, nzC]))
    | ((guard_hyp hop : Tg 1008); (clear hop); ((go_simp)); (refine hK.out _ _ (by exact Ext.alloc (show Ext No V _ from hHeld) _) (fun hNew => ?_)); (clear hK K hHeld); (have hHeld := hNew); (clear hNew); ((try have nb1 := Lib.hid (show g1 ≠ v.heap.size from Nat.ne_of_lt (lt_of_block b1.out))); (try have ns2 := Lib.hid (show q2 ≠ v.heap.size from Nat.ne_of_lt (lt_of_block s2.out))); (try have na5 := Lib.hid (show q5 ≠ v.heap.size from Nat.ne_of_lt (lt_of_block a5.out))); (try have ni6 := Lib.hid (show q6 ≠ v.heap.size from Nat.ne_of_lt (lt_of_block i6.out))); (have wE := Lib.hid (show V.heap.size ≤ v.heap.size from hE.out.size)); (have hyA := (Ext.refl No v).alloc (.cells #[.int .i64 0, .slice none 0 0, .slice none 0 0] 37)); (try replace b0 := Lib.hid (b0.out.step hyA)); (try replace b1 := Lib.hid (b1.out.step hyA)); (try replace s2 := Lib.hid (hyA.blk s2.out no_no)); (try replace a5 := Lib.hid (hyA.blk a5.out no_no)); (try replace i6 := Lib.hid (hyA.blk i6.out no_no)); (replace hE := Lib.hid (hE.out.transNo hyA)); (have d8 := Lib.hid (alloc_top (w := v) (o := (.cells #[.int .i64 0, .slice none 0 0, .slice none 0 0] 37)) rfl)); (clear hyA); (generalize v.heap.size = D at *); (generalize (v.alloc (.cells #[.int .i64 0, .slice none 0 0, .slice none 0 0] 37)) = v at *)); (try simp only [Act.put, nzA, nzB, nzC]))
    | ((guard_hyp hop : Tg 1007); (clear hop); ((go_simp)); (refine hK.out _ _ (by exact hHeld) (fun hNew => ?_)); (clear hK K hHeld); (have hHeld := hNew); (clear hNew); (try simp only [Act.put, nzA, nzB, nzC]))
  all_goals
   clear hst
   refine hHc 9 fun K hK => ?_
   ((have cS := cellOf d8.out); (have fS := freeOf d8.out); go_simp; (clear cS fS))
   refine hK.out _ _ (by exact ((((show Ext No V _ from hHeld).own wE.out _).own wE.out _).own wE.out _)) (fun hNew => ?_)
   clear hK K hHeld
   have hHeld := hNew
   clear hNew
   try simp only [Act.put, nzA, nzB, nzC]
   refine wpAnyH_done (by kernel_rfl) ?_ _
   have hEx : Ext No V _ := hHeld
   have hE3 : Ext (At D) v (((v.setCell ⟨D, 0, none⟩ (.int .i64 2)).setCell ⟨D, 1, none⟩ (.slice (some ⟨q2, 0, none⟩) 1 1)).setCell ⟨D, 2, none⟩ (.slice (some ⟨q6, 0, none⟩) 1 1)) := ext3E _ _ _ _ _
   go_wp2_with fail
   go_meet
   exact ⟨D, q2, q5, q6, g1, rfl, Lib.hid hEx, Lib.hid ((set_same (j := 2) (set_same (j := 1) (set_same (j := 0) d8.out))).trans rfl), Lib.hid (show BlkW _ g1 2 1 from hE3.blk b1.out (fun e => nb1.out e)), Lib.hid (hE3.blk s2.out (fun e => ns2.out e)), Lib.hid (hE3.blk a5.out (fun e => na5.out e)), Lib.hid (hE3.blk i6.out (fun e => ni6.out e))⟩
 case rest =>
 obtain ⟨D, q2, q5, q6, g1, rfl, hx, hD, hb1, h2, h5, h6⟩ := hcut
 rename World => wx
 have HXX := Lib.hid (HX.out.transNo hx.out)
 have hW := sanW_at hb1.out h2.out h5.out h6.out (HA.out.step hx.out) (HK.out.step hx.out) (hx.out.blk HC.out no_no)
 have HW := Lib.hid hW
 have cD := cellOf hD.out
 clear hW hx hb1 h2 h5 h6 HA HK HC HF HX
 go_wp2_with fail
 clear cD
 refine (resolve2 _ _ _ HW.out (HT.out.ext HXX.out)).mono ?_
 rintro e3 w3 ⟨vb1, vi1, rfl, hW3, hx3⟩
 obtain ⟨b, off, cap, a, c, hve, hc, hs⟩ := hW3.out.bnd.cells (i := 0) (by decide)
 subst hve
 obtain ⟨bi, oi, ki, aA, cA, hve, ga, -⟩ := hW3.out.arcs (i := 0) (by decide)
 subst hve
 go_upto_region 4 with (fail)
 have hx4 : Ext No w3 (w3.alloc (.cells #[.int .i64 2, .slice (some ⟨b, off, none⟩) 1 cap, .slice (some ⟨bi, oi, none⟩) 1 ki] 37)) := (Ext.refl _ _).alloc _
 have HQ := Lib.hid (alloc_top (w := w3) (o := .cells #[.int .i64 2, .slice (some ⟨b, off, none⟩) 1 cap, .slice (some ⟨bi, oi, none⟩) 1 ki] 37) rfl)
 have HCI := Lib.hid (hx4.keep (show w3.cell? ⟨bi, oi, none⟩ = some (.slice aA 0 cA) from ga))
 have HCB := Lib.hid (And.intro (hx4.keep (show w3.cell? ⟨b, off, none⟩ = some (.int .i64 2) from hc.1)) (hx4.keep (show w3.cell? ⟨b, off + 1, none⟩ = some (.slice a (nw 2) c) from hc.2)))
 have HS3 := Lib.hid (show SetAt No _ (.slice a (nw 2) c) 2 3 from hs.out.extNo hx4)
 have HX3 := Lib.hid (HXX.out.transNo (hx3.transNo hx4))
 clear hx3 hx4 ga hc hs hW3 HXX HW hD
 generalize (w3.alloc (.cells #[.int .i64 2, .slice (some ⟨b, off, none⟩) 1 cap, .slice (some ⟨bi, oi, none⟩) 1 ki] 37)) = w4 at *
 generalize w3.heap.size = bQ at *
 refine wp_region_held_drew (S := (fun w' => Ext No w4 w')) (by kernel_rfl) ?_ (fun hHeld => ?_)
 ·exact (Ext.refl _ _).drew
 refine hHs [0, 1, 2, 3, 4, 5, 6, 7, 8, 9, 10, 11] ?_
 iterate 12
  refine hTn ?_ hHeld (fun w hSw => ?_) ?_
  rotate_left
  ·(have q0 := cellOf ((show Ext No w4 _ from hSw).blk HQ.out no_no)); go_simp; (try with_reducible rfl)
  simp only [Act.put, nzA, nzB, nzC]
 refine hHe ?_
 refine hHs [12, 13, 14, 15, 16, 17] ?_
 iterate 6
  refine hTn ?_ hHeld (fun w hSw => ?_) ?_
  rotate_left
  ·(have q0 := (show Ext No w4 _ from hSw).keep HCI.out); go_simp; (try with_reducible rfl)
  simp only [Act.put, nzA, nzB, nzC]
 refine hHe ?_
 refine hHs [18, 19] ?_
 iterate 2
  refine hTn ?_ hHeld (fun w hSw => ?_) ?_
  rotate_left
  ·(have q0 := cellOf ((show Ext No w4 _ from hSw).blk HQ.out no_no)); go_simp; (try with_reducible rfl)
  simp only [Act.put, nzA, nzB, nzC]
 refine hHe ?_
 refine hTk 20 ?_ hHeld (fun w hSw => ?_) ?_
 rotate_left
 ·(have x0 := (show Ext No w4 _ from hSw).keep HCB.out.1); (have x1 := (show Ext No w4 _ from hSw).keep HCB.out.2); go_simp; (try with_reducible rfl)
 simp only [Act.put, nzA, nzB, nzC]
 refine hHc 21 fun K hK => ?_
 (go_simp; (go_at_call 6); (refine (rfull2E _).mono ?_); (rintro e5 v1 ⟨g7, rfl, hb7, _, hyA⟩); go_simp)
 refine hK.out _ _ ?_ (fun hNew => ?_)
 ·exact Ext.transNo (show Ext No w4 _ from hHeld) hyA
 clear hK K hHeld
 have hHeld := hNew
 clear hNew
 have HS7 := Lib.hid (HS3.out.extNo ((show Ext No w4 _ from hHeld)))
 clear hyA
 try simp only [Act.put, nzA, nzB, nzC]
 refine hHc 22 fun K hK => ?_
 (go_simp; (go_at_call 26); (refine (rsame2E 3 _ _ _ HS7.out (BlkW.setNE (show BlkW _ g7 2 3 from hb7.out) (by decide) (by decide))).mono ?_); (rintro e6 v2 ⟨rfl, hyA⟩); go_simp)
 refine hK.out _ _ ?_ (fun hNew => ?_)
 ·exact Ext.transNo (show Ext No w4 _ from hHeld) hyA
 clear hK K hHeld
 have hHeld := hNew
 clear hNew
 try simp only [Act.put, nzA, nzB, nzC]
 refine hHs [23, 24] ?_
 iterate 2
  refine hTn ?_ hHeld (fun w hSw => ?_) ?_
  rotate_left
  ·go_simp; (try with_reducible rfl)
  simp only [Act.put, nzA, nzB, nzC]
 refine hHe ?_
 refine wpAnyH_done (by kernel_rfl) ?_ _
 go_wp2_with fail
 go_ret
 exact ⟨rfl, HX3.out.transNo (show Ext No w4 _ from hHeld)⟩

/- fixpoint.IsSolution at valid arguments; the law's own example. -/
import Derived.Test.YtkdjdhflhlbelaaF5
import Derived.Test.YtkdjdhflhlbelaaTrC
import Derived.Test.YtkdjdhflhlbelaaF8
set_option linter.unusedVariables false
set_option linter.unusedSimpArgs false
namespace Go.Proofs.Ytkdjdhflhlbelaa
open Go Go.RowKit
theorem no_lt' {n : Nat} : ∀ b, No b → b < n := fun _ e => e.elim
set_option maxHeartbeats 1000000 in
theorem isSol_any (S : SysD) (vd vt vb vv : Value) (vs : List Nat) (W : World) (h : SysAt No W vd vt vb S) (hv : SetsV No W vv S.w vs) (hl : vs.length = S.deps.length) :
  Calls Try.prog 26 #[.agg #[.int .i64 (S.w : Int), vd, vt, vb], vv] W (BoolPost (decide (vs = nextD S vs)) W) := by
 have H := Lib.hid h
 have HV := Lib.hid hv
 have HL := Lib.hid hl
 obtain ⟨ad, cd, at1, ct, ab, cb, rfl, rfl, rfl⟩ := h.slices
 obtain ⟨av, cv, rfl⟩ := hv.slice
 clear h hv hl
 go_enter Try.func26, Try.ntmps26
 go_wp2_with fail
 have hx0 : Ext No W (W.alloc (.cells #[.int .i64 (S.w : Int), .slice ad S.deps.length cd, .slice at1 S.deps.length ct, .slice ab S.deps.length cb] 29)) := (Ext.refl _ _).alloc _
 refine (sysNext_any No S _ _ _ _ vs _ no_lt' (H.out.extNo hx0) (HV.out.extNo hx0) HL.out).mono ?_
 rintro e1 w1 ⟨a1, c1, rfl, hs1, hx1⟩
 have HX := Lib.hid (hx0.transNo hx1)
 clear hx0 hx1
 go_wp2_with fail
 refine (fequal_any S.w vs (nextD S vs) _ _ _ (HV.out.extNo HX.out) hs1.out (by rw [HL.out]; exact (nextTo_len _ _ _).symm)).mono ?_
 rintro e2 w2 ⟨rfl, hx2⟩
 go_wp2_with fail
 go_ret
 exact ⟨rfl, HX.out.transNo hx2⟩
/-! ### the example -/
set_option maxHeartbeats 1000000 in
theorem rident_any (w : Nat) (W : World) (hw : w ≤ 256) : Calls Try.prog 80 #[.int .i64 (w : Int)] W (fun e w' => ∃ g1 g2, e = .returned (.agg #[.int .i64 (w : Int), .slice (some ⟨g1, 0, none⟩) (nw w) (nw w), .int .i64 (w : Int), .slice (some ⟨g2, 0, none⟩) (nw w) (nw w), .slice none 0 0]) ∧ Hid (BlkW w' g1 w 0) ∧ Hid (BlkW w' g2 w 0) ∧ W.heap.size ≤ g1 ∧ W.heap.size ≤ g2 ∧ Ext No W w') := by
 go_enter Try.func80, Try.ntmps80
 go_wp2_with fail
 have hx0 : Ext No W (W.alloc (.cells #[.int .i64 0, .slice none 0 0, .int .i64 0, .slice none 0 0, .slice none 0 0] 70)) := (Ext.refl _ _).alloc _
 have hC := alloc_top (w := W) (o := .cells #[.int .i64 0, .slice none 0 0, .int .i64 0, .slice none 0 0, .slice none 0 0] 70) rfl
 have hsz : (W.alloc (.cells #[.int .i64 0, .slice none 0 0, .int .i64 0, .slice none 0 0, .slice none 0 0] 70)).heap.size = W.heap.size + 1 := by simp
 have HSZ := Lib.hid hsz
 clear hsz
 refine (rempty_any w _ hw).mono ?_
 rintro e1 w1 ⟨g1, rfl, hb1, hlo1, hx1⟩
 have HX1 := Lib.hid (hx0.transNo hx1)
 have HC := Lib.hid (hx1.blk hC no_no)
 have hl1 : Hid (W.heap.size + 1 ≤ g1) := Lib.hid (by rw [← HSZ.out]; exact hlo1)
 clear hx0 hC hx1 hlo1
 go_wp2_with fail
 refine (rempty_any w _ hw).mono ?_
 rintro e2 w2 ⟨g2, rfl, hb2, hlo2, hx2⟩
 have hl2 : Hid (W.heap.size + 1 ≤ g2) := Lib.hid (by have := lt_of_block HC.out; omega)
 have HX2 := Lib.hid (HX1.out.transNo hx2)
 have HC2 := hx2.blk HC.out no_no
 have hb12 := Lib.hid (hx2.blk (hb1.out : w1.heap[g1]? = _) no_no)
 have cC := cellOf HC2
 have fC := freeOf HC2
 clear hx2 hlo2 HC hb1 HX1
 go_wp2_with fail
 have hfin := BoxR.fin5 ⟨_, rfl, HC2⟩ (.int .i64 (w : Int)) (.slice (some ⟨g1, 0, none⟩) (nw w) (nw w)) (.int .i64 (w : Int)) (.slice (some ⟨g2, 0, none⟩) (nw w) (nw w)) (.slice none 0 0)
 have hE := set5 w2 W.heap.size (.int .i64 (w : Int)) (.slice (some ⟨g1, 0, none⟩) (nw w) (nw w)) (.int .i64 (w : Int)) (.slice (some ⟨g2, 0, none⟩) (nw w) (nw w)) (.slice none 0 0)
 clear cC fC
 generalize (((((w2.setCell ⟨W.heap.size, 0, none⟩ (.int .i64 (w : Int))).setCell ⟨W.heap.size, 1, none⟩ (.slice (some ⟨g1, 0, none⟩) (nw w) (nw w))).setCell ⟨W.heap.size, 2, none⟩ (.int .i64 (w : Int))).setCell ⟨W.heap.size, 3, none⟩ (.slice (some ⟨g2, 0, none⟩) (nw w) (nw w))).setCell ⟨W.heap.size, 4, none⟩ (.slice none 0 0)) = WF at *
 have cF := cellOf hfin
 refine ret_ex rfl ?_
 simp [results, Try.results80, go_sem, cF]
 have k1 := hl1.out
 have k2 := hl2.out
 exact ⟨g1, g2, ⟨rfl, rfl⟩, Lib.hid (hE.blk hb12.out (by unfold At; omega)), Lib.hid (hE.blk (hb2.out : w2.heap[g2]? = _) (by unfold At; omega)), by omega, by omega, HX2.out.trans2 hE (fun i hi e => by unfold At at e; omega)⟩
def loopS : SysD := ⟨2, [[0]], [⟨2, 0, 0, []⟩], [0]⟩
theorem idOk2 : TrOk ⟨2, 0, 0, []⟩ := ⟨by decide, by decide, by decide, by decide, fun i h => by simp at h, fun i h => by simp at h⟩
theorem loop_ok : SysOk loopS := ⟨by decide, by decide, by decide, by decide, by decide, fun l hl => by
 simp only [loopS, List.mem_singleton] at hl
 subst hl
 intro i hi
 obtain rfl : i = 0 := by simp [natsZ] at hi; omega
 exact ⟨by simp [natsZ], by simp [natsZ, loopS], fun h => absurd h (Nat.lt_irrefl _)⟩, by decide, fun t ht => by
 simp only [loopS, List.mem_singleton] at ht
 subst ht
 exact ⟨idOk2, rfl⟩, fun m hm => by
 simp only [loopS, List.mem_singleton] at hm
 subst hm
 decide⟩
theorem one_list {β : Type} {K : EK β} {W : World} {g : Nat} {cs : Array Value} {T : TypeId} {p : β} (h : W.heap[g]? = some (.cells cs T (0, 0))) (hc : cs.toList = K.cells p) (hs : cs.size = K.s) (hok : K.ok No W p) : LAt K No W (.slice (some ⟨g, 0, none⟩) 1 1) [p] := by
 refine ⟨?_, fun q hq => by rw [List.mem_singleton.1 hq]; exact hok⟩
 have h1 := Row.block (M := No) (n := 1) (s := K.s) h (by rw [Nat.one_mul]; exact hs) no_no (by decide)
 rw [hc] at h1
 simpa using h1
set_option maxRecDepth 100000 in
set_option maxHeartbeats 2000000 in
theorem loop_any (W : World) : Calls Try.prog 51 #[] W (fun e w' => ∃ vd vt vb, e = .returned (.agg #[.int .i64 2, vd, vt, vb]) ∧ Hid (SysAt No w' vd vt vb loopS) ∧ Ext No W w') := by
 go_enter Try.func51, Try.ntmps51
 go_wp2_with fail
 have hC := alloc_top (w := W) (o := .cells #[.int .i64 0, .slice none 0 0, .slice none 0 0, .slice none 0 0] 29) rfl
 have hx0 : Ext No W (W.alloc (.cells #[.int .i64 0, .slice none 0 0, .slice none 0 0, .slice none 0 0] 29)) := (Ext.refl _ _).alloc _
 obtain ⟨V0, hV0⟩ : ∃ V0, V0 = (W.alloc (.cells #[.int .i64 0, .slice none 0 0, .slice none 0 0, .slice none 0 0] 29)) := ⟨_, rfl⟩
 rw [← hV0] at hC hx0 ⊢
 have hsz : V0.heap.size = W.heap.size + 1 := by rw [hV0]; simp
 clear hV0
 obtain ⟨V2, hV2⟩ : ∃ V2, V2 = ((V0.alloc (.cells #[.int .i64 0] 3)).alloc (.cells #[.slice (some ⟨W.heap.size + 1, 0, none⟩) 1 1] 22)) := ⟨_, rfl⟩
 have hxa : Ext No V0 V2 := by rw [hV2]; exact ((Ext.refl _ _).alloc _).alloc _
 have hD1 : V2.heap[W.heap.size + 1]? = some (.cells #[.int .i64 0] 3 (0, 0)) := by rw [hV2]; exact alloc_under (alloc_top (by omega))
 have hD2 : V2.heap[W.heap.size + 1 + 1]? = some (.cells #[.slice (some ⟨W.heap.size + 1, 0, none⟩) 1 1] 22 (0, 0)) := by rw [hV2]; exact alloc_top (by simp; omega)
 rw [← hV2]
 clear hV2
 refine (rident_any 2 _ (by decide)).mono ?_
 rintro e1 w1 ⟨g1, g2, rfl, hb1, hb2, _, _, hx1⟩
 have hy1 := hx1.alloc (.cells #[.int .i64 2, .slice (some ⟨g1, 0, none⟩) (nw 2) (nw 2), .int .i64 2, .slice (some ⟨g2, 0, none⟩) (nw 2) (nw 2), .slice none 0 0] 70)
 have hz1 : Ext No w1 (w1.alloc (.cells #[.int .i64 2, .slice (some ⟨g1, 0, none⟩) (nw 2) (nw 2), .int .i64 2, .slice (some ⟨g2, 0, none⟩) (nw 2) (nw 2), .slice none 0 0] 70)) := (Ext.refl _ _).alloc _
 have hT := alloc_top (w := w1) (o := (.cells #[.int .i64 2, .slice (some ⟨g1, 0, none⟩) (nw 2) (nw 2), .int .i64 2, .slice (some ⟨g2, 0, none⟩) (nw 2) (nw 2), .slice none 0 0] 70)) rfl
 have hC1 := hy1.blk (hxa.blk hC no_no) no_no
 replace hD1 := hy1.blk hD1 no_no
 replace hD2 := hy1.blk hD2 no_no
 have hb1' : BlkW (w1.alloc (.cells #[.int .i64 2, .slice (some ⟨g1, 0, none⟩) (nw 2) (nw 2), .int .i64 2, .slice (some ⟨g2, 0, none⟩) (nw 2) (nw 2), .slice none 0 0] 70)) g1 2 0 := hz1.blk (hb1.out : w1.heap[g1]? = _) no_no
 have hb2' : BlkW (w1.alloc (.cells #[.int .i64 2, .slice (some ⟨g1, 0, none⟩) (nw 2) (nw 2), .int .i64 2, .slice (some ⟨g2, 0, none⟩) (nw 2) (nw 2), .slice none 0 0] 70)) g2 2 0 := hz1.blk (hb2.out : w1.heap[g2]? = _) no_no
 have hxb := (hx0.transNo hxa).transNo hy1
 clear hy1 hz1 hx1 hb1 hb2 hC hxa hx0
 go_wp2_with fail
 generalize (w1.alloc (.cells #[.int .i64 2, .slice (some ⟨g1, 0, none⟩) (nw 2) (nw 2), .int .i64 2, .slice (some ⟨g2, 0, none⟩) (nw 2) (nw 2), .slice none 0 0] 70)) = V3 at *
 generalize w1.heap.size = BT at *
 refine (rempty_any 2 _ (by decide)).mono ?_
 rintro e4 w4 ⟨g3, rfl, hb3, _, hx4⟩
 have hBS : W.heap.size + 1 < w4.heap.size := by have h1 := lt_of_block hD1; have h2 := hx4.size; omega
 have hy4 := hx4.alloc (.cells #[.int .i64 2, .slice (some ⟨g3, 0, none⟩) (nw 2) (nw 2)] 33)
 have hz4 : Ext No w4 (w4.alloc (.cells #[.int .i64 2, .slice (some ⟨g3, 0, none⟩) (nw 2) (nw 2)] 33)) := (Ext.refl _ _).alloc _
 have hS := alloc_top (w := w4) (o := (.cells #[.int .i64 2, .slice (some ⟨g3, 0, none⟩) (nw 2) (nw 2)] 33)) rfl
 replace hC1 := hy4.blk hC1 no_no
 replace hD1 := hy4.blk hD1 no_no
 replace hD2 := hy4.blk hD2 no_no
 replace hT := hy4.blk hT no_no
 replace hb1' : BlkW (w4.alloc (.cells #[.int .i64 2, .slice (some ⟨g3, 0, none⟩) (nw 2) (nw 2)] 33)) g1 2 0 := hy4.blk (hb1' : V3.heap[g1]? = _) no_no
 replace hb2' : BlkW (w4.alloc (.cells #[.int .i64 2, .slice (some ⟨g3, 0, none⟩) (nw 2) (nw 2)] 33)) g2 2 0 := hy4.blk (hb2' : V3.heap[g2]? = _) no_no
 have hb3' : BlkW (w4.alloc (.cells #[.int .i64 2, .slice (some ⟨g3, 0, none⟩) (nw 2) (nw 2)] 33)) g3 2 0 := hz4.blk (hb3.out : w4.heap[g3]? = _) no_no
 replace hxb := hxb.transNo hy4
 clear hy4 hz4 hx4 hb3
 have cC := cellOf hC1
 have fC := freeOf hC1
 go_wp2_with fail
 generalize (w4.alloc (.cells #[.int .i64 2, .slice (some ⟨g3, 0, none⟩) (nw 2) (nw 2)] 33)) = V5 at *
 generalize w4.heap.size = BS at *
 have hfin := fin4 hC1 (.int .i64 2) (.slice (some ⟨W.heap.size + 1 + 1, 0, none⟩) 1 1) (.slice (some ⟨BT, 0, none⟩) 1 1) (.slice (some ⟨BS, 0, none⟩) 1 1)
 have hE := set4 V5 W.heap.size (.int .i64 2) (.slice (some ⟨W.heap.size + 1 + 1, 0, none⟩) 1 1) (.slice (some ⟨BT, 0, none⟩) 1 1) (.slice (some ⟨BS, 0, none⟩) 1 1)
 clear cC fC
 generalize ((((V5.setCell ⟨W.heap.size, 0, none⟩ (.int .i64 2)).setCell ⟨W.heap.size, 1, none⟩ (.slice (some ⟨W.heap.size + 1 + 1, 0, none⟩) 1 1)).setCell ⟨W.heap.size, 2, none⟩ (.slice (some ⟨BT, 0, none⟩) 1 1)).setCell ⟨W.heap.size, 3, none⟩ (.slice (some ⟨BS, 0, none⟩) 1 1)) = WF at *
 have cF := cellOf hfin
 refine ret_ex rfl ?_
 simp [results, Try.results51, go_sem, cF]
 have kD1 := hE.blk hD1 (by unfold At; omega)
 have kD2 := hE.blk hD2 (by unfold At; omega)
 have hCT : BT ≠ W.heap.size := fun e => by rw [e] at hT; rw [hT] at hC1; cases hC1
 have hCS : BS ≠ W.heap.size := by omega
 have kT1 := hE.blk hT hCT
 have kS1 := hE.blk hS hCS
 have kb1 : BlkW WF g1 2 0 := hE.blk (hb1' : V5.heap[g1]? = _) (fun e => by unfold At at e; rw [e] at hb1'; unfold BlkW at hb1'; rw [hb1'] at hC1; cases hC1)
 have kb2 : BlkW WF g2 2 0 := hE.blk (hb2' : V5.heap[g2]? = _) (fun e => by unfold At at e; rw [e] at hb2'; unfold BlkW at hb2'; rw [hb2'] at hC1; cases hC1)
 have kb3 : BlkW WF g3 2 0 := hE.blk (hb3' : V5.heap[g3]? = _) (fun e => by unfold At at e; rw [e] at hb3'; unfold BlkW at hb3'; rw [hb3'] at hC1; cases hC1)
 have z2 : (0 : Nat) < 2 ^ 2 := by decide
 have LD1 : LAt kD No WF (.slice (some ⟨W.heap.size + 1 + 1, 0, none⟩) 1 1) [([0], .slice (some ⟨W.heap.size + 1, 0, none⟩) 1 1)] := one_list kD2 rfl rfl (Row.block (M := No) (n := 1) (s := 1) kD1 rfl no_no (by decide))
 have LT1 : LAt kT No WF (.slice (some ⟨BT, 0, none⟩) 1 1) [(rawT ⟨2, 0, 0, []⟩, .slice (some ⟨g1, 0, none⟩) (nw 2) (nw 2), .slice (some ⟨g2, 0, none⟩) (nw 2) (nw 2), .slice none 0 0)] := one_list kT1 rfl rfl ⟨(kb1.set (by decide) z2 no_no).words, (kb2.set (by decide) z2 no_no).words, Row.nil _ _ _ _ _ (by omega)⟩
 have LS1 : LAt kS No WF (.slice (some ⟨BS, 0, none⟩) 1 1) [(setN 2 0, .slice (some ⟨g3, 0, none⟩) (nw 2) (nw 2))] := one_list kS1 rfl rfl (kb3.set (by decide) z2 no_no).words
 exact ⟨_, _, _, ⟨rfl, rfl, rfl⟩, Lib.hid ⟨loop_ok, _, _, _, ⟨LD1, LT1, LS1⟩, rfl, rfl, rfl⟩, hxb.trans2 hE (fun i hi e => by unfold At at e; omega)⟩
end Go.Proofs.Ytkdjdhflhlbelaa

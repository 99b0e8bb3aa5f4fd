/- Right of the reference. -/
import Derived.Test.YtkdjdhflhlbelaaI1
import Derived.Test.YtkdjdhflhlbelaaI2
import Derived.Test.YtkdjdhflhlbelaaI3
set_option linter.unusedVariables false
set_option linter.unusedSimpArgs false
namespace Go.Proofs.Ytkdjdhflhlbelaa
open Go Go.RowKit
/-- an answer with an error and a zero value -/
def ErrPost (z : Value) (E : Int) (W : World) (e : Ending) (w' : World) : Prop := e = .returned (.tuple #[z, .int .i64 E]) ∧ Ext No W w'
theorem rvalidSys_yes (S : SysD) (vd vt vb : Value) (W : World) (h : SysAt No W vd vt vb S) :
    Calls Try.prog 58 #[.agg #[.int .i64 (S.w : Int), vd, vt, vb]] W (BoolPost true W) := by
  obtain ⟨Ld, Lt, Lb, h1, h2⟩ := h.vs
  refine (rvalidSys_any _ _ _ _ Ld Lt Lb W h1).mono ?_
  rintro e w' ⟨b, rfl, hb, hx⟩
  exact ⟨by rw [tells_t hb h2], hx⟩
def zeroSv : Value := .agg #[.int .i64 0, .slice none 0 0]
set_option maxRecDepth 100000 in
set_option maxHeartbeats 2000000 in
theorem rRight_inv (x : Int) (vd vt vb vv : Value) (Ld : LD) (Lt : LT) (Lb : LS) (n : Int) (W : World) (h : YAt No W vd vt vb Ld Lt Lb) (hn : ¬ VS x Ld Lt Lb) :
    Calls Try.prog 103 #[.agg #[.int .i64 x, vd, vt, vb], vv, .int .i64 n] W (ErrPost zeroSv 1 W) := by
  have H := Lib.hid h
  obtain ⟨ad, cd, rfl⟩ := h.d.slice
  obtain ⟨at1, ct, rfl⟩ := h.t.slice
  obtain ⟨ab, cb, rfl⟩ := h.b.slice
  clear h
  go_enter Try.func103, Try.ntmps103
  go_wp2_with fail
  have hx0 : Ext No W ((W.alloc (.cells #[.int .i64 x, .slice ad Ld.length cd, .slice at1 Lt.length ct, .slice ab Lb.length cb] 29)).alloc (.cells #[.int .i64 0, .slice none 0 0] 33)) := ((Ext.refl _ _).alloc _).alloc _
  have HC := Lib.hid (show ((W.alloc (.cells #[.int .i64 x, .slice ad Ld.length cd, .slice at1 Lt.length ct, .slice ab Lb.length cb] 29)).alloc (.cells #[.int .i64 0, .slice none 0 0] 33)).heap[W.heap.size + 1]? = some (.cells #[.int .i64 0, .slice none 0 0] 33 (0, 0)) from alloc_top (by simp))
  generalize ((W.alloc (.cells #[.int .i64 x, .slice ad Ld.length cd, .slice at1 Lt.length ct, .slice ab Lb.length cb] 29)).alloc (.cells #[.int .i64 0, .slice none 0 0] 33)) = w2 at *
  refine (rvalidSys_any x _ _ _ Ld Lt Lb _ (H.out.extNo hx0)).mono ?_
  rintro e1 w1 ⟨b1, rfl, hb1, hx1⟩
  obtain rfl := tells_f hb1 hn
  have hx := hx0.transNo hx1
  have hC := hx1.blk HC.out no_no
  have cC := cellOf hC
  have fC := freeOf hC
  have hs := lt_of_block hC
  clear hb1 hx0 hx1
  go_wp2_with fail
  refine ret_ex rfl ?_
  simp [results, Try.results103, go_sem, cC]
  exact ⟨rfl, ext2 hx (by omega)⟩
set_option maxRecDepth 100000 in
set_option maxHeartbeats 2000000 in
theorem rRight_val (S : SysD) (vd vt vb vv : Value) (Lv : LS) (n : Nat) (W : World) (h : SysAt No W vd vt vb S) (hv : LAt kS No W vv Lv) (hn : n < S.deps.length) (hE : valE (S.w : Int) S.deps.length Lv ≠ 0) :
    Calls Try.prog 103 #[.agg #[.int .i64 (S.w : Int), vd, vt, vb], vv, .int .i64 (n : Int)] W (ErrPost zeroSv (valE (S.w : Int) S.deps.length Lv) W) := by
  have H := Lib.hid h
  have HV := Lib.hid hv
  have hnn := h.ok.n2
  obtain ⟨ad, cd, at1, ct, ab, cb, rfl, rfl, rfl⟩ := h.slices
  obtain ⟨av, cv, rfl⟩ := hv.slice
  have hn1 : (n : Int) < (S.deps.length : Int) := by omega
  have hn0 : (0 : Int) ≤ (n : Int) := by omega
  obtain ⟨E, hEE⟩ : ∃ E, E = valE (S.w : Int) S.deps.length Lv := ⟨_, rfl⟩
  rw [← hEE] at hE ⊢
  have HE := Lib.hid hEE
  clear h hv hEE
  have hne : (E != 0) = true := by simp [hE]
  have heq : (E == 0) = false := by simp [hE]
  go_enter Try.func103, Try.ntmps103
  go_wp2_with fail
  have hx0 : Ext No W ((W.alloc (.cells #[.int .i64 (S.w : Int), .slice ad S.deps.length cd, .slice at1 S.deps.length ct, .slice ab S.deps.length cb] 29)).alloc (.cells #[.int .i64 0, .slice none 0 0] 33)) := ((Ext.refl _ _).alloc _).alloc _
  have HA := Lib.hid (show ((W.alloc (.cells #[.int .i64 (S.w : Int), .slice ad S.deps.length cd, .slice at1 S.deps.length ct, .slice ab S.deps.length cb] 29)).alloc (.cells #[.int .i64 0, .slice none 0 0] 33)).heap[W.heap.size]? = some (.cells #[.int .i64 (S.w : Int), .slice ad S.deps.length cd, .slice at1 S.deps.length ct, .slice ab S.deps.length cb] 29 (0, 0)) from alloc_under (alloc_top rfl))
  have HC := Lib.hid (show ((W.alloc (.cells #[.int .i64 (S.w : Int), .slice ad S.deps.length cd, .slice at1 S.deps.length ct, .slice ab S.deps.length cb] 29)).alloc (.cells #[.int .i64 0, .slice none 0 0] 33)).heap[W.heap.size + 1]? = some (.cells #[.int .i64 0, .slice none 0 0] 33 (0, 0)) from alloc_top (by simp))
  generalize ((W.alloc (.cells #[.int .i64 (S.w : Int), .slice ad S.deps.length cd, .slice at1 S.deps.length ct, .slice ab S.deps.length cb] 29)).alloc (.cells #[.int .i64 0, .slice none 0 0] 33)) = w2 at *
  refine (rvalidSys_yes S _ _ _ _ (H.out.extNo hx0)).mono ?_
  rintro e1 w1 ⟨rfl, hx1⟩
  have HX := Lib.hid (hx0.transNo hx1)
  have HA1 := Lib.hid (hx1.blk HA.out no_no)
  have HC1 := Lib.hid (hx1.blk HC.out no_no)
  have cA := cellOf HA1.out
  clear hx0 hx1 HA HC
  go_wp2_with fail
  refine (rvalues_any (S.w : Int) _ _ _ _ _ _ _ _ _ _ Lv _ (HV.out.extNo HX.out)).mono ?_
  rintro e3 w3 ⟨rfl, hx3⟩
  rw [← HE.out]
  have hx := HX.out.transNo hx3
  have hC := hx3.blk HC1.out no_no
  have cC := cellOf hC
  have fC := freeOf hC
  have hs := lt_of_block hC
  clear cA hx3
  go_wp2_with fail
  refine ret_ex rfl ?_
  simp [results, Try.results103, go_sem, cC]
  exact ⟨rfl, ext2 hx (by omega)⟩
set_option maxRecDepth 100000 in
set_option maxHeartbeats 2000000 in
theorem rRight_any (M : Nat → Prop) (S : SysD) (vd vt vb vv : Value) (vs : List Nat) (n : Nat) (W : World) (hM : ∀ b, M b → b < W.heap.size) (h : SysAt M W vd vt vb S) (hv : SetsV No W vv S.w vs) (hl : vs.length = S.deps.length) (hn : n < S.deps.length) :
    Calls Try.prog 103 #[.agg #[.int .i64 (S.w : Int), vd, vt, vb], vv, .int .i64 (n : Int)] W (SetEPost M S.w (rightD S vs n) W) := by
  have H := Lib.hid h
  have HV := Lib.hid hv
  have HM := Lib.hid hM
  have HL := Lib.hid hl
  have HN := Lib.hid hn
  have hnn := h.ok.n2
  obtain ⟨ad, cd, at1, ct, ab, cb, rfl, rfl, rfl⟩ := h.slices
  obtain ⟨av, cv, rfl⟩ := hv.slice
  have hn1 : (n : Int) < (S.deps.length : Int) := by omega
  have hn0 : (0 : Int) ≤ (n : Int) := by omega
  obtain ⟨Lv, hLv, hLm, hLl⟩ := hv.list
  have hE : valE (S.w : Int) S.deps.length Lv = 0 := valE_ok (by omega) (fun p hp => (set_of_map hLm hv.hw hv.hm p hp).1) (fun p hp => (set_of_map hLm hv.hw hv.hm p hp).2)
  have HE := Lib.hid hE
  have HLV := Lib.hid hLv
  clear h hv hM hl hn hLv hLm hLl hE
  go_enter Try.func103, Try.ntmps103
  go_wp2_with fail
  have hx0 : Ext No W ((W.alloc (.cells #[.int .i64 (S.w : Int), .slice ad S.deps.length cd, .slice at1 S.deps.length ct, .slice ab S.deps.length cb] 29)).alloc (.cells #[.int .i64 0, .slice none 0 0] 33)) := ((Ext.refl _ _).alloc _).alloc _
  have HA := Lib.hid (show ((W.alloc (.cells #[.int .i64 (S.w : Int), .slice ad S.deps.length cd, .slice at1 S.deps.length ct, .slice ab S.deps.length cb] 29)).alloc (.cells #[.int .i64 0, .slice none 0 0] 33)).heap[W.heap.size]? = some (.cells #[.int .i64 (S.w : Int), .slice ad S.deps.length cd, .slice at1 S.deps.length ct, .slice ab S.deps.length cb] 29 (0, 0)) from alloc_under (alloc_top rfl))
  have HC := Lib.hid (show ((W.alloc (.cells #[.int .i64 (S.w : Int), .slice ad S.deps.length cd, .slice at1 S.deps.length ct, .slice ab S.deps.length cb] 29)).alloc (.cells #[.int .i64 0, .slice none 0 0] 33)).heap[W.heap.size + 1]? = some (.cells #[.int .i64 0, .slice none 0 0] 33 (0, 0)) from alloc_top (by simp))
  generalize ((W.alloc (.cells #[.int .i64 (S.w : Int), .slice ad S.deps.length cd, .slice at1 S.deps.length ct, .slice ab S.deps.length cb] 29)).alloc (.cells #[.int .i64 0, .slice none 0 0] 33)) = w2 at *
  refine (rvalidSys_yes S _ _ _ _ (H.out.no.extNo hx0)).mono ?_
  rintro e1 w1 ⟨rfl, hx1⟩
  have HX := Lib.hid (hx0.transNo hx1)
  have HA1 := Lib.hid (hx1.blk HA.out no_no)
  have HC1 := Lib.hid (hx1.blk HC.out no_no)
  have cA := cellOf HA1.out
  clear hx0 hx1 HA HC
  go_wp2_with fail
  refine (rvalues_any (S.w : Int) _ _ _ _ _ _ _ _ _ _ Lv _ (HLV.out.extNo HX.out)).mono ?_
  rintro e3 w3 ⟨rfl, hx3⟩
  rw [HE.out]
  have HX3 := Lib.hid (HX.out.transNo hx3)
  have HA3 := Lib.hid (hx3.blk HA1.out no_no)
  have HC3 := Lib.hid (hx3.blk HC1.out no_no)
  clear cA hx3 HX HA1 HC1
  have cA := cellOf HA3.out
  have hsC := lt_of_block HC3.out
  go_wp2_with fail
  refine (rright_any (fun b => M b ∨ b = W.heap.size + 1) S _ _ _ _ vs n _ (fun b hb => by rcases hb with hb | hb; (have := HM.out b hb; omega); omega) ((H.out.mono (M' := fun b => M b ∨ b = W.heap.size + 1) (fun i hi e => by rcases e with e | e; exact e; omega)).extNo HX3.out) (HV.out.extNo HX3.out) HL.out HN.out).mono ?_
  rintro e4 w4 ⟨a4, c4, rfl, hs4, hx4⟩
  have hx := HX3.out.transNo hx4
  have hC := hx4.blk HC3.out no_no
  have cC := cellOf hC
  have fC := freeOf hC
  have hs := lt_of_block hC
  have hE2 : Ext (At (W.heap.size + 1)) w4 ((w4.setCell ⟨W.heap.size + 1, 0, none⟩ (.int .i64 (S.w : Int))).setCell ⟨W.heap.size + 1, 1, none⟩ (.slice a4 (nw S.w) c4)) := ext_two (Ext.refl No w4) _
  have hbF := (set_same (j := 1) (u := .slice a4 (nw S.w) c4) (set_same (j := 0) (u := .int .i64 (S.w : Int)) hC)).trans rfl
  clear cA hx4
  go_wp2_with fail
  generalize ((w4.setCell ⟨W.heap.size + 1, 0, none⟩ (.int .i64 (S.w : Int))).setCell ⟨W.heap.size + 1, 1, none⟩ (.slice a4 (nw S.w) c4)) = WF at *
  have cF := cellOf hbF
  refine ret_ex rfl ?_
  simp [results, Try.results103, go_sem, cF]
  exact ⟨a4, c4, rfl, Lib.hid ((hs4.out.ext hE2 (fun i _ e => .inr e)).mono (fun i _ e => .inl e)), hx.trans2 hE2 (fun i hi e => by unfold At at e; omega)⟩
end Go.Proofs.Ytkdjdhflhlbelaa

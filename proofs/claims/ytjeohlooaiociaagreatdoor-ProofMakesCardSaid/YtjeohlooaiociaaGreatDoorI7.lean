
import Derived.Test.YtjeohlooaiociaaGreatDoorI8
set_option linter.unusedVariables false
set_option linter.unusedSimpArgs false
namespace Go.Proofs.YtjeohlooaiociaaGreatDoor
open Go Go.RowKit
set_option maxRecDepth 100000 in
set_option maxHeartbeats 4000000 in
theorem rSolve_any (M : Nat → Prop) (S : SysD) (vd vt vb : Value) (W : World) (hM : ∀ b, M b → b < W.heap.size) (h : SysAt M W vd vt vb S) :
  Calls Tryz.prog 41 #[.agg #[.int .i64 (S.w : Int), vd, vt, vb]] W (SolvePost M S W) := by
 have H := Lib.hid h
 have HM := Lib.hid hM
 have hok := h.ok
 have hn := hok.n2
 have HOK := Lib.hid hok
 obtain ⟨R, hR, hRle⟩ := fix_ex hok
 have HR := Lib.hid hR
 have hRb : R ≤ 65536 := Nat.le_trans hRle (Nat.le_trans (Nat.mul_le_mul hn hok.w) (by decide))
 obtain ⟨ad, cd, at1, ct, ab, cb, rfl, rfl, rfl⟩ := h.slices
 clear h hM hok hR hRle
 go_enter Tryz.func41, Tryz.ntmps41
 go_wp2_with fail
 have hx0 : Ext No W (W.alloc (.cells #[.int .i64 (S.w : Int), .slice ad S.deps.length cd, .slice at1 S.deps.length ct, .slice ab S.deps.length cb] 27)) := (Ext.refl _ _).alloc _
 refine (rvalidSys_yes S _ _ _ _ (H.out.no.extNo hx0)).mono ?_
 rintro e1 w1 ⟨rfl, hx1⟩
 have HA := Lib.hid (hx1.blk (alloc_top (w := W) (o := (.cells #[.int .i64 (S.w : Int), .slice ad S.deps.length cd, .slice at1 S.deps.length ct, .slice ab S.deps.length cb] 27)) rfl) no_no)
 have HX := Lib.hid (hx0.transNo hx1)
 clear hx0 hx1
 have cA := cellOf HA.out
 go_wp2_with fail
 clear cA
 refine (rEmptyV_any M S _ _ _ _ (fun b hb => Nat.lt_of_lt_of_le (HM.out b hb) HX.out.size) (H.out.no.extNo HX.out)).mono ?_
 rintro e2 w2 ⟨a2, c2, rfl, hs2, hx2⟩
 rw [show (zerosD S).length = S.deps.length from by simp [zerosD]] at hs2 ⊢
 have HS2 := Lib.hid (show SetsV M w2 _ S.w (iterD S 0) from hs2.out)
 have HA2 := Lib.hid (hx2.blk HA.out no_no)
 have HX2 := Lib.hid (HX.out.transNo hx2)
 clear hs2 hx2 HA HX
 go_wp2_with fail
 go_loopw [5, 6, 7, 8] (fun s5 s6 _ _ wr => ∃ (k : Nat) (a : Option Addr) (c : Nat), s5 = .slice a S.deps.length c ∧ s6 = .int .i64 k ∧ k ≤ R ∧ Hid (SetsV M wr (.slice a S.deps.length c) S.w (iterD S k)) ∧ Hid (∀ j, j < k → iterD S (j + 1) ≠ iterD S j) ∧ Hid (Ext No W wr) ∧ Hid (wr.heap[W.heap.size]? = some (.cells #[.int .i64 (S.w : Int), .slice ad S.deps.length cd, .slice at1 S.deps.length ct, .slice ab S.deps.length cb] 27 (0, 0)))) (fun _ s6 _ _ _ => R - (intOf s6).toNat)
 case atStart => exact ⟨0, a2, c2, rfl, rfl, Nat.zero_le _, HS2, Lib.hid (fun j hj => absurd hj (Nat.not_lt_zero _)), HX2, HA2⟩
 clear HS2 HX2 HA2
 obtain ⟨k, a3, c3, rfl, rfl, hk, hs3, hne, hx, hA⟩ := hrel
 rename World => wr
 have cA := cellOf hA.out
 go_wp2_with fail
 clear cA
 refine (rNext_any M S _ _ _ _ (iterD S k) _ (fun b hb => Nat.lt_of_lt_of_le (HM.out b hb) hx.out.size) (H.out.extNo hx.out) hs3.out.no (good_iter HOK.out k).len).mono ?_
 rintro e4 w4 ⟨a4, c4, rfl, hs4, hx4⟩
 rw [show (nextD S (iterD S k)).length = S.deps.length from nextTo_len _ _ _] at hs4 ⊢
 have HS4 := Lib.hid (show SetsV M w4 _ S.w (iterD S (k + 1)) from hs4.out)
 have HS3 := Lib.hid (hs3.out.extNo hx4)
 have HX4 := Lib.hid (hx.out.transNo hx4)
 have HA4 := Lib.hid (hx4.blk hA.out no_no)
 have hl1 := (good_iter HOK.out (k + 1)).len
 have HL1 := Lib.hid hl1
 clear hs4 hs3 hx hx4 hA hl1
 go_wp2_with fail
 refine (rsameSets_any S.w (iterD S (k + 1)) (iterD S k) _ _ _ HS4.out.no HS3.out.no (by rw [HL1.out]; omega)).mono ?_
 rintro e5 w5 ⟨rfl, hx5⟩
 by_cases he : iterD S (k + 1) = iterD S k
 ·rw [decide_eq_true he]
  have HE := Lib.hid he
  clear he
  go_wp2_with fail
  have hRk : k = R := HR.out.eq hne.out HE.out
  subst hRk
  refine ret_ex rfl ?_
  simp [results, Tryz.results41, go_sem]
  exact ⟨k, a3, c3, HR.out, rfl, Lib.hid (HS3.out.extNo hx5), HX4.out.transNo hx5⟩
 rw [decide_eq_false he]
 have HE := Lib.hid he
 have hkR : k < R := by
  rcases Nat.lt_or_ge k R with h | h
  ·exact h
  exfalso
  have : k = R := by omega
  subst this
  exact he HR.out.fix
 clear he
 have hadd : IntKind.i64.wrap ((k : Int) + 1) = ((k + 1 : Nat) : Int) := by rw [IntWalk.i64_in _ (by omega)]; omega
 go_wp2_with fail
 go_roundw
 case rel => exact ⟨k + 1, a4, c4, rfl, by go_num, by omega, Lib.hid (HS4.out.extNo hx5), Lib.hid (fun j hj => by
  by_cases e : j = k
  ·subst e; exact HE.out
  exact hne.out j (by omega)), Lib.hid (HX4.out.transNo hx5), Lib.hid (hx5.blk HA4.out no_no)⟩
 case measure => simp [intOf]; omega
set_option maxRecDepth 100000 in
set_option maxHeartbeats 2000000 in
theorem rIsAbove_val (S : SysD) (vd vt vb vv : Value) (Lv : LS) (W : World) (h : SysAt No W vd vt vb S) (hv : LAt kS No W vv Lv) (hE : valE (S.w : Int) S.deps.length Lv ≠ 0) :
  Calls Tryz.prog 54 #[.agg #[.int .i64 (S.w : Int), vd, vt, vb], vv] W (BoolPost false W) := by
 have H := Lib.hid h
 have HV := Lib.hid hv
 obtain ⟨ad, cd, at1, ct, ab, cb, rfl, rfl, rfl⟩ := h.slices
 obtain ⟨av, cv, rfl⟩ := hv.slice
 obtain ⟨E, hEE⟩ : ∃ E, E = valE (S.w : Int) S.deps.length Lv := ⟨_, rfl⟩
 rw [← hEE] at hE
 have HEE := Lib.hid hEE
 have hne : (E != 0) = true := by simp [hE]
 have heq : (E == 0) = false := by simp [hE]
 clear h hv hEE
 go_enter Tryz.func54, Tryz.ntmps54
 go_wp2_with fail
 have hx0 : Ext No W (W.alloc (.cells #[.int .i64 (S.w : Int), .slice ad S.deps.length cd, .slice at1 S.deps.length ct, .slice ab S.deps.length cb] 27)) := (Ext.refl _ _).alloc _
 refine (rvalidSys_yes S _ _ _ _ (H.out.extNo hx0)).mono ?_
 rintro e1 w1 ⟨rfl, hx1⟩
 have cA := cellOf (hx1.blk (alloc_top (w := W) (o := (.cells #[.int .i64 (S.w : Int), .slice ad S.deps.length cd, .slice at1 S.deps.length ct, .slice ab S.deps.length cb] 27)) rfl) no_no)
 have HX := Lib.hid (hx0.transNo hx1)
 clear hx0 hx1
 go_wp2_with fail
 clear cA
 refine (rvalues_any (S.w : Int) _ _ _ _ _ _ _ _ _ _ Lv _ (HV.out.extNo HX.out)).mono ?_
 rintro e3 w3 ⟨rfl, hx3⟩
 rw [← HEE.out]
 go_wp2_with fail
 go_ret
 exact ⟨rfl, HX.out.transNo hx3⟩
set_option maxRecDepth 100000 in
set_option maxHeartbeats 4000000 in
theorem rIsAbove_any (S : SysD) (vd vt vb vv : Value) (vs : List Nat) (W : World) (h : SysAt No W vd vt vb S) (hv : SetsV No W vv S.w vs) (hl : vs.length = S.deps.length) :
  Calls Tryz.prog 54 #[.agg #[.int .i64 (S.w : Int), vd, vt, vb], vv] W (Tells (LeV S (nextD S vs) vs) W) := by
 have H := Lib.hid h
 have HV := Lib.hid hv
 have HL := Lib.hid hl
 have hnn := h.ok.n2
 obtain ⟨ad, cd, at1, ct, ab, cb, rfl, rfl, rfl⟩ := h.slices
 obtain ⟨av, cv, rfl⟩ := hv.slice
 obtain ⟨Lv, hLv, hLm, hLl⟩ := hv.list
 have hE : valE (S.w : Int) S.deps.length Lv = 0 := valE_ok (by omega) (fun p hp => (set_of_map hLm hv.hw hv.hm p hp).1) (fun p hp => (set_of_map hLm hv.hw hv.hm p hp).2)
 have HE := Lib.hid hE
 have HLV := Lib.hid hLv
 clear h hv hl hLv hLm hLl hE
 go_enter Tryz.func54, Tryz.ntmps54
 go_wp2_with fail
 have hx0 : Ext No W (W.alloc (.cells #[.int .i64 (S.w : Int), .slice ad S.deps.length cd, .slice at1 S.deps.length ct, .slice ab S.deps.length cb] 27)) := (Ext.refl _ _).alloc _
 refine (rvalidSys_yes S _ _ _ _ (H.out.extNo hx0)).mono ?_
 rintro e1 w1 ⟨rfl, hx1⟩
 have HA := Lib.hid (hx1.blk (alloc_top (w := W) (o := (.cells #[.int .i64 (S.w : Int), .slice ad S.deps.length cd, .slice at1 S.deps.length ct, .slice ab S.deps.length cb] 27)) rfl) no_no)
 have HX1 := Lib.hid (hx0.transNo hx1)
 have cA := cellOf HA.out
 clear hx0 hx1
 go_wp2_with fail
 clear cA
 refine (rvalues_any (S.w : Int) _ _ _ _ _ _ _ _ _ _ Lv _ (HLV.out.extNo HX1.out)).mono ?_
 rintro e3 w3 ⟨rfl, hx3⟩
 rw [HE.out]
 have HA3 := Lib.hid (hx3.blk HA.out no_no)
 have HX := Lib.hid (HX1.out.transNo hx3)
 clear hx3 HX1 HA
 go_wp2_with fail
 go_loopw [5] (fun i wr => ∃ k : Nat, i = .int .i64 k ∧ k ≤ S.deps.length ∧ Hid (Ext No w3 wr) ∧ Hid (∀ j, j < k → LeB (rowD (nextD S vs) j) (rowD vs j))) (fun i _ => S.deps.length - (intOf i).toNat)
 case atStart => exact ⟨0, rfl, Nat.zero_le _, Lib.hid (Ext.refl _ _), Lib.hid (fun j hj => absurd hj (Nat.not_lt_zero _))⟩
 obtain ⟨k, rfl, hk, hx, hm⟩ := hrel
 rename World => wr
 by_cases hlt : k < S.deps.length
 ·have hlz : (k : Int) < (S.deps.length : Int) := by omega
  obtain ⟨p1, p2, p3, p4, p5, hve, hcl2, hq2⟩ := (HV.out.extNo (HX.out.transNo hx.out)).cells (i := k) (by rw [HL.out]; exact hlt)
  simp only [Value.slice.injEq] at hve
  obtain ⟨rfl, -, rfl⟩ := hve
  have hlv : (k : Int) < (vs.length : Int) := by rw [HL.out]; exact hlz
  have HQ2 := Lib.hid hcl2
  have HB := Lib.hid (hx.out.blk HA3.out no_no)
  have HRW : Hid (rowD (nextD S vs) k = rightD S vs k) := Lib.hid (nextTo_row hlt)
  clear hcl2
  cases hs : subN (rowD (nextD S vs) k) (rowD vs k) with
  | true =>
   have HS := Lib.hid hs
   clear hs
   go_upto_region 6 with (fail)
   refine wp_region_held_drew (S := (fun w' => Ext No wr w')) (by kernel_rfl) ?_ (fun hHeld => ?_)
   ·exact (Ext.refl _ _).drew
   refine hHs [0, 1, 2, 4, 5, 6] ?_
   iterate 6
    refine hTn ?_ hHeld (fun w hSw => ?_) ?_
    rotate_left
    ·(have hEs : Ext No wr _ := hSw); (have q0 := cellOf (hEs.blk HB.out no_no)); go_simp; (try with_reducible rfl)
    simp only [Act.put, nzA, nzB, nzC]
   refine hHe ?_
   refine hTk 7 ?_ hHeld (fun w hSw => ?_) ?_
   rotate_left
   ·(have hEs : Ext No wr _ := hSw); (obtain ⟨p0, p1⟩ := HQ2.out); (have x0 := hEs.keep p0); (have x1 := hEs.keep p1); go_simp; (try with_reducible rfl)
   simp only [Act.put, nzA, nzB, nzC]
   refine hHc 3 fun K hK => ?_
   ((have hEx : Ext No wr _ := hHeld); go_simp; (go_at_call 97); (refine (rright_any No S _ _ _ _ vs k _ (fun _ e => e.elim) (H.out.extNo (HX.out.transNo (hx.out.transNo hEx))) (HV.out.extNo (HX.out.transNo (hx.out.transNo hEx))) HL.out hlt).mono ?_); (rintro e8 w8 ⟨a8, c8, rfl, hs8, hyA⟩); (rw [← HRW.out] at hs8); go_simp)
   refine hK.out _ _ ?_ ?_
   ·exact Ext.transNo (show Ext No wr _ from hHeld) hyA
   clear hK K hHeld
   intro hHeld
   try simp only [Act.put, nzA, nzB, nzC]
   refine hHc 8 fun K hK => ?_
   ((have hEx : Ext No wr _ := hHeld); go_simp; (go_at_call 96); (refine (rsubset_any S.w (rowD (nextD S vs) k) (rowD vs k) _ _ _ hs8.out (hq2.out.extNo hEx)).mono ?_); (rintro e9 w9 ⟨rfl, hyA⟩); (rw [HS.out]); go_simp)
   refine hK.out _ _ ?_ ?_
   ·exact Ext.transNo (show Ext No wr _ from hHeld) hyA
   clear hK K hHeld
   intro hHeld
   try simp only [Act.put, nzA, nzB, nzC]
   refine hTk 9 ?_ hHeld (fun w hSw => ?_) ?_
   rotate_left
   ·go_simp; (try with_reducible rfl)
   simp only [Act.put, nzA, nzB, nzC]
   refine wpAnyH_done (by kernel_rfl) ?_ _
   have hEx : Ext No wr _ := hHeld
   go_wp2_with fail
   go_roundw
   case rel => exact ⟨k + 1, by go_num, by omega, Lib.hid (hx.out.transNo hEx), Lib.hid (fun j hj => by
    by_cases e : j = k
    ·subst e; exact le_of_sub HS.out
    exact hm.out j (by omega))⟩
   case measure => simp [intOf]; omega
  | false =>
   have HS := Lib.hid hs
   clear hs
   go_upto_region 6 with (fail)
   refine wp_region_held_drew (S := (fun w' => Ext No wr w')) (by kernel_rfl) ?_ (fun hHeld => ?_)
   ·exact (Ext.refl _ _).drew
   refine hHs [0, 1, 2, 4, 5, 6] ?_
   iterate 6
    refine hTn ?_ hHeld (fun w hSw => ?_) ?_
    rotate_left
    ·(have hEs : Ext No wr _ := hSw); (have q0 := cellOf (hEs.blk HB.out no_no)); go_simp; (try with_reducible rfl)
    simp only [Act.put, nzA, nzB, nzC]
   refine hHe ?_
   refine hTk 7 ?_ hHeld (fun w hSw => ?_) ?_
   rotate_left
   ·(have hEs : Ext No wr _ := hSw); (obtain ⟨p0, p1⟩ := HQ2.out); (have x0 := hEs.keep p0); (have x1 := hEs.keep p1); go_simp; (try with_reducible rfl)
   simp only [Act.put, nzA, nzB, nzC]
   refine hHc 3 fun K hK => ?_
   ((have hEx : Ext No wr _ := hHeld); go_simp; (go_at_call 97); (refine (rright_any No S _ _ _ _ vs k _ (fun _ e => e.elim) (H.out.extNo (HX.out.transNo (hx.out.transNo hEx))) (HV.out.extNo (HX.out.transNo (hx.out.transNo hEx))) HL.out hlt).mono ?_); (rintro e8 w8 ⟨a8, c8, rfl, hs8, hyA⟩); (rw [← HRW.out] at hs8); go_simp)
   refine hK.out _ _ ?_ ?_
   ·exact Ext.transNo (show Ext No wr _ from hHeld) hyA
   clear hK K hHeld
   intro hHeld
   try simp only [Act.put, nzA, nzB, nzC]
   refine hHc 8 fun K hK => ?_
   ((have hEx : Ext No wr _ := hHeld); go_simp; (go_at_call 96); (refine (rsubset_any S.w (rowD (nextD S vs) k) (rowD vs k) _ _ _ hs8.out (hq2.out.extNo hEx)).mono ?_); (rintro e9 w9 ⟨rfl, hyA⟩); (rw [HS.out]); go_simp)
   refine hK.out _ _ ?_ ?_
   ·exact Ext.transNo (show Ext No wr _ from hHeld) hyA
   clear hK K hHeld
   intro hHeld
   try simp only [Act.put, nzA, nzB, nzC]
   refine hTk 9 ?_ hHeld (fun w hSw => ?_) ?_
   rotate_left
   ·go_simp; (try with_reducible rfl)
   simp only [Act.put, nzA, nzB, nzC]
   refine wpAnyH_done (by kernel_rfl) ?_ _
   have hEx : Ext No wr _ := hHeld
   go_wp2_with fail
   go_ret
   exact tells_false (fun e => by have := sub_of_le (e k hlt); rw [HS.out] at this; cases this) (HX.out.transNo (hx.out.transNo hEx))
 have hge : ¬ (k : Int) < (vs.length : Int) := by rw [HL.out]; omega
 have hge2 : ¬ (k : Int) < (S.deps.length : Int) := by omega
 go_wp2_with fail
 go_ret
 exact tells_true (fun i hi => hm.out i (by omega)) (HX.out.transNo hx.out)

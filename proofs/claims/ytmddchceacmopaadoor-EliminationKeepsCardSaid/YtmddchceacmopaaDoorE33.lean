
import Derived.Test.YtmddchceacmopaaDoorE30
set_option linter.unusedVariables false
set_option linter.unusedSimpArgs false
namespace Go.Proofs.YtmddchceacmopaaDoor
open Go Go.RowKit
theorem eliminateW_q (S Q : WebD) (n : Nat) (vb vi : Value) (W : World) (hQ : Q = elimW S n) (h8 : WebOk8 S) (h : WbAt No W vb vi S) (hT : TabW W) (hn : n < S.ins.length) :
  Calls Tryd.prog 7 #[.agg #[.int .i64 (S.w : Int), vb, vi], .int .i64 (n : Int)] W (EWPost Q W) := by
 subst hQ
 exact eliminateW_any S n vb vi W h8 h hT hn
set_option maxRecDepth 100000 in
set_option maxHeartbeats 8000000 in
theorem eliminationKeeps_any (tl : Value) (zs : List Int) (w : World) (hT : TabW w) (ht : Ints No w .i64 tl zs) : Calls Tryd.prog 4 #[tl] w (BoolPost true w) := by
 have HT := Lib.hid ht
 have HTB := Lib.hid hT
 obtain ⟨at', ct', rfl⟩ := Row.slice ht
 clear ht hT
 go_enter Tryd.func4, Tryd.ntmps4
 go_wp2_with fail
 refine (new_any _ zs _ HT.out).mono ?_
 rintro e0 w0 ⟨rfl, ht0, hx0, hs0⟩
 obtain ⟨tb, htb⟩ : ∃ tb, tb = w.heap.size := ⟨_, rfl⟩
 rw [← htb] at ht0 ⊢
 have HTb := Lib.hid htb
 clear htb
 go_wp2_with fail
 refine (web13_any tb 5 _ (by decide) (by decide) ht0).mono ?_
 rintro e1 w1 ⟨S, vb, vi, rfl, hO8, hn6, hW, ht1, hx1⟩
 obtain ⟨ab, cb, ai, ci, rfl, rfl⟩ := hW.out.slices
 have hxa : Ext No w1 (w1.alloc (.cells #[.int .i64 (S.w : Int), .slice ab S.ins.length cb, .slice ai S.ins.length ci] 37)) := (Ext.refl _ _).alloc _
 have HA := Lib.hid (alloc_top (w := w1) (o := (.cells #[.int .i64 (S.w : Int), .slice ab S.ins.length cb, .slice ai S.ins.length ci] 37)) rfl)
 have HW := Lib.hid ((hW.out.extNo hxa).mono (M' := At tb) (fun i _ e => by have := HTb.out; have := hs0; unfold At at e; show i < _; omega))
 have HX := Lib.hid ((hx0.trans2 hx1 (fun i hi e => by unfold At at e; have := HTb.out; omega)).transNo hxa)
 have HTt := Lib.hid (ht1.ext hxa)
 have HO8 := Lib.hid hO8.out
 have hn1 := hO8.out.ok.n1
 have htA := ht1.lt
 clear hx0 hs0 ht0 hW ht1 hx1 hxa hO8
 go_upto_region 3 with (fail)
 generalize (w1.alloc (.cells #[.int .i64 (S.w : Int), .slice ab S.ins.length cb, .slice ai S.ins.length ci] 37)) = V1 at *
 generalize w1.heap.size = A at *
 obtain ⟨N, hN⟩ : ∃ N, N = S.ins.length := ⟨_, rfl⟩
 have HN := Lib.hid hN
 rw [← hN] at hn6 hn1 HA HW ⊢
 clear hN
 have cA := cellOf HA.out
 go_wp2_with fail
 clear cA
 refine (next_lt tb (N : Int) (by omega) (by omega) _ HTt.out).mono ?_
 rintro e2 wr ⟨n, rfl, hn, ht2, hx2, -⟩
 have hnS : n < S.ins.length := by have := HN.out; omega
 have HXr2 := Lib.hid (show Ext No w wr from HX.out.trans2 hx2 (fun i hi e => by unfold At at e; have := HTb.out; omega))
 have HWr := Lib.hid ((HW.out.ext hx2 (fun _ _ e => e)).no)
 have HAr := Lib.hid (hx2.blk HA.out (fun e => by unfold At at e; omega))
 clear ht2 hx2 HTt HX HW HA
 have cA := cellOf HAr.out
 obtain ⟨Q, hQ⟩ : ∃ Q, Q = elimW S n := ⟨_, rfl⟩
 obtain ⟨hq8, hqw, hqn⟩ := elim_ok (n := n) HO8.out hnS
 have hqf := fun i p hp => elim_from (n := n) (i := i) HO8.out hnS p hp
 rw [← hQ] at hq8 hqw hqn hqf
 have HQ8 := Lib.hid hq8
 have HQW := Lib.hid hqw
 have HQN := Lib.hid (hqn.trans HN.out.symm)
 have HQF := Lib.hid hqf
 have HQE := Lib.hid hQ
 clear hq8 hqw hqn hqf hQ
 go_upto_region 4 with (fail)
 go_wp2_with fail
 clear cA
 refine (eliminateW_q S Q n _ _ _ HQE.out HO8.out HWr.out (HTB.out.ext HXr2.out) hnS).mono ?_
 rintro e4 w4 ⟨vb1, vi1, rfl, hW4, hx4⟩
 obtain ⟨ab1, cb1, ai1, ci1, rfl, rfl⟩ := hW4.out.slices
 rw [HQN.out] at hW4 ⊢
 have hxb : Ext No w4 (w4.alloc (.cells #[.int .i64 (Q.w : Int), .slice ab1 N cb1, .slice ai1 N ci1] 37)) := (Ext.refl _ _).alloc _
 have HB := Lib.hid (alloc_top (w := w4) (o := (.cells #[.int .i64 (Q.w : Int), .slice ab1 N cb1, .slice ai1 N ci1] 37)) rfl)
 have HQA := Lib.hid (hW4.out.extNo hxb)
 have HWr4 := Lib.hid (HWr.out.extNo (hx4.transNo hxb))
 have HA4 := Lib.hid ((hx4.transNo hxb).blk HAr.out no_no)
 have HX4 := Lib.hid (HXr2.out.transNo (hx4.transNo hxb))
 clear hx4 hxb hW4 HWr HAr HXr2
 go_upto_region 5 with (fail)
 generalize (w4.alloc (.cells #[.int .i64 (Q.w : Int), .slice ab1 N cb1, .slice ai1 N ci1] 37)) = V4 at *
 generalize w4.heap.size = B at *
 have cA := cellOf HA4.out
 go_wp2_with fail
 clear cA
 refine (wsolve_any No S _ _ _ (fun _ e => e.elim) HWr4.out).mono ?_
 rintro e5 w5 ⟨R, a5, c5, hR, rfl, hs5, hx5⟩
 have HR := Lib.hid hR
 have HQA5 := Lib.hid (HQA.out.extNo hx5)
 have HB5 := Lib.hid (hx5.blk HB.out no_no)
 have HA5 := Lib.hid (hx5.blk HA4.out no_no)
 clear HA4
 have HX5 := Lib.hid (HX4.out.transNo hx5)
 clear hx5 hR HQA HB HX4 HWr4
 have cB := cellOf HB5.out
 go_upto_region 6 with (fail)
 go_wp2_with fail
 clear cB
 refine (wsolve_any No Q _ _ _ (fun _ e => e.elim) HQA5.out).mono ?_
 rintro e6 w6 ⟨R2, a6, c6, hR2, rfl, hs6, hx6⟩
 have HEQ := Lib.hid (show iterW S R = iterW Q R2 from by have h9 := hR2; rw [HQE.out] at h9 ⊢; exact elim_least HO8.out hnS HR.out h9)
 have HS5 := Lib.hid (hs5.out.extNo hx6)
 have HQA6 := Lib.hid (HQA5.out.extNo hx6)
 have HB6 := Lib.hid (hx6.blk HB5.out no_no)
 have HA6 := Lib.hid (hx6.blk HA5.out no_no)
 have HX6 := Lib.hid (HX5.out.transNo hx6)
 clear hx6 hR2 HQA5 HB5 HX5 HA5 hs5
 have hN32 : N ≤ 32 := by have := HO8.out.n8; have := HN.out; omega
 have cA := cellOf HA6.out
 have cB := cellOf HB6.out
 go_wp2_with fail
 clear cA cB
 go_loopw [12, 13] (fun s13 _ wy => ∃ t : Nat, s13 = .int .i64 t ∧ t ≤ N ∧ Hid (Ext No w6 wy)) (fun s13 _ _ => N - (intOf s13).toNat)
 case atStart => exact ⟨0, rfl, Nat.zero_le _, Lib.hid (Ext.refl _ _)⟩
 obtain ⟨t, rfl, ht, hxy⟩ := hrel
 rename World => wy
 have cB := cellOf (hxy.out.blk HB6.out no_no)
 by_cases hltt : t < N
 ·have htz : (t : Int) < (N : Int) := by omega
  have HTT : Hid (Value.int .i64 ((t : Int) + 1) = .int .i64 ((t + 1 : Nat) : Int)) := Lib.hid (by rw [show ((t + 1 : Nat) : Int) = (t : Int) + 1 from by omega])
  obtain ⟨bi, oi, ki, aA, cA, hve, ga, harc⟩ := HQA6.out.arcs (i := t) (by rw [HQN.out]; exact hltt)
  rw [HQN.out] at hve
  simp only [Value.slice.injEq] at hve
  obtain ⟨rfl, -, rfl⟩ := hve
  obtain ⟨m, hm⟩ : ∃ m, m = (arcW Q t).length := ⟨_, rfl⟩
  have hm32 : m ≤ 32 := by have h1 := (HQ8.out.ok.row t).len; have h2 := HQN.out; omega
  have HM := Lib.hid hm
  rw [← hm] at harc ga
  have HGA := Lib.hid ga
  replace ga := hxy.out.keep ga
  clear hm
  go_wp2_with fail
  clear cB ga
  go_loopw [13] (fun s14 wz => ∃ j : Nat, s14 = .int .i64 j ∧ j ≤ m ∧ Hid (Ext No w6 wz)) (fun s14 _ => m - (intOf s14).toNat)
  case atStart => exact ⟨0, rfl, Nat.zero_le _, hxy⟩
  clear hxy
  obtain ⟨j, rfl, hj, hxz⟩ := hrel
  rename World => wz
  have cB := cellOf (hxz.out.blk HB6.out no_no)
  have ga := hxz.out.keep HGA.out
  by_cases hltj : j < m
  ·have hjz : (j : Int) < (m : Int) := by omega
   have HJJ : Hid (Value.int .i64 ((j : Int) + 1) = .int .i64 ((j + 1 : Nat) : Int)) := Lib.hid (by rw [show ((j + 1 : Nat) : Int) = (j : Int) + 1 from by omega])
   have hjd : j < (arcW Q t).length := by have := HM.out; omega
   obtain ⟨⟨mm, f⟩, hmj⟩ : ∃ q : Nat × TrD, q = (arcW Q t)[j] := ⟨_, rfl⟩
   obtain ⟨ba, oa, ka, ag, cg, ak, ck, ac, nc, cc, hve, gt, -, -⟩ := ArcsW.at (HQ8.out.ok.row t).trs (harc.out.extNo hxz.out) hjd hmj
   rw [← HM.out] at hve
   simp only [Value.slice.injEq] at hve
   obtain ⟨rfl, -, rfl⟩ := hve
   have hne : mm ≠ n := by
    have h1 : (mm, f) ∈ arcW Q t := by rw [hmj]; exact List.getElem_mem _
    exact (HQF.out t (mm, f) h1).1
   have hnz : ¬ (mm : Int) = (n : Int) := by omega
   have hnb : ((mm : Int) == (n : Int)) = false := by rw [beq_eq_false_iff_ne]; exact hnz
   obtain ⟨q0, -⟩ := gt
   clear hmj
   go_wp2_with fail
   clear cB ga q0
   go_roundw
   case rel => exact ⟨j + 1, HJJ.out, by omega, hxz⟩
   case measure => simp [intOf]; omega
  have hgej : ¬ (j : Int) < (m : Int) := by omega
  go_wp2_with fail
  clear cB ga
  go_roundw
  case rel => exact ⟨t + 1, HTT.out, by omega, hxz⟩
  case measure => simp [intOf]; omega
 have hget : ¬ (t : Int) < (N : Int) := by omega
 have HL := Lib.hid (show (iterW S R).length ≤ 1048576 from by rw [(goodw_iter HO8.out.ok R).len]; have := HN.out; omega)
 have HSa := Lib.hid (HS5.out.extNo hxy.out)
 have HSb := Lib.hid (show SetsV No wy _ S.w (iterW Q R2) from by have h9 := hs6.out.extNo hxy.out; rw [HQW.out] at h9; exact h9)
 go_wp2_with fail
 clear cB
 refine (rsameSets_any S.w (iterW S R) (iterW Q R2) _ _ _ HSa.out HSb.out HL.out).mono ?_
 rw [decide_eq_true HEQ.out]
 rintro e8 w8 ⟨rfl, hx8⟩
 go_wp2_with fail
 refine (sane13_any _ (HTB.out.ext ((HX6.out.transNo hxy.out).transNo hx8))).mono ?_
 rintro e9 w9 ⟨rfl, hx9⟩
 go_wp2_with fail
 go_ret
 exact ⟨rfl, ((HX6.out.transNo hxy.out).transNo hx8).transNo hx9⟩

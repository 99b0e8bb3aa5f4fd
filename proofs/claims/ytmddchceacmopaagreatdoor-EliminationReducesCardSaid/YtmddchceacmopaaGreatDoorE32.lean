
import Derived.Test.YtmddchceacmopaaGreatDoorE30
set_option linter.unusedVariables false
set_option linter.unusedSimpArgs false
namespace Go.Proofs.YtmddchceacmopaaGreatDoor
open Go Go.RowKit
theorem mem_natsZ {l : List Nat} {n : Nat} : ((n : Int) ∈ natsZ l) ↔ n ∈ l := by
 unfold natsZ
 rw [List.mem_map]
 exact ⟨fun ⟨m, h1, h2⟩ => by rw [show n = m by omega]; exact h1, fun h => ⟨n, h, rfl⟩⟩
theorem reduceW_q (S Q : WebD) (ks : List Int) (vb vi sl : Value) (W : World) (hQ : Q = reduceW S (fun t : Nat => decide ((t : Int) ∈ ks)) S.ins.length) (h8 : WebOk8 S) (h : WbAt No W vb vi S) (hT : TabW W) (hk : Ints No W .i64 sl ks) (hn : ∀ n ∈ ks, UnkP n S.ins.length) :
  Calls Tryz.prog 13 #[.agg #[.int .i64 (S.w : Int), vb, vi], sl] W (EWPost Q W) := by
 subst hQ
 exact reduceW_any S ks vb vi sl W h8 h hT hk hn
set_option maxRecDepth 100000 in
set_option maxHeartbeats 8000000 in
theorem eliminationReduces_any (tl : Value) (zs : List Int) (w : World) (hT : TabW w) (ht : Ints No w .i64 tl zs) : Calls Tryz.prog 4 #[tl] w (BoolPost true w) := by
 obtain ⟨i0, hi0, hz0, hz1, hz2⟩ := info_parts infoE7
 have HT := Lib.hid ht
 have HTB := Lib.hid hT
 obtain ⟨at', ct', rfl⟩ := Row.slice ht
 clear ht hT
 go_enter Tryz.func4, Tryz.ntmps4
 go_wp2_with fail
 refine (new_any _ zs _ HT.out).mono ?_
 rintro e0 w0 ⟨rfl, ht0, hx0, hs0⟩
 obtain ⟨tb, htb⟩ : ∃ tb, tb = w.heap.size := ⟨_, rfl⟩
 rw [← htb] at ht0 ⊢
 have HTb := Lib.hid htb
 clear htb
 go_wp2_with fail
 refine (web13_any tb 6 _ (by decide) (by decide) ht0).mono ?_
 rintro e1 w1 ⟨S, vb, vi, rfl, hO8, hn6, hW, ht1, hx1⟩
 obtain ⟨ab, cb, ai, ci, rfl, rfl⟩ := hW.out.slices
 have hxa : Ext No w1 (w1.alloc (.cells #[.int .i64 (S.w : Int), .slice ab S.ins.length cb, .slice ai S.ins.length ci] 26)) := (Ext.refl _ _).alloc _
 have HA := Lib.hid (alloc_top (w := w1) (o := (.cells #[.int .i64 (S.w : Int), .slice ab S.ins.length cb, .slice ai S.ins.length ci] 26)) rfl)
 have HW := Lib.hid ((hW.out.extNo hxa).mono (M' := At tb) (fun i _ e => by have := HTb.out; have := hs0; unfold At at e; show i < _; omega))
 have HX := Lib.hid ((hx0.trans2 hx1 (fun i hi e => by unfold At at e; have := HTb.out; omega)).transNo hxa)
 have HTt := Lib.hid (ht1.ext hxa)
 have HO8 := Lib.hid hO8.out
 have hn1 := hO8.out.ok.n1
 have htA := ht1.lt
 clear hx0 hs0 ht0 hW ht1 hx1 hxa hO8
 go_upto_region 3 with (fail)
 generalize (w1.alloc (.cells #[.int .i64 (S.w : Int), .slice ab S.ins.length cb, .slice ai S.ins.length ci] 26)) = V1 at *
 generalize w1.heap.size = A at *
 obtain ⟨N, hN⟩ : ∃ N, N = S.ins.length := ⟨_, rfl⟩
 have HN := Lib.hid hN
 rw [← hN] at hn6 hn1 HA HW ⊢
 clear hN
 go_wp2_with fail
 refine (next_lt tb 4 (by decide) (by decide) _ HTt.out).mono ?_
 rintro e2 w2 ⟨r, rfl, hr, ht2, hx2, -⟩
 have HT2 := Lib.hid ht2
 have HX2 := Lib.hid hx2
 clear ht2 hx2 HTt
 go_wp2_with fail
 go_loopw [5, 6] (fun s5 s6 wr => ∃ (i : Nat) (ks : List Nat), s6 = .int .i64 i ∧ i + ks.length ≤ 4 ∧ Hid (wr.ownsRow V1.heap.size 3 1 s5 ks.length ((natsZ ks).map (.int .i64))) ∧ Hid (∀ n ∈ ks, n < N) ∧ Hid (TapeOk wr tb) ∧ Hid (Ext (At tb) V1 wr)) (fun _ s6 _ => (intOf s6).toNat)
 case atStart => exact ⟨r, [], rfl, by simp; omega, Lib.hid (World.ownsRow_nil _ _ _ _), Lib.hid (fun n hn => by cases hn), HT2, HX2⟩
 clear HT2 HX2
 obtain ⟨i, ks, rfl, hik, hown, hks, HTr, HXr⟩ := hrel
 rename World => wr
 have hsh := (Row.ofOwns (M := No) hown.out (fun _ _ x => x)).slice
 obtain ⟨s1, t1, hs5⟩ := hsh
 subst hs5
 by_cases hlt : 0 < i
 ·have hlz : (0 : Int) < (i : Int) := by omega
  have HKK : Hid (Value.int .i64 ((i : Int) - 1) = .int .i64 ((i - 1 : Nat) : Int)) := Lib.hid (by rw [show ((i - 1 : Nat) : Int) = (i : Int) - 1 from by omega])
  have hwr : IntKind.i64.wrap ((i : Int) - 1) = (i : Int) - 1 := by rw [IntKind.wrap_i64]; omega
  have cA := cellOf (HXr.out.blk HA.out (fun e => by unfold At at e; omega))
  go_wp2_with fail
  clear cA
  refine (next_lt tb (N : Int) (by omega) (by omega) _ HTr.out).mono ?_
  rintro e3 w3 ⟨q, rfl, hq, ht3, hx3, -⟩
  have hlV := (show V1.heap.size ≤ w3.heap.size from Nat.le_trans HXr.out.size hx3.size)
  have HOW := Lib.hid (row_keep2 hown.out hx3 (fun k hk e => by have h1 := (World.ownsRow.lt hown.out k hk).1; have h2 := HTr.out.lt; unfold At at e; have h3 := lt_of_block HA.out; omega))
  have HX3 := Lib.hid (HXr.out.trans hx3)
  have HT3 := Lib.hid ht3
  have HAP := Lib.hid (show (natsZ (ks ++ [q])).map (Value.int .i64) = (natsZ ks).map (.int .i64) ++ [.int .i64 (q : Int)] from by simp [natsZ])
  clear hx3 ht3 hown
  go_wp2_with (at_builtin; (refine wpList_app _ rfl (.tmp 25) (.tmp 31) 22 rfl V1.heap.size 3 i0 _ 1 8 Tryz.underlying22 hi0 hz0 hz1 hz2 rfl (by omega) (.slice s1 ks.length t1) ks.length ((natsZ ks).map (.int .i64)) rfl (row_keep HOW.out ((Ext.refl No _).alloc _) (fun _ _ x => x)) No (some ⟨w3.heap.size, 0, none⟩) 1 1 [.int .i64 (q : Int)] rfl (Row.block (alloc_top rfl) rfl no_no (by omega)) (by simp [Value.oneCell']) (by omega) (by omega) ?_ ?_); (first | exact hlV | (simp; omega)); (intro v9 w9 hown1 hg1 hv1); (have hE9 := (HX3.out.transNo ((Ext.refl No w3).alloc (.cells #[.int .i64 (q : Int)] 3))).trans2 (show Ext (fun bq => Value.ownBlock (.slice s1 ks.length t1) = some bq) _ w9 from (Ext.refl _ _).grown hg1 (fun bq hk _ => hk)) (fun k hk e => by have h1 := (World.ownsRow.lt HOW.out k e).1; omega)); (have hT9 := (HT3.out.ext ((Ext.refl No w3).alloc (.cells #[.int .i64 (q : Int)] 3))).extAbove (show Ext (fun bq => Value.ownBlock (.slice s1 ks.length t1) = some bq) _ w9 from (Ext.refl _ _).grown hg1 (fun bq hk _ => hk)) (fun k hk e => by have h1 := (World.ownsRow.lt HOW.out k e).1; have h3 := lt_of_block HA.out; omega)); (have hm9 := Lib.hid hE9); (have ht9 := Lib.hid hT9); (have ho9 := Lib.hid hown1); (clear hown1 hg1 hv1 hE9 hT9))
  go_roundw
  case rel => exact ⟨i - 1, ks ++ [q], HKK.out, by rw [List.length_append, List.length_singleton]; omega, Lib.hid (by rw [HAP.out, List.length_append, List.length_singleton]; exact ho9.out), Lib.hid (fun n hn => (List.mem_append.1 hn).elim (hks.out n) (fun h => by rw [List.mem_singleton.1 h]; omega)), ht9, hm9⟩
  case measure => simp [intOf]; omega
 have hge : ¬ (0 : Int) < (i : Int) := by omega
 have HI := Lib.hid (show Ints No wr .i64 (.slice s1 ks.length t1) (natsZ ks) from by
  have h := Row.ofOwns (M := No) hown.out (fun _ _ x => x)
  unfold Ints
  rw [show (natsZ ks).length = ks.length from by simp [natsZ]]
  exact h)
 have HXr2 := Lib.hid (show Ext No w wr from HX.out.trans2 HXr.out (fun i hi e => by unfold At at e; have := HTb.out; omega))
 have HWr := Lib.hid ((HW.out.ext HXr.out (fun _ _ e => e)).no)
 have HAr := Lib.hid (HXr.out.blk HA.out (fun e => by unfold At at e; omega))
 clear hown HTr HXr HX HW HA
 have cA := cellOf HAr.out
 obtain ⟨Q, hQ⟩ : ∃ Q, Q = reduceW S (fun t : Nat => decide ((t : Int) ∈ natsZ ks)) S.ins.length := ⟨_, rfl⟩
 obtain ⟨hq8, hqw, hqn⟩ := reduce_ok (keep := fun t : Nat => decide ((t : Int) ∈ natsZ ks)) HO8.out S.ins.length (Nat.le_refl _)
 have hqf := reduce_from (keep := fun t : Nat => decide ((t : Int) ∈ natsZ ks)) HO8.out S.ins.length (Nat.le_refl _)
 have hql := fun R hR R2 => reduce_least (keep := fun t : Nat => decide ((t : Int) ∈ natsZ ks)) (r := R) HO8.out hR S.ins.length (Nat.le_refl _) R2
 rw [← hQ] at hq8 hqw hqn hqf hql
 have HQ8 := Lib.hid hq8
 have HQW := Lib.hid hqw
 have HQN := Lib.hid (hqn.trans HN.out.symm)
 have HQF := Lib.hid hqf
 have HQL := Lib.hid hql
 have HQ := Lib.hid hQ
 clear hq8 hqw hqn hqf hql hQ
 go_upto_region 8 with (fail)
 go_wp2_with fail
 clear cA
 refine (reduceW_q S Q (natsZ ks) _ _ _ _ HQ.out HO8.out HWr.out (HTB.out.ext HXr2.out) HI.out (fun n hn => by
  obtain ⟨m, hm, rfl⟩ := List.mem_map.1 hn
  have := hks.out m hm
  have := HN.out
  exact ⟨by omega, by omega⟩)).mono ?_
 rintro e4 w4 ⟨vb1, vi1, rfl, hW4, hx4⟩
 obtain ⟨ab1, cb1, ai1, ci1, rfl, rfl⟩ := hW4.out.slices
 rw [HQN.out] at hW4 ⊢
 have hxb : Ext No w4 (w4.alloc (.cells #[.int .i64 (Q.w : Int), .slice ab1 N cb1, .slice ai1 N ci1] 26)) := (Ext.refl _ _).alloc _
 have HB := Lib.hid (alloc_top (w := w4) (o := (.cells #[.int .i64 (Q.w : Int), .slice ab1 N cb1, .slice ai1 N ci1] 26)) rfl)
 have HQA := Lib.hid (hW4.out.extNo hxb)
 have HWr4 := Lib.hid (HWr.out.extNo (hx4.transNo hxb))
 have HA4 := Lib.hid ((hx4.transNo hxb).blk HAr.out no_no)
 have HX4 := Lib.hid (HXr2.out.transNo (hx4.transNo hxb))
 have HI4 := Lib.hid (Row.extNo HI.out (hx4.transNo hxb))
 clear hx4 hxb hW4 HWr HAr HXr2 HI
 go_upto_region 9 with (fail)
 generalize (w4.alloc (.cells #[.int .i64 (Q.w : Int), .slice ab1 N cb1, .slice ai1 N ci1] 26)) = V4 at *
 generalize w4.heap.size = B at *
 have cA := cellOf HA4.out
 go_wp2_with fail
 clear cA
 refine (wsolve_any No S _ _ _ (fun _ e => e.elim) HWr4.out).mono ?_
 rintro e5 w5 ⟨R, a5, c5, hR, rfl, hs5, hx5⟩
 have HR := Lib.hid hR
 have HQA5 := Lib.hid (HQA.out.extNo hx5)
 have HB5 := Lib.hid (hx5.blk HB.out no_no)
 have HX5 := Lib.hid (HX4.out.transNo hx5)
 have HI5 := Lib.hid (Row.extNo HI4.out hx5)
 clear hx5 hR HQA HB HX4 HI4 HWr4 HA4
 have cB := cellOf HB5.out
 go_upto_region 10 with (fail)
 go_wp2_with fail
 clear cB
 refine (wsolve_any No Q _ _ _ (fun _ e => e.elim) HQA5.out).mono ?_
 rintro e6 w6 ⟨R2, a6, c6, hR2, rfl, hs6, hx6⟩
 have HEQ := Lib.hid (HQL.out R HR.out R2 hR2)
 have HS5 := Lib.hid (hs5.out.extNo hx6)
 have HQA6 := Lib.hid (HQA5.out.extNo hx6)
 have HB6 := Lib.hid (hx6.blk HB5.out no_no)
 have HX6 := Lib.hid (HX5.out.transNo hx6)
 have HI6 := Lib.hid (Row.extNo HI5.out hx6)
 clear hx6 hR2 HQA5 HB5 HX5 HI5 hs5
 have hN32 : N ≤ 32 := by have := HO8.out.n8; have := HN.out; omega
 go_wp2_with fail
 go_loopw [13, 14] (fun s13 _ wy => ∃ t : Nat, s13 = .int .i64 t ∧ t ≤ N ∧ Hid (Ext No w6 wy)) (fun s13 _ _ => N - (intOf s13).toNat)
 case atStart => exact ⟨0, rfl, Nat.zero_le _, Lib.hid (Ext.refl _ _)⟩
 obtain ⟨t, rfl, ht, hxy⟩ := hrel
 rename World => wy
 have cB := cellOf (hxy.out.blk HB6.out no_no)
 by_cases hltt : t < N
 ·have htz : (t : Int) < (N : Int) := by omega
  have HTT : Hid (Value.int .i64 ((t : Int) + 1) = .int .i64 ((t + 1 : Nat) : Int)) := Lib.hid (by rw [show ((t + 1 : Nat) : Int) = (t : Int) + 1 from by omega])
  obtain ⟨bi, oi, ki, aA, cA, hve, ga, harc⟩ := HQA6.out.arcs (i := t) (by rw [HQN.out]; exact hltt)
  rw [HQN.out] at hve
  simp only [Value.slice.injEq] at hve
  obtain ⟨rfl, -, rfl⟩ := hve
  obtain ⟨m, hm⟩ : ∃ m, m = (arcW Q t).length := ⟨_, rfl⟩
  have hm32 : m ≤ 32 := by have h1 := (HQ8.out.ok.row t).len; have h2 := HQN.out; omega
  have HM := Lib.hid hm
  rw [← hm] at harc ga
  have HGA := Lib.hid ga
  replace ga := hxy.out.keep ga
  clear hm
  go_wp2_with fail
  clear cB ga
  go_loopw [14] (fun s14 wz => ∃ j : Nat, s14 = .int .i64 j ∧ j ≤ m ∧ Hid (Ext No w6 wz)) (fun s14 _ => m - (intOf s14).toNat)
  case atStart => exact ⟨0, rfl, Nat.zero_le _, hxy⟩
  clear hxy
  obtain ⟨j, rfl, hj, hxz⟩ := hrel
  rename World => wz
  have cB := cellOf (hxz.out.blk HB6.out no_no)
  have ga := hxz.out.keep HGA.out
  by_cases hltj : j < m
  ·have hjz : (j : Int) < (m : Int) := by omega
   have HJJ : Hid (Value.int .i64 ((j : Int) + 1) = .int .i64 ((j + 1 : Nat) : Int)) := Lib.hid (by rw [show ((j + 1 : Nat) : Int) = (j : Int) + 1 from by omega])
   have hjd : j < (arcW Q t).length := by have := HM.out; omega
   obtain ⟨⟨mm, f⟩, hmj⟩ : ∃ q : Nat × TrD, q = (arcW Q t)[j] := ⟨_, rfl⟩
   obtain ⟨ba, oa, ka, ag, cg, ak, ck, ac, nc, cc, hve, gt, -, -⟩ := ArcsW.at (HQ8.out.ok.row t).trs (harc.out.extNo hxz.out) hjd hmj
   rw [← HM.out] at hve
   simp only [Value.slice.injEq] at hve
   obtain ⟨rfl, -, rfl⟩ := hve
   have hin : mm ∈ ks := by
    have h1 : (mm, f) ∈ arcW Q t := by rw [hmj]; exact List.getElem_mem _
    have h2 := HQF.out t (mm, f) h1 (by have := HQ8.out.ok.dep h1; have := HQN.out; have := HN.out; simp only at *; omega)
    exact mem_natsZ.1 (of_decide_eq_true h2)
   have HIN := Lib.hid (decide_eq_true hin)
   obtain ⟨q0, -⟩ := gt
   clear hmj hin
   go_wp2_with fail
   clear cB ga q0
   refine (rhasI_any _ ks mm _ (Row.extNo HI6.out hxz.out)).mono ?_
   rw [HIN.out]
   rintro e7 w7 ⟨rfl, hx7⟩
   go_wp2_with fail
   go_roundw
   case rel => exact ⟨j + 1, HJJ.out, by omega, Lib.hid (hxz.out.transNo hx7)⟩
   case measure => simp [intOf]; omega
  have hgej : ¬ (j : Int) < (m : Int) := by omega
  go_wp2_with fail
  clear cB ga
  go_roundw
  case rel => exact ⟨t + 1, HTT.out, by omega, hxz⟩
  case measure => simp [intOf]; omega
 have hget : ¬ (t : Int) < (N : Int) := by omega
 have HL := Lib.hid (show (iterW S R).length ≤ 1048576 from by rw [(goodw_iter HO8.out.ok R).len]; have := HN.out; omega)
 have HSa := Lib.hid (HS5.out.extNo hxy.out)
 have HSb := Lib.hid (show SetsV No wy _ S.w (iterW Q R2) from by have h9 := hs6.out.extNo hxy.out; rw [HQW.out] at h9; exact h9)
 go_wp2_with fail
 clear cB
 refine (rsameSets_any S.w (iterW S R) (iterW Q R2) _ _ _ HSa.out HSb.out HL.out).mono ?_
 rw [decide_eq_true HEQ.out]
 rintro e8 w8 ⟨rfl, hx8⟩
 go_wp2_with fail
 refine (sane13_any _ (HTB.out.ext ((HX6.out.transNo hxy.out).transNo hx8))).mono ?_
 rintro e9 w9 ⟨rfl, hx9⟩
 go_wp2_with fail
 go_ret
 exact ⟨rfl, ((HX6.out.transNo hxy.out).transNo hx8).transNo hx9⟩

/- The law RotaFair: the walk. -/
import Derived.Test.YtckeidboolfcoaaRota37
import Derived.Deep.DeepCutAuto
import Derived.Deep.RegionHeld3
import Derived.BigQuiet
namespace Go.Proofs.Ytckeidboolfcoaa
open Go Go.RowKit

set_option maxRecDepth 100000 in
set_option maxHeartbeats 8000000 in
theorem rotaFair_any (tl : Value) (zs : List Int) (w : World) (ht : Ints No w .i64 tl zs) : Calls Try.prog 6 #[tl] w fun e w' => e = .returned (.bool true) ∧ Ext No w w' := by
  have HT := Lib.hid ht
  obtain ⟨at', ct', rfl⟩ := ht.slice
  clear ht
  go_enter Try.func6, Try.ntmps6
  go_wp2_with fail
  refine (new_any _ zs _ HT.out).mono ?_
  rintro e0 w0 ⟨rfl, ht0, hx0, hs0⟩
  obtain ⟨tb, htb⟩ : ∃ tb, tb = w.heap.size := ⟨_, rfl⟩
  rw [← htb] at ht0 ⊢
  have HT0 := Lib.hid ht0
  have HX0 := Lib.hid hx0
  have htb2 : w.heap.size ≤ tb := by omega
  have htb3 : tb < w0.heap.size := by omega
  clear ht0 hx0 htb hs0
  go_wp2_with fail
  refine (next_lt tb 5 (by omega) (by omega) _ HT0.out).mono ?_
  rintro e1 w1 ⟨z1, rfl, hz1, ht1, hx1, hs1⟩
  have HT1 := Lib.hid ht1
  have HX1 := Lib.hid (HX0.out.trans2 hx1 (fun i hi e => by cases e; exact absurd hi (by omega)))
  have htb4 : tb < w1.heap.size := by omega
  clear ht1 hx1 HT0 hs1
  obtain ⟨N, hN⟩ : ∃ N : Nat, 1 + (z1 : Int) = N := ⟨1 + z1, by omega⟩
  have hN1 : 1 ≤ N := by omega
  have hN2 : N ≤ 5 := by omega
  have HN := Lib.hid hN
  clear hN
  go_wp2_with fail
  rw [HN.out]
  refine (next_lt tb 9 (by omega) (by omega) _ HT1.out).mono ?_
  rintro e2 w2 ⟨z2, rfl, hz2, ht2, hx2, hs2⟩
  have HT2 := Lib.hid ht2
  have HX2 := Lib.hid (HX1.out.trans2 hx2 (fun i hi e => by cases e; exact absurd hi (by omega)))
  have htb5 : tb < w2.heap.size := by omega
  clear ht2 hx2 HT1 HX1 hs2
  go_wp2_with fail
  refine (next_lt tb 3 (by omega) (by omega) _ HT2.out).mono ?_
  rintro e2 w9 ⟨z3, rfl, hz3, ht9, hx9, hs9⟩
  have HT9 := Lib.hid ht9
  have HX9 := Lib.hid (HX2.out.trans2 hx9 (fun i hi e => by cases e; exact absurd hi (by omega)))
  have htb9 : tb < w9.heap.size := by omega
  clear ht9 hx9 HT2 HX2 hs9
  go_wp2_with fail
  refine (newR_any (1 + (z2 : Int)) (1 + (z3 : Int)) _).mono ?_
  rintro e3 w3 ⟨v3, rfl, hv3, hx3⟩
  obtain ⟨hn1, hn2⟩ := small_new (base := 1 + (z2 : Int)) (per := 1 + (z3 : Int)) (by omega) (by omega)
  rw [hn1] at hv3 ⊢
  obtain ⟨a3, n3, c3, hve3, hs3⟩ := (hv3 (Lo (w3.heap.size + 1))).opens
  obtain rfl : v3 = .agg #[.int .i64 (1 + (z2 : Int)), .int .i64 (1 + (z3 : Int)), .slice a3 n3 c3, .int .i64 0, .bool false] := hve3
  have hG := Lib.hid (show KeepMem w tb w3.heap.size (w3.alloc (.cells #[.int .i64 (1 + (z2 : Int)), .int .i64 (1 + (z3 : Int)), .slice a3 n3 c3, .int .i64 0, .bool false] 25)) ⟨1 + (z2 : Int), 1 + (z3 : Int), [], 0, false⟩ a3 n3 c3 from
    ⟨hn2.ok, alloc_top rfl, Row.extNo hs3 ((Ext.refl _ _).alloc _), (HT9.out.ext hx3).alloc, (HX9.out.transNo hx3).alloc _, htb2, Nat.lt_of_lt_of_le htb9 hx3.size⟩)
  have hF := Lib.hid (show FairStart 0 ⟨1 + (z2 : Int), 1 + (z3 : Int), [], 0, false⟩ from ⟨hn2.ok, rfl, rfl, rfl⟩)
  clear hn1 hn2 hv3 hs3 hx3 HT9 HX9
  go_wp2_with fail
  generalize w3.alloc (.cells #[.int .i64 (1 + (z2 : Int)), .int .i64 (1 + (z3 : Int)), .slice a3 n3 c3, .int .i64 0, .bool false] 25) = W3 at *
  generalize w3.heap.size = B at *
  go_loopw [6, 7] (fun e i wr => ∃ (k : Nat) (r : Ring) (a : Option Addr) (n c : Nat), k ≤ N ∧ i = .int .i64 k ∧ e = .int .i64 0 ∧ Hid (KeepMem w tb B wr r a n c) ∧ Hid (FairStart k r)) (fun _ i _ => N - (intOf i).toNat)
  case atStart => exact ⟨0, _, _, _, _, by omega, rfl, rfl, hG, hF⟩
  case round =>
    obtain ⟨k, r, a, n, c, hk, rfl, rfl, hm6, hF⟩ := hrel
    have hB6 := lt_of_block hm6.out.box
    have hwB := hm6.out.top
    have htB : tb ≤ B := by omega
    have HK : Hid (Value.int .i64 ((k : Int) + 1) = .int .i64 ((k + 1 : Nat) : Int)) := Lib.hid (by rw [show ((k + 1 : Nat) : Int) = (k : Int) + 1 from by omega])
    by_cases hlt : k < N
    · have cB6 := cellOf hm6.out.box
      have fB6 := freeOf hm6.out.box
      rename World => w6
      go_wp2_with fail
      have l5 := Ext.refl (At tb) w6
      have l6 := hm6.out.tape
      go_region_law (first | ((go_simp; go_at_call 13); (with_reducible refine (next_lt tb 4 (by omega) (by omega) _ ?_).mono ?_); (exact l6.drew); (rintro e9 w9 ⟨z9, rfl, hz9, ht9, hx9, hs9⟩); (have hm9 := Lib.hid (hm6.out.step (l5.drew.trans hx9) ht9)); (have cB9 := cellOf hm9.out.box); (have fB9 := freeOf hm9.out.box); (clear hs9)) | ((go_simp; go_at_call 19); (with_reducible refine (padd_mid hm6.out.seats (tb := tb) (l5.drew.trans hx9) htB hB6 _ _).mono ?_); (rintro e3 w3 ⟨r', er, a', n', c', hr', rfl, hs', hyA⟩); (have hmA := Lib.hid (hm9.out.stepNo hyA)); (have cBA := cellOf hmA.out.box); (have fBA := freeOf hmA.out.box); (have hfa := fair_add (p := (z9 : Int)) hF.out (by omega) (by omega)); (rw [hr'.out] at hfa); (obtain ⟨hfe, hF'⟩ := hfa); (replace hF' := Lib.hid hF'); (subst hfe)))
      all_goals
        have hmZ := Lib.hid (hmA.out.set (mid_lo hs'.out) hF'.out.ok rfl)
        have cZ := cellOf hmZ.out.box
        go_wp2_with fail
        go_roundw
        case rel => exact ⟨k + 1, r', a', n', c', by omega, HK.out, rfl, hmZ, hF'⟩
        case measure => simp [intOf]; omega
    · have hkN : k = N := by omega
      subst hkN
      have hI := Lib.hid (hF.out.inv (by omega))
      clear hlt hF
      go_wp2_with fail
      go_loopw [6, 8, 9, 10, 11] (fun e nx sp qu i wr => ∃ (i' next : Nat) (spent quantum : Int) (r : Ring) (a : Option Addr) (n c : Nat), i' ≤ 60 ∧ i = .int .i64 i' ∧ e = .int .i64 0 ∧ nx = .int .i64 next ∧ sp = .int .i64 spent ∧ qu = .int .i64 quantum ∧ next ≤ 113 * i' ∧ Hid (KeepMem w tb B wr r a n c) ∧ Hid (FairInv k next spent quantum r)) (fun _ _ _ _ i _ => 60 - (intOf i).toNat)
      case atStart => exact ⟨0, 0, 0, 0, _, _, _, _, by omega, rfl, rfl, rfl, rfl, rfl, by omega, hm6, hI⟩
      case round =>
        clear hm6 hI hB6
        obtain ⟨i', next, spent, quantum, r, a, n, c, hi', rfl, rfl, rfl, rfl, rfl, hnx, hm, hI⟩ := hrel
        have hBs := lt_of_block hm.out.box
        have HK : Hid (Value.int .i64 ((i' : Int) + 1) = .int .i64 ((i' + 1 : Nat) : Int)) := Lib.hid (by rw [show ((i' + 1 : Nat) : Int) = (i' : Int) + 1 from by omega])
        by_cases hlt : i' < 60
        · have cB := cellOf hm.out.box
          have hd60 : decide ((i' : Int) < 60) = true := by simp; omega
          go_wp2_with fail
          refine (ppick_turns hm.out.seats hBs).mono ?_
          rintro e1 w1 ⟨a1, n1, c1, ta, tc, rfl, hs1, ht1, hy1⟩
          have hp := Lib.hid (fair_pick hI.out)
          have hq := Lib.hid (QMem.made hm.out hy1 hs1.out ht1.out)
          clear hy1 hs1 ht1 hm hI cB
          generalize ringPick r = p at *
          obtain ⟨q, id, ts, okb⟩ := p
          obtain rfl : okb = true := hp.out.ok
          obtain ⟨idn, hidn⟩ : ∃ m : Nat, m = (next + ts.length - 1) % k := ⟨_, rfl⟩
          obtain rfl : id = (idn : Int) := by rw [hidn]; exact hp.out.id
          have HID := Lib.hid hidn
          clear hidn
          have hle : ts.length ≤ 113 := hp.out.le
          have hpos : 1 ≤ next + ts.length := hp.out.pos
          simp only at hq ⊢
          go_wp2_with fail
          obtain ⟨D, hD⟩ : ∃ D, D = w1.heap.size := ⟨_, rfl⟩
          rw [← hD] at hq ⊢
          clear hD
          generalize w1.alloc (.cells #[.int .i64 q.base, .int .i64 q.per, .slice a1 n1 c1, .int .i64 q.cur, .bool q.opn] 25) = W1 at *
          go_loopw [8, 9, 10, 16] (fun nx sp qu j wr => ∃ jj : Nat, jj ≤ ts.length ∧ j = .int .i64 jj ∧ nx = .int .i64 ((next + jj : Nat) : Int) ∧ sp = .int .i64 (spA spent jj) ∧ qu = .int .i64 (quA quantum ts jj) ∧ Hid (QMem w tb B D wr r a n c q a1 n1 c1 (.slice ta ts.length tc) ts)) (fun _ _ _ j _ => ts.length - (intOf j).toNat)
          case atStart => exact ⟨0, by omega, rfl, rfl, rfl, rfl, hq⟩
          case round =>
            obtain ⟨jj, hjl, rfl, rfl, rfl, rfl, hq'⟩ := hrel
            clear hq
            by_cases hjt : jj < ts.length
            · obtain ⟨b, off, cap', hsl, hb1, _, q0, q1, q2, q3, q4⟩ := Turns.lt (Row.mono hq'.out.turns (fun _ _ x => x) : Turns (Lo (B + 1)) _ _ ts) hjt
              simp only [Value.slice.injEq] at hsl
              obtain ⟨rfl, _, rfl⟩ := hsl
              obtain ⟨ht1, ht2, ht3⟩ := hp.out.turn jj hjt
              simp only at ht1 ht2 ht3
              rw [ht1] at q0
              have HJ : Hid (Value.int .i64 ((jj : Int) + 1) = .int .i64 ((jj + 1 : Nat) : Int)) := Lib.hid (by rw [show ((jj + 1 : Nat) : Int) = (jj : Int) + 1 from by omega])
              have hc0 : (0 : Int) ≤ (jj : Int) := by omega
              have hc1 : (jj : Int) < (ts.length : Int) := by omega
              have e1 : ((((next + jj) % k : Nat) : Int) != (((next + jj : Nat) : Int)).tmod (k : Int)) = false := by
                rw [Int.tmod_eq_emod_of_nonneg (by omega)]; simp
              have e2 : decide (ts[jj].quant < 1) = false := by simpa using ht2
              have hQE := Lib.hid (quA_succ quantum ts jj hjt)
              clear ht1
              generalize hM : (next + jj) % k = M at *
              have HX : Hid (∀ NJ : Nat, next + jj = NJ → Value.int .i64 ((NJ : Int) + 1) = .int .i64 ((next + (jj + 1) : Nat) : Int)) := Lib.hid (fun NJ h => by rw [show ((next + (jj + 1) : Nat) : Int) = (NJ : Int) + 1 from by omega])
              obtain ⟨NJ, hNJ⟩ : ∃ NJ, next + jj = NJ := ⟨_, rfl⟩
              replace HX := Lib.hid (HX.out NJ hNJ)
              rw [hNJ] at e1 ⊢
              clear hM
              have hnj : NJ ≤ 10000 := by omega
              clear q2 q3 q4 hNJ
              have kz0 : ¬ (k : Int) = 0 := by omega
              have kz1 : ¬ k = 0 := by omega
              have kz2 : ((k : Int) == 0) = false := by simpa using kz1
              go_wp2_with fail
              go_quiet (fail)
              go_wp2_with fail
              go_quiet (fail)
              go_wp2_with fail
              go_roundw
              case rel => exact ⟨jj + 1, by omega, HJ.out, HX.out, rfl, by rw [hQE.out], Lib.hid (hq'.out.drewN _)⟩
              case measure => simp [intOf]; omega
            · obtain rfl : jj = ts.length := by omega
              clear hjt hjl
              have hqm := hq'
              have hI2 := Lib.hid hp.out.inv
              simp only at hI2
              have hqo : q.opn = true := hp.out.opn
              have hqo' := Lib.hid hqo
              clear hqo hp hq'
              obtain ⟨nm, hnm⟩ : ∃ nm, next + ts.length = nm := ⟨_, rfl⟩
              rw [hnm] at hI2 HID hpos ⊢
              have hnm2 : nm ≤ 113 * (i' + 1) := by omega
              clear hnm
              generalize spA spent ts.length = sp at *
              generalize quA quantum ts ts.length = qu at *
              have cD := cellOf hqm.out.box
              go_wp2_with fail
              refine (next_lt tb 8 (by omega) (by omega) _ hqm.out.keep.tape).mono ?_
              rintro e8 w8 ⟨z8, rfl, hz8, ht8, hx8, hs8⟩
              have hq8 := Lib.hid (hqm.out.step hx8 ht8)
              clear ht8 hx8 hs8 cD hqm
              have cD := cellOf hq8.out.box
              have cB := cellOf hq8.out.keep.box
              have fB := freeOf hq8.out.keep.box
              have hF8 := fair_spend (cost := 1 + (z8 : Int)) hI2.out hqo'.out (by omega)
              have hle8 := hF8.le
              have hs0 := hI2.out.s0
              have hq0 := hI2.out.q0
              have HF8 := Lib.hid hF8
              clear hF8
              obtain ⟨hs01, hs02⟩ := hs0
              obtain ⟨hq01, hq02⟩ := hq0
              have e29 : decide (qu + 8 - 1 < sp + (1 + (z8 : Int))) = false := by simp; omega
              have hem : ((nm : Int) - 1) % (k : Int) = (idn : Int) := by
                rw [HID.out, show (nm : Int) - 1 = ((nm - 1 : Nat) : Int) from by omega]; rfl
              have e28 : ((idn : Int) != ((nm : Int) - 1) % (k : Int)) = false := by rw [hem]; simp
              clear hem
              have kz0 : ¬ (k : Int) = 0 := by omega
              have kz1 : ¬ k = 0 := by omega
              have kz2 : ((k : Int) == 0) = false := by simpa using kz1
              go_wp2_with fail
              refine (pspend_lo hq8.out.seats (lt_of_block hq8.out.keep.box) (1 + (z8 : Int)) false).mono ?_
              rintro e9 w9 ⟨a9, n9, c9, rfl, hs9, hy9⟩
              have hm9 := Lib.hid (hq8.out.keep.stepNo hy9)
              clear hy9 cB fB cD e28 e29
              have hok9 := Lib.hid HF8.out.ok
              have hin9 := Lib.hid HF8.out.inv
              clear HF8
              generalize ringSpend q (1 + (z8 : Int)) false = p9 at *
              obtain ⟨r9, b9, er9⟩ := p9
              obtain rfl : er9 = 0 := hok9.out
              simp only at hin9 hs9 ⊢
              have cB := cellOf hm9.out.box
              have fB := freeOf hm9.out.box
              have hmZ := Lib.hid (hm9.out.set hs9.out hin9.out.cyc.ok rfl)
              go_wp2_with fail
              go_roundw
              case rel => exact ⟨i' + 1, nm, _, _, r9, a9, n9, c9, by omega, HK.out, rfl, rfl, rfl, rfl, hnm2, hmZ, hin9⟩
              case measure => simp [intOf]; omega
        · go_wp2_with fail
          refine (sane_any _).mono ?_
          rintro e5 w5 ⟨rfl, hx5⟩
          go_wp2_with fail
          go_ret
          exact ⟨rfl, hm.out.ext.transNo hx5⟩
end Go.Proofs.Ytckeidboolfcoaa

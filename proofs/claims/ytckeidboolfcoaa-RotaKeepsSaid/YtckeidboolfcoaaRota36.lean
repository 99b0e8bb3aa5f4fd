/- The law RotaKeeps: the walk. -/
import Derived.Test.YtckeidboolfcoaaRota35
import Derived.Deep.DeepCutAuto
import Derived.Deep.RegionHeld3
namespace Go.Proofs.Ytckeidboolfcoaa
open Go Go.RowKit

set_option maxRecDepth 100000 in
set_option maxHeartbeats 8000000 in
theorem rotaKeeps_any (tl : Value) (zs : List Int) (w : World) (ht : Ints No w .i64 tl zs) : Calls Try.prog 5 #[tl] w fun e w' => e = .returned (.bool true) ∧ Ext No w w' := by
  have HT := Lib.hid ht
  obtain ⟨at', ct', rfl⟩ := ht.slice
  clear ht
  go_enter Try.func5, Try.ntmps5
  go_wp2_with fail
  refine (new_any _ zs _ HT.out).mono ?_
  rintro e0 w0 ⟨rfl, ht0, hx0, hs0⟩
  obtain ⟨tb, htb⟩ : ∃ tb, tb = w.heap.size := ⟨_, rfl⟩
  rw [← htb] at ht0 ⊢
  have HT0 := Lib.hid ht0
  have HX0 := Lib.hid hx0
  have htb2 : w.heap.size ≤ tb := by omega
  have htb3 : tb < w0.heap.size := by omega
  clear ht0 hx0 htb hs0
  go_wp2_with fail
  refine (next_lt tb 5 (by omega) (by omega) _ HT0.out).mono ?_
  rintro e1 w1 ⟨z1, rfl, hz1, ht1, hx1, hs1⟩
  have HT1 := Lib.hid ht1
  have HX1 := Lib.hid (HX0.out.trans2 hx1 (fun i hi e => by cases e; exact absurd hi (by omega)))
  have htb4 : tb < w1.heap.size := by omega
  clear ht1 hx1 HT0 hs1
  go_wp2_with fail
  refine (next_lt tb 3 (by omega) (by omega) _ HT1.out).mono ?_
  rintro e2 w2 ⟨z2, rfl, hz2, ht2, hx2, hs2⟩
  have HT2 := Lib.hid ht2
  have HX2 := Lib.hid (HX1.out.trans2 hx2 (fun i hi e => by cases e; exact absurd hi (by omega)))
  have htb5 : tb < w2.heap.size := by omega
  clear ht2 hx2 HT1 HX1 hs2
  go_wp2_with fail
  refine (newR_any (1 + (z1 : Int)) (1 + (z2 : Int)) _).mono ?_
  rintro e3 w3 ⟨v3, rfl, hv3, hx3⟩
  obtain ⟨hn1, hn2⟩ := small_new (base := 1 + (z1 : Int)) (per := 1 + (z2 : Int)) (by omega) (by omega)
  rw [hn1] at hv3 ⊢
  obtain ⟨a3, n3, c3, hve3, hs3⟩ := (hv3 (Lo (w3.heap.size + 1))).opens
  obtain rfl : v3 = .agg #[.int .i64 (1 + (z1 : Int)), .int .i64 (1 + (z2 : Int)), .slice a3 n3 c3, .int .i64 0, .bool false] := hve3
  have hG := Lib.hid (show KeepMem w tb w3.heap.size (w3.alloc (.cells #[.int .i64 (1 + (z1 : Int)), .int .i64 (1 + (z2 : Int)), .slice a3 n3 c3, .int .i64 0, .bool false] 25)) ⟨1 + (z1 : Int), 1 + (z2 : Int), [], 0, false⟩ a3 n3 c3 from
    ⟨hn2.ok, alloc_top rfl, Row.extNo hs3 ((Ext.refl _ _).alloc _), (HT2.out.ext hx3).alloc, (HX2.out.transNo hx3).alloc _, htb2, Nat.lt_of_lt_of_le htb5 hx3.size⟩)
  clear hn1 hn2 hv3 hs3 hx3 HT2 HX2
  go_wp2_with fail
  generalize w3.alloc (.cells #[.int .i64 (1 + (z1 : Int)), .int .i64 (1 + (z2 : Int)), .slice a3 n3 c3, .int .i64 0, .bool false] 25) = W3 at *
  generalize w3.heap.size = B at *
  go_loopw [6] (fun i wr => ∃ (k : Nat) (r : Ring) (a : Option Addr) (n c : Nat), k ≤ 40 ∧ i = .int .i64 k ∧ Hid (KeepMem w tb B wr r a n c)) (fun i _ => 40 - (intOf i).toNat)
  case atStart => exact ⟨0, _, _, _, _, by omega, rfl, hG⟩
  case round =>
    obtain ⟨k, r, a, n, c, hk, rfl, hm⟩ := hrel
    have hBs := lt_of_block hm.out.box
    have hwB := hm.out.top
    by_cases hkl : k < 40
    · have HK : Hid (Value.int .i64 ((k : Int) + 1) = .int .i64 ((k + 1 : Nat) : Int)) := Lib.hid (by rw [show ((k + 1 : Nat) : Int) = (k : Int) + 1 from by omega])
      go_wp2_with fail
      refine (next_lt tb 4 (by omega) (by omega) _ hm.out.tape).mono ?_
      rintro e5 w5 ⟨z5, rfl, hz5, ht5, hx5, hs5⟩
      have hm5 := Lib.hid (hm.out.step hx5 ht5)
      clear ht5 hx5 hm
      have hB5 : B < w5.heap.size := by omega
      clear hs5 hBs
      have l0 : w5.cell? ⟨B, 0, none⟩ = some (.int .i64 r.base) := cellOf hm5.out.box 0
      have l1 : w5.cell? ⟨B, 1, none⟩ = some (.int .i64 r.per) := cellOf hm5.out.box 1
      have l2 : w5.cell? ⟨B, 2, none⟩ = some (.slice a n c) := cellOf hm5.out.box 2
      have l3 : w5.cell? ⟨B, 3, none⟩ = some (.int .i64 r.cur) := cellOf hm5.out.box 3
      have l4 : w5.cell? ⟨B, 4, none⟩ = some (.bool r.opn) := cellOf hm5.out.box 4
      have l5 : Ext (At tb) w5 w5 := Ext.refl _ _
      have hBtb : B ≠ tb := by omega
      have htb5 : tb < w5.heap.size := by omega
      have HSD : Hid (w5.heap.size = w5.drew.heap.size) := Lib.hid rfl
      have htB : tb ≤ B := by omega
      have l6 : TapeOk w5 tb := hm5.out.tape
      have hzz : z5 = 0 ∨ z5 = 1 ∨ (z5 = 2 ∨ z5 = 3) := by omega
      clear hz5
      rcases hzz with rfl | rfl | hzz
      · go_wp2_with fail
        go_cut [7, 8] (fun s6 s7 wx => KeepCut w tb B r a n c (fun r' er => er = 0 → RingP r') s6 s7 wx)
        case first =>
          go_region_held3 (fun w' => w'.cell? ⟨B, 0, none⟩ = some (.int .i64 r.base) ∧ w'.cell? ⟨B, 1, none⟩ = some (.int .i64 r.per) ∧ w'.cell? ⟨B, 2, none⟩ = some (.slice a n c) ∧ w'.cell? ⟨B, 3, none⟩ = some (.int .i64 r.cur) ∧ w'.cell? ⟨B, 4, none⟩ = some (.bool r.opn) ∧ Ext (At tb) w5 w' ∧ TapeOk w' tb)
            ((go_split_ands; refine ⟨?_, ?_, ?_, ?_, ?_, ?_, ?_⟩; ((first | ((with_reducible refine keepS5 ?_ ?_); (first | (with_reducible assumption) | (with_reducible exact keepN hyA (by with_reducible assumption))); (exact Nat.ne_of_lt (Nat.lt_of_lt_of_le hB5 hDa))) | (with_reducible assumption) | (with_reducible exact keepD (by with_reducible assumption)) | (with_reducible exact keepA (by with_reducible assumption)) | (with_reducible exact keepD (keepA (by with_reducible assumption))) | (with_reducible exact keepM' hx20 hBtb (by with_reducible assumption)) | (with_reducible exact keepM' hx4 hBtb (by with_reducible assumption)) | (with_reducible exact keepN hyA (by with_reducible assumption)) | (with_reducible exact keepA (keepN hyA (by with_reducible assumption))))); ((first | ((with_reducible refine keepS5 ?_ ?_); (first | (with_reducible assumption) | (with_reducible exact keepN hyA (by with_reducible assumption))); (exact Nat.ne_of_lt (Nat.lt_of_lt_of_le hB5 hDa))) | (with_reducible assumption) | (with_reducible exact keepD (by with_reducible assumption)) | (with_reducible exact keepA (by with_reducible assumption)) | (with_reducible exact keepD (keepA (by with_reducible assumption))) | (with_reducible exact keepM' hx20 hBtb (by with_reducible assumption)) | (with_reducible exact keepM' hx4 hBtb (by with_reducible assumption)) | (with_reducible exact keepN hyA (by with_reducible assumption)) | (with_reducible exact keepA (keepN hyA (by with_reducible assumption))))); ((first | ((with_reducible refine keepS5 ?_ ?_); (first | (with_reducible assumption) | (with_reducible exact keepN hyA (by with_reducible assumption))); (exact Nat.ne_of_lt (Nat.lt_of_lt_of_le hB5 hDa))) | (with_reducible assumption) | (with_reducible exact keepD (by with_reducible assumption)) | (with_reducible exact keepA (by with_reducible assumption)) | (with_reducible exact keepD (keepA (by with_reducible assumption))) | (with_reducible exact keepM' hx20 hBtb (by with_reducible assumption)) | (with_reducible exact keepM' hx4 hBtb (by with_reducible assumption)) | (with_reducible exact keepN hyA (by with_reducible assumption)) | (with_reducible exact keepA (keepN hyA (by with_reducible assumption))))); ((first | ((with_reducible refine keepS5 ?_ ?_); (first | (with_reducible assumption) | (with_reducible exact keepN hyA (by with_reducible assumption))); (exact Nat.ne_of_lt (Nat.lt_of_lt_of_le hB5 hDa))) | (with_reducible assumption) | (with_reducible exact keepD (by with_reducible assumption)) | (with_reducible exact keepA (by with_reducible assumption)) | (with_reducible exact keepD (keepA (by with_reducible assumption))) | (with_reducible exact keepM' hx20 hBtb (by with_reducible assumption)) | (with_reducible exact keepM' hx4 hBtb (by with_reducible assumption)) | (with_reducible exact keepN hyA (by with_reducible assumption)) | (with_reducible exact keepA (keepN hyA (by with_reducible assumption))))); ((first | ((with_reducible refine keepS5 ?_ ?_); (first | (with_reducible assumption) | (with_reducible exact keepN hyA (by with_reducible assumption))); (exact Nat.ne_of_lt (Nat.lt_of_lt_of_le hB5 hDa))) | (with_reducible assumption) | (with_reducible exact keepD (by with_reducible assumption)) | (with_reducible exact keepA (by with_reducible assumption)) | (with_reducible exact keepD (keepA (by with_reducible assumption))) | (with_reducible exact keepM' hx20 hBtb (by with_reducible assumption)) | (with_reducible exact keepM' hx4 hBtb (by with_reducible assumption)) | (with_reducible exact keepN hyA (by with_reducible assumption)) | (with_reducible exact keepA (keepN hyA (by with_reducible assumption))))); ((first | (with_reducible exact ext5 (Ext.transNo (by with_reducible assumption) hyA) hDa) | (with_reducible exact ext5 (by with_reducible assumption) hDa) | (with_reducible assumption) | (with_reducible exact l5.drew) | (with_reducible exact l5.alloc _) | (with_reducible exact (l5.alloc _).drew) | (with_reducible exact Ext.trans (by with_reducible assumption) hx20) | (with_reducible exact Ext.trans (by with_reducible assumption) hx4) | (with_reducible exact Ext.transNo (by with_reducible assumption) hyA) | (with_reducible exact Ext.alloc (by with_reducible assumption) _) | (with_reducible exact Ext.alloc (Ext.transNo (by with_reducible assumption) hyA) _))); ((first | (with_reducible exact tape5 (TapeOk.ext (by with_reducible assumption) hyA) (Nat.lt_of_lt_of_le htb5 hDa)) | (with_reducible exact tape5 (by with_reducible assumption) (Nat.lt_of_lt_of_le htb5 hDa)) | (with_reducible assumption) | (with_reducible exact l6.drew) | (with_reducible exact l6.alloc) | (with_reducible exact TapeOk.drew l6.alloc) | (with_reducible exact TapeOk.ext (by with_reducible assumption) hyA) | (with_reducible exact TapeOk.alloc (by with_reducible assumption)) | (with_reducible exact TapeOk.alloc (TapeOk.ext (by with_reducible assumption) hyA))))))
            (first | (go_at_call 13; (try go_split_ands); (with_reducible refine (next_lt tb 20 (by omega) (by omega) _ ?_).mono ?_); (with_reducible assumption); (rintro e20 w20 ⟨z20, rfl, hz20, ht20, hx20, hs20⟩); (have hq20 : w5.heap.size ≤ w20.heap.size := Ext.size (Ext.trans (by with_reducible assumption) hx20)); (clear hs20)) | (go_at_call 13; (try go_split_ands); (with_reducible refine (next_lt tb 4 (by omega) (by omega) _ ?_).mono ?_); (with_reducible assumption); (rintro e4 w4 ⟨z4, rfl, hz4, ht4, hx4, hs4⟩); (have hq4 : w5.heap.size ≤ w4.heap.size := Ext.size (Ext.trans (by with_reducible assumption) hx4)); (clear hs4)) | (go_at_call 19; (try go_split_ands); (with_reducible refine (padd_mid hm5.out.seats (tb := tb) ?_ htB hB5 _ _).mono ?_); (with_reducible assumption); (rintro e3 w3 ⟨r', er, a', n', c', hr', rfl, hs', hyA⟩); (have hmA := Lib.hid (hm5.out.step (Ext.transNo (by with_reducible assumption) hyA) (TapeOk.ext (by with_reducible assumption) hyA))); (have hsO := Lib.hid (mid_seats hm5.out.seats htB (by with_reducible assumption) hyA)); (have hxA := Lib.hid (show Ext (At tb) w5 _ from by with_reducible assumption)); (have hg : Hid (er = 0 → RingP r') := Lib.hid (fun he => by have hh := ring_add (id := (z20 : Int)) (p := (z4 : Int)) hm5.out.ok (by rw [hr'.out]; exact he); rw [hr'.out] at hh; exact hh)); (first | ((with_reducible have hi := hx4.blk (hx20.blk (alloc_top (n := w5.heap.size) (w := w5.drew) (o := .cells #[.int .i64 0, .int .i64 0, .slice none 0 0, .int .i64 0, .bool false] 25) HSD.out) (at_ne htb5)) (at_ne htb5)); (have hDa : w5.heap.size ≤ w5.heap.size := Nat.le_refl _); (have HD3 := Lib.hid (hyA.blk hi (fun x => x.elim))); (have HDb := Lib.hid (lt_of_block hi)); (have cD := cellOf HD3.out); (have fD := freeOf HD3.out); (clear hi)) | ((with_reducible have hi := hx4.blk (alloc_top (w := w20) (o := .cells #[.int .i64 0, .int .i64 0, .slice none 0 0, .int .i64 0, .bool false] 25) rfl) (at_ne (Nat.lt_of_lt_of_le htb5 hq20))); (have hDa := hq20); (have HD3 := Lib.hid (hyA.blk hi (fun x => x.elim))); (have HDb := Lib.hid (lt_of_block hi)); (have cD := cellOf HD3.out); (have fD := freeOf HD3.out); (clear hi)) | ((with_reducible have hi := alloc_top (w := w4) (o := .cells #[.int .i64 0, .int .i64 0, .slice none 0 0, .int .i64 0, .bool false] 25) rfl); (have hDa := hq4); (have HD3 := Lib.hid (hyA.blk hi (fun x => x.elim))); (have HDb := Lib.hid (lt_of_block hi)); (have cD := cellOf HD3.out); (have fD := freeOf HD3.out); (clear hi)) | skip)))
          all_goals
            go_wp2_with fail
            go_meet
            first
            | (with_reducible exact KeepCut.late hmA.out hs'.out mid_le hg.out)
            | (with_reducible exact KeepCut.early hmA.out hsO.out hs'.out mid_le (mid_in hDa HDb.out) (Nat.lt_of_lt_of_le hB5 hDa) hg.out HD3.out)
        case rest =>
          obtain ⟨D, r', er, a', n', c', rfl, rfl, hBD, hg, hD, hs', hm'⟩ := hcut
          have cD := cellOf hD
          have cB := cellOf hm'.box
          have fB := freeOf hm'.box
          have HS := Lib.hid hs'
          have HM := Lib.hid hm'
          clear hD hs' hm' l0 l1 l2 l3 l4 l5 l6 HSD
          by_cases he : er = 0
          · subst he
            have hg0 := Lib.hid (hg rfl)
            clear hg
            have hmZ := Lib.hid (HM.out.set HS.out hg0.out rfl)
            have cZ := cellOf hmZ.out.box
            go_wp2_with fail
            refine (valid_any _ r' _ ⟨_, rfl, Row.mono hmZ.out.seats (fun _ _ x => x.elim)⟩).mono ?_
            rintro eV wV ⟨rfl, hxV⟩
            have hmV := Lib.hid (hmZ.out.stepNo hxV)
            rw [ringP_ok hmZ.out.ok]
            clear hxV
            go_wp2_with fail
            go_roundw
            case rel => exact ⟨k + 1, r', a', n', c', by omega, HK.out, hmV⟩
            case measure => simp [intOf]; omega
          · have he' : (er == 0) = false := by simp [he]
            clear hg he
            go_wp2_with fail
            refine (valid_any _ r _ ⟨_, rfl, Row.mono HM.out.seats (fun _ _ x => x.elim)⟩).mono ?_
            rintro eV wV ⟨rfl, hxV⟩
            have hmV := Lib.hid (HM.out.stepNo hxV)
            rw [ringP_ok HM.out.ok]
            clear hxV
            go_wp2_with fail
            go_roundw
            case rel => exact ⟨k + 1, r, a, n, c, by omega, HK.out, hmV⟩
            case measure => simp [intOf]; omega
      · go_wp2_with fail
        refine (next_lt tb 3 (by omega) (by omega) _ hm5.out.tape).mono ?_
        rintro e6 w6 ⟨z6, rfl, hz6, ht6, hx6, hs6⟩
        have hm6 := Lib.hid (hm5.out.step hx6 ht6)
        have cB6 := cellOf hm6.out.box
        have fB6 := freeOf hm6.out.box
        have hB6 : B < w6.heap.size := by omega
        clear ht6 hx6 l0 l1 l2 l3 l4 l5 l6 HSD hs6
        by_cases hz0 : z6 = 0
        · subst hz0
          have l5 : Ext (At tb) w6 w6 := Ext.refl _ _
          have l6 := hm6.out.tape
          go_wp2_with fail
          go_region_law (first | ((go_simp; go_at_call 13); (with_reducible refine (next_lt tb 20 (by omega) (by omega) _ ?_).mono ?_); (exact l6.drew); (rintro e9 w9 ⟨z9, rfl, hz9, ht9, hx9, hs9⟩); (have hm9 := Lib.hid (hm6.out.step (l5.drew.trans hx9) ht9)); (have cB9 := cellOf hm9.out.box); (have fB9 := freeOf hm9.out.box); (clear hs9)) | ((go_simp; go_at_call 20); (with_reducible refine (prem_mid hm6.out.seats (tb := tb) (l5.drew.trans hx9) htB hB6 _).mono ?_); (rintro e3 w3 ⟨r', er, a', n', c', hr', rfl, hs', hyA⟩); (have hmA := Lib.hid (hm9.out.stepNo hyA)); (have cBA := cellOf hmA.out.box); (have fBA := freeOf hmA.out.box); (have hsm := Lib.hid (ring_rem (id := (z9 : Int)) hm5.out.ok)); (rw [hr'.out] at hsm); (have hmZ := Lib.hid (hmA.out.set (mid_lo hs'.out) hsm.out rfl)); (have cZ := cellOf hmZ.out.box)))
          all_goals
            go_wp2_with fail
            refine (valid_any _ r' _ ⟨_, rfl, Row.mono hmZ.out.seats (fun _ _ x => x.elim)⟩).mono ?_
            rintro eV wV ⟨rfl, hxV⟩
            have hmV := Lib.hid (hmZ.out.stepNo hxV)
            rw [ringP_ok hmZ.out.ok]
            clear hxV
            go_wp2_with fail
            go_roundw
            case rel => exact ⟨k + 1, r', a', n', c', by omega, HK.out, hmV⟩
            case measure => simp [intOf]; omega
        · have hz0' : ((z6 : Int) == 0) = false := beq_eq_false_iff_ne.2 (by omega)
          clear hz0
          go_wp2_with fail
          refine (valid_any _ r _ ⟨_, rfl, Row.mono hm6.out.seats (fun _ _ x => x.elim)⟩).mono ?_
          rintro eV wV ⟨rfl, hxV⟩
          have hmV := Lib.hid (hm6.out.stepNo hxV)
          rw [ringP_ok hm6.out.ok]
          clear hxV
          go_wp2_with fail
          go_roundw
          case rel => exact ⟨k + 1, r, a, n, c, by omega, HK.out, hmV⟩
          case measure => simp [intOf]; omega
      · have hz1 : ((z5 : Int) == 0) = false := beq_eq_false_iff_ne.2 (by omega)
        have hz2 : ((z5 : Int) == 1) = false := beq_eq_false_iff_ne.2 (by omega)
        clear hzz
        go_wp2_with fail
        have cB5 := cellOf hm5.out.box
        have fB5 := freeOf hm5.out.box
        refine (ppick_mid hm5.out.seats (tb := tb) l5 htB hB5).mono ?_
        rintro e6 w6 ⟨r1, id1, t1, ok1, a1, n1, c1, hr1, rfl, hs1, hy1⟩
        have hsm1 := ring_picked hm5.out.ok
        rw [hr1.out] at hsm1
        have hpk := Lib.hid hsm1.2
        have hm6 := Lib.hid (hm5.out.stepNo hy1)
        have HM7 := Lib.hid (hm6.out.set (mid_lo hs1.out) hsm1.1 rfl)
        have hB6 : B < (wr5 w6 B (.int .i64 r1.base) (.int .i64 r1.per) (.slice a1 n1 c1) (.int .i64 r1.cur) (.bool r1.opn)).heap.size := lt_of_block HM7.out.box
        have cB6 := cellOf hm6.out.box
        have fB6 := freeOf hm6.out.box
        clear cB5 fB5 hy1 hs1 hsm1 hr1 l0 l1 l2 l3 l4 l5 l6 HSD htb5 hB5
        go_wp2_with fail
        rw [wr5_def]
        generalize wr5 w6 B (.int .i64 r1.base) (.int .i64 r1.per) (.slice a1 n1 c1) (.int .i64 r1.cur) (.bool r1.opn) = w7 at *
        clear cB6 fB6 hm6
        have hm7 := HM7
        clear HM7
        have hB7 : B < w7.heap.size := hB6
        clear hB6
        have htb7 : tb < w7.heap.size := by omega
        have HSD : Hid (w7.heap.size = w7.drew.heap.size) := Lib.hid rfl
        have l0 : w7.cell? ⟨B, 0, none⟩ = some (.int .i64 r1.base) := cellOf hm7.out.box 0
        have l1 : w7.cell? ⟨B, 1, none⟩ = some (.int .i64 r1.per) := cellOf hm7.out.box 1
        have l2 : w7.cell? ⟨B, 2, none⟩ = some (.slice a1 n1 c1) := cellOf hm7.out.box 2
        have l3 : w7.cell? ⟨B, 3, none⟩ = some (.int .i64 r1.cur) := cellOf hm7.out.box 3
        have l4 : w7.cell? ⟨B, 4, none⟩ = some (.bool r1.opn) := cellOf hm7.out.box 4
        have l5 : Ext (At tb) w7 w7 := Ext.refl _ _
        have l6 : TapeOk w7 tb := hm7.out.tape
        go_cut [9, 11] (fun s6 s7 wx => KeepCut w tb B r1 a1 n1 c1 (fun r' er => (er = 0 → RingP r') ∧ (er ≠ 0 → r1.seats.length = 0)) s6 s7 wx)
        case first =>
          go_region_held3 (fun w' => w'.cell? ⟨B, 0, none⟩ = some (.int .i64 r1.base) ∧ w'.cell? ⟨B, 1, none⟩ = some (.int .i64 r1.per) ∧ w'.cell? ⟨B, 2, none⟩ = some (.slice a1 n1 c1) ∧ w'.cell? ⟨B, 3, none⟩ = some (.int .i64 r1.cur) ∧ w'.cell? ⟨B, 4, none⟩ = some (.bool r1.opn) ∧ Ext (At tb) w7 w' ∧ TapeOk w' tb)
            ((go_split_ands; refine ⟨?_, ?_, ?_, ?_, ?_, ?_, ?_⟩; ((first | ((with_reducible refine keepS5 ?_ ?_); (first | (with_reducible assumption) | (with_reducible exact keepN hyA (by with_reducible assumption))); (exact Nat.ne_of_lt (Nat.lt_of_lt_of_le hB7 hDa))) | (with_reducible assumption) | (with_reducible exact keepD (by with_reducible assumption)) | (with_reducible exact keepA (by with_reducible assumption)) | (with_reducible exact keepD (keepA (by with_reducible assumption))) | (with_reducible exact keepM' hx8 hBtb (by with_reducible assumption)) | (with_reducible exact keepM' hx9 hBtb (by with_reducible assumption)) | (with_reducible exact keepN hyA (by with_reducible assumption)) | (with_reducible exact keepA (keepN hyA (by with_reducible assumption))))); ((first | ((with_reducible refine keepS5 ?_ ?_); (first | (with_reducible assumption) | (with_reducible exact keepN hyA (by with_reducible assumption))); (exact Nat.ne_of_lt (Nat.lt_of_lt_of_le hB7 hDa))) | (with_reducible assumption) | (with_reducible exact keepD (by with_reducible assumption)) | (with_reducible exact keepA (by with_reducible assumption)) | (with_reducible exact keepD (keepA (by with_reducible assumption))) | (with_reducible exact keepM' hx8 hBtb (by with_reducible assumption)) | (with_reducible exact keepM' hx9 hBtb (by with_reducible assumption)) | (with_reducible exact keepN hyA (by with_reducible assumption)) | (with_reducible exact keepA (keepN hyA (by with_reducible assumption))))); ((first | ((with_reducible refine keepS5 ?_ ?_); (first | (with_reducible assumption) | (with_reducible exact keepN hyA (by with_reducible assumption))); (exact Nat.ne_of_lt (Nat.lt_of_lt_of_le hB7 hDa))) | (with_reducible assumption) | (with_reducible exact keepD (by with_reducible assumption)) | (with_reducible exact keepA (by with_reducible assumption)) | (with_reducible exact keepD (keepA (by with_reducible assumption))) | (with_reducible exact keepM' hx8 hBtb (by with_reducible assumption)) | (with_reducible exact keepM' hx9 hBtb (by with_reducible assumption)) | (with_reducible exact keepN hyA (by with_reducible assumption)) | (with_reducible exact keepA (keepN hyA (by with_reducible assumption))))); ((first | ((with_reducible refine keepS5 ?_ ?_); (first | (with_reducible assumption) | (with_reducible exact keepN hyA (by with_reducible assumption))); (exact Nat.ne_of_lt (Nat.lt_of_lt_of_le hB7 hDa))) | (with_reducible assumption) | (with_reducible exact keepD (by with_reducible assumption)) | (with_reducible exact keepA (by with_reducible assumption)) | (with_reducible exact keepD (keepA (by with_reducible assumption))) | (with_reducible exact keepM' hx8 hBtb (by with_reducible assumption)) | (with_reducible exact keepM' hx9 hBtb (by with_reducible assumption)) | (with_reducible exact keepN hyA (by with_reducible assumption)) | (with_reducible exact keepA (keepN hyA (by with_reducible assumption))))); ((first | ((with_reducible refine keepS5 ?_ ?_); (first | (with_reducible assumption) | (with_reducible exact keepN hyA (by with_reducible assumption))); (exact Nat.ne_of_lt (Nat.lt_of_lt_of_le hB7 hDa))) | (with_reducible assumption) | (with_reducible exact keepD (by with_reducible assumption)) | (with_reducible exact keepA (by with_reducible assumption)) | (with_reducible exact keepD (keepA (by with_reducible assumption))) | (with_reducible exact keepM' hx8 hBtb (by with_reducible assumption)) | (with_reducible exact keepM' hx9 hBtb (by with_reducible assumption)) | (with_reducible exact keepN hyA (by with_reducible assumption)) | (with_reducible exact keepA (keepN hyA (by with_reducible assumption))))); ((first | (with_reducible exact ext5 (Ext.transNo (by with_reducible assumption) hyA) hDa) | (with_reducible exact ext5 (by with_reducible assumption) hDa) | (with_reducible assumption) | (with_reducible exact l5.drew) | (with_reducible exact l5.alloc _) | (with_reducible exact (l5.alloc _).drew) | (with_reducible exact Ext.trans (by with_reducible assumption) hx8) | (with_reducible exact Ext.trans (by with_reducible assumption) hx9) | (with_reducible exact Ext.transNo (by with_reducible assumption) hyA) | (with_reducible exact Ext.alloc (by with_reducible assumption) _) | (with_reducible exact Ext.alloc (Ext.transNo (by with_reducible assumption) hyA) _))); ((first | (with_reducible exact tape5 (TapeOk.ext (by with_reducible assumption) hyA) (Nat.lt_of_lt_of_le htb7 hDa)) | (with_reducible exact tape5 (by with_reducible assumption) (Nat.lt_of_lt_of_le htb7 hDa)) | (with_reducible assumption) | (with_reducible exact l6.drew) | (with_reducible exact l6.alloc) | (with_reducible exact TapeOk.drew l6.alloc) | (with_reducible exact TapeOk.ext (by with_reducible assumption) hyA) | (with_reducible exact TapeOk.alloc (by with_reducible assumption)) | (with_reducible exact TapeOk.alloc (TapeOk.ext (by with_reducible assumption) hyA))))))
            (first | (go_at_call 13; (try go_split_ands); (with_reducible refine (next_lt tb 8 (by omega) (by omega) _ ?_).mono ?_); (with_reducible assumption); (rintro e8 w8 ⟨z8, rfl, hz8, ht8, hx8, hs8⟩); (have hq8 : w7.heap.size ≤ w8.heap.size := Ext.size (Ext.trans (by with_reducible assumption) hx8)); (clear hs8)) | (go_at_call 13; (try go_split_ands); (with_reducible refine (next_lt tb 9 (by omega) (by omega) _ ?_).mono ?_); (with_reducible assumption); (rintro e9 w9 ⟨z9, rfl, hz9, ht9, hx9, hs9⟩); (have hq9 : w7.heap.size ≤ w9.heap.size := Ext.size (Ext.trans (by with_reducible assumption) hx9)); (clear hs9)) | (go_at_call 22; (try go_split_ands); (with_reducible refine (pspend_mid hm7.out.seats (tb := tb) ?_ htB hB7 _ _).mono ?_); (with_reducible assumption); (rintro e3 w3 ⟨r', bo, er, a', n', c', hr', rfl, hs', hyA⟩); (have hmA := Lib.hid (hm7.out.step (Ext.transNo (by with_reducible assumption) hyA) (TapeOk.ext (by with_reducible assumption) hyA))); (have hsO := Lib.hid (mid_seats hm7.out.seats htB (by with_reducible assumption) hyA)); (have hxA := Lib.hid (show Ext (At tb) w7 _ from by with_reducible assumption)); (have hg : Hid ((er = 0 → RingP r') ∧ (er ≠ 0 → r1.seats.length = 0)) := Lib.hid (ring_spent hm7.out.ok hpk.out (by first | (have hw8 : IntKind.i64.wrap (1 + (z8 : Int)) = 1 + (z8 : Int) := IntWalk.i64_in _ (by omega); rw [hw8]; omega) | omega) hr'.out)); (first | ((with_reducible have hi := hx9.blk (hx8.blk (alloc_top (n := w7.heap.size) (w := w7.drew) (o := .cells #[.int .i64 0, .int .i64 0, .slice none 0 0, .int .i64 0, .bool false] 25) HSD.out) (at_ne htb7)) (at_ne htb7)); (have hDa : w7.heap.size ≤ w7.heap.size := Nat.le_refl _); (have HD3 := Lib.hid (hyA.blk hi (fun x => x.elim))); (have HDb := Lib.hid (lt_of_block hi)); (have cD := cellOf HD3.out); (have fD := freeOf HD3.out); (clear hi)) | ((with_reducible have hi := hx9.blk (alloc_top (w := w8) (o := .cells #[.int .i64 0, .int .i64 0, .slice none 0 0, .int .i64 0, .bool false] 25) rfl) (at_ne (Nat.lt_of_lt_of_le htb7 hq8))); (have hDa := hq8); (have HD3 := Lib.hid (hyA.blk hi (fun x => x.elim))); (have HDb := Lib.hid (lt_of_block hi)); (have cD := cellOf HD3.out); (have fD := freeOf HD3.out); (clear hi)) | ((with_reducible have hi := alloc_top (w := w9) (o := .cells #[.int .i64 0, .int .i64 0, .slice none 0 0, .int .i64 0, .bool false] 25) rfl); (have hDa := hq9); (have HD3 := Lib.hid (hyA.blk hi (fun x => x.elim))); (have HDb := Lib.hid (lt_of_block hi)); (have cD := cellOf HD3.out); (have fD := freeOf HD3.out); (clear hi)) | skip)))
          all_goals
            go_wp2_with fail
            go_meet
            first
            | (with_reducible exact KeepCut.late hmA.out hs'.out mid_le hg.out)
            | (with_reducible exact KeepCut.early hmA.out hsO.out hs'.out mid_le (mid_in hDa HDb.out) (Nat.lt_of_lt_of_le hB7 hDa) hg.out HD3.out)
        case rest =>
          obtain ⟨D, r', er, a', n', c', rfl, rfl, hBD, hg, hD, hs', hm'⟩ := hcut
          have cD := cellOf hD
          have cB := cellOf hm'.box
          have fB := freeOf hm'.box
          have HS := Lib.hid hs'
          have HM := Lib.hid hm'
          clear hD hs' hm' l0 l1 l2 l3 l4 l5 l6 HSD
          by_cases he : er = 0
          · subst he
            have hg0 := Lib.hid (hg.1 rfl)
            clear hg
            have hmZ := Lib.hid (HM.out.set HS.out hg0.out rfl)
            have cZ := cellOf hmZ.out.box
            go_wp2_with fail
            refine (valid_any _ r' _ ⟨_, rfl, Row.mono hmZ.out.seats (fun _ _ x => x.elim)⟩).mono ?_
            rintro eV wV ⟨rfl, hxV⟩
            have hmV := Lib.hid (hmZ.out.stepNo hxV)
            rw [ringP_ok hmZ.out.ok]
            clear hxV
            go_wp2_with fail
            go_roundw
            case rel => exact ⟨k + 1, r', a', n', c', by omega, HK.out, hmV⟩
            case measure => simp [intOf]; omega
          · have he' : (er == 0) = false := by simp [he]
            have hge := hg.2 he
            have hn0 : n1 ≤ 0 := by rw [HM.out.seats.num, hge]; exact Nat.le_refl _
            clear hg he hge
            go_wp2_with fail
            refine (valid_any _ r1 _ ⟨_, rfl, Row.mono HM.out.seats (fun _ _ x => x.elim)⟩).mono ?_
            rintro eV wV ⟨rfl, hxV⟩
            have hmV := Lib.hid (HM.out.stepNo hxV)
            rw [ringP_ok HM.out.ok]
            clear hxV
            go_wp2_with fail
            go_roundw
            case rel => exact ⟨k + 1, r1, a1, n1, c1, by omega, HK.out, hmV⟩
            case measure => simp [intOf]; omega
    · go_wp2_with fail
      refine (sane_any _).mono ?_
      rintro e5 w5 ⟨rfl, hx5⟩
      go_wp2_with fail
      go_ret
      exact ⟨rfl, hm.out.ext.transNo hx5⟩
end Go.Proofs.Ytckeidboolfcoaa

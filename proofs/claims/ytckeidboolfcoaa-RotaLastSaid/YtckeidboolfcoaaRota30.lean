/- The law's generator of rings: the walk. -/
import Derived.Test.YtckeidboolfcoaaRota29
import Derived.Deep.DeepCutAuto
import Derived.Deep.RegionHeld3
namespace Go.Proofs.Ytckeidboolfcoaa
open Go Go.RowKit

def RingPost (tb : Nat) (w : World) (e : Ending) (w' : World) : Prop :=
  ∃ r a n c, Small r ∧ e = .returned (.agg #[.int .i64 r.base, .int .i64 r.per, .slice a n c, .int .i64 r.cur, .bool r.opn]) ∧ Seats (Lo w.heap.size) w' (.slice a n c) r.seats ∧ TapeOk w' tb ∧ Ext (At tb) w w'
theorem GenMem.lt {w0 wr : World} {tb B n c : Nat} {r : Ring} {a : Option Addr} (h : GenMem w0 tb B wr r a n c) : B < wr.heap.size ∧ w0.heap.size < B ∧ tb < w0.heap.size := ⟨lt_of_block h.box, h.top, h.tb⟩
theorem mid_le {B n0 n1 : Nat} : ∀ k, k ≤ B → Mid B n0 n1 k := fun _ h => .inl h
theorem mid_in {B n0 n1 D : Nat} (h1 : n0 ≤ D) (h2 : D < n1) : Mid B n0 n1 D := .inr ⟨h1, h2⟩
theorem mid_seats {wr w' w3 : World} {B tb : Nat} {sl : Value} {l : List Seat} (h : Seats (Lo (B + 1)) wr sl l) (htb : tb ≤ B) (hx : Ext (At tb) wr w') (hy : Ext No w' w3) : Seats (Mid B wr.heap.size w'.heap.size) w3 sl l := Row.extNo (mid_row h hx htb) hy
theorem keepS5 {w : World} {a : Addr} {v u0 u1 u2 u3 u4 : Value} {D : Nat} (h : w.cell? a = some v) (hne : a.block ≠ D) : (((((w.setCell ⟨D, 0, none⟩ u0).setCell ⟨D, 1, none⟩ u1).setCell ⟨D, 2, none⟩ u2).setCell ⟨D, 3, none⟩ u3).setCell ⟨D, 4, none⟩ u4).cell? a = some v :=
  keepS hne (keepS hne (keepS hne (keepS hne (keepS hne h))))
theorem ext5 {M : Nat → Prop} {a w : World} {u0 u1 u2 u3 u4 : Value} {D : Nat} (h : Ext M a w) (hD : a.heap.size ≤ D) : Ext M a (((((w.setCell ⟨D, 0, none⟩ u0).setCell ⟨D, 1, none⟩ u1).setCell ⟨D, 2, none⟩ u2).setCell ⟨D, 3, none⟩ u3).setCell ⟨D, 4, none⟩ u4) :=
  ((((h.own hD _).own hD _).own hD _).own hD _).own hD _
theorem mid_lo {w : World} {B n0 n1 : Nat} {sl : Value} {l : List Seat} (h : Seats (Mid B n0 n1) w sl l) : Seats (Lo (B + 1)) w sl l := Row.mono h (fun _ _ hm => .inl (Nat.le_of_lt_succ hm))
theorem small_spend' {r r' : Ring} {c er : Int} {f b : Bool} (h : Small r) (e : ringSpend r c f = (r', b, er)) (he : er = 0) : Small r' := by
  have hh := small_spend (cost := c) (fin := f) h (by rw [e]; exact he)
  rw [e] at hh; exact hh
theorem at_ne {tb n : Nat} (h : tb < n) : ¬ At tb n := fun e => by unfold At at e; omega
theorem keepM' {tb : Nat} {w w' : World} {a : Addr} {v : Value} (hx : Ext (At tb) w w') (hn : a.block ≠ tb) (h : w.cell? a = some v) : w'.cell? a = some v := hx.keepM h hn
theorem TapeOk.alloc {tb : Nat} {w : World} {o : Obj} (h : TapeOk w tb) : TapeOk (w.alloc o) tb := h.ext ((Ext.refl _ _).alloc _)
theorem TapeOk.drew {tb : Nat} {w : World} (h : TapeOk w tb) : TapeOk w.drew tb := h.ext (Ext.refl _ _).drew
theorem TapeOk.setC {tb : Nat} {w : World} {a : Addr} {u : Value} (hn : tb < a.block) (h : TapeOk w tb) : TapeOk (w.setCell a u) tb := h.extAbove ((Ext.refl (At a.block) w).setCell (fun _ => rfl) u) (fun i hi => by unfold At; omega)
theorem tape5 {tb : Nat} {w : World} {u0 u1 u2 u3 u4 : Value} {D : Nat} (h : TapeOk w tb) (hD : tb < D) : TapeOk (((((w.setCell ⟨D, 0, none⟩ u0).setCell ⟨D, 1, none⟩ u1).setCell ⟨D, 2, none⟩ u2).setCell ⟨D, 3, none⟩ u3).setCell ⟨D, 4, none⟩ u4) tb :=
  TapeOk.setC hD (TapeOk.setC hD (TapeOk.setC hD (TapeOk.setC hD (TapeOk.setC hD h))))

set_option maxRecDepth 100000 in
set_option maxHeartbeats 8000000 in
theorem ring_any (tb : Nat) (w : World) (ht : TapeOk w tb) : Calls Try.prog 9 #[.pointer (some ⟨tb, 0, none⟩)] w (RingPost tb w) := by
  have htb := ht.lt
  have HT := Lib.hid (ht.alloc (o := .cells #[.int .i64 0, .int .i64 0, .slice none 0 0, .int .i64 0, .bool false] 25))
  clear ht
  go_enter Try.func9, Try.ntmps9
  go_wp2_with fail
  refine (next_lt tb 5 (by omega) (by omega) _ HT.out).mono ?_
  rintro e1 w1 ⟨z1, rfl, hz1, ht1, hx1, hs1⟩
  have HT1 := Lib.hid ht1
  have HX1 := Lib.hid hx1
  clear ht1 hx1 HT hs1
  go_wp2_with fail
  refine (next_lt tb 4 (by omega) (by omega) _ HT1.out).mono ?_
  rintro e2 w2 ⟨z2, rfl, hz2, ht2, hx2, hs2⟩
  have HT2 := Lib.hid ht2
  have HX2 := Lib.hid (HX1.out.trans hx2)
  clear ht2 hx2 HT1 HX1 hs2
  go_wp2_with fail
  refine (rnewR_any (1 + (z1 : Int)) (1 + (z2 : Int)) _).mono ?_
  rintro e3 w3 ⟨v3, rfl, hv3, hx3⟩
  obtain ⟨hn1, hn2⟩ := small_new (base := 1 + (z1 : Int)) (per := 1 + (z2 : Int)) (by omega) (by omega)
  rw [hn1] at hv3 ⊢
  obtain ⟨a3, n3, c3, hve3, hs3⟩ := (hv3 (Lo (w3.heap.size + 1))).opens
  obtain rfl : v3 = .agg #[.int .i64 (1 + (z1 : Int)), .int .i64 (1 + (z2 : Int)), .slice a3 n3 c3, .int .i64 0, .bool false] := hve3
  have hGB : GenMem w tb w3.heap.size (w3.alloc (.cells #[.int .i64 (1 + (z1 : Int)), .int .i64 (1 + (z2 : Int)), .slice a3 n3 c3, .int .i64 0, .bool false] 25)) ⟨1 + (z1 : Int), 1 + (z2 : Int), [], 0, false⟩ a3 n3 c3 := by
    have h0 := HX2.out.blk (alloc_top (w := w) (o := .cells #[.int .i64 0, .int .i64 0, .slice none 0 0, .int .i64 0, .bool false] 25) rfl) (by unfold At; omega)
    have h1 := hx3.blk h0 (fun x => x.elim)
    exact ⟨hn2, alloc_top rfl, alloc_under h1, Row.extNo hs3 ((Ext.refl _ _).alloc _), (HT2.out.ext hx3).alloc, ((((Ext.refl _ _).alloc _).trans HX2.out).transNo hx3).alloc _, htb, lt_of_block h1⟩
  have hG := Lib.hid hGB
  clear hn1 hn2 hv3 hs3 hx3 HT2 HX2 hGB
  go_wp2_with fail
  generalize w3.alloc (.cells #[.int .i64 (1 + (z1 : Int)), .int .i64 (1 + (z2 : Int)), .slice a3 n3 c3, .int .i64 0, .bool false] 25) = W3 at *
  generalize w3.heap.size = B at *
  refine (next_lt tb 14 (by omega) (by omega) _ hG.out.tape).mono ?_
  rintro e4 w4 ⟨z4, rfl, hz4, ht4, hx4, hs4⟩
  have hG4 := Lib.hid (hG.out.step hx4 ht4)
  clear ht4 hx4 hG hs4
  go_wp2_with fail
  go_loopw [5] (fun i wr => ∃ (k : Nat) (r : Ring) (a : Option Addr) (n c : Nat), k ≤ 13 ∧ i = .int .i64 k ∧ Hid (GenMem w tb B wr r a n c)) (fun i _ => (intOf i).toNat)
  case atStart => exact ⟨z4, _, _, _, _, by omega, rfl, hG4⟩
  case round =>
    obtain ⟨k, r, a, n, c, hk, rfl, hm⟩ := hrel
    obtain ⟨hBs, hwB, _⟩ := hm.out.lt
    have cB := cellOf hm.out.box
    have fB := freeOf hm.out.box
    by_cases hk0 : k = 0
    · subst hk0
      have cC := cellOf hm.out.out
      have fC := freeOf hm.out.out
      go_wp2_with fail
      refine ret_ex rfl ?_
      simp [results, Try.results9, go_sem, cC]
      have hxw : Ext (At w.heap.size) wr (wr5 wr w.heap.size (.int .i64 r.base) (.int .i64 r.per) (.slice a n c) (.int .i64 r.cur) (.bool r.opn)) := wr5_ext
      refine ⟨r, a, n, c, hm.out.small, rfl, (Row.ext hm.out.seats hxw (fun i _ e => by cases e; exact (by unfold Lo; omega))).mono (fun i _ e => Nat.lt_of_lt_of_le (show i < w.heap.size from e) (by omega)), hm.out.tape.extAbove hxw (fun i hi => by unfold At; omega), hm.out.ext.trans2 hxw (fun i hi e => by cases e; exact absurd hi (Nat.lt_irrefl _))⟩
    · have hk1 : 0 < k := by omega
      clear hk0
      go_wp2_with fail
      refine (next_lt tb 5 (by omega) (by omega) _ hm.out.tape).mono ?_
      rintro e5 w5 ⟨z5, rfl, hz5, ht5, hx5, hs5⟩
      have hm5 := Lib.hid (hm.out.step hx5 ht5)
      clear ht5 hx5 hm cB fB
      have hB5 : B < w5.heap.size := by omega
      clear hs5 hBs
      have l0 : w5.cell? ⟨B, 0, none⟩ = some (.int .i64 r.base) := cellOf hm5.out.box 0
      have l1 : w5.cell? ⟨B, 1, none⟩ = some (.int .i64 r.per) := cellOf hm5.out.box 1
      have l2 : w5.cell? ⟨B, 2, none⟩ = some (.slice a n c) := cellOf hm5.out.box 2
      have l3 : w5.cell? ⟨B, 3, none⟩ = some (.int .i64 r.cur) := cellOf hm5.out.box 3
      have l4 : w5.cell? ⟨B, 4, none⟩ = some (.bool r.opn) := cellOf hm5.out.box 4
      have l5 : Ext (At tb) w5 w5 := Ext.refl _ _
      have hBtb : B ≠ tb := by omega
      have htb5 : tb < w5.heap.size := by omega
      have HSD : Hid (w5.heap.size = w5.drew.heap.size) := Lib.hid rfl
      have htB : tb ≤ B := by omega
      have l6 : TapeOk w5 tb := hm5.out.tape
      have hzz : z5 = 0 ∨ z5 = 1 ∨ z5 = 2 ∨ z5 = 3 ∨ z5 = 4 := by omega
      rcases hzz with rfl | rfl | rfl | rfl | rfl

      · go_wp2_with fail
        go_cut [6, 7] (fun s6 s7 wx => GenCut w tb B r a n c (fun r' er => er = 0 → Small r') s6 s7 wx)
        case first =>
          go_region_held3 (fun w' => w'.cell? ⟨B, 0, none⟩ = some (.int .i64 r.base) ∧ w'.cell? ⟨B, 1, none⟩ = some (.int .i64 r.per) ∧ w'.cell? ⟨B, 2, none⟩ = some (.slice a n c) ∧ w'.cell? ⟨B, 3, none⟩ = some (.int .i64 r.cur) ∧ w'.cell? ⟨B, 4, none⟩ = some (.bool r.opn) ∧ Ext (At tb) w5 w' ∧ TapeOk w' tb)
            ((go_split_ands; refine ⟨?_, ?_, ?_, ?_, ?_, ?_, ?_⟩; ((first | ((with_reducible refine keepS5 ?_ ?_); (first | (with_reducible assumption) | (with_reducible exact keepN hyA (by with_reducible assumption))); (exact Nat.ne_of_lt (Nat.lt_of_lt_of_le hB5 hDa))) | (with_reducible assumption) | (with_reducible exact keepD (by with_reducible assumption)) | (with_reducible exact keepA (by with_reducible assumption)) | (with_reducible exact keepD (keepA (by with_reducible assumption))) | (with_reducible exact keepM' hx9 hBtb (by with_reducible assumption)) | (with_reducible exact keepM' hx4 hBtb (by with_reducible assumption)) | (with_reducible exact keepN hyA (by with_reducible assumption)) | (with_reducible exact keepA (keepN hyA (by with_reducible assumption))))); ((first | ((with_reducible refine keepS5 ?_ ?_); (first | (with_reducible assumption) | (with_reducible exact keepN hyA (by with_reducible assumption))); (exact Nat.ne_of_lt (Nat.lt_of_lt_of_le hB5 hDa))) | (with_reducible assumption) | (with_reducible exact keepD (by with_reducible assumption)) | (with_reducible exact keepA (by with_reducible assumption)) | (with_reducible exact keepD (keepA (by with_reducible assumption))) | (with_reducible exact keepM' hx9 hBtb (by with_reducible assumption)) | (with_reducible exact keepM' hx4 hBtb (by with_reducible assumption)) | (with_reducible exact keepN hyA (by with_reducible assumption)) | (with_reducible exact keepA (keepN hyA (by with_reducible assumption))))); ((first | ((with_reducible refine keepS5 ?_ ?_); (first | (with_reducible assumption) | (with_reducible exact keepN hyA (by with_reducible assumption))); (exact Nat.ne_of_lt (Nat.lt_of_lt_of_le hB5 hDa))) | (with_reducible assumption) | (with_reducible exact keepD (by with_reducible assumption)) | (with_reducible exact keepA (by with_reducible assumption)) | (with_reducible exact keepD (keepA (by with_reducible assumption))) | (with_reducible exact keepM' hx9 hBtb (by with_reducible assumption)) | (with_reducible exact keepM' hx4 hBtb (by with_reducible assumption)) | (with_reducible exact keepN hyA (by with_reducible assumption)) | (with_reducible exact keepA (keepN hyA (by with_reducible assumption))))); ((first | ((with_reducible refine keepS5 ?_ ?_); (first | (with_reducible assumption) | (with_reducible exact keepN hyA (by with_reducible assumption))); (exact Nat.ne_of_lt (Nat.lt_of_lt_of_le hB5 hDa))) | (with_reducible assumption) | (with_reducible exact keepD (by with_reducible assumption)) | (with_reducible exact keepA (by with_reducible assumption)) | (with_reducible exact keepD (keepA (by with_reducible assumption))) | (with_reducible exact keepM' hx9 hBtb (by with_reducible assumption)) | (with_reducible exact keepM' hx4 hBtb (by with_reducible assumption)) | (with_reducible exact keepN hyA (by with_reducible assumption)) | (with_reducible exact keepA (keepN hyA (by with_reducible assumption))))); ((first | ((with_reducible refine keepS5 ?_ ?_); (first | (with_reducible assumption) | (with_reducible exact keepN hyA (by with_reducible assumption))); (exact Nat.ne_of_lt (Nat.lt_of_lt_of_le hB5 hDa))) | (with_reducible assumption) | (with_reducible exact keepD (by with_reducible assumption)) | (with_reducible exact keepA (by with_reducible assumption)) | (with_reducible exact keepD (keepA (by with_reducible assumption))) | (with_reducible exact keepM' hx9 hBtb (by with_reducible assumption)) | (with_reducible exact keepM' hx4 hBtb (by with_reducible assumption)) | (with_reducible exact keepN hyA (by with_reducible assumption)) | (with_reducible exact keepA (keepN hyA (by with_reducible assumption))))); ((first | (with_reducible exact ext5 (Ext.transNo (by with_reducible assumption) hyA) hDa) | (with_reducible exact ext5 (by with_reducible assumption) hDa) | (with_reducible assumption) | (with_reducible exact l5.drew) | (with_reducible exact l5.alloc _) | (with_reducible exact (l5.alloc _).drew) | (with_reducible exact Ext.trans (by with_reducible assumption) hx9) | (with_reducible exact Ext.trans (by with_reducible assumption) hx4) | (with_reducible exact Ext.transNo (by with_reducible assumption) hyA) | (with_reducible exact Ext.alloc (by with_reducible assumption) _) | (with_reducible exact Ext.alloc (Ext.transNo (by with_reducible assumption) hyA) _))); ((first | (with_reducible exact tape5 (TapeOk.ext (by with_reducible assumption) hyA) (Nat.lt_of_lt_of_le htb5 hDa)) | (with_reducible exact tape5 (by with_reducible assumption) (Nat.lt_of_lt_of_le htb5 hDa)) | (with_reducible assumption) | (with_reducible exact l6.drew) | (with_reducible exact l6.alloc) | (with_reducible exact TapeOk.drew l6.alloc) | (with_reducible exact TapeOk.ext (by with_reducible assumption) hyA) | (with_reducible exact TapeOk.alloc (by with_reducible assumption)) | (with_reducible exact TapeOk.alloc (TapeOk.ext (by with_reducible assumption) hyA))))))
            (first | (go_at_call 13; (try go_split_ands); (with_reducible refine (next_lt tb 9 (by omega) (by omega) _ ?_).mono ?_); (with_reducible assumption); (rintro e9 w9 ⟨z9, rfl, hz9, ht9, hx9, hs9⟩); (have hq9 : w5.heap.size ≤ w9.heap.size := Ext.size (Ext.trans (by with_reducible assumption) hx9)); (clear hs9)) | (go_at_call 13; (try go_split_ands); (with_reducible refine (next_lt tb 4 (by omega) (by omega) _ ?_).mono ?_); (with_reducible assumption); (rintro e4 w4 ⟨z4, rfl, hz4, ht4, hx4, hs4⟩); (have hq4 : w5.heap.size ≤ w4.heap.size := Ext.size (Ext.trans (by with_reducible assumption) hx4)); (clear hs4)) | (go_at_call 24; (try go_split_ands); (with_reducible refine (radd_mid hm5.out.seats (tb := tb) ?_ htB hB5 _ _).mono ?_); (with_reducible assumption); (rintro e3 w3 ⟨r', er, a', n', c', hr', rfl, hs', hyA⟩); (have hmA := Lib.hid (hm5.out.step (Ext.transNo (by with_reducible assumption) hyA) (TapeOk.ext (by with_reducible assumption) hyA))); (have hsO := Lib.hid (mid_seats hm5.out.seats htB (by with_reducible assumption) hyA)); (have hxA := Lib.hid (show Ext (At tb) w5 _ from by with_reducible assumption)); (have hg : Hid (er = 0 → Small r') := Lib.hid (fun he => by have hh := small_add (id := (z9 : Int)) (p := (z4 : Int)) hm5.out.small (by omega) (by rw [hr'.out]; exact he); rw [hr'.out] at hh; exact hh)); (first | ((with_reducible have hi := hx4.blk (hx9.blk (alloc_top (n := w5.heap.size) (w := w5.drew) (o := .cells #[.int .i64 0, .int .i64 0, .slice none 0 0, .int .i64 0, .bool false] 25) HSD.out) (at_ne htb5)) (at_ne htb5)); (have hDa : w5.heap.size ≤ w5.heap.size := Nat.le_refl _); (have HD3 := Lib.hid (hyA.blk hi (fun x => x.elim))); (have HDb := Lib.hid (lt_of_block hi)); (have cD := cellOf HD3.out); (have fD := freeOf HD3.out); (clear hi)) | ((with_reducible have hi := hx4.blk (alloc_top (w := w9) (o := .cells #[.int .i64 0, .int .i64 0, .slice none 0 0, .int .i64 0, .bool false] 25) rfl) (at_ne (Nat.lt_of_lt_of_le htb5 hq9))); (have hDa := hq9); (have HD3 := Lib.hid (hyA.blk hi (fun x => x.elim))); (have HDb := Lib.hid (lt_of_block hi)); (have cD := cellOf HD3.out); (have fD := freeOf HD3.out); (clear hi)) | ((with_reducible have hi := alloc_top (w := w4) (o := .cells #[.int .i64 0, .int .i64 0, .slice none 0 0, .int .i64 0, .bool false] 25) rfl); (have hDa := hq4); (have HD3 := Lib.hid (hyA.blk hi (fun x => x.elim))); (have HDb := Lib.hid (lt_of_block hi)); (have cD := cellOf HD3.out); (have fD := freeOf HD3.out); (clear hi)) | skip)))
          all_goals
            go_wp2_with fail
            go_meet
            first
            | (with_reducible exact GenCut.late hmA.out hs'.out mid_le hg.out)
            | (with_reducible exact GenCut.early hmA.out hsO.out hs'.out mid_le (mid_in hDa HDb.out) (Nat.lt_of_lt_of_le hB5 hDa) hg.out HD3.out)
        case rest =>
          obtain ⟨D, r', er, a', n', c', rfl, rfl, hBD, hg, hD, hs', hm'⟩ := hcut
          have cD := cellOf hD
          have cB := cellOf hm'.box
          have fB := freeOf hm'.box
          have HS := Lib.hid hs'
          have HM := Lib.hid hm'
          have HK : Hid (Value.int .i64 ((k : Int) - 1) = .int .i64 ((k - 1 : Nat) : Int)) := Lib.hid (by rw [show ((k - 1 : Nat) : Int) = (k : Int) - 1 from by omega])
          clear hD hs' hm'
          by_cases he : er = 0
          · subst he
            have hg0 := Lib.hid (hg rfl)
            clear hg
            go_wp2_with fail
            go_roundw
            case rel => exact ⟨k - 1, r', a', n', c', by omega, HK.out, Lib.hid (HM.out.set HS.out hg0.out rfl)⟩
            case measure => simp [intOf]; omega
          · have he' : (er == 0) = false := by simp [he]
            clear hg he
            go_wp2_with fail
            go_roundw
            case rel => exact ⟨k - 1, r, a, n, c, by omega, HK.out, HM⟩
            case measure => simp [intOf]; omega
      · go_wp2_with fail
        go_cut [6, 7] (fun s6 s7 wx => GenCut w tb B r a n c (fun r' er => er = 0 → Small r') s6 s7 wx)
        case first =>
          go_region_held3 (fun w' => w'.cell? ⟨B, 0, none⟩ = some (.int .i64 r.base) ∧ w'.cell? ⟨B, 1, none⟩ = some (.int .i64 r.per) ∧ w'.cell? ⟨B, 2, none⟩ = some (.slice a n c) ∧ w'.cell? ⟨B, 3, none⟩ = some (.int .i64 r.cur) ∧ w'.cell? ⟨B, 4, none⟩ = some (.bool r.opn) ∧ Ext (At tb) w5 w' ∧ TapeOk w' tb)
            ((go_split_ands; refine ⟨?_, ?_, ?_, ?_, ?_, ?_, ?_⟩; ((first | ((with_reducible refine keepS5 ?_ ?_); (first | (with_reducible assumption) | (with_reducible exact keepN hyA (by with_reducible assumption))); (exact Nat.ne_of_lt (Nat.lt_of_lt_of_le hB5 hDa))) | (with_reducible assumption) | (with_reducible exact keepD (by with_reducible assumption)) | (with_reducible exact keepA (by with_reducible assumption)) | (with_reducible exact keepD (keepA (by with_reducible assumption))) | (with_reducible exact keepM' hx9 hBtb (by with_reducible assumption)) | (with_reducible exact keepM' hx4 hBtb (by with_reducible assumption)) | (with_reducible exact keepN hyA (by with_reducible assumption)) | (with_reducible exact keepA (keepN hyA (by with_reducible assumption))))); ((first | ((with_reducible refine keepS5 ?_ ?_); (first | (with_reducible assumption) | (with_reducible exact keepN hyA (by with_reducible assumption))); (exact Nat.ne_of_lt (Nat.lt_of_lt_of_le hB5 hDa))) | (with_reducible assumption) | (with_reducible exact keepD (by with_reducible assumption)) | (with_reducible exact keepA (by with_reducible assumption)) | (with_reducible exact keepD (keepA (by with_reducible assumption))) | (with_reducible exact keepM' hx9 hBtb (by with_reducible assumption)) | (with_reducible exact keepM' hx4 hBtb (by with_reducible assumption)) | (with_reducible exact keepN hyA (by with_reducible assumption)) | (with_reducible exact keepA (keepN hyA (by with_reducible assumption))))); ((first | ((with_reducible refine keepS5 ?_ ?_); (first | (with_reducible assumption) | (with_reducible exact keepN hyA (by with_reducible assumption))); (exact Nat.ne_of_lt (Nat.lt_of_lt_of_le hB5 hDa))) | (with_reducible assumption) | (with_reducible exact keepD (by with_reducible assumption)) | (with_reducible exact keepA (by with_reducible assumption)) | (with_reducible exact keepD (keepA (by with_reducible assumption))) | (with_reducible exact keepM' hx9 hBtb (by with_reducible assumption)) | (with_reducible exact keepM' hx4 hBtb (by with_reducible assumption)) | (with_reducible exact keepN hyA (by with_reducible assumption)) | (with_reducible exact keepA (keepN hyA (by with_reducible assumption))))); ((first | ((with_reducible refine keepS5 ?_ ?_); (first | (with_reducible assumption) | (with_reducible exact keepN hyA (by with_reducible assumption))); (exact Nat.ne_of_lt (Nat.lt_of_lt_of_le hB5 hDa))) | (with_reducible assumption) | (with_reducible exact keepD (by with_reducible assumption)) | (with_reducible exact keepA (by with_reducible assumption)) | (with_reducible exact keepD (keepA (by with_reducible assumption))) | (with_reducible exact keepM' hx9 hBtb (by with_reducible assumption)) | (with_reducible exact keepM' hx4 hBtb (by with_reducible assumption)) | (with_reducible exact keepN hyA (by with_reducible assumption)) | (with_reducible exact keepA (keepN hyA (by with_reducible assumption))))); ((first | ((with_reducible refine keepS5 ?_ ?_); (first | (with_reducible assumption) | (with_reducible exact keepN hyA (by with_reducible assumption))); (exact Nat.ne_of_lt (Nat.lt_of_lt_of_le hB5 hDa))) | (with_reducible assumption) | (with_reducible exact keepD (by with_reducible assumption)) | (with_reducible exact keepA (by with_reducible assumption)) | (with_reducible exact keepD (keepA (by with_reducible assumption))) | (with_reducible exact keepM' hx9 hBtb (by with_reducible assumption)) | (with_reducible exact keepM' hx4 hBtb (by with_reducible assumption)) | (with_reducible exact keepN hyA (by with_reducible assumption)) | (with_reducible exact keepA (keepN hyA (by with_reducible assumption))))); ((first | (with_reducible exact ext5 (Ext.transNo (by with_reducible assumption) hyA) hDa) | (with_reducible exact ext5 (by with_reducible assumption) hDa) | (with_reducible assumption) | (with_reducible exact l5.drew) | (with_reducible exact l5.alloc _) | (with_reducible exact (l5.alloc _).drew) | (with_reducible exact Ext.trans (by with_reducible assumption) hx9) | (with_reducible exact Ext.trans (by with_reducible assumption) hx4) | (with_reducible exact Ext.transNo (by with_reducible assumption) hyA) | (with_reducible exact Ext.alloc (by with_reducible assumption) _) | (with_reducible exact Ext.alloc (Ext.transNo (by with_reducible assumption) hyA) _))); ((first | (with_reducible exact tape5 (TapeOk.ext (by with_reducible assumption) hyA) (Nat.lt_of_lt_of_le htb5 hDa)) | (with_reducible exact tape5 (by with_reducible assumption) (Nat.lt_of_lt_of_le htb5 hDa)) | (with_reducible assumption) | (with_reducible exact l6.drew) | (with_reducible exact l6.alloc) | (with_reducible exact TapeOk.drew l6.alloc) | (with_reducible exact TapeOk.ext (by with_reducible assumption) hyA) | (with_reducible exact TapeOk.alloc (by with_reducible assumption)) | (with_reducible exact TapeOk.alloc (TapeOk.ext (by with_reducible assumption) hyA))))))
            (first | (go_at_call 13; (try go_split_ands); (with_reducible refine (next_lt tb 9 (by omega) (by omega) _ ?_).mono ?_); (with_reducible assumption); (rintro e9 w9 ⟨z9, rfl, hz9, ht9, hx9, hs9⟩); (have hq9 : w5.heap.size ≤ w9.heap.size := Ext.size (Ext.trans (by with_reducible assumption) hx9)); (clear hs9)) | (go_at_call 13; (try go_split_ands); (with_reducible refine (next_lt tb 4 (by omega) (by omega) _ ?_).mono ?_); (with_reducible assumption); (rintro e4 w4 ⟨z4, rfl, hz4, ht4, hx4, hs4⟩); (have hq4 : w5.heap.size ≤ w4.heap.size := Ext.size (Ext.trans (by with_reducible assumption) hx4)); (clear hs4)) | (go_at_call 24; (try go_split_ands); (with_reducible refine (radd_mid hm5.out.seats (tb := tb) ?_ htB hB5 _ _).mono ?_); (with_reducible assumption); (rintro e3 w3 ⟨r', er, a', n', c', hr', rfl, hs', hyA⟩); (have hmA := Lib.hid (hm5.out.step (Ext.transNo (by with_reducible assumption) hyA) (TapeOk.ext (by with_reducible assumption) hyA))); (have hsO := Lib.hid (mid_seats hm5.out.seats htB (by with_reducible assumption) hyA)); (have hxA := Lib.hid (show Ext (At tb) w5 _ from by with_reducible assumption)); (have hg : Hid (er = 0 → Small r') := Lib.hid (fun he => by have hh := small_add (id := (z9 : Int)) (p := (z4 : Int)) hm5.out.small (by omega) (by rw [hr'.out]; exact he); rw [hr'.out] at hh; exact hh)); (first | ((with_reducible have hi := hx4.blk (hx9.blk (alloc_top (n := w5.heap.size) (w := w5.drew) (o := .cells #[.int .i64 0, .int .i64 0, .slice none 0 0, .int .i64 0, .bool false] 25) HSD.out) (at_ne htb5)) (at_ne htb5)); (have hDa : w5.heap.size ≤ w5.heap.size := Nat.le_refl _); (have HD3 := Lib.hid (hyA.blk hi (fun x => x.elim))); (have HDb := Lib.hid (lt_of_block hi)); (have cD := cellOf HD3.out); (have fD := freeOf HD3.out); (clear hi)) | ((with_reducible have hi := hx4.blk (alloc_top (w := w9) (o := .cells #[.int .i64 0, .int .i64 0, .slice none 0 0, .int .i64 0, .bool false] 25) rfl) (at_ne (Nat.lt_of_lt_of_le htb5 hq9))); (have hDa := hq9); (have HD3 := Lib.hid (hyA.blk hi (fun x => x.elim))); (have HDb := Lib.hid (lt_of_block hi)); (have cD := cellOf HD3.out); (have fD := freeOf HD3.out); (clear hi)) | ((with_reducible have hi := alloc_top (w := w4) (o := .cells #[.int .i64 0, .int .i64 0, .slice none 0 0, .int .i64 0, .bool false] 25) rfl); (have hDa := hq4); (have HD3 := Lib.hid (hyA.blk hi (fun x => x.elim))); (have HDb := Lib.hid (lt_of_block hi)); (have cD := cellOf HD3.out); (have fD := freeOf HD3.out); (clear hi)) | skip)))
          all_goals
            go_wp2_with fail
            go_meet
            first
            | (with_reducible exact GenCut.late hmA.out hs'.out mid_le hg.out)
            | (with_reducible exact GenCut.early hmA.out hsO.out hs'.out mid_le (mid_in hDa HDb.out) (Nat.lt_of_lt_of_le hB5 hDa) hg.out HD3.out)
        case rest =>
          obtain ⟨D, r', er, a', n', c', rfl, rfl, hBD, hg, hD, hs', hm'⟩ := hcut
          have cD := cellOf hD
          have cB := cellOf hm'.box
          have fB := freeOf hm'.box
          have HS := Lib.hid hs'
          have HM := Lib.hid hm'
          have HK : Hid (Value.int .i64 ((k : Int) - 1) = .int .i64 ((k - 1 : Nat) : Int)) := Lib.hid (by rw [show ((k - 1 : Nat) : Int) = (k : Int) - 1 from by omega])
          clear hD hs' hm'
          by_cases he : er = 0
          · subst he
            have hg0 := Lib.hid (hg rfl)
            clear hg
            go_wp2_with fail
            go_roundw
            case rel => exact ⟨k - 1, r', a', n', c', by omega, HK.out, Lib.hid (HM.out.set HS.out hg0.out rfl)⟩
            case measure => simp [intOf]; omega
          · have he' : (er == 0) = false := by simp [he]
            clear hg he
            go_wp2_with fail
            go_roundw
            case rel => exact ⟨k - 1, r, a, n, c, by omega, HK.out, HM⟩
            case measure => simp [intOf]; omega
      · go_wp2_with fail
        have cB5 := cellOf hm5.out.box
        have fB5 := freeOf hm5.out.box
        have HBX := Lib.hid hm5.out.box
        go_region_law (first | ((go_simp; go_at_call 13); (with_reducible refine (next_lt tb 9 (by omega) (by omega) _ ?_).mono ?_); (exact l6.drew); (rintro e9 w9 ⟨z9, rfl, hz9, ht9, hx9, hs9⟩); (have hm9 := Lib.hid (hm5.out.step (l5.drew.trans hx9) ht9)); (have cB9 := cellOf hm9.out.box); (have fB9 := freeOf hm9.out.box); (clear hs9)) | ((go_simp; go_at_call 25); (with_reducible refine (rrem_mid hm5.out.seats (tb := tb) (l5.drew.trans hx9) htB hB5 _).mono ?_); (rintro e3 w3 ⟨r', er, a', n', c', hr', rfl, hs', hyA⟩); (have hmA := Lib.hid (hm9.out.stepNo hyA)); (have cBA := cellOf hmA.out.box); (have fBA := freeOf hmA.out.box)))
        all_goals
          have hsm := Lib.hid (small_rem (id := (z9 : Int)) hm5.out.small)
          rw [hr'.out] at hsm
          have HK : Hid (Value.int .i64 ((k : Int) - 1) = .int .i64 ((k - 1 : Nat) : Int)) := Lib.hid (by rw [show ((k - 1 : Nat) : Int) = (k : Int) - 1 from by omega])
          go_wp2_with fail
          go_roundw
          case rel => exact ⟨k - 1, r', a', n', c', by omega, HK.out, Lib.hid (hmA.out.set (mid_lo hs'.out) hsm.out rfl)⟩
          case measure => simp [intOf]; omega

      · go_wp2_with fail
        have cB5 := cellOf hm5.out.box
        have fB5 := freeOf hm5.out.box
        refine (rpick_mid hm5.out.seats (tb := tb) l5 htB hB5).mono ?_
        rintro e6 w6 ⟨r1, id1, t1, ok1, a1, n1, c1, hr1, rfl, hs1, hy1⟩
        have hsm1 := small_pick hm5.out.small
        rw [hr1.out] at hsm1
        have hm6 := Lib.hid (hm5.out.stepNo hy1)
        have HM7 := Lib.hid (hm6.out.set (mid_lo hs1.out) hsm1.1 rfl)
        have hB6 : B < (wr5 w6 B (.int .i64 r1.base) (.int .i64 r1.per) (.slice a1 n1 c1) (.int .i64 r1.cur) (.bool r1.opn)).heap.size := lt_of_block HM7.out.box
        have cB6 := cellOf hm6.out.box
        have fB6 := freeOf hm6.out.box
        clear cB5 fB5 hy1 hs1 hsm1 hr1 l0 l1 l2 l3 l4 l5 l6 HSD htb5 hB5
        go_wp2_with fail
        rw [wr5_def]
        generalize wr5 w6 B (.int .i64 r1.base) (.int .i64 r1.per) (.slice a1 n1 c1) (.int .i64 r1.cur) (.bool r1.opn) = w7 at *
        clear cB6 fB6 hm6
        have hm7 := HM7
        clear HM7
        have hB7 : B < w7.heap.size := hB6
        clear hB6
        have htb7 : tb < w7.heap.size := by omega
        have HSD : Hid (w7.heap.size = w7.drew.heap.size) := Lib.hid rfl
        have l0 : w7.cell? ⟨B, 0, none⟩ = some (.int .i64 r1.base) := cellOf hm7.out.box 0
        have l1 : w7.cell? ⟨B, 1, none⟩ = some (.int .i64 r1.per) := cellOf hm7.out.box 1
        have l2 : w7.cell? ⟨B, 2, none⟩ = some (.slice a1 n1 c1) := cellOf hm7.out.box 2
        have l3 : w7.cell? ⟨B, 3, none⟩ = some (.int .i64 r1.cur) := cellOf hm7.out.box 3
        have l4 : w7.cell? ⟨B, 4, none⟩ = some (.bool r1.opn) := cellOf hm7.out.box 4
        have l5 : Ext (At tb) w7 w7 := Ext.refl _ _
        have l6 : TapeOk w7 tb := hm7.out.tape
        go_cut [8, 10] (fun s6 s7 wx => GenCut w tb B r1 a1 n1 c1 (fun r' er => er = 0 → Small r') s6 s7 wx)
        case first =>
          go_region_held3 (fun w' => w'.cell? ⟨B, 0, none⟩ = some (.int .i64 r1.base) ∧ w'.cell? ⟨B, 1, none⟩ = some (.int .i64 r1.per) ∧ w'.cell? ⟨B, 2, none⟩ = some (.slice a1 n1 c1) ∧ w'.cell? ⟨B, 3, none⟩ = some (.int .i64 r1.cur) ∧ w'.cell? ⟨B, 4, none⟩ = some (.bool r1.opn) ∧ Ext (At tb) w7 w' ∧ TapeOk w' tb)
            ((go_split_ands; refine ⟨?_, ?_, ?_, ?_, ?_, ?_, ?_⟩; ((first | ((with_reducible refine keepS5 ?_ ?_); (first | (with_reducible assumption) | (with_reducible exact keepN hyA (by with_reducible assumption))); (exact Nat.ne_of_lt (Nat.lt_of_lt_of_le hB7 hDa))) | (with_reducible assumption) | (with_reducible exact keepD (by with_reducible assumption)) | (with_reducible exact keepA (by with_reducible assumption)) | (with_reducible exact keepD (keepA (by with_reducible assumption))) | (with_reducible exact keepM' hx8 hBtb (by with_reducible assumption)) | (with_reducible exact keepM' hx6 hBtb (by with_reducible assumption)) | (with_reducible exact keepN hyA (by with_reducible assumption)) | (with_reducible exact keepA (keepN hyA (by with_reducible assumption))))); ((first | ((with_reducible refine keepS5 ?_ ?_); (first | (with_reducible assumption) | (with_reducible exact keepN hyA (by with_reducible assumption))); (exact Nat.ne_of_lt (Nat.lt_of_lt_of_le hB7 hDa))) | (with_reducible assumption) | (with_reducible exact keepD (by with_reducible assumption)) | (with_reducible exact keepA (by with_reducible assumption)) | (with_reducible exact keepD (keepA (by with_reducible assumption))) | (with_reducible exact keepM' hx8 hBtb (by with_reducible assumption)) | (with_reducible exact keepM' hx6 hBtb (by with_reducible assumption)) | (with_reducible exact keepN hyA (by with_reducible assumption)) | (with_reducible exact keepA (keepN hyA (by with_reducible assumption))))); ((first | ((with_reducible refine keepS5 ?_ ?_); (first | (with_reducible assumption) | (with_reducible exact keepN hyA (by with_reducible assumption))); (exact Nat.ne_of_lt (Nat.lt_of_lt_of_le hB7 hDa))) | (with_reducible assumption) | (with_reducible exact keepD (by with_reducible assumption)) | (with_reducible exact keepA (by with_reducible assumption)) | (with_reducible exact keepD (keepA (by with_reducible assumption))) | (with_reducible exact keepM' hx8 hBtb (by with_reducible assumption)) | (with_reducible exact keepM' hx6 hBtb (by with_reducible assumption)) | (with_reducible exact keepN hyA (by with_reducible assumption)) | (with_reducible exact keepA (keepN hyA (by with_reducible assumption))))); ((first | ((with_reducible refine keepS5 ?_ ?_); (first | (with_reducible assumption) | (with_reducible exact keepN hyA (by with_reducible assumption))); (exact Nat.ne_of_lt (Nat.lt_of_lt_of_le hB7 hDa))) | (with_reducible assumption) | (with_reducible exact keepD (by with_reducible assumption)) | (with_reducible exact keepA (by with_reducible assumption)) | (with_reducible exact keepD (keepA (by with_reducible assumption))) | (with_reducible exact keepM' hx8 hBtb (by with_reducible assumption)) | (with_reducible exact keepM' hx6 hBtb (by with_reducible assumption)) | (with_reducible exact keepN hyA (by with_reducible assumption)) | (with_reducible exact keepA (keepN hyA (by with_reducible assumption))))); ((first | ((with_reducible refine keepS5 ?_ ?_); (first | (with_reducible assumption) | (with_reducible exact keepN hyA (by with_reducible assumption))); (exact Nat.ne_of_lt (Nat.lt_of_lt_of_le hB7 hDa))) | (with_reducible assumption) | (with_reducible exact keepD (by with_reducible assumption)) | (with_reducible exact keepA (by with_reducible assumption)) | (with_reducible exact keepD (keepA (by with_reducible assumption))) | (with_reducible exact keepM' hx8 hBtb (by with_reducible assumption)) | (with_reducible exact keepM' hx6 hBtb (by with_reducible assumption)) | (with_reducible exact keepN hyA (by with_reducible assumption)) | (with_reducible exact keepA (keepN hyA (by with_reducible assumption))))); ((first | (with_reducible exact ext5 (Ext.transNo (by with_reducible assumption) hyA) hDa) | (with_reducible exact ext5 (by with_reducible assumption) hDa) | (with_reducible assumption) | (with_reducible exact l5.drew) | (with_reducible exact l5.alloc _) | (with_reducible exact (l5.alloc _).drew) | (with_reducible exact Ext.trans (by with_reducible assumption) hx8) | (with_reducible exact Ext.trans (by with_reducible assumption) hx6) | (with_reducible exact Ext.transNo (by with_reducible assumption) hyA) | (with_reducible exact Ext.alloc (by with_reducible assumption) _) | (with_reducible exact Ext.alloc (Ext.transNo (by with_reducible assumption) hyA) _))); ((first | (with_reducible exact tape5 (TapeOk.ext (by with_reducible assumption) hyA) (Nat.lt_of_lt_of_le htb7 hDa)) | (with_reducible exact tape5 (by with_reducible assumption) (Nat.lt_of_lt_of_le htb7 hDa)) | (with_reducible assumption) | (with_reducible exact l6.drew) | (with_reducible exact l6.alloc) | (with_reducible exact TapeOk.drew l6.alloc) | (with_reducible exact TapeOk.ext (by with_reducible assumption) hyA) | (with_reducible exact TapeOk.alloc (by with_reducible assumption)) | (with_reducible exact TapeOk.alloc (TapeOk.ext (by with_reducible assumption) hyA))))))
            (first | (go_at_call 13; (try go_split_ands); (with_reducible refine (next_lt tb 8 (by omega) (by omega) _ ?_).mono ?_); (with_reducible assumption); (rintro e8 w8 ⟨z8, rfl, hz8, ht8, hx8, hs8⟩); (have hq8 : w7.heap.size ≤ w8.heap.size := Ext.size (Ext.trans (by with_reducible assumption) hx8)); (clear hs8)) | (go_at_call 13; (try go_split_ands); (with_reducible refine (next_lt tb 6 (by omega) (by omega) _ ?_).mono ?_); (with_reducible assumption); (rintro e6 w6 ⟨z6, rfl, hz6, ht6, hx6, hs6⟩); (have hq6 : w7.heap.size ≤ w6.heap.size := Ext.size (Ext.trans (by with_reducible assumption) hx6)); (clear hs6)) | (go_at_call 26; (try go_split_ands); (with_reducible refine (rspend_mid hm7.out.seats (tb := tb) ?_ htB hB7 _ _).mono ?_); (with_reducible assumption); (rintro e3 w3 ⟨r', bo, er, a', n', c', hr', rfl, hs', hyA⟩); (have hmA := Lib.hid (hm7.out.step (Ext.transNo (by with_reducible assumption) hyA) (TapeOk.ext (by with_reducible assumption) hyA))); (have hsO := Lib.hid (mid_seats hm7.out.seats htB (by with_reducible assumption) hyA)); (have hxA := Lib.hid (show Ext (At tb) w7 _ from by with_reducible assumption)); (have hg : Hid (er = 0 → Small r') := Lib.hid (fun he => small_spend' hm7.out.small hr'.out he)); (first | ((with_reducible have hi := hx6.blk (hx8.blk (alloc_top (n := w7.heap.size) (w := w7.drew) (o := .cells #[.int .i64 0, .int .i64 0, .slice none 0 0, .int .i64 0, .bool false] 25) HSD.out) (at_ne htb7)) (at_ne htb7)); (have hDa : w7.heap.size ≤ w7.heap.size := Nat.le_refl _); (have HD3 := Lib.hid (hyA.blk hi (fun x => x.elim))); (have HDb := Lib.hid (lt_of_block hi)); (have cD := cellOf HD3.out); (have fD := freeOf HD3.out); (clear hi)) | ((with_reducible have hi := hx6.blk (alloc_top (w := w8) (o := .cells #[.int .i64 0, .int .i64 0, .slice none 0 0, .int .i64 0, .bool false] 25) rfl) (at_ne (Nat.lt_of_lt_of_le htb7 hq8))); (have hDa := hq8); (have HD3 := Lib.hid (hyA.blk hi (fun x => x.elim))); (have HDb := Lib.hid (lt_of_block hi)); (have cD := cellOf HD3.out); (have fD := freeOf HD3.out); (clear hi)) | ((with_reducible have hi := alloc_top (w := w6) (o := .cells #[.int .i64 0, .int .i64 0, .slice none 0 0, .int .i64 0, .bool false] 25) rfl); (have hDa := hq6); (have HD3 := Lib.hid (hyA.blk hi (fun x => x.elim))); (have HDb := Lib.hid (lt_of_block hi)); (have cD := cellOf HD3.out); (have fD := freeOf HD3.out); (clear hi)) | skip)))
          all_goals
            go_wp2_with fail
            go_meet
            first
            | (with_reducible exact GenCut.late hmA.out hs'.out mid_le hg.out)
            | (with_reducible exact GenCut.early hmA.out hsO.out hs'.out mid_le (mid_in hDa HDb.out) (Nat.lt_of_lt_of_le hB7 hDa) hg.out HD3.out)
        case rest =>
          obtain ⟨D, r', er, a', n', c', rfl, rfl, hBD, hg, hD, hs', hm'⟩ := hcut
          have HK : Hid (Value.int .i64 ((k : Int) - 1) = .int .i64 ((k - 1 : Nat) : Int)) := Lib.hid (by rw [show ((k - 1 : Nat) : Int) = (k : Int) - 1 from by omega])
          by_cases he : er = 0
          · subst he
            have hg0 := Lib.hid (hg rfl)
            have HM := Lib.hid hm'
            have HDD := Lib.hid hD
            have HS := Lib.hid hs'
            clear hg hD hs' hm' l0 l1 l2 l3 l4 l5 l6 HSD
            go_wp2_with fail
            refine (next_lt tb 3 (by omega) (by omega) _ HM.out.tape).mono ?_
            rintro e2 w2 ⟨z2', rfl, hz2', ht2', hx2', hs2'⟩
            have hm2 := Lib.hid (HM.out.step hx2' ht2')
            have cD := cellOf (hx2'.blk HDD.out (at_ne (Nat.lt_of_le_of_lt htB hBD)))
            have HS2 := Lib.hid (Row.ext HS.out hx2' (fun i _ e => by cases e; exact Nat.lt_succ_of_le htB))
            have cB := cellOf hm2.out.box
            have fB := freeOf hm2.out.box
            clear ht2' hx2' hs2'
            by_cases hz0 : 0 < z2'
            · have hzi : (0 : Int) < (z2' : Int) := by omega
              go_wp2_with fail
              go_roundw
              case rel => exact ⟨k - 1, r', a', n', c', by omega, HK.out, Lib.hid (hm2.out.set HS2.out hg0.out rfl)⟩
              case measure => simp [intOf]; omega
            · have hzi : (z2' : Int) ≤ 0 := by omega
              go_wp2_with fail
              go_roundw
              case rel => exact ⟨k - 1, r1, a1, n1, c1, by omega, HK.out, hm2⟩
              case measure => simp [intOf]; omega
          · have he' : (er == 0) = false := by simp [he]
            have HM := Lib.hid hm'
            clear hg hD hs' hm' he l0 l1 l2 l3 l4 l5 l6 HSD
            go_wp2_with fail
            go_roundw
            case rel => exact ⟨k - 1, r1, a1, n1, c1, by omega, HK.out, HM⟩
            case measure => simp [intOf]; omega
      · go_wp2_with fail
        have cB5 := cellOf hm5.out.box
        have fB5 := freeOf hm5.out.box
        refine (rpick_mid hm5.out.seats (tb := tb) l5 htB hB5).mono ?_
        rintro e6 w6 ⟨r1, id1, t1, ok1, a1, n1, c1, hr1, rfl, hs1, hy1⟩
        have hsm1 := small_pick hm5.out.small
        rw [hr1.out] at hsm1
        have hm6 := Lib.hid (hm5.out.stepNo hy1)
        have HM7 := Lib.hid (hm6.out.set (mid_lo hs1.out) hsm1.1 rfl)
        have hB6 : B < (wr5 w6 B (.int .i64 r1.base) (.int .i64 r1.per) (.slice a1 n1 c1) (.int .i64 r1.cur) (.bool r1.opn)).heap.size := lt_of_block HM7.out.box
        have cB6 := cellOf hm6.out.box
        have fB6 := freeOf hm6.out.box
        clear cB5 fB5 hy1 hs1 hsm1 hr1 l0 l1 l2 l3 l4 l5 l6 HSD htb5 hB5
        go_wp2_with fail
        rw [wr5_def]
        generalize wr5 w6 B (.int .i64 r1.base) (.int .i64 r1.per) (.slice a1 n1 c1) (.int .i64 r1.cur) (.bool r1.opn) = w7 at *
        clear cB6 fB6 hm6
        have hm7 := HM7
        clear HM7
        have hB7 : B < w7.heap.size := hB6
        clear hB6
        have htb7 : tb < w7.heap.size := by omega
        have HSD : Hid (w7.heap.size = w7.drew.heap.size) := Lib.hid rfl
        have l0 : w7.cell? ⟨B, 0, none⟩ = some (.int .i64 r1.base) := cellOf hm7.out.box 0
        have l1 : w7.cell? ⟨B, 1, none⟩ = some (.int .i64 r1.per) := cellOf hm7.out.box 1
        have l2 : w7.cell? ⟨B, 2, none⟩ = some (.slice a1 n1 c1) := cellOf hm7.out.box 2
        have l3 : w7.cell? ⟨B, 3, none⟩ = some (.int .i64 r1.cur) := cellOf hm7.out.box 3
        have l4 : w7.cell? ⟨B, 4, none⟩ = some (.bool r1.opn) := cellOf hm7.out.box 4
        have l5 : Ext (At tb) w7 w7 := Ext.refl _ _
        have l6 : TapeOk w7 tb := hm7.out.tape
        go_cut [8, 10] (fun s6 s7 wx => GenCut w tb B r1 a1 n1 c1 (fun r' er => er = 0 → Small r') s6 s7 wx)
        case first =>
          go_region_held3 (fun w' => w'.cell? ⟨B, 0, none⟩ = some (.int .i64 r1.base) ∧ w'.cell? ⟨B, 1, none⟩ = some (.int .i64 r1.per) ∧ w'.cell? ⟨B, 2, none⟩ = some (.slice a1 n1 c1) ∧ w'.cell? ⟨B, 3, none⟩ = some (.int .i64 r1.cur) ∧ w'.cell? ⟨B, 4, none⟩ = some (.bool r1.opn) ∧ Ext (At tb) w7 w' ∧ TapeOk w' tb)
            ((go_split_ands; refine ⟨?_, ?_, ?_, ?_, ?_, ?_, ?_⟩; ((first | ((with_reducible refine keepS5 ?_ ?_); (first | (with_reducible assumption) | (with_reducible exact keepN hyA (by with_reducible assumption))); (exact Nat.ne_of_lt (Nat.lt_of_lt_of_le hB7 hDa))) | (with_reducible assumption) | (with_reducible exact keepD (by with_reducible assumption)) | (with_reducible exact keepA (by with_reducible assumption)) | (with_reducible exact keepD (keepA (by with_reducible assumption))) | (with_reducible exact keepM' hx8 hBtb (by with_reducible assumption)) | (with_reducible exact keepM' hx6 hBtb (by with_reducible assumption)) | (with_reducible exact keepN hyA (by with_reducible assumption)) | (with_reducible exact keepA (keepN hyA (by with_reducible assumption))))); ((first | ((with_reducible refine keepS5 ?_ ?_); (first | (with_reducible assumption) | (with_reducible exact keepN hyA (by with_reducible assumption))); (exact Nat.ne_of_lt (Nat.lt_of_lt_of_le hB7 hDa))) | (with_reducible assumption) | (with_reducible exact keepD (by with_reducible assumption)) | (with_reducible exact keepA (by with_reducible assumption)) | (with_reducible exact keepD (keepA (by with_reducible assumption))) | (with_reducible exact keepM' hx8 hBtb (by with_reducible assumption)) | (with_reducible exact keepM' hx6 hBtb (by with_reducible assumption)) | (with_reducible exact keepN hyA (by with_reducible assumption)) | (with_reducible exact keepA (keepN hyA (by with_reducible assumption))))); ((first | ((with_reducible refine keepS5 ?_ ?_); (first | (with_reducible assumption) | (with_reducible exact keepN hyA (by with_reducible assumption))); (exact Nat.ne_of_lt (Nat.lt_of_lt_of_le hB7 hDa))) | (with_reducible assumption) | (with_reducible exact keepD (by with_reducible assumption)) | (with_reducible exact keepA (by with_reducible assumption)) | (with_reducible exact keepD (keepA (by with_reducible assumption))) | (with_reducible exact keepM' hx8 hBtb (by with_reducible assumption)) | (with_reducible exact keepM' hx6 hBtb (by with_reducible assumption)) | (with_reducible exact keepN hyA (by with_reducible assumption)) | (with_reducible exact keepA (keepN hyA (by with_reducible assumption))))); ((first | ((with_reducible refine keepS5 ?_ ?_); (first | (with_reducible assumption) | (with_reducible exact keepN hyA (by with_reducible assumption))); (exact Nat.ne_of_lt (Nat.lt_of_lt_of_le hB7 hDa))) | (with_reducible assumption) | (with_reducible exact keepD (by with_reducible assumption)) | (with_reducible exact keepA (by with_reducible assumption)) | (with_reducible exact keepD (keepA (by with_reducible assumption))) | (with_reducible exact keepM' hx8 hBtb (by with_reducible assumption)) | (with_reducible exact keepM' hx6 hBtb (by with_reducible assumption)) | (with_reducible exact keepN hyA (by with_reducible assumption)) | (with_reducible exact keepA (keepN hyA (by with_reducible assumption))))); ((first | ((with_reducible refine keepS5 ?_ ?_); (first | (with_reducible assumption) | (with_reducible exact keepN hyA (by with_reducible assumption))); (exact Nat.ne_of_lt (Nat.lt_of_lt_of_le hB7 hDa))) | (with_reducible assumption) | (with_reducible exact keepD (by with_reducible assumption)) | (with_reducible exact keepA (by with_reducible assumption)) | (with_reducible exact keepD (keepA (by with_reducible assumption))) | (with_reducible exact keepM' hx8 hBtb (by with_reducible assumption)) | (with_reducible exact keepM' hx6 hBtb (by with_reducible assumption)) | (with_reducible exact keepN hyA (by with_reducible assumption)) | (with_reducible exact keepA (keepN hyA (by with_reducible assumption))))); ((first | (with_reducible exact ext5 (Ext.transNo (by with_reducible assumption) hyA) hDa) | (with_reducible exact ext5 (by with_reducible assumption) hDa) | (with_reducible assumption) | (with_reducible exact l5.drew) | (with_reducible exact l5.alloc _) | (with_reducible exact (l5.alloc _).drew) | (with_reducible exact Ext.trans (by with_reducible assumption) hx8) | (with_reducible exact Ext.trans (by with_reducible assumption) hx6) | (with_reducible exact Ext.transNo (by with_reducible assumption) hyA) | (with_reducible exact Ext.alloc (by with_reducible assumption) _) | (with_reducible exact Ext.alloc (Ext.transNo (by with_reducible assumption) hyA) _))); ((first | (with_reducible exact tape5 (TapeOk.ext (by with_reducible assumption) hyA) (Nat.lt_of_lt_of_le htb7 hDa)) | (with_reducible exact tape5 (by with_reducible assumption) (Nat.lt_of_lt_of_le htb7 hDa)) | (with_reducible assumption) | (with_reducible exact l6.drew) | (with_reducible exact l6.alloc) | (with_reducible exact TapeOk.drew l6.alloc) | (with_reducible exact TapeOk.ext (by with_reducible assumption) hyA) | (with_reducible exact TapeOk.alloc (by with_reducible assumption)) | (with_reducible exact TapeOk.alloc (TapeOk.ext (by with_reducible assumption) hyA))))))
            (first | (go_at_call 13; (try go_split_ands); (with_reducible refine (next_lt tb 8 (by omega) (by omega) _ ?_).mono ?_); (with_reducible assumption); (rintro e8 w8 ⟨z8, rfl, hz8, ht8, hx8, hs8⟩); (have hq8 : w7.heap.size ≤ w8.heap.size := Ext.size (Ext.trans (by with_reducible assumption) hx8)); (clear hs8)) | (go_at_call 13; (try go_split_ands); (with_reducible refine (next_lt tb 6 (by omega) (by omega) _ ?_).mono ?_); (with_reducible assumption); (rintro e6 w6 ⟨z6, rfl, hz6, ht6, hx6, hs6⟩); (have hq6 : w7.heap.size ≤ w6.heap.size := Ext.size (Ext.trans (by with_reducible assumption) hx6)); (clear hs6)) | (go_at_call 26; (try go_split_ands); (with_reducible refine (rspend_mid hm7.out.seats (tb := tb) ?_ htB hB7 _ _).mono ?_); (with_reducible assumption); (rintro e3 w3 ⟨r', bo, er, a', n', c', hr', rfl, hs', hyA⟩); (have hmA := Lib.hid (hm7.out.step (Ext.transNo (by with_reducible assumption) hyA) (TapeOk.ext (by with_reducible assumption) hyA))); (have hsO := Lib.hid (mid_seats hm7.out.seats htB (by with_reducible assumption) hyA)); (have hxA := Lib.hid (show Ext (At tb) w7 _ from by with_reducible assumption)); (have hg : Hid (er = 0 → Small r') := Lib.hid (fun he => small_spend' hm7.out.small hr'.out he)); (first | ((with_reducible have hi := hx6.blk (hx8.blk (alloc_top (n := w7.heap.size) (w := w7.drew) (o := .cells #[.int .i64 0, .int .i64 0, .slice none 0 0, .int .i64 0, .bool false] 25) HSD.out) (at_ne htb7)) (at_ne htb7)); (have hDa : w7.heap.size ≤ w7.heap.size := Nat.le_refl _); (have HD3 := Lib.hid (hyA.blk hi (fun x => x.elim))); (have HDb := Lib.hid (lt_of_block hi)); (have cD := cellOf HD3.out); (have fD := freeOf HD3.out); (clear hi)) | ((with_reducible have hi := hx6.blk (alloc_top (w := w8) (o := .cells #[.int .i64 0, .int .i64 0, .slice none 0 0, .int .i64 0, .bool false] 25) rfl) (at_ne (Nat.lt_of_lt_of_le htb7 hq8))); (have hDa := hq8); (have HD3 := Lib.hid (hyA.blk hi (fun x => x.elim))); (have HDb := Lib.hid (lt_of_block hi)); (have cD := cellOf HD3.out); (have fD := freeOf HD3.out); (clear hi)) | ((with_reducible have hi := alloc_top (w := w6) (o := .cells #[.int .i64 0, .int .i64 0, .slice none 0 0, .int .i64 0, .bool false] 25) rfl); (have hDa := hq6); (have HD3 := Lib.hid (hyA.blk hi (fun x => x.elim))); (have HDb := Lib.hid (lt_of_block hi)); (have cD := cellOf HD3.out); (have fD := freeOf HD3.out); (clear hi)) | skip)))
          all_goals
            go_wp2_with fail
            go_meet
            first
            | (with_reducible exact GenCut.late hmA.out hs'.out mid_le hg.out)
            | (with_reducible exact GenCut.early hmA.out hsO.out hs'.out mid_le (mid_in hDa HDb.out) (Nat.lt_of_lt_of_le hB7 hDa) hg.out HD3.out)
        case rest =>
          obtain ⟨D, r', er, a', n', c', rfl, rfl, hBD, hg, hD, hs', hm'⟩ := hcut
          have HK : Hid (Value.int .i64 ((k : Int) - 1) = .int .i64 ((k - 1 : Nat) : Int)) := Lib.hid (by rw [show ((k - 1 : Nat) : Int) = (k : Int) - 1 from by omega])
          by_cases he : er = 0
          · subst he
            have hg0 := Lib.hid (hg rfl)
            have HM := Lib.hid hm'
            have HDD := Lib.hid hD
            have HS := Lib.hid hs'
            clear hg hD hs' hm' l0 l1 l2 l3 l4 l5 l6 HSD
            go_wp2_with fail
            refine (next_lt tb 3 (by omega) (by omega) _ HM.out.tape).mono ?_
            rintro e2 w2 ⟨z2', rfl, hz2', ht2', hx2', hs2'⟩
            have hm2 := Lib.hid (HM.out.step hx2' ht2')
            have cD := cellOf (hx2'.blk HDD.out (at_ne (Nat.lt_of_le_of_lt htB hBD)))
            have HS2 := Lib.hid (Row.ext HS.out hx2' (fun i _ e => by cases e; exact Nat.lt_succ_of_le htB))
            have cB := cellOf hm2.out.box
            have fB := freeOf hm2.out.box
            clear ht2' hx2' hs2'
            by_cases hz0 : 0 < z2'
            · have hzi : (0 : Int) < (z2' : Int) := by omega
              go_wp2_with fail
              go_roundw
              case rel => exact ⟨k - 1, r', a', n', c', by omega, HK.out, Lib.hid (hm2.out.set HS2.out hg0.out rfl)⟩
              case measure => simp [intOf]; omega
            · have hzi : (z2' : Int) ≤ 0 := by omega
              go_wp2_with fail
              go_roundw
              case rel => exact ⟨k - 1, r1, a1, n1, c1, by omega, HK.out, hm2⟩
              case measure => simp [intOf]; omega
          · have he' : (er == 0) = false := by simp [he]
            have HM := Lib.hid hm'
            clear hg hD hs' hm' he l0 l1 l2 l3 l4 l5 l6 HSD
            go_wp2_with fail
            go_roundw
            case rel => exact ⟨k - 1, r1, a1, n1, c1, by omega, HK.out, HM⟩
            case measure => simp [intOf]; omega
end Go.Proofs.Ytckeidboolfcoaa

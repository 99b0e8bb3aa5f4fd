
import Derived.Test.YtmddchceacmopaaDoorTrE
set_option linter.unusedVariables false
set_option linter.unusedSimpArgs false
namespace Go.Proofs.YtmddchceacmopaaDoor
open Go Go.RowKit
theorem clean_iff {w : Nat} {l : List Nat} (hl : ∀ n ∈ l, n < 2 ^ 64) : cleanB w l = true ↔ ∀ b, w ≤ b → b < 64 * l.length → (joinN l).testBit b = false := by
 unfold cleanB
 rw [decide_eq_true_eq]
 constructor
 ·intro h b hb _; exact bit_high h hb
 intro h
 refine Nat.lt_pow_two_of_testBit _ (fun b hb => ?_)
 by_cases hb2 : b < 64 * l.length
 ·exact h b hb hb2
 rw [joinN_bit l hl, List.getElem?_eq_none (by omega), Option.getD_none, Nat.zero_testBit]
set_option maxRecDepth 100000 in
set_option maxHeartbeats 2000000 in
theorem rvalid_any (v : Value) (s : RawSet) (W : World) (h : RawV No W v s) : Calls Tryd.prog 78 #[v] W (BoolPost (validB s) W) := by
 obtain ⟨sl, rfl, hs⟩ := h
 obtain ⟨a, c, rfl⟩ := hs.slice
 have HS := Lib.hid hs
 clear hs
 obtain ⟨width, l⟩ := s
 simp only at HS ⊢
 have hlen := HS.out.row.2.1
 by_cases h0 : width < 0
 ·have hv : validB ⟨width, l⟩ = false := by
   unfold validB
   rw [show decide (0 ≤ width ∧ width ≤ 256 ∧ l.length = nw width.toNat) = false from decide_eq_false (fun h => by omega)]; rfl
  have HV := Lib.hid hv
  clear hv
  go_enter Tryd.func78, Tryd.ntmps78
  go_wp2_with fail
  go_ret
  rw [HV.out]
  exact ⟨rfl, by (repeat (first | (with_reducible exact Ext.refl _ _) | (with_reducible assumption) | (with_reducible refine Ext.drewN ?_ _) | (with_reducible refine Ext.drew ?_) | (with_reducible refine Ext.alloc ?_ _)))⟩
 by_cases h1 : 256 < width
 ·have hv : validB ⟨width, l⟩ = false := by
   unfold validB
   rw [show decide (0 ≤ width ∧ width ≤ 256 ∧ l.length = nw width.toNat) = false from decide_eq_false (fun h => by omega)]; rfl
  have HV := Lib.hid hv
  have h0' : decide (width < 0) = false := by simpa using h0
  have h1' : decide (256 < width) = true := by simpa using h1
  clear hv
  go_enter Tryd.func78, Tryd.ntmps78
  go_wp2_with fail
  go_ret
  rw [HV.out]
  exact ⟨rfl, by (repeat (first | (with_reducible exact Ext.refl _ _) | (with_reducible assumption) | (with_reducible refine Ext.drewN ?_ _) | (with_reducible refine Ext.drew ?_) | (with_reducible refine Ext.alloc ?_ _)))⟩
 obtain ⟨w, rfl⟩ : ∃ w : Nat, width = w := ⟨width.toNat, by omega⟩
 have hw : w ≤ 256 := by omega
 have HVW := Lib.hid (validB_w (l := l) hw)
 have hn : ((w : Int) + 63) / 64 = (nw w : Int) := by unfold nw; omega
 have hw' : (w : Int) ≤ 256 := by omega
 clear h0 h1
 by_cases hl : l.length = nw w
 ·have HL := Lib.hid hl
  have hne : ((l.length : Int) != (nw w : Int)) = false := by simp [hl]
  have hl5 : l.length ≤ 5 := by rw [hl]; unfold nw; omega
  clear hl
  go_enter Tryd.func78, Tryd.ntmps78
  go_wp2_with fail
  have HA : Hid ((W.alloc (.cells #[.int .i64 (w : Int), .slice a l.length c] 24)).heap[W.heap.size]? = some (.cells #[.int .i64 (w : Int), .slice a l.length c] 24 (0, 0))) := Lib.hid (alloc_top rfl)
  have HW0 := Lib.hid (HS.out.extNo ((Ext.refl No W).alloc (.cells #[.int .i64 (w : Int), .slice a l.length c] 24)))
  have HX : Hid (Ext No W (W.alloc (.cells #[.int .i64 (w : Int), .slice a l.length c] 24))) := Lib.hid ((Ext.refl _ _).alloc _)
  generalize (W.alloc (.cells #[.int .i64 (w : Int), .slice a l.length c] 24)) = W0 at *
  have hwn : w ≤ 64 * l.length := by rw [HL.out]; exact (nw_mul w).1
  go_loop [3] (fun i => ∃ k : Nat, w ≤ k ∧ k ≤ 64 * l.length ∧ i = .int .i64 k ∧ Hid (∀ b, w ≤ b → b < k → (joinN l).testBit b = false)) (fun i => 64 * l.length - (intOf i).toNat)
  case atStart => exact ⟨w, Nat.le_refl _, hwn, rfl, Lib.hid (fun b h1 h2 => by omega)⟩
  obtain ⟨k, hwk, hk, rfl, hq⟩ := hrel
  have cA := cellOf HA.out
  have hpos : (0 : Int) ≤ (k : Int) := by omega
  by_cases hlt : k < 64 * l.length
  ·have hkl : k / 64 < l.length := by omega
   obtain ⟨b0, off, cap, hsl, _, _, hc⟩ := HW0.out.at hkl
   simp only [Value.slice.injEq] at hsl
   obtain ⟨rfl, _, rfl⟩ := hsl
   have hc1 := hc (k / 64) hkl
   have hl1 := HS.out.lt _ (List.getElem_mem hkl)
   have ht := bit_test _ (k % 64) hl1
   have hjb : (joinN l).testBit k = l[k / 64].testBit (k % 64) := by rw [joinN_bit l HS.out.lt, List.getElem?_eq_getElem hkl]; rfl
   have HJB := Lib.hid hjb
   have hk2 : (k : Int) ≤ 320 := by omega
   have hlz : (k : Int) < 64 * (l.length : Int) := by omega
   have hlz2 : (k : Int) / 64 < (l.length : Int) := by omega
   have HKK : Hid (Value.int .i64 ((k : Int) + 1) = .int .i64 ((k + 1 : Nat) : Int)) := Lib.hid (by rw [show ((k + 1 : Nat) : Int) = (k : Int) + 1 from by omega])
   clear hc hjb hl1
   generalize l[k / 64] = x at *
   cases hb : x.testBit (k % 64) with
   | true =>
    have HB := Lib.hid hb
    have hv : validB ⟨w, l⟩ = false := by
     rw [HVW.out]
     have : cleanB w l = false := by
      cases e : cleanB w l with
      | false => rfl
      | true =>
       have := (clean_iff HS.out.lt).1 e k hwk hlt
       rw [HJB.out, hb] at this; cases this
     rw [this, Bool.and_false]
    have HV := Lib.hid hv
    rw [hb, if_pos rfl] at ht
    clear hb hv
    go_wp2_with fail
    go_ret
    rw [HV.out]
    exact ⟨rfl, HX.out⟩
   | false =>
    have HB := Lib.hid hb
    rw [hb, if_neg (by simp)] at ht
    clear hb
    go_wp2_with fail
    go_round
    case rel => exact ⟨k + 1, by omega, by omega, HKK.out, Lib.hid (fun b h1 h2 => by
     by_cases e : b = k
     ·subst e; rw [HJB.out, HB.out]
     exact hq.out b h1 (by omega))⟩
    case measure => simp [intOf]; omega
  obtain rfl : k = 64 * l.length := by omega
  have hv : validB ⟨w, l⟩ = true := by
   rw [HVW.out, decide_eq_true HL.out, Bool.true_and]
   exact (clean_iff HS.out.lt).2 hq.out
  have HV := Lib.hid hv
  clear hv
  go_wp2_with fail
  go_ret
  rw [HV.out]
  exact ⟨rfl, HX.out⟩
 have hv : validB ⟨w, l⟩ = false := by rw [HVW.out, decide_eq_false hl]; rfl
 have HV := Lib.hid hv
 have hne : ((l.length : Int) != (nw w : Int)) = true := by simp; omega
 clear hv hl
 go_enter Tryd.func78, Tryd.ntmps78
 go_wp2_with fail
 go_ret
 rw [HV.out]
 exact ⟨rfl, by (repeat (first | (with_reducible exact Ext.refl _ _) | (with_reducible assumption) | (with_reducible refine Ext.drewN ?_ _) | (with_reducible refine Ext.drew ?_) | (with_reducible refine Ext.alloc ?_ _)))⟩
end Go.Proofs.YtmddchceacmopaaDoor
namespace Go.Proofs.YtmddchceacmopaaDoor
open Go Go.RowKit
theorem rowN_bit {t : TrD} (ho : TrOk t) {a b : Nat} (hb : b < t.w) : ∀ k, k ≤ t.copies.length → ((rowN t a k).testBit b = true ↔ (a = b ∧ t.kill.testBit b = false) ∨ ∃ (j : Nat) (h : j < t.copies.length), j < k ∧ t.copies[j].1 = (a : Int) ∧ t.copies[j].2 = (b : Int)) := by
 intro k
 induction k with
 | zero =>
  intro _
  rw [rowN]
  cases hh : hasZ t.w t.kill a with
  | true =>
   have : a < t.w ∧ t.kill.testBit a = true := by
    unfold hasZ inB at hh
    simp only [Bool.and_eq_true, decide_eq_true_eq, Int.toNat_natCast] at hh
    exact ⟨by omega, hh.2⟩
   simp
   rintro rfl
   exact this.2
  | false =>
   simp [Nat.testBit_two_pow]
   rintro rfl
   rw [hasZ_nat hb] at hh
   exact hh
 | succ k ih =>
  intro hk
  have hk' : k < t.copies.length := by omega
  have ih := ih (by omega)
  obtain ⟨_, i2⟩ := ho.inr k hk'
  obtain ⟨g, hg, _⟩ := inB_true i2
  rw [rowN_succ hk']
  have hst : (∃ (j : Nat) (h : j < t.copies.length), j < k + 1 ∧ t.copies[j].1 = (a : Int) ∧ t.copies[j].2 = (b : Int)) ↔ ((∃ (j : Nat) (h : j < t.copies.length), j < k ∧ t.copies[j].1 = (a : Int) ∧ t.copies[j].2 = (b : Int)) ∨ (t.copies[k].1 = (a : Int) ∧ t.copies[k].2 = (b : Int))) := by
   constructor
   ·rintro ⟨j, h, h1, h2⟩
    by_cases e : j = k
    ·subst e; exact .inr h2
    exact .inl ⟨j, h, by omega, h2⟩
   rintro (⟨j, h, h1, h2⟩ | h)
   ·exact ⟨j, h, by omega, h2⟩
   exact ⟨k, hk', by omega, h⟩
  rw [hst, ← or_assoc, ← ih]
  by_cases hc : t.copies[k].1 = (a : Int)
  ·rw [if_pos hc, or_bit, Bool.or_eq_true, decide_eq_true_eq]
   rw [hg, Int.toNat_natCast]
   exact or_congr Iff.rfl ⟨fun e => ⟨hc, by omega⟩, fun e => by omega⟩
  rw [if_neg hc]
  simp [hc]
theorem rowsN_at {t : TrD} {a k : Nat} (h : a < t.w) : rowAt (rowsN t t.w k) a = rowN t a k := by
 rw [rowAt_get (by rw [rowsN_len]; exact h), rowsN_get]
theorem apply_rows {t : TrD} (ho : TrOk t) {s : Nat} (hs : s < 2 ^ t.w) : applyT t s = orN t.gen (imgN (rowsN t t.w t.copies.length) t.w s) := by
 have hrl : ∀ m ∈ rowsN t t.w t.copies.length, m < 2 ^ t.w := fun m hm => by
  obtain ⟨a, ha, rfl⟩ := List.mem_map.1 hm
  exact rowN_lt ho (List.mem_range.1 ha) _
 refine bits_ext (applyN_lt ho hs _) (orN_lt' ho.gen (imgL_lt hrl _)) (fun b hb => ?_)
 rw [Bool.eq_iff_iff]
 unfold applyT
 rw [applyN_iff ho _ (Nat.le_refl _)]
 unfold orN
 rw [Nat.testBit_or, Bool.or_eq_true, imgN_bit]
 constructor
 ·rintro (⟨h1, h2⟩ | h | ⟨j, hj, _, h1, h2⟩)
  ·refine .inr ⟨b, hb, h1, ?_⟩
   have := rowsN_at (t := t) (k := t.copies.length) hb
   unfold rowAt at this
   rw [this, rowN_bit ho hb _ (Nat.le_refl _)]
   exact .inl ⟨rfl, h2⟩
  ·exact .inl h
  obtain ⟨i1, _⟩ := ho.inr j hj
  obtain ⟨f, hf, hf2⟩ := inB_true i1
  have hfw : f < t.w := by omega
  rw [hf, hasZ_nat hfw] at h1
  refine .inr ⟨f, hfw, h1, ?_⟩
  have := rowsN_at (t := t) (k := t.copies.length) hfw
  unfold rowAt at this
  rw [this, rowN_bit ho hb _ (Nat.le_refl _)]
  exact .inr ⟨j, hj, hj, hf, h2⟩
 rintro (h | ⟨a, ha, h1, h2⟩)
 ·exact .inr (.inl h)
 have := rowsN_at (t := t) (k := t.copies.length) ha
 unfold rowAt at this
 rw [this, rowN_bit ho hb _ (Nat.le_refl _)] at h2
 rcases h2 with ⟨rfl, h3⟩ | ⟨j, hj, _, h3, h4⟩
 ·exact .inl ⟨h1, h3⟩
 exact .inr (.inr ⟨j, hj, hj, by rw [h3, hasZ_nat ha]; exact h1, h4⟩)


import Derived.Test.YtmddchceacmopaaDoorTr28
import Derived.Test.YtmddchceacmopaaDoorHeld2
set_option linter.unusedVariables false
set_option linter.unusedSimpArgs false
namespace Go.Proofs.YtmddchceacmopaaDoor
open Go Go.RowKit
theorem clean_iff {w : Nat} {l : List Nat} (hl : ∀ n ∈ l, n < 2 ^ 64) : cleanB w l = true ↔ ∀ b, w ≤ b → b < 64 * l.length → (joinN l).testBit b = false := by
 unfold cleanB
 rw [decide_eq_true_eq]
 constructor
 ·intro h b hb _; exact bit_high h hb
 intro h
 refine Nat.lt_pow_two_of_testBit _ (fun b hb => ?_)
 by_cases hb2 : b < 64 * l.length
 ·exact h b hb hb2
 rw [joinN_bit l hl, List.getElem?_eq_none (by omega), Option.getD_none, Nat.zero_testBit]
set_option maxRecDepth 100000 in
set_option maxHeartbeats 2000000 in
theorem rvalid_any (v : Value) (s : RawSet) (W : World) (h : RawV No W v s) : Calls Tryd.prog 78 #[v] W (BoolPost (validB s) W) := by
 obtain ⟨sl, rfl, hs⟩ := h
 obtain ⟨a, c, rfl⟩ := hs.slice
 have HS := Lib.hid hs
 clear hs
 obtain ⟨width, l⟩ := s
 simp only at HS ⊢
 have hlen := HS.out.row.2.1
 by_cases h0 : width < 0
 ·have hv : validB ⟨width, l⟩ = false := by
   unfold validB
   rw [show decide (0 ≤ width ∧ width ≤ 256 ∧ l.length = nw width.toNat) = false from decide_eq_false (fun h => by omega)]; rfl
  have HV := Lib.hid hv
  clear hv
  go_enter Tryd.func78, Tryd.ntmps78
  go_wp2_with fail
  go_ret
  rw [HV.out]
  exact ⟨rfl, by (repeat (first | (with_reducible exact Ext.refl _ _) | (with_reducible assumption) | (with_reducible refine Ext.drewN ?_ _) | (with_reducible refine Ext.drew ?_) | (with_reducible refine Ext.alloc ?_ _)))⟩
 by_cases h1 : 256 < width
 ·have hv : validB ⟨width, l⟩ = false := by
   unfold validB
   rw [show decide (0 ≤ width ∧ width ≤ 256 ∧ l.length = nw width.toNat) = false from decide_eq_false (fun h => by omega)]; rfl
  have HV := Lib.hid hv
  have h0' : decide (width < 0) = false := by simpa using h0
  have h1' : decide (256 < width) = true := by simpa using h1
  clear hv
  go_enter Tryd.func78, Tryd.ntmps78
  go_wp2_with fail
  go_ret
  rw [HV.out]
  exact ⟨rfl, by (repeat (first | (with_reducible exact Ext.refl _ _) | (with_reducible assumption) | (with_reducible refine Ext.drewN ?_ _) | (with_reducible refine Ext.drew ?_) | (with_reducible refine Ext.alloc ?_ _)))⟩
 obtain ⟨w, rfl⟩ : ∃ w : Nat, width = w := ⟨width.toNat, by omega⟩
 have hw : w ≤ 256 := by omega
 have HVW := Lib.hid (validB_w (l := l) hw)
 have hn : ((w : Int) + 63) / 64 = (nw w : Int) := by unfold nw; omega
 have hw' : (w : Int) ≤ 256 := by omega
 clear h0 h1
 by_cases hl : l.length = nw w
 ·have HL := Lib.hid hl
  have hne : ((l.length : Int) != (nw w : Int)) = false := by simp [hl]
  have hl5 : l.length ≤ 5 := by rw [hl]; unfold nw; omega
  clear hl
  go_enter Tryd.func78, Tryd.ntmps78
  go_wp2_with fail
  have HA : Hid ((W.alloc (.cells #[.int .i64 (w : Int), .slice a l.length c] 24)).heap[W.heap.size]? = some (.cells #[.int .i64 (w : Int), .slice a l.length c] 24 (0, 0))) := Lib.hid (alloc_top rfl)
  have HW0 := Lib.hid (HS.out.extNo ((Ext.refl No W).alloc (.cells #[.int .i64 (w : Int), .slice a l.length c] 24)))
  have HX : Hid (Ext No W (W.alloc (.cells #[.int .i64 (w : Int), .slice a l.length c] 24))) := Lib.hid ((Ext.refl _ _).alloc _)
  generalize (W.alloc (.cells #[.int .i64 (w : Int), .slice a l.length c] 24)) = W0 at *
  have hwn : w ≤ 64 * l.length := by rw [HL.out]; exact (nw_mul w).1
  go_loop [3] (fun i => ∃ k : Nat, w ≤ k ∧ k ≤ 64 * l.length ∧ i = .int .i64 k ∧ Hid (∀ b, w ≤ b → b < k → (joinN l).testBit b = false)) (fun i => 64 * l.length - (intOf i).toNat)
  case atStart => exact ⟨w, Nat.le_refl _, hwn, rfl, Lib.hid (fun b h1 h2 => by omega)⟩
  obtain ⟨k, hwk, hk, rfl, hq⟩ := hrel
  have cA := cellOf HA.out
  have hpos : (0 : Int) ≤ (k : Int) := by omega
  by_cases hlt : k < 64 * l.length
  ·have hkl : k / 64 < l.length := by omega
   obtain ⟨b0, off, cap, hsl, _, _, hc⟩ := HW0.out.at hkl
   simp only [Value.slice.injEq] at hsl
   obtain ⟨rfl, _, rfl⟩ := hsl
   have hc1 := hc (k / 64) hkl
   have hl1 := HS.out.lt _ (List.getElem_mem hkl)
   have ht := bit_test _ (k % 64) hl1
   have hjb : (joinN l).testBit k = l[k / 64].testBit (k % 64) := by rw [joinN_bit l HS.out.lt, List.getElem?_eq_getElem hkl]; rfl
   have HJB := Lib.hid hjb
   have hk2 : (k : Int) ≤ 320 := by omega
   have hlz : (k : Int) < 64 * (l.length : Int) := by omega
   have hlz2 : (k : Int) / 64 < (l.length : Int) := by omega
   have HKK : Hid (Value.int .i64 ((k : Int) + 1) = .int .i64 ((k + 1 : Nat) : Int)) := Lib.hid (by rw [show ((k + 1 : Nat) : Int) = (k : Int) + 1 from by omega])
   clear hc hjb hl1
   generalize l[k / 64] = x at *
   cases hb : x.testBit (k % 64) with
   | true =>
    have HB := Lib.hid hb
    have hv : validB ⟨w, l⟩ = false := by
     rw [HVW.out]
     have : cleanB w l = false := by
      cases e : cleanB w l with
      | false => rfl
      | true =>
       have := (clean_iff HS.out.lt).1 e k hwk hlt
       rw [HJB.out, hb] at this; cases this
     rw [this, Bool.and_false]
    have HV := Lib.hid hv
    rw [hb, if_pos rfl] at ht
    clear hb hv
    go_wp2_with fail
    go_ret
    rw [HV.out]
    exact ⟨rfl, HX.out⟩
   | false =>
    have HB := Lib.hid hb
    rw [hb, if_neg (by simp)] at ht
    clear hb
    go_wp2_with fail
    go_round
    case rel => exact ⟨k + 1, by omega, by omega, HKK.out, Lib.hid (fun b h1 h2 => by
     by_cases e : b = k
     ·subst e; rw [HJB.out, HB.out]
     exact hq.out b h1 (by omega))⟩
    case measure => simp [intOf]; omega
  obtain rfl : k = 64 * l.length := by omega
  have hv : validB ⟨w, l⟩ = true := by
   rw [HVW.out, decide_eq_true HL.out, Bool.true_and]
   exact (clean_iff HS.out.lt).2 hq.out
  have HV := Lib.hid hv
  clear hv
  go_wp2_with fail
  go_ret
  rw [HV.out]
  exact ⟨rfl, HX.out⟩
 have hv : validB ⟨w, l⟩ = false := by rw [HVW.out, decide_eq_false hl]; rfl
 have HV := Lib.hid hv
 have hne : ((l.length : Int) != (nw w : Int)) = true := by simp; omega
 clear hv hl
 go_enter Tryd.func78, Tryd.ntmps78
 go_wp2_with fail
 go_ret
 rw [HV.out]
 exact ⟨rfl, by (repeat (first | (with_reducible exact Ext.refl _ _) | (with_reducible assumption) | (with_reducible refine Ext.drewN ?_ _) | (with_reducible refine Ext.drew ?_) | (with_reducible refine Ext.alloc ?_ _)))⟩
end Go.Proofs.YtmddchceacmopaaDoor
namespace Go.Proofs.YtmddchceacmopaaDoor
open Go Go.RowKit
theorem rowN_bit {t : TrD} (ho : TrOk t) {a b : Nat} (hb : b < t.w) : ∀ k, k ≤ t.copies.length → ((rowN t a k).testBit b = true ↔ (a = b ∧ t.kill.testBit b = false) ∨ ∃ (j : Nat) (h : j < t.copies.length), j < k ∧ t.copies[j].1 = (a : Int) ∧ t.copies[j].2 = (b : Int)) := by
 intro k
 induction k with
 | zero =>
  intro _
  rw [rowN]
  cases hh : hasZ t.w t.kill a with
  | true =>
   have : a < t.w ∧ t.kill.testBit a = true := by
    unfold hasZ inB at hh
    simp only [Bool.and_eq_true, decide_eq_true_eq, Int.toNat_natCast] at hh
    exact ⟨by omega, hh.2⟩
   simp
   rintro rfl
   exact this.2
  | false =>
   simp [Nat.testBit_two_pow]
   rintro rfl
   rw [hasZ_nat hb] at hh
   exact hh
 | succ k ih =>
  intro hk
  have hk' : k < t.copies.length := by omega
  have ih := ih (by omega)
  obtain ⟨_, i2⟩ := ho.inr k hk'
  obtain ⟨g, hg, _⟩ := inB_true i2
  rw [rowN_succ hk']
  have hst : (∃ (j : Nat) (h : j < t.copies.length), j < k + 1 ∧ t.copies[j].1 = (a : Int) ∧ t.copies[j].2 = (b : Int)) ↔ ((∃ (j : Nat) (h : j < t.copies.length), j < k ∧ t.copies[j].1 = (a : Int) ∧ t.copies[j].2 = (b : Int)) ∨ (t.copies[k].1 = (a : Int) ∧ t.copies[k].2 = (b : Int))) := by
   constructor
   ·rintro ⟨j, h, h1, h2⟩
    by_cases e : j = k
    ·subst e; exact .inr h2
    exact .inl ⟨j, h, by omega, h2⟩
   rintro (⟨j, h, h1, h2⟩ | h)
   ·exact ⟨j, h, by omega, h2⟩
   exact ⟨k, hk', by omega, h⟩
  rw [hst, ← or_assoc, ← ih]
  by_cases hc : t.copies[k].1 = (a : Int)
  ·rw [if_pos hc, or_bit, Bool.or_eq_true, decide_eq_true_eq]
   rw [hg, Int.toNat_natCast]
   exact or_congr Iff.rfl ⟨fun e => ⟨hc, by omega⟩, fun e => by omega⟩
  rw [if_neg hc]
  simp [hc]
theorem rowsN_at {t : TrD} {a k : Nat} (h : a < t.w) : rowAt (rowsN t t.w k) a = rowN t a k := by
 rw [rowAt_get (by rw [rowsN_len]; exact h), rowsN_get]
theorem apply_rows {t : TrD} (ho : TrOk t) {s : Nat} (hs : s < 2 ^ t.w) : applyT t s = orN t.gen (imgN (rowsN t t.w t.copies.length) t.w s) := by
 have hrl : ∀ m ∈ rowsN t t.w t.copies.length, m < 2 ^ t.w := fun m hm => by
  obtain ⟨a, ha, rfl⟩ := List.mem_map.1 hm
  exact rowN_lt ho (List.mem_range.1 ha) _
 refine bits_ext (applyN_lt ho hs _) (orN_lt' ho.gen (imgL_lt hrl _)) (fun b hb => ?_)
 rw [Bool.eq_iff_iff]
 unfold applyT
 rw [applyN_iff ho _ (Nat.le_refl _)]
 unfold orN
 rw [Nat.testBit_or, Bool.or_eq_true, imgN_bit]
 constructor
 ·rintro (⟨h1, h2⟩ | h | ⟨j, hj, _, h1, h2⟩)
  ·refine .inr ⟨b, hb, h1, ?_⟩
   have := rowsN_at (t := t) (k := t.copies.length) hb
   unfold rowAt at this
   rw [this, rowN_bit ho hb _ (Nat.le_refl _)]
   exact .inl ⟨rfl, h2⟩
  ·exact .inl h
  obtain ⟨i1, _⟩ := ho.inr j hj
  obtain ⟨f, hf, hf2⟩ := inB_true i1
  have hfw : f < t.w := by omega
  rw [hf, hasZ_nat hfw] at h1
  refine .inr ⟨f, hfw, h1, ?_⟩
  have := rowsN_at (t := t) (k := t.copies.length) hfw
  unfold rowAt at this
  rw [this, rowN_bit ho hb _ (Nat.le_refl _)]
  exact .inr ⟨j, hj, hj, hf, h2⟩
 rintro (h | ⟨a, ha, h1, h2⟩)
 ·exact .inr (.inl h)
 have := rowsN_at (t := t) (k := t.copies.length) ha
 unfold rowAt at this
 rw [this, rowN_bit ho hb _ (Nat.le_refl _)] at h2
 rcases h2 with ⟨rfl, h3⟩ | ⟨j, hj, _, h3, h4⟩
 ·exact .inl ⟨h1, h3⟩
 exact .inr (.inr ⟨j, hj, hj, by rw [h3, hasZ_nat ha]; exact h1, h4⟩)
end Go.Proofs.YtmddchceacmopaaDoor

namespace Go.Proofs.YtmddchceacmopaaDoor
open Go Go.RowKit
def updTo (rs : List Nat) (f : Nat → Nat) (k : Nat) : List Nat := (List.range rs.length).map fun i => if i < k then f i else rowAt rs i
theorem updTo_len (rs : List Nat) (f : Nat → Nat) (k : Nat) : (updTo rs f k).length = rs.length := by simp [updTo]
theorem updTo_zero (rs : List Nat) (f : Nat → Nat) : updTo rs f 0 = rs := by
 refine List.ext_getElem (updTo_len rs f 0) (fun i h1 h2 => ?_)
 simp [updTo, rowAt, h2]
theorem updTo_get {rs : List Nat} {f : Nat → Nat} {k i : Nat} (h : i < (updTo rs f k).length) : (updTo rs f k)[i] = if i < k then f i else rowAt rs i := by simp [updTo]
theorem updTo_succ {rs : List Nat} {f : Nat → Nat} {k : Nat} (_ : k < rs.length) : updTo rs f (k + 1) = (updTo rs f k).set k (f k) := by
 refine List.ext_getElem (by simp [updTo]) (fun i h1 h2 => ?_)
 rw [updTo_get, List.getElem_set]
 by_cases e : k = i
 ·subst e; simp
 rw [if_neg e, updTo_get]
 by_cases h : i < k
 ·rw [if_pos h, if_pos (by omega)]
 rw [if_neg h, if_neg (by omega)]
theorem updTo_at (rs : List Nat) (f : Nat → Nat) (k : Nat) (h : k < rs.length) (h2 : k < (updTo rs f k).length) : (updTo rs f k)[k] = rs[k] := by
 rw [updTo_get, if_neg (Nat.lt_irrefl _), rowAt_get h]
def joinRows (r1 r2 : List Nat) : List Nat := updTo r1 (fun i => orN (rowAt r1 i) (rowAt r2 i)) r1.length
def compRows (w : Nat) (r1 r2 : List Nat) : List Nat := updTo r1 (fun i => imgN r2 w (rowAt r1 i)) r1.length
def starRows (w : Nat) (rs : List Nat) (n : Nat) : List Nat := (List.range n).map fun b => closN rs w (2 ^ b)
theorem starRows_len (w : Nat) (rs : List Nat) (n : Nat) : (starRows w rs n).length = n := by simp [starRows]
theorem starRows_snoc (w : Nat) (rs : List Nat) (n : Nat) : starRows w rs (n + 1) = starRows w rs n ++ [closN rs w (2 ^ n)] := by simp [starRows, List.range_succ]
theorem rows_lt {t : TrD} (ho : TrOk t) : ∀ m ∈ rowsN t t.w t.copies.length, m < 2 ^ t.w := fun m hm => by
 obtain ⟨a, ha, rfl⟩ := List.mem_map.1 hm
 exact rowN_lt ho (List.mem_range.1 ha) _
theorem close_bit {w gen : Nat} {rs : List Nat} {s b : Nat} (ho : TrOk (closeT w gen rs)) (hb : b < w) : (applyT (closeT w gen rs) s).testBit b = true ↔ gen.testBit b = true ∨ ∃ a, a < w ∧ s.testBit a = true ∧ (rowAt rs a).testBit b = true := by
 unfold applyT
 rw [applyN_iff ho _ (Nat.le_refl _)]
 show (s.testBit b = true ∧ (killTo w gen rs w).testBit b = false) ∨ gen.testBit b = true ∨ (∃ (j : Nat) (h : j < (copTo w gen rs w).length), j < (copTo w gen rs w).length ∧ hasZ w s (copTo w gen rs w)[j].1 = true ∧ (copTo w gen rs w)[j].2 = (b : Int)) ↔ _
 constructor
 ·rintro (⟨h1, h2⟩ | h | ⟨j, hj, _, h1, h2⟩)
  ·rw [killTo_bit, decide_eq_true hb, Bool.true_and, Bool.or_eq_false_iff] at h2
   refine .inr ⟨b, hb, h1, ?_⟩
   have := h2.2
   rw [hasZ_nat hb] at this
   simpa using this
  ·exact .inl h
  obtain ⟨a, b', h3, h4, h5, h6, h7, h8⟩ := (copTo_mem w).1 (List.getElem_mem hj)
  rw [h4] at h1 h2
  have : b' = b := by simp only at h2; omega
  subst this
  rw [hasZ_nat h3] at h1
  exact .inr ⟨a, h3, h1, h7⟩
 rintro (h | ⟨a, ha, h1, h2⟩)
 ·exact .inr (.inl h)
 cases hg : gen.testBit b with
 | true => exact .inr (.inl rfl)
 | false =>
  by_cases e : a = b
  ·subst e
   refine .inl ⟨h1, ?_⟩
   rw [killTo_bit, hg, decide_eq_true hb, hasZ_nat hb, h2]; rfl
  have hm : ((a : Int), (b : Int)) ∈ copTo w gen rs w := (copTo_mem w).2 ⟨a, b, ha, rfl, hb, e, h2, hg⟩
  obtain ⟨j, hj, he⟩ := List.getElem_of_mem hm
  exact .inr (.inr ⟨j, hj, hj, by rw [he, hasZ_nat ha]; exact h1, by rw [he]⟩)
theorem apply_bit {t : TrD} (ho : TrOk t) {s b : Nat} (hs : s < 2 ^ t.w) : (applyT t s).testBit b = true ↔ t.gen.testBit b = true ∨ ∃ a, a < t.w ∧ s.testBit a = true ∧ (rowAt (rowsN t t.w t.copies.length) a).testBit b = true := by
 rw [apply_rows ho hs]
 unfold orN
 rw [Nat.testBit_or, Bool.or_eq_true, imgN_bit]
 rfl
theorem updTo_at2 {rs : List Nat} {f : Nat → Nat} {a : Nat} (h : a < rs.length) : rowAt (updTo rs f rs.length) a = f a := by
 rw [rowAt_get (by rw [updTo_len]; exact h), updTo_get, if_pos h]
theorem starRows_at {w n : Nat} {rs : List Nat} {a : Nat} (h : a < n) : rowAt (starRows w rs n) a = closN rs w (2 ^ a) := by
 rw [rowAt_get (by rw [starRows_len]; exact h)]
 simp [starRows]
theorem mean_compose {f g : TrD} (hf : TrOk f) (hg : TrOk g) (hw : g.w = f.w) {s : Nat} (hs : s < 2 ^ f.w) (hc : TrOk (closeT f.w (applyT g f.gen) (compRows f.w (rowsN f f.w f.copies.length) (rowsN g f.w g.copies.length)))) :
  applyT (closeT f.w (applyT g f.gen) (compRows f.w (rowsN f f.w f.copies.length) (rowsN g f.w g.copies.length))) s = applyT g (applyT f s) := by
 have hfs := applyN_lt hf hs f.copies.length
 have hfg : f.gen < 2 ^ g.w := by rw [hw]; exact hf.gen
 have hfs' : applyT f s < 2 ^ g.w := by rw [hw]; exact hfs
 refine bits_ext (w := f.w) (applyN_lt hc hs _) (by have := applyN_lt hg hfs' g.copies.length; rw [hw] at this; exact this) (fun b hb => ?_)
 rw [Bool.eq_iff_iff, close_bit hc hb, apply_bit hg hfs', apply_bit hg hfg]
 have e : ∀ a, a < f.w → ((rowAt (compRows f.w (rowsN f f.w f.copies.length) (rowsN g f.w g.copies.length)) a).testBit b = true ↔ ∃ c, c < g.w ∧ (rowAt (rowsN f f.w f.copies.length) a).testBit c = true ∧ (rowAt (rowsN g g.w g.copies.length) c).testBit b = true) := fun a ha => by
  unfold compRows
  rw [updTo_at2 (by rw [rowsN_len]; exact ha), imgN_bit, hw]
  rfl
 constructor
 ·rintro ((h | ⟨a, h1, h2, h3⟩) | ⟨a, h1, h2, h3⟩)
  ·exact .inl h
  ·exact .inr ⟨a, h1, (apply_bit hf hs).2 (.inl h2), h3⟩
  obtain ⟨c, h4, h5, h6⟩ := (e a h1).1 h3
  exact .inr ⟨c, h4, (apply_bit hf hs).2 (.inr ⟨a, h1, h2, h5⟩), h6⟩
 rintro (h | ⟨c, h1, h2, h3⟩)
 ·exact .inl (.inl h)
 rcases (apply_bit hf hs).1 h2 with h4 | ⟨a, h4, h5, h6⟩
 ·exact .inl (.inr ⟨c, h1, h4, h3⟩)
 exact .inr ⟨a, h4, h5, (e a h4).2 ⟨c, h1, h6, h3⟩⟩
theorem mean_join {f g : TrD} (hf : TrOk f) (hg : TrOk g) (hw : g.w = f.w) {s : Nat} (hs : s < 2 ^ f.w) (hc : TrOk (closeT f.w (orN f.gen g.gen) (joinRows (rowsN f f.w f.copies.length) (rowsN g f.w g.copies.length)))) :
  applyT (closeT f.w (orN f.gen g.gen) (joinRows (rowsN f f.w f.copies.length) (rowsN g f.w g.copies.length))) s = orN (applyT f s) (applyT g s) := by
 have hs' : s < 2 ^ g.w := by rw [hw]; exact hs
 refine bits_ext (w := f.w) (applyN_lt hc hs _) (orN_lt' (applyN_lt hf hs _) (by have := applyN_lt hg hs' g.copies.length; rw [hw] at this; exact this)) (fun b hb => ?_)
 rw [Bool.eq_iff_iff, close_bit hc hb]
 unfold orN
 rw [Nat.testBit_or, Nat.testBit_or, Bool.or_eq_true, Bool.or_eq_true, apply_bit hf hs, apply_bit hg hs']
 have e : ∀ a, a < f.w → ((rowAt (joinRows (rowsN f f.w f.copies.length) (rowsN g f.w g.copies.length)) a).testBit b = true ↔ (rowAt (rowsN f f.w f.copies.length) a).testBit b = true ∨ (rowAt (rowsN g g.w g.copies.length) a).testBit b = true) := fun a ha => by
  unfold joinRows
  rw [updTo_at2 (by rw [rowsN_len]; exact ha), hw]
  unfold orN
  rw [Nat.testBit_or, Bool.or_eq_true]
 constructor
 ·rintro ((h | h) | ⟨a, h1, h2, h3⟩)
  ·exact .inl (.inl h)
  ·exact .inr (.inl h)
  rcases (e a h1).1 h3 with h4 | h4
  ·exact .inl (.inr ⟨a, h1, h2, h4⟩)
  exact .inr (.inr ⟨a, by omega, h2, h4⟩)
 rintro ((h | ⟨a, h1, h2, h3⟩) | (h | ⟨a, h1, h2, h3⟩))
 ·exact .inl (.inl h)
 ·exact .inr ⟨a, h1, h2, (e a h1).2 (.inl h3)⟩
 ·exact .inl (.inr h)
 exact .inr ⟨a, by omega, h2, (e a (by omega)).2 (.inr h3)⟩
theorem subN_iff {a b : Nat} : subN a b = true ↔ ∀ i, a.testBit i = true → b.testBit i = true := by
 unfold subN
 rw [decide_eq_true_eq]
 constructor
 ·intro h i hi
  have := congrArg (fun n => n.testBit i) h
  simp only [diffN_bit, Nat.zero_testBit, hi, Bool.true_and] at this
  simpa using this
 intro h
 refine Nat.eq_of_testBit_eq fun i => ?_
 rw [diffN_bit, Nat.zero_testBit]
 cases e : a.testBit i
 ·rfl
 rw [h i e]; rfl
def starT (f : TrD) : TrD := closeT f.w (closN (rowsN f f.w f.copies.length) f.w f.gen) (starRows f.w (rowsN f f.w f.copies.length) f.w)
theorem clos_img {rs : List Nat} {w s r : Nat} (h : Clos rs w s r) {a b : Nat} (ha : a < w) (h1 : r.testBit a = true) (h2 : (rowAt rs a).testBit b = true) : r.testBit b = true := by
 have := h.fix
 unfold stepN orN at this
 rw [← this, Nat.testBit_or, (imgN_bit rs w r b).2 ⟨a, ha, h1, h2⟩, Bool.or_true]
theorem star_ge {f : TrD} (hf : TrOk f) {s : Nat} (hs : s < 2 ^ f.w) (hc : TrOk (starT f)) : subN s (applyT (starT f) s) = true := by
 rw [subN_iff]
 intro i hi
 have hiw : i < f.w := by
  by_cases h : i < f.w
  ·exact h
  rw [bit_high hs (by omega)] at hi; cases hi
 refine (close_bit hc hiw).2 (.inr ⟨i, hiw, hi, ?_⟩)
 rw [starRows_at hiw]
 have := (clos_any (rows_lt hf) (bitN_lt hiw)).ge
 exact (sub_bits.1 this) i (Nat.testBit_two_pow_self)
theorem star_fix {f : TrD} (hf : TrOk f) {s : Nat} (hs : s < 2 ^ f.w) (hc : TrOk (starT f)) : subN (applyT f (applyT (starT f) s)) (applyT (starT f) s) = true := by
 have hlt : applyT (starT f) s < 2 ^ f.w := applyN_lt hc hs _
 rw [subN_iff]
 intro i hi
 have hiw : i < f.w := by
  by_cases h : i < f.w
  ·exact h
  have h9 : applyT f (applyT (starT f) s) < 2 ^ f.w := applyN_lt hf hlt _
  rw [bit_high h9 (by omega)] at hi; cases hi
 have cg := clos_any (rows_lt hf) hf.gen
 rcases (apply_bit hf hlt).1 hi with h | ⟨a, h1, h2, h3⟩
 ·exact (close_bit hc hiw).2 (.inl ((sub_bits.1 cg.ge) i h))
 rcases (close_bit hc h1).1 h2 with h4 | ⟨c, h4, h5, h6⟩
 ·exact (close_bit hc hiw).2 (.inl (clos_img cg h1 h4 h3))
 refine (close_bit hc hiw).2 (.inr ⟨c, h4, h5, ?_⟩)
 rw [starRows_at h4] at h6 ⊢
 exact clos_img (clos_any (rows_lt hf) (bitN_lt h4)) h1 h6 h3
def compT (t u : TrD) : TrD := closeT t.w (applyT u t.gen) (compRows t.w (rowsN t t.w t.copies.length) (rowsN u t.w u.copies.length))
def joinT (t u : TrD) : TrD := closeT t.w (orN t.gen u.gen) (joinRows (rowsN t t.w t.copies.length) (rowsN u t.w u.copies.length))
end Go.Proofs.YtmddchceacmopaaDoor

namespace Go.Proofs.YtmddchceacmopaaDoor
open Go Go.RowKit
def matchZ (r1 r2 : RawT) : Int := if validT r1 = true then (if validT r2 = true then (if r1.gen.width = r2.gen.width then 0 else 2) else 1) else 1
theorem open_lo (t : TrD) (sg sk sc : Value) (W : World) (h : TrAt No W sg sk sc t) :
  Calls Tryd.prog 70 #[.agg #[.int .i64 (t.w : Int), sg, .int .i64 (t.w : Int), sk, sc]] W (RowsPost (Lo W.heap.size) t.w t.gen (rowsN t t.w t.copies.length) W) := open_any (Lo W.heap.size) t sg sk sc W (fun _ x => x) h
set_option maxRecDepth 100000 in
set_option maxHeartbeats 1000000 in
theorem matching_any (r1 r2 : RawT) (g1 k1 c1 g2 k2 c2 : Value) (W : World) (h1 : RawTAt No W g1 k1 c1 r1) (h2 : RawTAt No W g2 k2 c2 r2) :
  Calls Tryd.prog 69 #[.agg #[.int .i64 r1.gen.width, g1, .int .i64 r1.kill.width, k1, c1], .agg #[.int .i64 r2.gen.width, g2, .int .i64 r2.kill.width, k2, c2]] W (IntPost (matchZ r1 r2) W) := by
 have H1 := Lib.hid h1
 have H2 := Lib.hid h2
 obtain ⟨ag1, ng1, cg1, rfl⟩ := h1.gen.shaped
 obtain ⟨ak1, nk1, ck1, rfl⟩ := h1.kill.shaped
 obtain ⟨ac1, nc1, cc1, rfl⟩ := h1.copies.shaped
 obtain ⟨ag2, ng2, cg2, rfl⟩ := h2.gen.shaped
 obtain ⟨ak2, nk2, ck2, rfl⟩ := h2.kill.shaped
 obtain ⟨ac2, nc2, cc2, rfl⟩ := h2.copies.shaped
 clear h1 h2
 go_enter Tryd.func69, Tryd.ntmps69
 go_wp2_with fail
 have hx0 : Ext No W ((W.alloc (.cells #[.int .i64 r1.gen.width, .slice ag1 ng1 cg1, .int .i64 r1.kill.width, .slice ak1 nk1 ck1, .slice ac1 nc1 cc1] 30)).alloc (.cells #[.int .i64 r2.gen.width, .slice ag2 ng2 cg2, .int .i64 r2.kill.width, .slice ak2 nk2 ck2, .slice ac2 nc2 cc2] 30)) := ((Ext.refl _ _).alloc _).alloc _
 have hA : ((W.alloc (.cells #[.int .i64 r1.gen.width, .slice ag1 ng1 cg1, .int .i64 r1.kill.width, .slice ak1 nk1 ck1, .slice ac1 nc1 cc1] 30)).alloc (.cells #[.int .i64 r2.gen.width, .slice ag2 ng2 cg2, .int .i64 r2.kill.width, .slice ak2 nk2 ck2, .slice ac2 nc2 cc2] 30)).heap[W.heap.size]? = some (.cells #[.int .i64 r1.gen.width, .slice ag1 ng1 cg1, .int .i64 r1.kill.width, .slice ak1 nk1 ck1, .slice ac1 nc1 cc1] 30 (0, 0)) := alloc_under (alloc_top rfl)
 have hB : ((W.alloc (.cells #[.int .i64 r1.gen.width, .slice ag1 ng1 cg1, .int .i64 r1.kill.width, .slice ak1 nk1 ck1, .slice ac1 nc1 cc1] 30)).alloc (.cells #[.int .i64 r2.gen.width, .slice ag2 ng2 cg2, .int .i64 r2.kill.width, .slice ak2 nk2 ck2, .slice ac2 nc2 cc2] 30)).heap[W.heap.size + 1]? = some (.cells #[.int .i64 r2.gen.width, .slice ag2 ng2 cg2, .int .i64 r2.kill.width, .slice ak2 nk2 ck2, .slice ac2 nc2 cc2] 30 (0, 0)) := alloc_top (by simp)
 generalize ((W.alloc (.cells #[.int .i64 r1.gen.width, .slice ag1 ng1 cg1, .int .i64 r1.kill.width, .slice ak1 nk1 ck1, .slice ac1 nc1 cc1] 30)).alloc (.cells #[.int .i64 r2.gen.width, .slice ag2 ng2 cg2, .int .i64 r2.kill.width, .slice ak2 nk2 ck2, .slice ac2 nc2 cc2] 30)) = W2 at *
 refine (validT_any r1 _ _ _ _ (H1.out.extNo hx0)).mono ?_
 rintro e1 w1 ⟨rfl, hx1⟩
 have hx := Lib.hid (hx0.transNo hx1)
 have HA := Lib.hid (hx1.blk hA no_no)
 have HB := Lib.hid (hx1.blk hB no_no)
 clear hx0 hx1 hA hB
 cases hv1 : validT r1 with
 | false =>
  have e : matchZ r1 r2 = 1 := by unfold matchZ; rw [if_neg (by simp [hv1])]
  have E := Lib.hid e
  clear hv1 e
  go_wp2_with fail
  go_ret
  rw [E.out]
  exact ⟨rfl, hx.out⟩
 | true =>
  have cB := cellOf HB.out
  have HV1 := Lib.hid hv1
  clear hv1
  go_wp2_with fail
  refine (validT_any r2 _ _ _ _ (H2.out.extNo hx.out)).mono ?_
  rintro e2 w2 ⟨rfl, hx2⟩
  cases hv2 : validT r2 with
  | false =>
   have e : matchZ r1 r2 = 1 := by unfold matchZ; rw [if_pos HV1.out, if_neg (by simp [hv2])]
   have E := Lib.hid e
   clear hv2 e
   go_wp2_with fail
   go_ret
   rw [E.out]
   exact ⟨rfl, hx.out.transNo hx2⟩
  | true =>
   have HV2 := Lib.hid hv2
   have cA2 := cellOf (hx2.blk HA.out no_no)
   have cB2 := cellOf (hx2.blk HB.out no_no)
   clear hv2 cB
   by_cases hw : r1.gen.width = r2.gen.width
   ·have e : matchZ r1 r2 = 0 := by unfold matchZ; rw [if_pos HV1.out, if_pos HV2.out, if_pos hw]
    have hw' : (r1.gen.width != r2.gen.width) = false := by simpa using hw
    have E := Lib.hid e
    clear hw e
    go_wp2_with fail
    go_ret
    rw [E.out]
    exact ⟨rfl, hx.out.transNo hx2⟩
   have e : matchZ r1 r2 = 2 := by unfold matchZ; rw [if_pos HV1.out, if_pos HV2.out, if_neg hw]
   have hw' : (r1.gen.width != r2.gen.width) = true := by simpa using hw
   have E := Lib.hid e
   clear hw e
   go_wp2_with fail
   go_ret
   rw [E.out]
   exact ⟨rfl, hx.out.transNo hx2⟩
end Go.Proofs.YtmddchceacmopaaDoor

namespace Go.Proofs.YtmddchceacmopaaDoor
open Go Go.RowKit
theorem bool_ext {a b : Bool} (h : a = true ↔ b = true) : a = b := by cases a <;> cases b <;> simp_all
theorem applyT_lt {t : TrD} {s : Nat} (ho : TrOk t) (hs : s < 2 ^ t.w) : applyT t s < 2 ^ t.w := applyN_lt ho hs _
theorem sub_of {w a b : Nat} (ha : a < 2 ^ w) (h : ∀ i, i < w → a.testBit i = true → b.testBit i = true) : subN a b = true := subN_iff.2 fun i hi => by
 by_cases hw : i < w
 ·exact h i hw hi
 rw [bit_high ha (by omega)] at hi; cases hi
theorem or_of_sub {a b : Nat} (h : subN a b = true) : a ||| b = b := sub_bits.2 (fun i hi => subN_iff.1 h i hi)
theorem sub_of_or {a b : Nat} (h : a ||| b = b) : subN a b = true := subN_iff.2 (fun i hi => sub_bits.1 h i hi)
theorem star_least {f : TrD} (hf : TrOk f) (hc : TrOk (starT f)) {s r : Nat} (hs : s < 2 ^ f.w) (hr : r < 2 ^ f.w) (h1 : subN s r = true) (h2 : subN (applyT f r) r = true) : subN (applyT (starT f) s) r = true := by
 have hfix : stepN (rowsN f f.w f.copies.length) f.w r = r := by
  refine Nat.eq_of_testBit_eq fun i => bool_ext ?_
  rw [show stepN (rowsN f f.w f.copies.length) f.w r = r ||| imgN (rowsN f f.w f.copies.length) f.w r from rfl, Nat.testBit_or, Bool.or_eq_true]
  constructor
  ·rintro (h | h)
   ·exact h
   refine subN_iff.1 h2 i ?_
   rw [apply_rows hf hr, show orN f.gen (imgN (rowsN f f.w f.copies.length) f.w r) = f.gen ||| imgN (rowsN f f.w f.copies.length) f.w r from rfl, Nat.testBit_or, h, Bool.or_true]
  exact .inl
 have hgen : subN f.gen r = true := subN_iff.2 fun i hi => subN_iff.1 h2 i (by
  rw [apply_rows hf hr, show orN f.gen (imgN (rowsN f f.w f.copies.length) f.w r) = f.gen ||| imgN (rowsN f f.w f.copies.length) f.w r from rfl, Nat.testBit_or, hi, Bool.true_or])
 have hcl : ∀ q, q < 2 ^ f.w → subN q r = true → subN (closN (rowsN f f.w f.copies.length) f.w q) r = true := fun q hq hqr =>
  sub_of_or ((clos_any (rows_lt hf) hq).least r hfix (or_of_sub hqr))
 refine sub_of (w := f.w) (applyT_lt hc hs) (fun i hiw hi => ?_)
 rw [show applyT (starT f) s = applyT (closeT f.w (closN (rowsN f f.w f.copies.length) f.w f.gen) (starRows f.w (rowsN f f.w f.copies.length) f.w)) s from rfl, close_bit hc hiw] at hi
 rcases hi with hi | ⟨a, ha, h3, h4⟩
 ·exact subN_iff.1 (hcl _ hf.gen hgen) i hi
 rw [starRows_at ha] at h4
 refine subN_iff.1 (hcl _ (bitN_lt ha) ?_) i h4
 refine subN_iff.2 fun j hj => ?_
 rw [one_bit] at hj
 have : a = j := of_decide_eq_true hj
 rw [← this]
 exact subN_iff.1 h1 a h3
end Go.Proofs.YtmddchceacmopaaDoor

namespace Go.Proofs.YtmddchceacmopaaDoor
open Go Go.RowKit
def beforeB (a b : Int × Int) : Bool := decide (a.1 < b.1) || (decide (a.1 = b.1) && decide (a.2 < b.2))
theorem before_cmp (a b : Int × Int) : beforeB a b = decide (compareZ a b < 0) := by
 unfold beforeB compareZ orZ cmpZ
 by_cases h1 : a.1 < b.1
 ·simp [h1]
 by_cases h2 : b.1 < a.1
 ·have h3 : ¬ a.1 = b.1 := by omega
  simp [h1, h2, h3]
 have h3 : a.1 = b.1 := by omega
 by_cases h4 : a.2 < b.2
 ·simp [h3, h4]
 by_cases h5 : b.2 < a.2
 ·simp [h3, h4, h5]
 simp [h3, h4, h5]
theorem rbefore_any (a b : Int × Int) (W : World) : Calls Tryd.prog 79 #[.agg #[.int .i64 a.1, .int .i64 a.2], .agg #[.int .i64 b.1, .int .i64 b.2]] W (BoolPost (beforeB a b) W) := by
 obtain ⟨a1, a2⟩ := a
 obtain ⟨b1, b2⟩ := b
 simp only [beforeB]
 by_cases h1 : a1 < b1
 ·have h1' : decide (a1 < b1) = true := by simpa using h1
  rw [h1', Bool.true_or]
  go_enter Tryd.func79, Tryd.ntmps79
  go_wp2_with fail
  go_ret
  exact ⟨rfl, by (repeat (first | (with_reducible exact Ext.refl _ _) | (with_reducible assumption) | (with_reducible refine Ext.drewN ?_ _) | (with_reducible refine Ext.drew ?_) | (with_reducible refine Ext.alloc ?_ _)))⟩
 have h1' : decide (a1 < b1) = false := by simpa using h1
 by_cases h2 : a1 = b1
 ·have h2' : (a1 == b1) = true := by simpa using h2
  rw [h1', Bool.false_or, show decide (a1 = b1) = true from by simpa using h2, Bool.true_and]
  clear h1 h2
  cases h3 : decide (a2 < b2)
  all_goals
   go_enter Tryd.func79, Tryd.ntmps79
   go_wp2_with fail
   go_ret
   exact ⟨rfl, by (repeat (first | (with_reducible exact Ext.refl _ _) | (with_reducible assumption) | (with_reducible refine Ext.drewN ?_ _) | (with_reducible refine Ext.drew ?_) | (with_reducible refine Ext.alloc ?_ _)))⟩
 have h2' : (a1 == b1) = false := by simpa using h2
 rw [h1', Bool.false_or, show decide (a1 = b1) = false from by simpa using h2, Bool.false_and]
 clear h1 h2
 go_enter Tryd.func79, Tryd.ntmps79
 go_wp2_with fail
 go_ret
 exact ⟨rfl, by (repeat (first | (with_reducible exact Ext.refl _ _) | (with_reducible assumption) | (with_reducible refine Ext.drewN ?_ _) | (with_reducible refine Ext.drew ?_) | (with_reducible refine Ext.alloc ?_ _)))⟩

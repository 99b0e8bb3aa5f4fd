
import Derived.Test.YtmddchceacmopaaGreatDoorTr28
set_option linter.unusedVariables false
set_option linter.unusedSimpArgs false
namespace Go.Proofs.YtmddchceacmopaaGreatDoor
open Go Go.RowKit
theorem rowN_bit {t : TrD} (ho : TrOk t) {a b : Nat} (hb : b < t.w) : ∀ k, k ≤ t.copies.length → ((rowN t a k).testBit b = true ↔ (a = b ∧ t.kill.testBit b = false) ∨ ∃ (j : Nat) (h : j < t.copies.length), j < k ∧ t.copies[j].1 = (a : Int) ∧ t.copies[j].2 = (b : Int)) := by
 intro k
 induction k with
 | zero =>
  intro _
  rw [rowN]
  cases hh : hasZ t.w t.kill a with
  | true =>
   have : a < t.w ∧ t.kill.testBit a = true := by
    unfold hasZ inB at hh
    simp only [Bool.and_eq_true, decide_eq_true_eq, Int.toNat_natCast] at hh
    exact ⟨by omega, hh.2⟩
   simp
   rintro rfl
   exact this.2
  | false =>
   simp [Nat.testBit_two_pow]
   rintro rfl
   rw [hasZ_nat hb] at hh
   exact hh
 | succ k ih =>
  intro hk
  have hk' : k < t.copies.length := by omega
  have ih := ih (by omega)
  obtain ⟨_, i2⟩ := ho.inr k hk'
  obtain ⟨g, hg, _⟩ := inB_true i2
  rw [rowN_succ hk']
  have hst : (∃ (j : Nat) (h : j < t.copies.length), j < k + 1 ∧ t.copies[j].1 = (a : Int) ∧ t.copies[j].2 = (b : Int)) ↔ ((∃ (j : Nat) (h : j < t.copies.length), j < k ∧ t.copies[j].1 = (a : Int) ∧ t.copies[j].2 = (b : Int)) ∨ (t.copies[k].1 = (a : Int) ∧ t.copies[k].2 = (b : Int))) := by
   constructor
   ·rintro ⟨j, h, h1, h2⟩
    by_cases e : j = k
    ·subst e; exact .inr h2
    exact .inl ⟨j, h, by omega, h2⟩
   rintro (⟨j, h, h1, h2⟩ | h)
   ·exact ⟨j, h, by omega, h2⟩
   exact ⟨k, hk', by omega, h⟩
  rw [hst, ← or_assoc, ← ih]
  by_cases hc : t.copies[k].1 = (a : Int)
  ·rw [if_pos hc, or_bit, Bool.or_eq_true, decide_eq_true_eq]
   rw [hg, Int.toNat_natCast]
   exact or_congr Iff.rfl ⟨fun e => ⟨hc, by omega⟩, fun e => by omega⟩
  rw [if_neg hc]
  simp [hc]
theorem rowsN_at {t : TrD} {a k : Nat} (h : a < t.w) : rowAt (rowsN t t.w k) a = rowN t a k := by
 rw [rowAt_get (by rw [rowsN_len]; exact h), rowsN_get]
theorem apply_rows {t : TrD} (ho : TrOk t) {s : Nat} (hs : s < 2 ^ t.w) : applyT t s = orN t.gen (imgN (rowsN t t.w t.copies.length) t.w s) := by
 have hrl : ∀ m ∈ rowsN t t.w t.copies.length, m < 2 ^ t.w := fun m hm => by
  obtain ⟨a, ha, rfl⟩ := List.mem_map.1 hm
  exact rowN_lt ho (List.mem_range.1 ha) _
 refine bits_ext (applyN_lt ho hs _) (orN_lt' ho.gen (imgL_lt hrl _)) (fun b hb => ?_)
 rw [Bool.eq_iff_iff]
 unfold applyT
 rw [applyN_iff ho _ (Nat.le_refl _)]
 unfold orN
 rw [Nat.testBit_or, Bool.or_eq_true, imgN_bit]
 constructor
 ·rintro (⟨h1, h2⟩ | h | ⟨j, hj, _, h1, h2⟩)
  ·refine .inr ⟨b, hb, h1, ?_⟩
   have := rowsN_at (t := t) (k := t.copies.length) hb
   unfold rowAt at this
   rw [this, rowN_bit ho hb _ (Nat.le_refl _)]
   exact .inl ⟨rfl, h2⟩
  ·exact .inl h
  obtain ⟨i1, _⟩ := ho.inr j hj
  obtain ⟨f, hf, hf2⟩ := inB_true i1
  have hfw : f < t.w := by omega
  rw [hf, hasZ_nat hfw] at h1
  refine .inr ⟨f, hfw, h1, ?_⟩
  have := rowsN_at (t := t) (k := t.copies.length) hfw
  unfold rowAt at this
  rw [this, rowN_bit ho hb _ (Nat.le_refl _)]
  exact .inr ⟨j, hj, hj, hf, h2⟩
 rintro (h | ⟨a, ha, h1, h2⟩)
 ·exact .inr (.inl h)
 have := rowsN_at (t := t) (k := t.copies.length) ha
 unfold rowAt at this
 rw [this, rowN_bit ho hb _ (Nat.le_refl _)] at h2
 rcases h2 with ⟨rfl, h3⟩ | ⟨j, hj, _, h3, h4⟩
 ·exact .inl ⟨h1, h3⟩
 exact .inr (.inr ⟨j, hj, hj, by rw [h3, hasZ_nat ha]; exact h1, h4⟩)
end Go.Proofs.YtmddchceacmopaaGreatDoor

namespace Go.Proofs.YtmddchceacmopaaGreatDoor
open Go Go.RowKit
def updTo (rs : List Nat) (f : Nat → Nat) (k : Nat) : List Nat := (List.range rs.length).map fun i => if i < k then f i else rowAt rs i
theorem updTo_len (rs : List Nat) (f : Nat → Nat) (k : Nat) : (updTo rs f k).length = rs.length := by simp [updTo]
theorem updTo_zero (rs : List Nat) (f : Nat → Nat) : updTo rs f 0 = rs := by
 refine List.ext_getElem (updTo_len rs f 0) (fun i h1 h2 => ?_)
 simp [updTo, rowAt, h2]
theorem updTo_get {rs : List Nat} {f : Nat → Nat} {k i : Nat} (h : i < (updTo rs f k).length) : (updTo rs f k)[i] = if i < k then f i else rowAt rs i := by simp [updTo]
theorem updTo_succ {rs : List Nat} {f : Nat → Nat} {k : Nat} (_ : k < rs.length) : updTo rs f (k + 1) = (updTo rs f k).set k (f k) := by
 refine List.ext_getElem (by simp [updTo]) (fun i h1 h2 => ?_)
 rw [updTo_get, List.getElem_set]
 by_cases e : k = i
 ·subst e; simp
 rw [if_neg e, updTo_get]
 by_cases h : i < k
 ·rw [if_pos h, if_pos (by omega)]
 rw [if_neg h, if_neg (by omega)]
theorem updTo_at (rs : List Nat) (f : Nat → Nat) (k : Nat) (h : k < rs.length) (h2 : k < (updTo rs f k).length) : (updTo rs f k)[k] = rs[k] := by
 rw [updTo_get, if_neg (Nat.lt_irrefl _), rowAt_get h]
def joinRows (r1 r2 : List Nat) : List Nat := updTo r1 (fun i => orN (rowAt r1 i) (rowAt r2 i)) r1.length
def compRows (w : Nat) (r1 r2 : List Nat) : List Nat := updTo r1 (fun i => imgN r2 w (rowAt r1 i)) r1.length
def starRows (w : Nat) (rs : List Nat) (n : Nat) : List Nat := (List.range n).map fun b => closN rs w (2 ^ b)
theorem starRows_len (w : Nat) (rs : List Nat) (n : Nat) : (starRows w rs n).length = n := by simp [starRows]
theorem starRows_snoc (w : Nat) (rs : List Nat) (n : Nat) : starRows w rs (n + 1) = starRows w rs n ++ [closN rs w (2 ^ n)] := by simp [starRows, List.range_succ]
theorem rows_lt {t : TrD} (ho : TrOk t) : ∀ m ∈ rowsN t t.w t.copies.length, m < 2 ^ t.w := fun m hm => by
 obtain ⟨a, ha, rfl⟩ := List.mem_map.1 hm
 exact rowN_lt ho (List.mem_range.1 ha) _
theorem close_bit {w gen : Nat} {rs : List Nat} {s b : Nat} (ho : TrOk (closeT w gen rs)) (hb : b < w) : (applyT (closeT w gen rs) s).testBit b = true ↔ gen.testBit b = true ∨ ∃ a, a < w ∧ s.testBit a = true ∧ (rowAt rs a).testBit b = true := by
 unfold applyT
 rw [applyN_iff ho _ (Nat.le_refl _)]
 show (s.testBit b = true ∧ (killTo w gen rs w).testBit b = false) ∨ gen.testBit b = true ∨ (∃ (j : Nat) (h : j < (copTo w gen rs w).length), j < (copTo w gen rs w).length ∧ hasZ w s (copTo w gen rs w)[j].1 = true ∧ (copTo w gen rs w)[j].2 = (b : Int)) ↔ _
 constructor
 ·rintro (⟨h1, h2⟩ | h | ⟨j, hj, _, h1, h2⟩)
  ·rw [killTo_bit, decide_eq_true hb, Bool.true_and, Bool.or_eq_false_iff] at h2
   refine .inr ⟨b, hb, h1, ?_⟩
   have := h2.2
   rw [hasZ_nat hb] at this
   simpa using this
  ·exact .inl h
  obtain ⟨a, b', h3, h4, h5, h6, h7, h8⟩ := (copTo_mem w).1 (List.getElem_mem hj)
  rw [h4] at h1 h2
  have : b' = b := by simp only at h2; omega
  subst this
  rw [hasZ_nat h3] at h1
  exact .inr ⟨a, h3, h1, h7⟩
 rintro (h | ⟨a, ha, h1, h2⟩)
 ·exact .inr (.inl h)
 cases hg : gen.testBit b with
 | true => exact .inr (.inl rfl)
 | false =>
  by_cases e : a = b
  ·subst e
   refine .inl ⟨h1, ?_⟩
   rw [killTo_bit, hg, decide_eq_true hb, hasZ_nat hb, h2]; rfl
  have hm : ((a : Int), (b : Int)) ∈ copTo w gen rs w := (copTo_mem w).2 ⟨a, b, ha, rfl, hb, e, h2, hg⟩
  obtain ⟨j, hj, he⟩ := List.getElem_of_mem hm
  exact .inr (.inr ⟨j, hj, hj, by rw [he, hasZ_nat ha]; exact h1, by rw [he]⟩)
theorem apply_bit {t : TrD} (ho : TrOk t) {s b : Nat} (hs : s < 2 ^ t.w) : (applyT t s).testBit b = true ↔ t.gen.testBit b = true ∨ ∃ a, a < t.w ∧ s.testBit a = true ∧ (rowAt (rowsN t t.w t.copies.length) a).testBit b = true := by
 rw [apply_rows ho hs]
 unfold orN
 rw [Nat.testBit_or, Bool.or_eq_true, imgN_bit]
 rfl
theorem updTo_at2 {rs : List Nat} {f : Nat → Nat} {a : Nat} (h : a < rs.length) : rowAt (updTo rs f rs.length) a = f a := by
 rw [rowAt_get (by rw [updTo_len]; exact h), updTo_get, if_pos h]
theorem starRows_at {w n : Nat} {rs : List Nat} {a : Nat} (h : a < n) : rowAt (starRows w rs n) a = closN rs w (2 ^ a) := by
 rw [rowAt_get (by rw [starRows_len]; exact h)]
 simp [starRows]
theorem mean_compose {f g : TrD} (hf : TrOk f) (hg : TrOk g) (hw : g.w = f.w) {s : Nat} (hs : s < 2 ^ f.w) (hc : TrOk (closeT f.w (applyT g f.gen) (compRows f.w (rowsN f f.w f.copies.length) (rowsN g f.w g.copies.length)))) :
  applyT (closeT f.w (applyT g f.gen) (compRows f.w (rowsN f f.w f.copies.length) (rowsN g f.w g.copies.length))) s = applyT g (applyT f s) := by
 have hfs := applyN_lt hf hs f.copies.length
 have hfg : f.gen < 2 ^ g.w := by rw [hw]; exact hf.gen
 have hfs' : applyT f s < 2 ^ g.w := by rw [hw]; exact hfs
 refine bits_ext (w := f.w) (applyN_lt hc hs _) (by have := applyN_lt hg hfs' g.copies.length; rw [hw] at this; exact this) (fun b hb => ?_)
 rw [Bool.eq_iff_iff, close_bit hc hb, apply_bit hg hfs', apply_bit hg hfg]
 have e : ∀ a, a < f.w → ((rowAt (compRows f.w (rowsN f f.w f.copies.length) (rowsN g f.w g.copies.length)) a).testBit b = true ↔ ∃ c, c < g.w ∧ (rowAt (rowsN f f.w f.copies.length) a).testBit c = true ∧ (rowAt (rowsN g g.w g.copies.length) c).testBit b = true) := fun a ha => by
  unfold compRows
  rw [updTo_at2 (by rw [rowsN_len]; exact ha), imgN_bit, hw]
  rfl
 constructor
 ·rintro ((h | ⟨a, h1, h2, h3⟩) | ⟨a, h1, h2, h3⟩)
  ·exact .inl h
  ·exact .inr ⟨a, h1, (apply_bit hf hs).2 (.inl h2), h3⟩
  obtain ⟨c, h4, h5, h6⟩ := (e a h1).1 h3
  exact .inr ⟨c, h4, (apply_bit hf hs).2 (.inr ⟨a, h1, h2, h5⟩), h6⟩
 rintro (h | ⟨c, h1, h2, h3⟩)
 ·exact .inl (.inl h)
 rcases (apply_bit hf hs).1 h2 with h4 | ⟨a, h4, h5, h6⟩
 ·exact .inl (.inr ⟨c, h1, h4, h3⟩)
 exact .inr ⟨a, h4, h5, (e a h4).2 ⟨c, h1, h6, h3⟩⟩
theorem mean_join {f g : TrD} (hf : TrOk f) (hg : TrOk g) (hw : g.w = f.w) {s : Nat} (hs : s < 2 ^ f.w) (hc : TrOk (closeT f.w (orN f.gen g.gen) (joinRows (rowsN f f.w f.copies.length) (rowsN g f.w g.copies.length)))) :
  applyT (closeT f.w (orN f.gen g.gen) (joinRows (rowsN f f.w f.copies.length) (rowsN g f.w g.copies.length))) s = orN (applyT f s) (applyT g s) := by
 have hs' : s < 2 ^ g.w := by rw [hw]; exact hs
 refine bits_ext (w := f.w) (applyN_lt hc hs _) (orN_lt' (applyN_lt hf hs _) (by have := applyN_lt hg hs' g.copies.length; rw [hw] at this; exact this)) (fun b hb => ?_)
 rw [Bool.eq_iff_iff, close_bit hc hb]
 unfold orN
 rw [Nat.testBit_or, Nat.testBit_or, Bool.or_eq_true, Bool.or_eq_true, apply_bit hf hs, apply_bit hg hs']
 have e : ∀ a, a < f.w → ((rowAt (joinRows (rowsN f f.w f.copies.length) (rowsN g f.w g.copies.length)) a).testBit b = true ↔ (rowAt (rowsN f f.w f.copies.length) a).testBit b = true ∨ (rowAt (rowsN g g.w g.copies.length) a).testBit b = true) := fun a ha => by
  unfold joinRows
  rw [updTo_at2 (by rw [rowsN_len]; exact ha), hw]
  unfold orN
  rw [Nat.testBit_or, Bool.or_eq_true]
 constructor
 ·rintro ((h | h) | ⟨a, h1, h2, h3⟩)
  ·exact .inl (.inl h)
  ·exact .inr (.inl h)
  rcases (e a h1).1 h3 with h4 | h4
  ·exact .inl (.inr ⟨a, h1, h2, h4⟩)
  exact .inr (.inr ⟨a, by omega, h2, h4⟩)
 rintro ((h | ⟨a, h1, h2, h3⟩) | (h | ⟨a, h1, h2, h3⟩))
 ·exact .inl (.inl h)
 ·exact .inr ⟨a, h1, h2, (e a h1).2 (.inl h3)⟩
 ·exact .inl (.inr h)
 exact .inr ⟨a, by omega, h2, (e a (by omega)).2 (.inr h3)⟩
theorem subN_iff {a b : Nat} : subN a b = true ↔ ∀ i, a.testBit i = true → b.testBit i = true := by
 unfold subN
 rw [decide_eq_true_eq]
 constructor
 ·intro h i hi
  have := congrArg (fun n => n.testBit i) h
  simp only [diffN_bit, Nat.zero_testBit, hi, Bool.true_and] at this
  simpa using this
 intro h
 refine Nat.eq_of_testBit_eq fun i => ?_
 rw [diffN_bit, Nat.zero_testBit]
 cases e : a.testBit i
 ·rfl
 rw [h i e]; rfl
def starT (f : TrD) : TrD := closeT f.w (closN (rowsN f f.w f.copies.length) f.w f.gen) (starRows f.w (rowsN f f.w f.copies.length) f.w)
theorem clos_img {rs : List Nat} {w s r : Nat} (h : Clos rs w s r) {a b : Nat} (ha : a < w) (h1 : r.testBit a = true) (h2 : (rowAt rs a).testBit b = true) : r.testBit b = true := by
 have := h.fix
 unfold stepN orN at this
 rw [← this, Nat.testBit_or, (imgN_bit rs w r b).2 ⟨a, ha, h1, h2⟩, Bool.or_true]
theorem star_ge {f : TrD} (hf : TrOk f) {s : Nat} (hs : s < 2 ^ f.w) (hc : TrOk (starT f)) : subN s (applyT (starT f) s) = true := by
 rw [subN_iff]
 intro i hi
 have hiw : i < f.w := by
  by_cases h : i < f.w
  ·exact h
  rw [bit_high hs (by omega)] at hi; cases hi
 refine (close_bit hc hiw).2 (.inr ⟨i, hiw, hi, ?_⟩)
 rw [starRows_at hiw]
 have := (clos_any (rows_lt hf) (bitN_lt hiw)).ge
 exact (sub_bits.1 this) i (Nat.testBit_two_pow_self)
theorem star_fix {f : TrD} (hf : TrOk f) {s : Nat} (hs : s < 2 ^ f.w) (hc : TrOk (starT f)) : subN (applyT f (applyT (starT f) s)) (applyT (starT f) s) = true := by
 have hlt : applyT (starT f) s < 2 ^ f.w := applyN_lt hc hs _
 rw [subN_iff]
 intro i hi
 have hiw : i < f.w := by
  by_cases h : i < f.w
  ·exact h
  have h9 : applyT f (applyT (starT f) s) < 2 ^ f.w := applyN_lt hf hlt _
  rw [bit_high h9 (by omega)] at hi; cases hi
 have cg := clos_any (rows_lt hf) hf.gen
 rcases (apply_bit hf hlt).1 hi with h | ⟨a, h1, h2, h3⟩
 ·exact (close_bit hc hiw).2 (.inl ((sub_bits.1 cg.ge) i h))
 rcases (close_bit hc h1).1 h2 with h4 | ⟨c, h4, h5, h6⟩
 ·exact (close_bit hc hiw).2 (.inl (clos_img cg h1 h4 h3))
 refine (close_bit hc hiw).2 (.inr ⟨c, h4, h5, ?_⟩)
 rw [starRows_at h4] at h6 ⊢
 exact clos_img (clos_any (rows_lt hf) (bitN_lt h4)) h1 h6 h3
def compT (t u : TrD) : TrD := closeT t.w (applyT u t.gen) (compRows t.w (rowsN t t.w t.copies.length) (rowsN u t.w u.copies.length))
def joinT (t u : TrD) : TrD := closeT t.w (orN t.gen u.gen) (joinRows (rowsN t t.w t.copies.length) (rowsN u t.w u.copies.length))

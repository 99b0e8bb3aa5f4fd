/- Plain laws: the canonical function of a table of values. -/
import Derived.Test.YtgakojgkkdmabaaDoorRefF
set_option linter.unusedVariables false
set_option linter.unusedSimpArgs false
namespace Go.Proofs.YtgakojgkkdmabaaDoor
open Go Go.RowKit

/-- the same rows beyond gen give the same canonical function -/
theorem closeT_congr {w g : Nat} {rs rs' : List Nat} (hg : g < 2 ^ w) (h : ∀ a b, a < w → b < w → g.testBit b = false → (rowAt rs a).testBit b = (rowAt rs' a).testBit b) : closeT w g rs = closeT w g rs' := by
  show TrD.mk _ _ _ _ = TrD.mk _ _ _ _
  rw [killTo_congr hg h, copTo_congr h w (Nat.le_refl _)]
theorem tab_bit {t : TrD} (ho : TrOk t) {a b : Nat} (ha : a < t.w) : (rowAt (tabT t) a).testBit b = (t.gen.testBit b || (rowAt (rowsN t t.w t.copies.length) a).testBit b) := bool_ext (by
  rw [show rowAt (tabT t) a = applyT t (2 ^ a) from tabTo_at ha, apply_bit ho (bitN_lt ha), Bool.or_eq_true]
  constructor
  · rintro (h | ⟨c, _, h1, h2⟩)
    · exact .inl h
    · rw [one_bit] at h1
      have : a = c := of_decide_eq_true h1
      rw [this]; exact .inr h2
  · rintro (h | h)
    · exact .inl h
    · exact .inr ⟨a, ha, by rw [one_bit]; simp, h⟩)
theorem canon_tab {t : TrD} (ho : TrOk t) : closeT t.w t.gen (tabT t) = canonT t :=
  closeT_congr ho.gen (fun a b ha _ hg => by rw [tab_bit ho ha, hg]; rfl)
/-- a closed set that holds gen: the same for the table and for the rows -/
theorem img_sub {rs : List Nat} {w r : Nat} : stepN rs w r = r ↔ ∀ a b, a < w → r.testBit a = true → (rowAt rs a).testBit b = true → r.testBit b = true := by
  constructor
  · intro h a b ha h1 h2
    rw [← h]
    show (r ||| imgN rs w r).testBit b = true
    rw [Nat.testBit_or, Bool.or_eq_true]
    exact .inr ((imgN_bit rs w r b).2 ⟨a, ha, h1, h2⟩)
  · intro h
    refine Nat.eq_of_testBit_eq fun b => bool_ext ?_
    show (r ||| imgN rs w r).testBit b = true ↔ _
    rw [Nat.testBit_or, Bool.or_eq_true]
    exact ⟨fun hb => by
      rcases hb with hb | hb
      · exact hb
      · obtain ⟨a, ha, h1, h2⟩ := (imgN_bit rs w r b).1 hb
        exact h a b ha h1 h2, .inl⟩
theorem star_tab0 {t : TrD} (ho : TrOk t) : closZ t.gen (tabT t) t.w 0 = closN (rowsN t t.w t.copies.length) t.w t.gen := by
  have e : orN t.gen 0 = t.gen := Nat.or_zero _
  unfold closZ
  rw [e]
  have hc := clos_any (rows_lt ho) ho.gen
  refine Clos.uniq (clos_any (tabT_lt ho) ho.gen) ⟨hc.lt, img_sub.2 (fun a b ha h1 h2 => ?_), hc.ge, fun r' h3 h4 => hc.least r' (img_sub.2 (fun a b ha h1 h2 => ?_)) h4⟩
  · rw [tab_bit ho ha, Bool.or_eq_true] at h2
    rcases h2 with h2 | h2
    · exact sub_bits.1 hc.ge b h2
    · exact img_sub.1 hc.fix a b ha h1 h2
  · exact img_sub.1 h3 a b ha h1 (by rw [tab_bit ho ha, h2, Bool.or_true])
theorem star_tab1 {t : TrD} (ho : TrOk t) {c : Nat} (hc : c < t.w) : closZ t.gen (tabT t) t.w (2 ^ c) = orN (closN (rowsN t t.w t.copies.length) t.w t.gen) (closN (rowsN t t.w t.copies.length) t.w (2 ^ c)) := by
  have h1 := clos_any (rows_lt ho) ho.gen
  have h2 := clos_any (rows_lt ho) (bitN_lt hc)
  have hb : ∀ i, (orN (closN (rowsN t t.w t.copies.length) t.w t.gen) (closN (rowsN t t.w t.copies.length) t.w (2 ^ c))).testBit i = ((closN (rowsN t t.w t.copies.length) t.w t.gen).testBit i || (closN (rowsN t t.w t.copies.length) t.w (2 ^ c)).testBit i) := fun i => Nat.testBit_or ..
  have hs : ∀ i, (orN t.gen (2 ^ c)).testBit i = (t.gen.testBit i || (2 ^ c).testBit i) := fun i => Nat.testBit_or ..
  unfold closZ
  refine Clos.uniq (clos_any (tabT_lt ho) (orN_lt ho.gen (bitN_lt hc))) ⟨orN_lt h1.lt h2.lt, img_sub.2 (fun a b ha h3 h4 => ?_), sub_bits.2 (fun i hi => ?_), fun r' h3 h4 => sub_bits.2 (fun i hi => ?_)⟩
  · rw [hb, Bool.or_eq_true] at h3 ⊢
    rw [tab_bit ho ha, Bool.or_eq_true] at h4
    rcases h4 with h4 | h4
    · exact .inl (sub_bits.1 h1.ge b h4)
    · rcases h3 with h3 | h3
      · exact .inl (img_sub.1 h1.fix a b ha h3 h4)
      · exact .inr (img_sub.1 h2.fix a b ha h3 h4)
  · rw [hs, Bool.or_eq_true] at hi
    rw [hb, Bool.or_eq_true]
    rcases hi with hi | hi
    · exact .inl (sub_bits.1 h1.ge i hi)
    · exact .inr (sub_bits.1 h2.ge i hi)
  · have hf : stepN (rowsN t t.w t.copies.length) t.w r' = r' := img_sub.2 (fun a b ha h5 h6 => img_sub.1 h3 a b ha h5 (by rw [tab_bit ho ha, h6, Bool.or_true]))
    have h5 := sub_bits.1 h4
    rw [hb, Bool.or_eq_true] at hi
    rcases hi with hi | hi
    · exact sub_bits.1 (h1.least r' hf (sub_bits.2 (fun j hj => h5 j (by rw [hs, hj]; rfl)))) i hi
    · exact sub_bits.1 (h2.least r' hf (sub_bits.2 (fun j hj => h5 j (by rw [hs, hj, Bool.or_true])))) i hi
def starTab (t : TrD) (k : Nat) : List Nat := (List.range k).map fun b => closZ t.gen (tabT t) t.w (2 ^ b)
theorem starTab_len (t : TrD) (k : Nat) : (starTab t k).length = k := by simp [starTab]
theorem starTab_snoc (t : TrD) (k : Nat) : starTab t (k + 1) = starTab t k ++ [closZ t.gen (tabT t) t.w (2 ^ k)] := by simp [starTab, List.range_succ]
theorem starTab_at {t : TrD} {k a : Nat} (h : a < k) : rowAt (starTab t k) a = closZ t.gen (tabT t) t.w (2 ^ a) := by
  rw [rowAt_get (by rw [starTab_len]; exact h)]; simp [starTab]
theorem star_tab {t : TrD} (ho : TrOk t) : closeT t.w (closZ t.gen (tabT t) t.w 0) (starTab t t.w) = starT t := by
  rw [star_tab0 ho]
  refine closeT_congr (clos_any (rows_lt ho) ho.gen).lt (fun a b ha _ hg => ?_)
  rw [starTab_at ha, star_tab1 ho ha, starRows_at ha]
  exact (Nat.testBit_or ..).trans (by rw [hg]; rfl)
end Go.Proofs.YtgakojgkkdmabaaDoor

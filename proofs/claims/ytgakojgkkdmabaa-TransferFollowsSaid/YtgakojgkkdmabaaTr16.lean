/- The plain law of TransferFollows. -/
import Derived.Test.YtgakojgkkdmabaaTr8
namespace Go.Proofs.Ytgakojgkkdmabaa
open Go Go.RowKit

def inK (t : TrD) (s b : Nat) : Nat → Bool
  | 0 => hasZ t.w t.gen b
  | k + 1 => inK t s b k || (hasZ t.w s k && followsB t k b)
theorem inK_iff (t : TrD) (s b k : Nat) : inK t s b k = true ↔ hasZ t.w t.gen b = true ∨ ∃ a : Nat, a < k ∧ hasZ t.w s a = true ∧ followsB t a b = true := by
  induction k with
  | zero => simp [inK]
  | succ k ih =>
    rw [inK, Bool.or_eq_true, ih, Bool.and_eq_true]
    constructor
    · rintro ((h | ⟨a, h1, h2⟩) | h)
      · exact .inl h
      · exact .inr ⟨a, by omega, h2⟩
      · exact .inr ⟨k, by omega, h⟩
    · rintro (h | ⟨a, h1, h2⟩)
      · exact .inl (.inl h)
      · by_cases e : a = k
        · subst e; exact .inr h2
        · exact .inl (.inr ⟨a, by omega, h2⟩)
theorem hasZ_nat {w m b : Nat} (hb : b < w) : hasZ w m b = m.testBit b := by
  unfold hasZ inB
  rw [show decide ((0 : Int) ≤ (b : Int) ∧ (b : Int) < (w : Int)) = true from decide_eq_true ⟨by omega, by omega⟩]
  simp
theorem applyN_iff {t : TrD} {s b : Nat} (ho : TrOk t) : ∀ k, k ≤ t.copies.length → ((applyN t s k).testBit b = true ↔ (s.testBit b = true ∧ t.kill.testBit b = false) ∨ t.gen.testBit b = true ∨ ∃ (j : Nat) (h : j < t.copies.length), j < k ∧ hasZ t.w s t.copies[j].1 = true ∧ t.copies[j].2 = (b : Int)) := by
  intro k
  induction k with
  | zero =>
    intro _
    simp [applyN, orN, Nat.testBit_or, diffN_bit]
  | succ k ih =>
    intro hk
    have hk' : k < t.copies.length := by omega
    obtain ⟨_, i2⟩ := ho.inr k hk'
    obtain ⟨g, hg, _⟩ := inB_true i2
    rw [applyN_succ hk']
    have hset : ∀ x : Prop, (x ∨ ∃ (j : Nat) (h : j < t.copies.length), j < k + 1 ∧ hasZ t.w s t.copies[j].1 = true ∧ t.copies[j].2 = (b : Int)) ↔ ((x ∨ ∃ (j : Nat) (h : j < t.copies.length), j < k ∧ hasZ t.w s t.copies[j].1 = true ∧ t.copies[j].2 = (b : Int)) ∨ (hasZ t.w s t.copies[k].1 = true ∧ t.copies[k].2 = (b : Int))) := by
      intro x
      constructor
      · rintro (h | ⟨j, h, h1, h2⟩)
        · exact .inl (.inl h)
        · by_cases e : j = k
          · subst e; exact .inr h2
          · exact .inl (.inr ⟨j, h, by omega, h2⟩)
      · rintro ((h | ⟨j, h, h1, h2⟩) | h)
        · exact .inl h
        · exact .inr ⟨j, h, by omega, h2⟩
        · exact .inr ⟨k, hk', by omega, h⟩
    have hi := ih (by omega)
    rw [← or_assoc] at hi
    rw [← or_assoc, hset, ← hi]
    by_cases hz : hasZ t.w s t.copies[k].1 = true
    · rw [if_pos hz, Nat.testBit_or, Bool.or_eq_true, Nat.testBit_two_pow, hg, Int.toNat_natCast, decide_eq_true_eq]
      simp only [hz, true_and]
      exact or_congr Iff.rfl ⟨fun h => by omega, fun h => by omega⟩
    · rw [if_neg hz]
      simp [hz]
theorem apply_law {t : TrD} {s b : Nat} (ho : TrOk t) (hb : b < t.w) : hasZ t.w (applyT t s) b = inK t s b t.w := by
  rw [Bool.eq_iff_iff, inK_iff, hasZ_nat hb, hasZ_nat hb]
  unfold applyT
  rw [applyN_iff ho _ (Nat.le_refl _)]
  constructor
  · rintro (⟨h1, h2⟩ | h | ⟨j, hj, _, h1, h2⟩)
    · refine .inr ⟨b, hb, by rw [hasZ_nat hb]; exact h1, ?_⟩
      unfold followsB
      rw [hasZ_nat hb, h2]; simp
    · exact .inl h
    · obtain ⟨i1, _⟩ := ho.inr j hj
      obtain ⟨f, hf, hf2⟩ := inB_true i1
      refine .inr ⟨f, by omega, by rw [← hf]; exact h1, ?_⟩
      unfold followsB
      rw [hasC_true hj (show t.copies[j] = ((f : Int), (b : Int)) from Prod.ext hf h2)]
      simp
  · rintro (h | ⟨a, ha, h1, h2⟩)
    · exact .inr (.inl h)
    · unfold followsB at h2
      rw [Bool.or_eq_true, Bool.and_eq_true] at h2
      rcases h2 with ⟨h3, h4⟩ | h3
      · have e : a = b := by have := of_decide_eq_true h3; omega
        subst e
        rw [hasZ_nat hb] at h1 h4
        exact .inl ⟨h1, by simpa using h4⟩
      · obtain ⟨j, hj, he⟩ := List.getElem_of_mem (of_decide_eq_true h3)
        exact .inr (.inr ⟨j, hj, hj, by rw [he]; exact h1, by rw [he]⟩)
end Go.Proofs.Ytgakojgkkdmabaa

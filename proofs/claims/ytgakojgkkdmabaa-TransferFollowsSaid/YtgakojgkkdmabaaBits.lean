/- Sets of bits as numbers: the plain words. No program is named here. -/
import Derived.Test.YtgakojgkkdmabaaHeap
import Derived.Laws.Entries
import Derived.IntWalk
namespace Go.Proofs.Ytgakojgkkdmabaa
open Go Go.RowKit

def nw (w : Nat) : Nat := (w + 63) / 64
def wordN (m i : Nat) : Nat := (m >>> (64 * i)) % 2 ^ 64
/-- the words of the set of width w whose members are the bits of m -/
def wordsN (w m : Nat) : List Nat := (List.range (nw w)).map (wordN m)
def diffN (a b : Nat) : Nat := a ^^^ (a &&& b)

theorem wordN_lt (m i : Nat) : wordN m i < 2 ^ 64 := Nat.mod_lt _ (by decide)
theorem wordN_bit (m i j : Nat) : (wordN m i).testBit j = (decide (j < 64) && m.testBit (64 * i + j)) := by
  unfold wordN
  rw [Nat.testBit_mod_two_pow, Nat.testBit_shiftRight]
theorem diffN_bit (a b j : Nat) : (diffN a b).testBit j = (a.testBit j && !b.testBit j) := by
  unfold diffN
  rw [Nat.testBit_xor, Nat.testBit_and]
  cases a.testBit j <;> cases b.testBit j <;> rfl
theorem diffN_lt {a b w : Nat} (h : a < 2 ^ w) : diffN a b < 2 ^ w := by
  refine Nat.lt_pow_two_of_testBit _ (fun i hi => ?_)
  rw [diffN_bit, Nat.testBit_lt_two_pow (Nat.lt_of_lt_of_le h (Nat.pow_le_pow_right (by decide) hi))]; rfl
theorem orN_lt {a b w : Nat} (h : a < 2 ^ w) (h2 : b < 2 ^ w) : a ||| b < 2 ^ w := Nat.or_lt_two_pow h h2
theorem bitN_lt {b w : Nat} (h : b < w) : 2 ^ b < 2 ^ w := Nat.pow_lt_pow_right (by decide) h
theorem wordN_or (a b i : Nat) : wordN (a ||| b) i = wordN a i ||| wordN b i := Nat.eq_of_testBit_eq fun j => by
  rw [Nat.testBit_or, wordN_bit, wordN_bit, wordN_bit, Nat.testBit_or]
  cases decide (j < 64) <;> rfl
theorem wordN_and (a b i : Nat) : wordN (a &&& b) i = wordN a i &&& wordN b i := Nat.eq_of_testBit_eq fun j => by
  rw [Nat.testBit_and, wordN_bit, wordN_bit, wordN_bit, Nat.testBit_and]
  cases decide (j < 64) <;> rfl
theorem wordN_diff (a b i : Nat) : wordN (diffN a b) i = diffN (wordN a i) (wordN b i) := Nat.eq_of_testBit_eq fun j => by
  rw [diffN_bit, wordN_bit, wordN_bit, wordN_bit, diffN_bit]
  cases decide (j < 64) <;> rfl
theorem wordN_zero (i : Nat) : wordN 0 i = 0 := by simp [wordN]
theorem wordN_bit2 (b i : Nat) : wordN (2 ^ b) i = if i = b / 64 then 2 ^ (b % 64) else 0 := Nat.eq_of_testBit_eq fun j => by
  rw [wordN_bit, Nat.testBit_two_pow]
  have h1 := Nat.div_add_mod b 64
  have h2 := Nat.mod_lt b (show 64 > 0 by decide)
  split
  · rename_i h
    rw [Nat.testBit_two_pow]
    by_cases hj : j < 64
    · simp only [hj, decide_true, Bool.true_and]
      apply decide_eq_decide.2
      omega
    · simp only [hj, decide_false, Bool.false_and]
      symm; apply decide_eq_false; omega
  · rename_i h
    rw [Nat.zero_testBit]
    by_cases hj : j < 64
    · simp only [hj, decide_true, Bool.true_and]
      apply decide_eq_false; omega
    · simp [hj]
theorem wordsN_len (w m : Nat) : (wordsN w m).length = nw w := by simp [wordsN]
theorem wordsN_get (w m i : Nat) (h : i < (wordsN w m).length) : (wordsN w m)[i] = wordN m i := by simp [wordsN]
theorem wordsN_lt (w m : Nat) : ∀ n ∈ wordsN w m, n < 2 ^ 64 := by
  intro n hn
  obtain ⟨i, _, rfl⟩ := List.mem_map.1 hn
  exact wordN_lt m i
theorem nw_mul (w : Nat) : w ≤ 64 * nw w ∧ 64 * nw w < w + 64 := by unfold nw; omega
theorem wordsN_inj {w m m' : Nat} (h : m < 2 ^ w) (h' : m' < 2 ^ w) (e : wordsN w m = wordsN w m') : m = m' := Nat.eq_of_testBit_eq fun b => by
  by_cases hb : b < w
  · have hk : b / 64 < nw w := by unfold nw; omega
    have h1 : wordN m (b / 64) = wordN m' (b / 64) := by
      have h1 := congrArg (fun l => l[b / 64]?) e
      simp only [wordsN, List.getElem?_map, List.getElem?_range hk, Option.map_some, Option.some.injEq] at h1
      exact h1
    have h2 := congrArg (fun n => n.testBit (b % 64)) h1
    have hm : b % 64 < 64 := Nat.mod_lt _ (by decide)
    simp only [wordN_bit, hm, decide_true, Bool.true_and, Nat.div_add_mod] at h2
    exact h2
  · rw [Nat.testBit_lt_two_pow (Nat.lt_of_lt_of_le h (Nat.pow_le_pow_right (by decide) (by omega))), Nat.testBit_lt_two_pow (Nat.lt_of_lt_of_le h' (Nat.pow_le_pow_right (by decide) (by omega)))]

/-- the number that a list of words spells -/
def joinN : List Nat → Nat
  | [] => 0
  | a :: l => a + 2 ^ 64 * joinN l
theorem joinN_bit (l : List Nat) (h : ∀ n ∈ l, n < 2 ^ 64) (b : Nat) : (joinN l).testBit b = ((l[b / 64]?).getD 0).testBit (b % 64) := by
  induction l generalizing b with
  | nil => simp [joinN]
  | cons a l ih =>
    have ha := h a (List.mem_cons_self ..)
    have ih := fun b => ih (fun n hn => h n (List.mem_cons_of_mem _ hn)) b
    rw [joinN, Nat.add_comm, Nat.testBit_two_pow_mul_add _ ha]
    by_cases hb : b < 64
    · rw [if_pos hb, Nat.div_eq_of_lt hb, Nat.mod_eq_of_lt hb]; rfl
    · rw [if_neg hb, ih]
      have h1 : b / 64 = (b - 64) / 64 + 1 := by omega
      have h2 : b % 64 = (b - 64) % 64 := by omega
      rw [h1, h2]; rfl
theorem wordN_join (l : List Nat) (h : ∀ n ∈ l, n < 2 ^ 64) (i : Nat) : wordN (joinN l) i = (l[i]?).getD 0 := Nat.eq_of_testBit_eq fun j => by
  rw [wordN_bit, joinN_bit l h]
  by_cases hj : j < 64
  · have h1 : (64 * i + j) / 64 = i := by omega
    have h2 : (64 * i + j) % 64 = j := by omega
    rw [h1, h2]; simp [hj]
  · simp only [hj, decide_false, Bool.false_and]
    symm
    apply Nat.testBit_lt_two_pow
    have : (l[i]?).getD 0 < 2 ^ 64 := by
      cases e : l[i]? with
      | none => exact by decide
      | some n => exact h n (List.mem_of_getElem? e)
    exact Nat.lt_of_lt_of_le this (Nat.pow_le_pow_right (by decide) (by omega))
theorem wordsN_join (w : Nat) (l : List Nat) (h : ∀ n ∈ l, n < 2 ^ 64) (hl : l.length = nw w) : wordsN w (joinN l) = l := by
  refine List.ext_getElem (by rw [wordsN_len, hl]) (fun i h1 h2 => ?_)
  rw [wordsN_get, wordN_join l h, List.getElem?_eq_getElem h2]; rfl

/-- the words of a set as it came in -/
structure RawSet where
  width : Int
  words : List Nat
/-- no bit at or beyond the width -/
def cleanB (w : Nat) (l : List Nat) : Bool := decide (joinN l < 2 ^ w)
def validB (s : RawSet) : Bool := decide (0 ≤ s.width ∧ s.width ≤ 256 ∧ s.words.length = nw s.width.toNat) && cleanB s.width.toNat s.words
def setN (w m : Nat) : RawSet := ⟨w, wordsN w m⟩
theorem joinN_words (w m : Nat) (h : m < 2 ^ w) : joinN (wordsN w m) = m := Nat.eq_of_testBit_eq fun b => by
  rw [joinN_bit _ (wordsN_lt w m)]
  by_cases hb : b / 64 < nw w
  · have : (wordsN w m)[b / 64]? = some (wordN m (b / 64)) := by rw [List.getElem?_eq_getElem (by rw [wordsN_len]; exact hb), wordsN_get]
    rw [this, Option.getD_some, wordN_bit, Nat.div_add_mod]
    have hm : b % 64 < 64 := Nat.mod_lt _ (by decide)
    simp [hm]
  · rw [List.getElem?_eq_none (by rw [wordsN_len]; omega), Option.getD_none, Nat.zero_testBit, Nat.testBit_lt_two_pow]
    refine Nat.lt_of_lt_of_le h (Nat.pow_le_pow_right (by decide) ?_)
    have := nw_mul w
    omega
theorem validB_iff {s : RawSet} (hl : ∀ n ∈ s.words, n < 2 ^ 64) : validB s = true ↔ ∃ w m : Nat, w ≤ 256 ∧ m < 2 ^ w ∧ s = setN w m := by
  constructor
  · intro h
    simp only [validB, cleanB, Bool.and_eq_true, decide_eq_true_eq] at h
    obtain ⟨⟨h1, h2, h3⟩, h4⟩ := h
    refine ⟨s.width.toNat, joinN s.words, by omega, h4, ?_⟩
    obtain ⟨width, words⟩ := s
    simp only at h1 h3
    rw [setN, wordsN_join _ _ hl h3]
    simp only [RawSet.mk.injEq, and_true]
    omega
  · rintro ⟨w, m, h1, h2, rfl⟩
    simp only [validB, cleanB, setN, Bool.and_eq_true, decide_eq_true_eq, wordsN_len, Int.toNat_natCast, joinN_words w m h2]
    exact ⟨⟨by omega, by omega, trivial⟩, h2⟩
theorem validB_set {w m : Nat} (h1 : w ≤ 256) (h2 : m < 2 ^ w) : validB (setN w m) = true := (validB_iff (wordsN_lt w m)).2 ⟨w, m, h1, h2, rfl⟩

/-! ### the model's operations on words -/
theorem wrapU (n : Nat) (h : n < 2 ^ 64) : IntKind.u64.wrap (n : Int) = n := by
  simp only [IntKind.wrap, IntKind.bits, IntKind.signed]
  simp
  omega
theorem ofIntN (a : Nat) : BitVec.ofInt 64 (a : Int) = BitVec.ofNat 64 a := by
  apply BitVec.eq_of_toNat_eq
  simp
theorem bits_or (a b : Nat) (ha : a < 2 ^ 64) (hb : b < 2 ^ 64) : bits .or .u64 (a : Int) (b : Int) = ((a ||| b : Nat) : Int) := by
  unfold bits
  show IntKind.u64.wrap (((BitVec.ofInt 64 (a : Int) ||| BitVec.ofInt 64 (b : Int)).toNat : Nat) : Int) = _
  rw [ofIntN, ofIntN, BitVec.toNat_or, BitVec.toNat_ofNat, BitVec.toNat_ofNat, Nat.mod_eq_of_lt ha, Nat.mod_eq_of_lt hb, wrapU _ (Nat.or_lt_two_pow ha hb)]
theorem bits_and (a b : Nat) (ha : a < 2 ^ 64) (hb : b < 2 ^ 64) : bits .and .u64 (a : Int) (b : Int) = ((a &&& b : Nat) : Int) := by
  unfold bits
  show IntKind.u64.wrap (((BitVec.ofInt 64 (a : Int) &&& BitVec.ofInt 64 (b : Int)).toNat : Nat) : Int) = _
  rw [ofIntN, ofIntN, BitVec.toNat_and, BitVec.toNat_ofNat, BitVec.toNat_ofNat, Nat.mod_eq_of_lt ha, Nat.mod_eq_of_lt hb, wrapU _ (Nat.lt_of_le_of_lt Nat.and_le_left ha)]
theorem bits_andNot (a b : Nat) (ha : a < 2 ^ 64) : bits .andNot .u64 (a : Int) (b : Int) = ((diffN a b : Nat) : Int) := by
  unfold bits
  show IntKind.u64.wrap (((BitVec.ofInt 64 (a : Int) &&& ~~~(BitVec.ofInt 64 (b : Int))).toNat : Nat) : Int) = _
  have e : (BitVec.ofInt 64 (a : Int) &&& ~~~(BitVec.ofInt 64 (b : Int))).toNat = diffN a b := by
    rw [ofIntN, ofIntN]
    refine Nat.eq_of_testBit_eq fun j => ?_
    rw [diffN_bit, ← BitVec.getLsbD, BitVec.getLsbD_and, BitVec.getLsbD_not, BitVec.getLsbD_ofNat, BitVec.getLsbD_ofNat]
    by_cases hj : j < 64
    · simp [hj]
    · have : a.testBit j = false := Nat.testBit_lt_two_pow (Nat.lt_of_lt_of_le ha (Nat.pow_le_pow_right (by decide) (by omega)))
      simp [hj, this]
  rw [e, wrapU _ (diffN_lt ha)]
theorem and_one (n : Nat) : n &&& 1 = if n.testBit 0 then 1 else 0 := by
  rw [Nat.and_one_is_mod, Nat.testBit_zero]
  rcases Nat.mod_two_eq_zero_or_one n with h | h <;> simp [h]
/-- the test of one bit, as the code makes it -/
theorem bit_test (n k : Nat) (h : n < 2 ^ 64) : bits .and .u64 ((n : Int) / 2 ^ k) 1 = if n.testBit k then 1 else 0 := by
  have e : (n : Int) / 2 ^ k = ((n >>> k : Nat) : Int) := by
    rw [Nat.shiftRight_eq_div_pow]
    simp
  rw [e, show (1 : Int) = ((1 : Nat) : Int) from rfl, bits_and _ _ (Nat.lt_of_le_of_lt (Nat.shiftRight_le _ _) h) (by decide), and_one, Nat.testBit_shiftRight, Nat.add_zero]
  split <;> rfl
theorem shl_one (k : Nat) (h : k < 64) : IntKind.u64.wrap (1 * 2 ^ k) = ((2 ^ k : Nat) : Int) := by
  have e : (1 * 2 ^ k : Int) = ((2 ^ k : Nat) : Int) := by simp
  rw [e, wrapU _ (Nat.pow_lt_pow_right (by decide) h)]
end Go.Proofs.Ytgakojgkkdmabaa

/- Sets in memory; bitset: Valid and what it calls. -/
import Derived.Test.YtgakojgkkdmabaaBits
import Derived.Test.YtgakojgkkdmabaaApp2
import Derived.Test.YtgakojgkkdmabaaProg
import Derived.Deep.QuietTactic
import Derived.BigQuiet
import Derived.WalkSpells
namespace Go.Proofs.Ytgakojgkkdmabaa
open Go Go.RowKit

def u64s (l : List Nat) : List Value := l.map fun (n : Nat) => .int .u64 (n : Int)
theorem u64s_len (l : List Nat) : (u64s l).length = l.length := by simp [u64s]
theorem u64s_get (l : List Nat) (i : Nat) (h : i < l.length) : (u64s l)[i]? = some (.int .u64 (l[i] : Int)) := by simp [u64s, h]
theorem u64s_one (l : List Nat) : ∀ u ∈ u64s l, u.oneCell' = true := by
  intro u hu; obtain ⟨z, _, rfl⟩ := List.mem_map.1 hu; rfl
structure WordsAt (M : Nat → Prop) (W : World) (sl : Value) (l : List Nat) : Prop where
  row : Row M W 1 sl l.length (u64s l)
  lt : ∀ n ∈ l, n < 2 ^ 64
structure SetAt (M : Nat → Prop) (W : World) (sl : Value) (w m : Nat) : Prop where
  words : WordsAt M W sl (wordsN w m)
  hw : w ≤ 256
  hm : m < 2 ^ w
def RawV (M : Nat → Prop) (W : World) (v : Value) (s : RawSet) : Prop := ∃ sl, v = .agg #[.int .i64 s.width, sl] ∧ WordsAt M W sl s.words
def SetV (M : Nat → Prop) (W : World) (v : Value) (w m : Nat) : Prop := ∃ sl, v = .agg #[.int .i64 (w : Int), sl] ∧ SetAt M W sl w m
section
variable {M M' : Nat → Prop} {W W' : World} {sl v : Value} {l : List Nat} {w m : Nat} {s : RawSet}
theorem WordsAt.ext (h : WordsAt M W sl l) (hx : Ext M' W W') (hm : ∀ i, i < W.heap.size → M' i → M i) : WordsAt M W' sl l := ⟨h.row.ext hx hm, h.lt⟩
theorem WordsAt.extNo (h : WordsAt M W sl l) (hx : Ext No W W') : WordsAt M W' sl l := ⟨h.row.extNo hx, h.lt⟩
theorem WordsAt.mono (h : WordsAt M W sl l) (hm : ∀ i, i < W.heap.size → M' i → M i) : WordsAt M' W sl l := ⟨h.row.mono hm, h.lt⟩
theorem SetAt.ext (h : SetAt M W sl w m) (hx : Ext M' W W') (hm : ∀ i, i < W.heap.size → M' i → M i) : SetAt M W' sl w m := ⟨h.words.ext hx hm, h.hw, h.hm⟩
theorem SetAt.extNo (h : SetAt M W sl w m) (hx : Ext No W W') : SetAt M W' sl w m := ⟨h.words.extNo hx, h.hw, h.hm⟩
theorem SetAt.mono (h : SetAt M W sl w m) (hm : ∀ i, i < W.heap.size → M' i → M i) : SetAt M' W sl w m := ⟨h.words.mono hm, h.hw, h.hm⟩
theorem SetAt.no (h : SetAt M W sl w m) : SetAt No W sl w m := h.mono (fun _ _ x => x.elim)
theorem SetAt.raw (h : SetAt M W sl w m) : RawV M W (.agg #[.int .i64 (w : Int), sl]) (setN w m) := ⟨sl, rfl, h.words⟩
theorem RawV.extNo (h : RawV M W v s) (hx : Ext No W W') : RawV M W' v s := by obtain ⟨sl, h1, h2⟩ := h; exact ⟨sl, h1, h2.extNo hx⟩
theorem RawV.no (h : RawV M W v s) : RawV No W v s := by obtain ⟨sl, h1, h2⟩ := h; exact ⟨sl, h1, h2.mono (fun _ _ x => x.elim)⟩
theorem WordsAt.slice (h : WordsAt M W sl l) : ∃ a c, sl = .slice a l.length c := h.row.slice
theorem SetAt.slice (h : SetAt M W sl w m) : ∃ a c, sl = .slice a (nw w) c := by
  obtain ⟨a, c, h1⟩ := h.words.slice; exact ⟨a, c, by rw [h1, wordsN_len]⟩
theorem WordsAt.at (h : WordsAt M W sl l) {i : Nat} (hi : i < l.length) : ∃ b off cap, sl = .slice (some ⟨b, off, none⟩) l.length cap ∧ b < W.heap.size ∧ ¬ M b ∧ ∀ j (hj : j < l.length), W.cell? ⟨b, off + j, none⟩ = some (.int .u64 (l[j] : Int)) := by
  obtain ⟨b, off, cap, h1, h2, h3, h4⟩ := h.row.shape (by omega)
  exact ⟨b, off, cap, h1, h2, h3, fun j hj => h4 j _ (u64s_get l j hj)⟩
theorem SetAt.at (h : SetAt M W sl w m) (hw : 0 < nw w) : ∃ b off cap, sl = .slice (some ⟨b, off, none⟩) (nw w) cap ∧ b < W.heap.size ∧ ¬ M b ∧ ∀ j, j < nw w → W.cell? ⟨b, off + j, none⟩ = some (.int .u64 (wordN m j : Int)) := by
  obtain ⟨b, off, cap, h1, h2, h3, h4⟩ := h.words.at (i := 0) (by rw [wordsN_len]; exact hw)
  exact ⟨b, off, cap, by rw [h1, wordsN_len], h2, h3, fun j hj => by rw [h4 j (by rw [wordsN_len]; exact hj), wordsN_get]⟩
end

/-! ### the small functions -/
def rangedB (z : Int) : Bool := decide (0 ≤ z ∧ z ≤ 256)
theorem rangedB_true {z : Int} (h : rangedB z = true) : ∃ w : Nat, z = w ∧ w ≤ 256 := by
  simp only [rangedB, decide_eq_true_eq] at h
  exact ⟨z.toNat, by omega, by omega⟩
theorem ret_int {k : IntKind} {a b : Int} (h : a = b) : Ending.returned (.int k a) = .returned (.int k b) := by rw [h]
theorem ret_bool {a b : Bool} (h : a = b) : Ending.returned (.bool a) = .returned (.bool b) := by rw [h]
theorem ranged_any (z : Int) (W : World) : Calls Try.prog 25 #[.int .i64 z] W fun e w' => e = .returned (.bool (rangedB z)) ∧ W = w' := by
  by_cases h0 : 0 ≤ z
  · by_cases h1 : z ≤ 256
    · rw [show rangedB z = true from decide_eq_true ⟨h0, h1⟩]
      go_enter Try.func25, Try.ntmps25
      go_wp2
      go_ret
      exact ⟨rfl, rfl⟩
    · rw [show rangedB z = false from decide_eq_false (fun h => h1 h.2)]
      go_enter Try.func25, Try.ntmps25
      go_wp2
      go_ret
      exact ⟨rfl, rfl⟩
  · rw [show rangedB z = false from decide_eq_false (fun h => h0 h.1)]
    go_enter Try.func25, Try.ntmps25
    go_wp2
    go_ret
    exact ⟨rfl, rfl⟩
theorem words_any (w : Nat) (hw : w ≤ 256) (W : World) : Calls Try.prog 26 #[.int .i64 (w : Int)] W fun e w' => e = .returned (.int .i64 (nw w : Int)) ∧ W = w' := by
  have hw' : (w : Int) ≤ 256 := by omega
  go_enter Try.func26, Try.ntmps26
  go_wp2
  go_ret
  exact ⟨ret_int (by unfold nw; omega), rfl⟩
def spareN (w : Nat) : Nat := 2 ^ 64 - 2 ^ (w % 64)
theorem spareN_lt (w : Nat) : spareN w < 2 ^ 64 := by unfold spareN; have := Nat.two_pow_pos (w % 64); omega
theorem shl_ones (k : Nat) (h : k < 64) : IntKind.u64.wrap (18446744073709551615 * 2 ^ k) = ((2 ^ 64 - 2 ^ k : Nat) : Int) := by
  have h1 : 2 ^ k < 2 ^ 64 := Nat.pow_lt_pow_right (by decide) h
  have h0 := Nat.two_pow_pos k
  have e : (18446744073709551615 * 2 ^ k : Int) = (((2 ^ 64 - 1) * 2 ^ k : Nat) : Int) := by simp
  rw [e]
  simp only [IntKind.wrap, IntKind.bits, IntKind.signed]
  simp
  have e2 : ((18446744073709551615 : Int) * 2 ^ k) = 18446744073709551616 * 2 ^ k - 2 ^ k := by
    have : (18446744073709551615 : Int) = 18446744073709551616 - 1 := rfl
    rw [this, Int.sub_mul, Int.one_mul]
  generalize hp : (2 : Nat) ^ k = p at *
  have hq : ((2 : Int) ^ k) = p := by rw [← hp]; simp
  rw [hq] at e2 ⊢
  omega
theorem spare_any (w : Nat) (hw : w ≤ 256) (W : World) : Calls Try.prog 27 #[.int .i64 (w : Int)] W fun e w' => e = .returned (.int .u64 (spareN w : Int)) ∧ W = w' := by
  have hw' : (w : Int) ≤ 256 := by omega
  have hu : IntKind.u64.wrap (w : Int) = w := wrapU w (by omega)
  have hs : 0 ≤ (w : Int) % 64 ∧ (w : Int) % 64 ≤ 64 := by omega
  obtain ⟨hs1, hs2⟩ := hs
  go_enter Try.func27, Try.ntmps27
  go_wp2
  go_ret
  exact ⟨ret_int (shl_ones _ (Nat.mod_lt _ (by decide))), rfl⟩
theorem spare_and (w n : Nat) (hn : n < 2 ^ 64) : bits .and .u64 (n : Int) (spareN w : Int) = ((n &&& spareN w : Nat) : Int) := bits_and _ _ hn (spareN_lt w)
theorem and_spare (w n : Nat) (hn : n < 2 ^ 64) : n &&& spareN w = 0 ↔ n < 2 ^ (w % 64) := by
  have hk : w % 64 < 64 := Nat.mod_lt _ (by decide)
  generalize hkk : w % 64 = k at *
  have hb : ∀ j, (spareN w).testBit j = (decide (k ≤ j) && decide (j < 64)) := by
    intro j
    unfold spareN
    rw [hkk]
    have e : 2 ^ 64 - 2 ^ k = 2 ^ k * (2 ^ (64 - k) - 1) := by
      rw [Nat.mul_sub, ← Nat.pow_add, Nat.mul_one, show k + (64 - k) = 64 by omega]
    rw [e, Nat.testBit_two_pow_mul, Nat.testBit_two_pow_sub_one]
    by_cases h1 : k ≤ j
    · simp only [h1, decide_true, Bool.true_and, ge_iff_le]
      apply decide_eq_decide.2; omega
    · simp [h1]
  constructor
  · intro h
    refine Nat.lt_pow_two_of_testBit _ (fun j hj => ?_)
    by_cases hj2 : j < 64
    · have := congrArg (fun x => x.testBit j) h
      simp only [Nat.testBit_and, hb, Nat.zero_testBit] at this
      simpa [hj, hj2] using this
    · exact Nat.testBit_lt_two_pow (Nat.lt_of_lt_of_le hn (Nat.pow_le_pow_right (by decide) (by omega)))
  · intro h
    refine Nat.eq_of_testBit_eq (fun j => ?_)
    rw [Nat.testBit_and, hb, Nat.zero_testBit]
    by_cases hj : k ≤ j
    · rw [Nat.testBit_lt_two_pow (Nat.lt_of_lt_of_le h (Nat.pow_le_pow_right (by decide) hj))]; rfl
    · simp [hj]
/-- the last word decides -/
theorem joinN_lt (l : List Nat) (h : ∀ n ∈ l, n < 2 ^ 64) (hl : l ≠ []) (k : Nat) (hk : k ≤ 64) : joinN l < 2 ^ (64 * (l.length - 1) + k) ↔ l[l.length - 1]'(by have := List.length_pos_iff.2 hl; omega) < 2 ^ k := by
  induction l with
  | nil => exact absurd rfl hl
  | cons a l ih =>
    cases l with
    | nil => simp [joinN]
    | cons b l =>
      have ih := ih (fun n hn => h n (List.mem_cons_of_mem _ hn)) (by simp)
      have ha := h a (List.mem_cons_self ..)
      rw [joinN]
      simp only [List.length_cons, Nat.add_sub_cancel] at ih ⊢
      have e : (a :: b :: l)[l.length + 1] = (b :: l)[l.length] := rfl
      rw [e, ← ih]
      have e2 : 2 ^ (64 * (l.length + 1) + k) = 2 ^ 64 * 2 ^ (64 * l.length + k) := by rw [← Nat.pow_add]; congr 1; omega
      rw [e2]
      generalize 2 ^ (64 * l.length + k) = p
      generalize joinN (b :: l) = q
      constructor
      · intro h1
        rcases Nat.lt_or_ge q p with h2 | h2
        · exact h2
        · have := Nat.mul_le_mul_left (2 ^ 64) h2
          omega
      · intro h1
        have := Nat.mul_le_mul_left (2 ^ 64) (Nat.succ_le_of_lt h1)
        rw [Nat.mul_succ] at this
        omega
theorem cleanB_zero {w : Nat} {l : List Nat} (h : ∀ n ∈ l, n < 2 ^ 64) (hl : l.length = nw w) (hz : w % 64 = 0) : cleanB w l = true := by
  unfold cleanB
  apply decide_eq_true
  by_cases h0 : l = []
  · subst h0; simp only [joinN]; exact Nat.two_pow_pos w
  · have hp := List.length_pos_iff.2 h0
    have h1 := (joinN_lt l h h0 64 (Nat.le_refl _)).2 (h _ (List.getElem_mem _))
    have : 64 * (l.length - 1) + 64 = w := by unfold nw at hl; omega
    rw [this] at h1; exact h1
theorem cleanB_last {w : Nat} {l : List Nat} (h : ∀ n ∈ l, n < 2 ^ 64) (hl : l.length = nw w) (hz : w % 64 ≠ 0) (hk : l.length - 1 < l.length) : cleanB w l = decide (l[l.length - 1] &&& spareN w = 0) := by
  unfold cleanB
  apply decide_eq_decide.2
  have h0 : l ≠ [] := List.length_pos_iff.1 (by omega)
  rw [and_spare w _ (h _ (List.getElem_mem _)), ← joinN_lt l h h0 (w % 64) (by omega)]
  have : 64 * (l.length - 1) + w % 64 = w := by unfold nw at hl; omega
  rw [this]
end Go.Proofs.Ytgakojgkkdmabaa

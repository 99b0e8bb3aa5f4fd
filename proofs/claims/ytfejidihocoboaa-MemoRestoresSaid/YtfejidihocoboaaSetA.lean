/- Merged: Set1 Set2 Set3 Set4 Set5 Set6 Set7 -/
import Derived.Test.YtfejidihocoboaaHeap
import Derived.Test.YtfejidihocoboaaProg
import Derived.Deep.QuietTactic
import Derived.BigQuiet
import Derived.WalkSpells
import Derived.Deep.DeepCutAuto
import Derived.Deep.RegionHeld3
import Derived.Deep.Onto
import Derived.StillTailTactics
import Derived.Laws.MakeOwn
set_option linter.unusedVariables false
set_option linter.unusedSimpArgs false
/- Set1 -/
namespace Go.Proofs.Ytfejidihocoboaa
open Go Go.RowKit
def u64s (l : List Nat) : List Value := l.map fun (n : Nat) => .int .u64 (n : Int)
theorem u64s_len (l : List Nat) : (u64s l).length = l.length := by simp [u64s]
theorem u64s_get (l : List Nat) (i : Nat) (h : i < l.length) : (u64s l)[i]? = some (.int .u64 (l[i] : Int)) := by simp [u64s, h]
theorem u64s_one (l : List Nat) : ∀ u ∈ u64s l, u.oneCell' = true := by
  intro u hu; obtain ⟨z, _, rfl⟩ := List.mem_map.1 hu; rfl
structure WordsAt (M : Nat → Prop) (W : World) (sl : Value) (l : List Nat) : Prop where
  row : Row M W 1 sl l.length (u64s l)
  lt : ∀ n ∈ l, n < 2 ^ 64
structure SetAt (M : Nat → Prop) (W : World) (sl : Value) (w m : Nat) : Prop where
  words : WordsAt M W sl (wordsN w m)
  hw : w ≤ 256
  hm : m < 2 ^ w
def RawV (M : Nat → Prop) (W : World) (v : Value) (s : RawSet) : Prop := ∃ sl, v = .agg #[.int .i64 s.width, sl] ∧ WordsAt M W sl s.words
section
variable {M M' : Nat → Prop} {W W' : World} {sl v : Value} {l : List Nat} {w m : Nat} {s : RawSet}
theorem WordsAt.ext (h : WordsAt M W sl l) (hx : Ext M' W W') (hm : ∀ i, i < W.heap.size → M' i → M i) : WordsAt M W' sl l := ⟨h.row.ext hx hm, h.lt⟩
theorem WordsAt.extNo (h : WordsAt M W sl l) (hx : Ext No W W') : WordsAt M W' sl l := ⟨h.row.extNo hx, h.lt⟩
theorem WordsAt.mono (h : WordsAt M W sl l) (hm : ∀ i, i < W.heap.size → M' i → M i) : WordsAt M' W sl l := ⟨h.row.mono hm, h.lt⟩
theorem SetAt.ext (h : SetAt M W sl w m) (hx : Ext M' W W') (hm : ∀ i, i < W.heap.size → M' i → M i) : SetAt M W' sl w m := ⟨h.words.ext hx hm, h.hw, h.hm⟩
theorem SetAt.extNo (h : SetAt M W sl w m) (hx : Ext No W W') : SetAt M W' sl w m := ⟨h.words.extNo hx, h.hw, h.hm⟩
theorem SetAt.mono (h : SetAt M W sl w m) (hm : ∀ i, i < W.heap.size → M' i → M i) : SetAt M' W sl w m := ⟨h.words.mono hm, h.hw, h.hm⟩
theorem RawV.extNo (h : RawV M W v s) (hx : Ext No W W') : RawV M W' v s := by obtain ⟨sl, h1, h2⟩ := h; exact ⟨sl, h1, h2.extNo hx⟩
theorem WordsAt.slice (h : WordsAt M W sl l) : ∃ a c, sl = .slice a l.length c := h.row.slice
theorem SetAt.slice (h : SetAt M W sl w m) : ∃ a c, sl = .slice a (nw w) c := by
  obtain ⟨a, c, h1⟩ := h.words.slice; exact ⟨a, c, by rw [h1, wordsN_len]⟩
theorem WordsAt.at (h : WordsAt M W sl l) {i : Nat} (hi : i < l.length) : ∃ b off cap, sl = .slice (some ⟨b, off, none⟩) l.length cap ∧ b < W.heap.size ∧ ¬ M b ∧ ∀ j (hj : j < l.length), W.cell? ⟨b, off + j, none⟩ = some (.int .u64 (l[j] : Int)) := by
  obtain ⟨b, off, cap, h1, h2, h3, h4⟩ := h.row.shape (by omega)
  exact ⟨b, off, cap, h1, h2, h3, fun j hj => h4 j _ (u64s_get l j hj)⟩
theorem SetAt.at (h : SetAt M W sl w m) (hw : 0 < nw w) : ∃ b off cap, sl = .slice (some ⟨b, off, none⟩) (nw w) cap ∧ b < W.heap.size ∧ ¬ M b ∧ ∀ j, j < nw w → W.cell? ⟨b, off + j, none⟩ = some (.int .u64 (wordN m j : Int)) := by
  obtain ⟨b, off, cap, h1, h2, h3, h4⟩ := h.words.at (i := 0) (by rw [wordsN_len]; exact hw)
  exact ⟨b, off, cap, by rw [h1, wordsN_len], h2, h3, fun j hj => by rw [h4 j (by rw [wordsN_len]; exact hj), wordsN_get]⟩
end
/-! ### the small functions -/
def rangedB (z : Int) : Bool := decide (0 ≤ z ∧ z ≤ 256)
theorem rangedB_true {z : Int} (h : rangedB z = true) : ∃ w : Nat, z = w ∧ w ≤ 256 := by
  simp only [rangedB, decide_eq_true_eq] at h
  exact ⟨z.toNat, by omega, by omega⟩
theorem ret_int {k : IntKind} {a b : Int} (h : a = b) : Ending.returned (.int k a) = .returned (.int k b) := by rw [h]
theorem ranged_any (z : Int) (W : World) : Calls Try.prog 68 #[.int .i64 z] W fun e w' => e = .returned (.bool (rangedB z)) ∧ W = w' := by
  by_cases h0 : 0 ≤ z
  · by_cases h1 : z ≤ 256
    · rw [show rangedB z = true from decide_eq_true ⟨h0, h1⟩]
      go_enter Try.func68, Try.ntmps68
      go_wp2
      go_ret
      exact ⟨rfl, rfl⟩
    · rw [show rangedB z = false from decide_eq_false (fun h => h1 h.2)]
      go_enter Try.func68, Try.ntmps68
      go_wp2
      go_ret
      exact ⟨rfl, rfl⟩
  · rw [show rangedB z = false from decide_eq_false (fun h => h0 h.1)]
    go_enter Try.func68, Try.ntmps68
    go_wp2
    go_ret
    exact ⟨rfl, rfl⟩
theorem words_any (w : Nat) (hw : w ≤ 256) (W : World) : Calls Try.prog 69 #[.int .i64 (w : Int)] W fun e w' => e = .returned (.int .i64 (nw w : Int)) ∧ W = w' := by
  have hw' : (w : Int) ≤ 256 := by omega
  go_enter Try.func69, Try.ntmps69
  go_wp2
  go_ret
  exact ⟨ret_int (by unfold nw; omega), rfl⟩
def spareN (w : Nat) : Nat := 2 ^ 64 - 2 ^ (w % 64)
theorem spareN_lt (w : Nat) : spareN w < 2 ^ 64 := by unfold spareN; have := Nat.two_pow_pos (w % 64); omega
theorem shl_ones (k : Nat) (h : k < 64) : IntKind.u64.wrap (18446744073709551615 * 2 ^ k) = ((2 ^ 64 - 2 ^ k : Nat) : Int) := by
  have h1 : 2 ^ k < 2 ^ 64 := Nat.pow_lt_pow_right (by decide) h
  have h0 := Nat.two_pow_pos k
  have e : (18446744073709551615 * 2 ^ k : Int) = (((2 ^ 64 - 1) * 2 ^ k : Nat) : Int) := by simp
  rw [e]
  simp only [IntKind.wrap, IntKind.bits, IntKind.signed]
  simp
  have e2 : ((18446744073709551615 : Int) * 2 ^ k) = 18446744073709551616 * 2 ^ k - 2 ^ k := by
    have : (18446744073709551615 : Int) = 18446744073709551616 - 1 := rfl
    rw [this, Int.sub_mul, Int.one_mul]
  generalize hp : (2 : Nat) ^ k = p at *
  have hq : ((2 : Int) ^ k) = p := by rw [← hp]; simp
  rw [hq] at e2 ⊢
  omega
theorem spare_any (w : Nat) (hw : w ≤ 256) (W : World) : Calls Try.prog 70 #[.int .i64 (w : Int)] W fun e w' => e = .returned (.int .u64 (spareN w : Int)) ∧ W = w' := by
  have hw' : (w : Int) ≤ 256 := by omega
  have hu : IntKind.u64.wrap (w : Int) = w := wrapU w (by omega)
  have hs : 0 ≤ (w : Int) % 64 ∧ (w : Int) % 64 ≤ 64 := by omega
  obtain ⟨hs1, hs2⟩ := hs
  go_enter Try.func70, Try.ntmps70
  go_wp2
  go_ret
  exact ⟨ret_int (shl_ones _ (Nat.mod_lt _ (by decide))), rfl⟩
theorem spare_and (w n : Nat) (hn : n < 2 ^ 64) : bits .and .u64 (n : Int) (spareN w : Int) = ((n &&& spareN w : Nat) : Int) := bits_and _ _ hn (spareN_lt w)
theorem and_spare (w n : Nat) (hn : n < 2 ^ 64) : n &&& spareN w = 0 ↔ n < 2 ^ (w % 64) := by
  have hk : w % 64 < 64 := Nat.mod_lt _ (by decide)
  generalize hkk : w % 64 = k at *
  have hb : ∀ j, (spareN w).testBit j = (decide (k ≤ j) && decide (j < 64)) := by
    intro j
    unfold spareN
    rw [hkk]
    have e : 2 ^ 64 - 2 ^ k = 2 ^ k * (2 ^ (64 - k) - 1) := by
      rw [Nat.mul_sub, ← Nat.pow_add, Nat.mul_one, show k + (64 - k) = 64 by omega]
    rw [e, Nat.testBit_two_pow_mul, Nat.testBit_two_pow_sub_one]
    by_cases h1 : k ≤ j
    · simp only [h1, decide_true, Bool.true_and, ge_iff_le]
      apply decide_eq_decide.2; omega
    · simp [h1]
  constructor
  · intro h
    refine Nat.lt_pow_two_of_testBit _ (fun j hj => ?_)
    by_cases hj2 : j < 64
    · have := congrArg (fun x => x.testBit j) h
      simp only [Nat.testBit_and, hb, Nat.zero_testBit] at this
      simpa [hj, hj2] using this
    · exact Nat.testBit_lt_two_pow (Nat.lt_of_lt_of_le hn (Nat.pow_le_pow_right (by decide) (by omega)))
  · intro h
    refine Nat.eq_of_testBit_eq (fun j => ?_)
    rw [Nat.testBit_and, hb, Nat.zero_testBit]
    by_cases hj : k ≤ j
    · rw [Nat.testBit_lt_two_pow (Nat.lt_of_lt_of_le h (Nat.pow_le_pow_right (by decide) hj))]; rfl
    · simp [hj]
/-- the last word decides -/
theorem joinN_lt (l : List Nat) (h : ∀ n ∈ l, n < 2 ^ 64) (hl : l ≠ []) (k : Nat) (hk : k ≤ 64) : joinN l < 2 ^ (64 * (l.length - 1) + k) ↔ l[l.length - 1]'(by have := List.length_pos_iff.2 hl; omega) < 2 ^ k := by
  induction l with
  | nil => exact absurd rfl hl
  | cons a l ih =>
    cases l with
    | nil => simp [joinN]
    | cons b l =>
      have ih := ih (fun n hn => h n (List.mem_cons_of_mem _ hn)) (by simp)
      have ha := h a (List.mem_cons_self ..)
      rw [joinN]
      simp only [List.length_cons, Nat.add_sub_cancel] at ih ⊢
      have e : (a :: b :: l)[l.length + 1] = (b :: l)[l.length] := rfl
      rw [e, ← ih]
      have e2 : 2 ^ (64 * (l.length + 1) + k) = 2 ^ 64 * 2 ^ (64 * l.length + k) := by rw [← Nat.pow_add]; congr 1; omega
      rw [e2]
      generalize 2 ^ (64 * l.length + k) = p
      generalize joinN (b :: l) = q
      constructor
      · intro h1
        rcases Nat.lt_or_ge q p with h2 | h2
        · exact h2
        · have := Nat.mul_le_mul_left (2 ^ 64) h2
          omega
      · intro h1
        have := Nat.mul_le_mul_left (2 ^ 64) (Nat.succ_le_of_lt h1)
        rw [Nat.mul_succ] at this
        omega
theorem cleanB_zero {w : Nat} {l : List Nat} (h : ∀ n ∈ l, n < 2 ^ 64) (hl : l.length = nw w) (hz : w % 64 = 0) : cleanB w l = true := by
  unfold cleanB
  apply decide_eq_true
  by_cases h0 : l = []
  · subst h0; simp only [joinN]; exact Nat.two_pow_pos w
  · have hp := List.length_pos_iff.2 h0
    have h1 := (joinN_lt l h h0 64 (Nat.le_refl _)).2 (h _ (List.getElem_mem _))
    have : 64 * (l.length - 1) + 64 = w := by unfold nw at hl; omega
    rw [this] at h1; exact h1
theorem cleanB_last {w : Nat} {l : List Nat} (h : ∀ n ∈ l, n < 2 ^ 64) (hl : l.length = nw w) (hz : w % 64 ≠ 0) (hk : l.length - 1 < l.length) : cleanB w l = decide (l[l.length - 1] &&& spareN w = 0) := by
  unfold cleanB
  apply decide_eq_decide.2
  have h0 : l ≠ [] := List.length_pos_iff.1 (by omega)
  rw [and_spare w _ (h _ (List.getElem_mem _)), ← joinN_lt l h h0 (w % 64) (by omega)]
  have : 64 * (l.length - 1) + w % 64 = w := by unfold nw at hl; omega
  rw [this]
end Go.Proofs.Ytfejidihocoboaa
/- Set2 -/
namespace Go.Proofs.Ytfejidihocoboaa
open Go Go.RowKit
theorem validB_w {w : Nat} {l : List Nat} (hw : w ≤ 256) : validB ⟨w, l⟩ = (decide (l.length = nw w) && cleanB w l) := by
  unfold validB
  simp only [Int.toNat_natCast]
  congr 1
  apply decide_eq_decide.2
  constructor
  · exact fun h => h.2.2
  · exact fun h => ⟨by omega, by omega, h⟩
/-- a callee that only computes, met in a region that only reads: behind one draw, and behind an earlier such region -/
theorem qs1 {P : Program} {f : FuncId} {args : Array Value} {w : World} {n : Nat} {v : Value} (h : Calls P f args (w.drewN n) fun e w' => e = .returned v ∧ w.drewN n = w') : Calls P f args (w.drewN n) fun e w' => e = .returned v ∧ ∃ m, w' = w.drewN m :=
  h.mono fun _ _ ⟨he, hm⟩ => ⟨he, n, hm.symm⟩
theorem qs2 {P : Program} {f : FuncId} {args : Array Value} {w : World} {a n : Nat} {v : Value} (h : Calls P f args (w.drewN (a + n)) fun e w' => e = .returned v ∧ w.drewN (a + n) = w') : Calls P f args (w.drewN (a + n)) fun e w' => e = .returned v ∧ ∃ m, w' = w.drewN (a + m) :=
  h.mono fun _ _ ⟨he, hm⟩ => ⟨he, n, hm.symm⟩
def BoolPost (b : Bool) (W : World) (e : Ending) (w' : World) : Prop := e = .returned (.bool b) ∧ Ext No W w'
set_option maxRecDepth 100000 in
set_option maxHeartbeats 1000000 in
theorem valid_any (v : Value) (s : RawSet) (W : World) (h : RawV No W v s) : Calls Try.prog 44 #[v] W (BoolPost (validB s) W) := by
  obtain ⟨sl, rfl, hs⟩ := h
  obtain ⟨a, c, rfl⟩ := hs.slice
  have HS := Lib.hid hs
  clear hs
  obtain ⟨width, l⟩ := s
  simp only at HS ⊢
  have hlen := HS.out.row.2.1
  cases hr : rangedB width with
  | false =>
    have hv : validB ⟨width, l⟩ = false := by
      unfold validB
      rw [show decide (0 ≤ width ∧ width ≤ 256 ∧ l.length = nw width.toNat) = false from decide_eq_false (fun h => by simp only [rangedB, decide_eq_false_iff_not] at hr; exact hr ⟨h.1, h.2.1⟩)]; rfl
    rw [hv]
    clear hv
    go_enter Try.func44, Try.ntmps44
    go_wp2_with fail
    go_quiet ((go_at_call 68; exact qs1 (hr ▸ ranged_any width _)))
    go_wp2
    go_ret
    exact ⟨rfl, by (repeat (first | (with_reducible exact Ext.refl _ _) | (with_reducible assumption) | (with_reducible refine Ext.drewN ?_ _) | (with_reducible refine Ext.drew ?_) | (with_reducible refine Ext.alloc ?_ _)))⟩
  | true =>
    have hrt : rangedB width = true := hr
    obtain ⟨w, rfl, hw⟩ := rangedB_true hrt
    clear hr
    rw [validB_w hw]
    have hw' : (w : Int) ≤ 256 := by omega
    by_cases hl : l.length = nw w
    · have HL := Lib.hid hl
      rw [show decide (l.length = nw w) = true from decide_eq_true hl, Bool.true_and]
      have hne : ((l.length : Int) != (nw w : Int)) = false := by simp [hl]
      clear hl
      by_cases hz : w % 64 = 0
      · rw [cleanB_zero HS.out.lt HL.out hz]
        have hz1 : ((w : Int) % 64 == 0) = true := by simp; omega
        have hz2 : ((w : Int).tmod 64 == 0) = true := by rw [Int.tmod_eq_emod_of_nonneg (by omega)]; exact hz1
        clear hz
        go_enter Try.func44, Try.ntmps44
        go_wp2_with fail
        go_quiet (first | (go_at_call 68; exact qs1 (hrt ▸ ranged_any w _)) | (go_at_call 69; exact qs1 (words_any w hw _)))
        go_wp2_with fail
        go_quiet (fail)
        go_wp2
        go_ret
        exact ⟨rfl, by (repeat (first | (with_reducible exact Ext.refl _ _) | (with_reducible assumption) | (with_reducible refine Ext.drewN ?_ _) | (with_reducible refine Ext.drew ?_) | (with_reducible refine Ext.alloc ?_ _)))⟩
      · have hpos : l.length - 1 < l.length := by have := HL.out; unfold nw at this; omega
        rw [cleanB_last HS.out.lt HL.out hz hpos]
        have hz1 : ((w : Int) % 64 == 0) = false := by simp; omega
        have hz2 : ((w : Int).tmod 64 == 0) = false := by rw [Int.tmod_eq_emod_of_nonneg (by omega)]; exact hz1
        clear hz
        obtain ⟨b, off, cap, hsl, hb1, _, hc⟩ := HS.out.at (i := 0) (by omega)
        simp only [Value.slice.injEq] at hsl
        obtain ⟨rfl, _, rfl⟩ := hsl
        have hc1 := hc (l.length - 1) hpos
        have hlt1 := HS.out.lt _ (List.getElem_mem hpos)
        have hand := spare_and w _ hlt1
        have hn : ((l[l.length - 1] &&& spareN w : Nat) : Int) = 0 ↔ l[l.length - 1] &&& spareN w = 0 := by omega
        clear hc
        have hw1 : IntKind.i64.wrap ((l.length : Int) - 1) = ((l.length - 1 : Nat) : Int) := by rw [IntWalk.i64_in _ (by omega)]; omega
        have hp1 : 0 ≤ ((l.length - 1 : Nat) : Int) := by omega
        have hp2 : ((l.length - 1 : Nat) : Int) < (l.length : Int) := by omega
        generalize l[l.length - 1] = x at *
        generalize l.length - 1 = k at *
        cases hx : decide (x &&& spareN w = 0) with
        | true =>
          have hx1 : (((x &&& spareN w : Nat) : Int) == 0) = true := by simpa using hx
          clear hx hn
          go_enter Try.func44, Try.ntmps44
          go_wp2_with fail
          go_quiet (first | (go_at_call 68; exact qs1 (hrt ▸ ranged_any w _)) | (go_at_call 69; exact qs1 (words_any w hw _)))
          go_wp2_with fail
          go_quiet ((go_at_call 70; exact qs2 (spare_any w hw _)))
          go_wp2
          go_ret
          exact ⟨rfl, by (repeat (first | (with_reducible exact Ext.refl _ _) | (with_reducible assumption) | (with_reducible refine Ext.drewN ?_ _) | (with_reducible refine Ext.drew ?_) | (with_reducible refine Ext.alloc ?_ _)))⟩
        | false =>
          have hx1 : (((x &&& spareN w : Nat) : Int) == 0) = false := by simpa using hx
          clear hx hn
          go_enter Try.func44, Try.ntmps44
          go_wp2_with fail
          go_quiet (first | (go_at_call 68; exact qs1 (hrt ▸ ranged_any w _)) | (go_at_call 69; exact qs1 (words_any w hw _)))
          go_wp2_with fail
          go_quiet ((go_at_call 70; exact qs2 (spare_any w hw _)))
          go_wp2
          go_ret
          exact ⟨rfl, by (repeat (first | (with_reducible exact Ext.refl _ _) | (with_reducible assumption) | (with_reducible refine Ext.drewN ?_ _) | (with_reducible refine Ext.drew ?_) | (with_reducible refine Ext.alloc ?_ _)))⟩
    · rw [show decide (l.length = nw w) = false from decide_eq_false hl]
      have hne : ((l.length : Int) != (nw w : Int)) = true := by simp; omega
      go_enter Try.func44, Try.ntmps44
      go_wp2_with fail
      go_quiet (first | (go_at_call 68; exact qs1 (hrt ▸ ranged_any w _)) | (go_at_call 69; exact qs1 (words_any w hw _)))
      go_wp2
      go_ret
      exact ⟨rfl, by (repeat (first | (with_reducible exact Ext.refl _ _) | (with_reducible assumption) | (with_reducible refine Ext.drewN ?_ _) | (with_reducible refine Ext.drew ?_) | (with_reducible refine Ext.alloc ?_ _)))⟩
end Go.Proofs.Ytfejidihocoboaa
/- Set3 -/
namespace Go.Proofs.Ytfejidihocoboaa
open Go Go.RowKit
def inB (z : Int) (b : Int) : Bool := decide (0 ≤ b ∧ b < z)
def hasZ (w m : Nat) (b : Int) : Bool := inB w b && m.testBit b.toNat
end Go.Proofs.Ytfejidihocoboaa
/- Set4 -/
namespace Go.Proofs.Ytfejidihocoboaa
open Go Go.RowKit
theorem ret_ex {P : Program} {fn : Func} {R : Ending → World → Prop} {a : Act} {w : World}
    (hd : a.defers = []) (h : ∃ v, (results fn a.tmps).run P w = .ok v w ∧ R (.returned v) w) : bodyPost P fn R .ret a w := by
  obtain ⟨v, hr, hR⟩ := h; exact ⟨hd, v, hr, hR⟩
theorem info_parts {P : Program} {e : TypeId} {z : Value} {s b : Nat} (h : (P.info? e).map (fun i => (i.zero, i.size, i.bytes)) = some (some z, s, b)) : ∃ i, P.info? e = some i ∧ i.zero = some z ∧ i.size = s ∧ i.bytes = b := by
  cases hi : P.info? e with
  | none => rw [hi] at h; simp at h
  | some i => rw [hi] at h; simp at h; exact ⟨i, rfl, h.1, h.2.1, h.2.2⟩
theorem infoW : (Try.prog.info? 86).map (fun i => (i.zero, i.size, i.bytes)) = some (some (.int .u64 0), 1, 8) := by kernel_rfl
/-- a row of words that the call itself made -/
structure OwnW (W : World) (base : Nat) (v : Value) (l : List Nat) : Prop where
  own : W.ownsRow base 86 1 v l.length (u64s l)
  lt : ∀ n ∈ l, n < 2 ^ 64
def OwnPost (l : List Nat) (W : World) (e : Ending) (w' : World) : Prop := ∃ v, e = .returned v ∧ OwnW w' W.heap.size v l ∧ Ext No W w'
set_option maxHeartbeats 400000 in
theorem clone_any (sl : Value) (l : List Nat) (W : World) (h : WordsAt No W sl l) (hn : l.length ≤ 1048576) :
    Calls Try.prog 62 #[sl] W (OwnPost l W) := by
  obtain ⟨i0, hi, hz0, hz1, hz2⟩ := info_parts infoW
  have H := Lib.hid h
  obtain ⟨a, cap, rfl⟩ := h.slice
  clear h
  have ke := fun (w : World) (a : Option Addr) (n c : Nat) => Lib.run_eql_slice_nil (P := Try.prog) w 38 86 a n c 0 0 Try.underlying38
  cases a with
  | none =>
    have h0 : l.length = 0 := by
      rcases H.out.row.2.2 with ⟨a, c, h1, _, h2 | ⟨b, off, h2, _⟩⟩
      · exact h2
      · simp only [Value.slice.injEq] at h1; rw [h2] at h1; exact absurd h1.1 (by simp)
    have HL := Lib.hid (List.eq_nil_of_length_eq_zero h0)
    clear h0
    go_enter Try.func62, Try.ntmps62
    go_wp2
    go_ret
    exact ⟨_, rfl, by rw [HL.out]; exact ⟨World.ownsRow_nil _ _ _ _, by simp⟩, Ext.refl _ _⟩
  | some ad =>
    go_enter Try.func62, Try.ntmps62
    go_wp2_with (at_builtin; refine wpList_app _ rfl (.tmp 5) (.tmp 6) 38 rfl W.heap.size 86 i0 _ 1 8 Try.underlying38 hi hz0 hz1 hz2 rfl (by omega) _ 0 [] rfl (World.ownsRow_made W #[] 0 (Nat.le_refl _) (Nat.zero_le _) rfl) No (some ad) l.length cap (u64s l) rfl (Row.extNo H.out.row ((Ext.refl _ _).alloc _)) (u64s_one l) (by omega) (by omega) (by simp) ?_; intro v1 w1 hown hg hat)
    go_ret
    simp only [Nat.zero_add, List.nil_append] at hown
    exact ⟨_, rfl, ⟨hown, H.out.lt⟩, ((Ext.refl _ _).alloc _).grown hg (fun k hk hlt => by cases hk; exact absurd hlt (Nat.lt_irrefl _))⟩
theorem OwnW.shape {W : World} {base : Nat} {v : Value} {l : List Nat} (h : OwnW W base v l) (hn : l.length ≠ 0) : ∃ g cap, v = .slice (some ⟨g, 0, none⟩) l.length cap ∧ base ≤ g ∧ g < W.heap.size := by
  obtain ⟨h1, h2⟩ := h.own
  rcases h2 with ⟨_, h3⟩ | ⟨g, cap, cur, rfl, hb, hg, _⟩
  · omega
  · exact ⟨g, cap, rfl, hb, lt_of_block hg⟩
theorem OwnW.slice {W : World} {base : Nat} {v : Value} {l : List Nat} (h : OwnW W base v l) : ∃ a cap, v = .slice a l.length cap := (Row.ofOwns (M := No) h.own (fun _ _ x => x)).slice
theorem OwnW.at {W : World} {base g cap : Nat} {l : List Nat} (h : OwnW W base (.slice (some ⟨g, 0, none⟩) l.length cap) l) {i : Nat} (hi : i < l.length) : W.cell? ⟨g, i, none⟩ = some (.int .u64 (l[i] : Int)) := by
  rw [World.ownsRow.cellAt h.own i (by omega), u64s_get l i hi]
theorem OwnW.free {W : World} {base g cap : Nat} {l : List Nat} (h : OwnW W base (.slice (some ⟨g, 0, none⟩) l.length cap) l) (i : Nat) : W.frozen? ⟨g, i, none⟩ = false := World.ownsRow.frozenAt h.own i
theorem u64s_set (l : List Nat) (i n : Nat) : u64s (l.set i n) = (u64s l).set i (.int .u64 (n : Int)) := by simp [u64s, List.map_set]
theorem OwnW.set {W : World} {base g cap : Nat} {l : List Nat} (h : OwnW W base (.slice (some ⟨g, 0, none⟩) l.length cap) l) (i n : Nat) (hn : n < 2 ^ 64) : OwnW (W.setCell ⟨g, i, none⟩ (.int .u64 (n : Int))) base (.slice (some ⟨g, 0, none⟩) l.length cap) (l.set i n) :=
  ⟨by rw [List.length_set, u64s_set]; exact (World.ownsRow.stored (w := W) h.own i (.int .u64 (n : Int))).1, fun k hk => by
    rcases List.mem_or_eq_of_mem_set hk with h1 | rfl
    · exact h.lt k h1
    · exact hn⟩
theorem OwnW.ext {M : Nat → Prop} {W W' : World} {base : Nat} {v : Value} {l : List Nat} (h : OwnW W base v l) (hx : Ext M W W') (hM : ∀ i, base ≤ i → ¬ M i) : OwnW W' base v l := by
  refine ⟨?_, h.lt⟩
  obtain ⟨h1, h2⟩ := h.own
  refine ⟨h1, ?_⟩
  rcases h2 with h2 | ⟨g, cap, cur, hv, hb, hg, hr⟩
  · exact .inl h2
  · exact .inr ⟨g, cap, cur, hv, hb, (hx.block g (lt_of_block hg) (hM g hb)).trans hg, hr⟩
/-- as a set of its own, in a later world -/
theorem OwnW.fin {M : Nat → Prop} {W0 W W' : World} {base w m : Nat} {v : Value} (h : OwnW W base v (wordsN w m)) (hb : W0.heap.size ≤ base) (hM : ∀ b, M b → b < W0.heap.size) (hx : Ext (Lo base) W W') (hw : w ≤ 256) (hm : m < 2 ^ w) : SetAt M W' v w m :=
  ⟨⟨Row.fin h.own hb hM hx, h.lt⟩, hw, hm⟩
theorem wordsN_zero (w : Nat) : wordsN w 0 = List.replicate (nw w) 0 := by
  refine List.ext_getElem (by simp [wordsN_len]) (fun i h1 h2 => ?_)
  rw [wordsN_get, wordN_zero, List.getElem_replicate]
theorem wordsN_with (w m b : Nat) (hb : b < w) : (wordsN w m).set (b / 64) (wordN m (b / 64) ||| 2 ^ (b % 64)) = wordsN w (m ||| 2 ^ b) := by
  refine List.ext_getElem (by simp [wordsN_len]) (fun i h1 h2 => ?_)
  rw [List.getElem_set, wordsN_get, wordsN_get, wordN_or, wordN_bit2]
  by_cases h : b / 64 = i
  · rw [if_pos h, if_pos h.symm, h]
  · rw [if_neg h, if_neg (Ne.symm h), Nat.or_zero]
/-! ### setting a bit in place -/
/-- a power of two, not to be opened by the walk -/
def p2 (k : Nat) : Nat := 2 ^ k
theorem p2_lt {k : Nat} (h : k < 64) : p2 k < 2 ^ 64 := Nat.pow_lt_pow_right (by decide) h
theorem shl_p2 {k : Nat} (h : k < 64) : IntKind.u64.wrap (2 ^ k) = (p2 k : Int) := by
  have := shl_one k h
  rw [Int.one_mul] at this
  exact this
theorem ext_two {W w1 : World} {u0 u1 : Value} (_ : Ext No W w1) (C : Nat) : Ext (At C) w1 ((w1.setCell ⟨C, 0, none⟩ u0).setCell ⟨C, 1, none⟩ u1) :=
  ((Ext.refl (At C) _).setCell (p := ⟨C, 0, none⟩) (fun _ => rfl) _).setCell (p := ⟨C, 1, none⟩) (fun _ => rfl) _
/-! ### a set with a bit, and without -/
theorem no_no {k : Nat} : ¬ No k := fun x => x
theorem keepA {w : World} {a : Addr} {v : Value} {o : Obj} (h : w.cell? a = some v) : (w.alloc o).cell? a = some v := ((Ext.refl No w).alloc o).keep h
theorem keepD {w : World} {a : Addr} {v : Value} (h : w.cell? a = some v) : w.drew.cell? a = some v := h
theorem keepS {w : World} {a b : Addr} {v u : Value} (hne : a.block ≠ b.block) (h : w.cell? a = some v) : (w.setCell b u).cell? a = some v := ((Ext.refl (At b.block) w).setCell (fun _ => rfl) u).keepM h hne
theorem ext2 {M : Nat → Prop} {a w : World} {u0 u1 : Value} {D : Nat} (h : Ext M a w) (hD : a.heap.size ≤ D) : Ext M a ((w.setCell ⟨D, 0, none⟩ u0).setCell ⟨D, 1, none⟩ u1) := (h.own hD _).own hD _
theorem keepN {w w' : World} {a : Addr} {v : Value} (hx : Ext No w w') (h : w.cell? a = some v) : w'.cell? a = some v := hx.keep h
section
variable {W : World} {base g cap w m : Nat}
theorem OwnW.at' (h : OwnW W base (.slice (some ⟨g, 0, none⟩) (nw w) cap) (wordsN w m)) {i : Nat} (hi : i < nw w) : W.cell? ⟨g, i, none⟩ = some (.int .u64 (wordN m i : Int)) := by
  have hl := wordsN_len w m
  rw [← hl] at h
  rw [h.at (i := i) (by rw [hl]; exact hi), wordsN_get]
theorem OwnW.low (h : OwnW W base (.slice (some ⟨g, 0, none⟩) (nw w) cap) (wordsN w m)) : base ≤ g := (World.ownsRow.lt h.own g rfl).1
end
end Go.Proofs.Ytfejidihocoboaa
/- Set6 -/
namespace Go.Proofs.Ytfejidihocoboaa
open Go Go.RowKit
/-- a row of zero words, as make lays it -/
def zeroW (n : Nat) : Array Value := madeCells (Value.cells (.int .u64 0)) (n * 1)
theorem zeroW_list (n : Nat) : (zeroW n).toList = u64s (List.replicate n 0) := by
  refine List.ext_getElem? (fun i => ?_)
  simp only [zeroW, madeCells, u64s, List.map_replicate]
  by_cases h : i < n
  · simp [h, Value.cells, Nat.mod_one]
  · simp [h]
theorem mk_words (n : Nat) (hn : n ≤ 1000) (w : World) : (Instr.makeSlice 38 (.int .i64 (n : Int)) (.int .i64 (n : Int))).run Try.prog w = .ok (.slice (some ⟨w.heap.size, 0, none⟩) n n) (w.alloc (.cells (zeroW n) 86)) := by
  obtain ⟨i, hi, hz0, hz1, hz2⟩ := info_parts infoW
  have h := run_makeSlice (P := Try.prog) w 38 86 i _ Try.underlying38 hi hz0 .i64 .i64 n n (by omega) (Int.le_refl _) (by rw [hz1]; simp; omega) (by rw [hz2]; omega) (by omega)
  simp only [Int.toNat_natCast, hz1] at h
  exact h
theorem OwnW.zero {W : World} {base w : Nat} (hb : base ≤ W.heap.size) (hw : w ≤ 256) : OwnW (W.alloc (.cells (zeroW (nw w)) 86)) base (.slice (some ⟨W.heap.size, 0, none⟩) (nw w) (nw w)) (wordsN w 0) := by
  have h := World.ownsRow_lit (base := base) (e := 86) (size := 1) W (zeroW (nw w)) (nw w) hb (by simp only [maxLen]; unfold nw; omega) (by simp [zeroW, madeCells])
  rw [zeroW_list, ← wordsN_zero] at h
  exact ⟨by rw [wordsN_len]; exact h, wordsN_lt w 0⟩
end Go.Proofs.Ytfejidihocoboaa
/- Set7 -/
namespace Go.Proofs.Ytfejidihocoboaa
open Go Go.RowKit
def orN (a b : Nat) : Nat := a ||| b
end Go.Proofs.Ytfejidihocoboaa

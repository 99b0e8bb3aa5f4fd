
import Derived.Test.YtmddchceacmopaaDoorHeap
import Derived.Test.YtmddchceacmopaaDoorProg
import Derived.Deep.QuietTactic
import Derived.BigQuiet
import Derived.WalkSpells
import Derived.Deep.DeepCutAuto
import Derived.Deep.RegionHeld3
import Derived.Deep.Onto
import Derived.StillTailTactics
import Derived.Laws.MakeOwn
set_option linter.unusedVariables false
set_option linter.unusedSimpArgs false
namespace Go.Proofs.YtmddchceacmopaaDoor
open Go Go.RowKit
def u64s (l : List Nat) : List Value := l.map fun (n : Nat) => .int .u64 (n : Int)
theorem u64s_len (l : List Nat) : (u64s l).length = l.length := by simp [u64s]
theorem u64s_get (l : List Nat) (i : Nat) (h : i < l.length) : (u64s l)[i]? = some (.int .u64 (l[i] : Int)) := by simp [u64s, h]
theorem u64s_one (l : List Nat) : ∀ u ∈ u64s l, u.oneCell' = true := by
 intro u hu; obtain ⟨z, _, rfl⟩ := List.mem_map.1 hu; rfl
structure WordsAt (M : Nat → Prop) (W : World) (sl : Value) (l : List Nat) : Prop where
 row : Row M W 1 sl l.length (u64s l)
 lt : ∀ n ∈ l, n < 2 ^ 64
structure SetAt (M : Nat → Prop) (W : World) (sl : Value) (w m : Nat) : Prop where
 words : WordsAt M W sl (wordsN w m)
 hw : w ≤ 256
 hm : m < 2 ^ w
def RawV (M : Nat → Prop) (W : World) (v : Value) (s : RawSet) : Prop := ∃ sl, v = .agg #[.int .i64 s.width, sl] ∧ WordsAt M W sl s.words
section
variable {M M' : Nat → Prop} {W W' : World} {sl v : Value} {l : List Nat} {w m : Nat} {s : RawSet}
theorem WordsAt.ext (h : WordsAt M W sl l) (hx : Ext M' W W') (hm : ∀ i, i < W.heap.size → M' i → M i) : WordsAt M W' sl l := ⟨h.row.ext hx hm, h.lt⟩
theorem WordsAt.extNo (h : WordsAt M W sl l) (hx : Ext No W W') : WordsAt M W' sl l := ⟨h.row.extNo hx, h.lt⟩
theorem WordsAt.mono (h : WordsAt M W sl l) (hm : ∀ i, i < W.heap.size → M' i → M i) : WordsAt M' W sl l := ⟨h.row.mono hm, h.lt⟩
theorem SetAt.ext (h : SetAt M W sl w m) (hx : Ext M' W W') (hm : ∀ i, i < W.heap.size → M' i → M i) : SetAt M W' sl w m := ⟨h.words.ext hx hm, h.hw, h.hm⟩
theorem SetAt.extNo (h : SetAt M W sl w m) (hx : Ext No W W') : SetAt M W' sl w m := ⟨h.words.extNo hx, h.hw, h.hm⟩
theorem SetAt.mono (h : SetAt M W sl w m) (hm : ∀ i, i < W.heap.size → M' i → M i) : SetAt M' W sl w m := ⟨h.words.mono hm, h.hw, h.hm⟩
theorem SetAt.no (h : SetAt M W sl w m) : SetAt No W sl w m := h.mono (fun _ _ x => x.elim)
theorem SetAt.raw (h : SetAt M W sl w m) : RawV M W (.agg #[.int .i64 (w : Int), sl]) (setN w m) := ⟨sl, rfl, h.words⟩
theorem RawV.extNo (h : RawV M W v s) (hx : Ext No W W') : RawV M W' v s := by obtain ⟨sl, h1, h2⟩ := h; exact ⟨sl, h1, h2.extNo hx⟩
theorem RawV.no (h : RawV M W v s) : RawV No W v s := by obtain ⟨sl, h1, h2⟩ := h; exact ⟨sl, h1, h2.mono (fun _ _ x => x.elim)⟩
theorem WordsAt.slice (h : WordsAt M W sl l) : ∃ a c, sl = .slice a l.length c := h.row.slice
theorem SetAt.slice (h : SetAt M W sl w m) : ∃ a c, sl = .slice a (nw w) c := by
 obtain ⟨a, c, h1⟩ := h.words.slice; exact ⟨a, c, by rw [h1, wordsN_len]⟩
theorem WordsAt.at (h : WordsAt M W sl l) {i : Nat} (hi : i < l.length) : ∃ b off cap, sl = .slice (some ⟨b, off, none⟩) l.length cap ∧ b < W.heap.size ∧ ¬ M b ∧ ∀ j (hj : j < l.length), W.cell? ⟨b, off + j, none⟩ = some (.int .u64 (l[j] : Int)) := by
 obtain ⟨b, off, cap, h1, h2, h3, h4⟩ := h.row.shape (by omega)
 exact ⟨b, off, cap, h1, h2, h3, fun j hj => h4 j _ (u64s_get l j hj)⟩
theorem SetAt.at (h : SetAt M W sl w m) (hw : 0 < nw w) : ∃ b off cap, sl = .slice (some ⟨b, off, none⟩) (nw w) cap ∧ b < W.heap.size ∧ ¬ M b ∧ ∀ j, j < nw w → W.cell? ⟨b, off + j, none⟩ = some (.int .u64 (wordN m j : Int)) := by
 obtain ⟨b, off, cap, h1, h2, h3, h4⟩ := h.words.at (i := 0) (by rw [wordsN_len]; exact hw)
 exact ⟨b, off, cap, by rw [h1, wordsN_len], h2, h3, fun j hj => by rw [h4 j (by rw [wordsN_len]; exact hj), wordsN_get]⟩
end
def rangedB (z : Int) : Bool := decide (0 ≤ z ∧ z ≤ 256)
theorem rangedB_true {z : Int} (h : rangedB z = true) : ∃ w : Nat, z = w ∧ w ≤ 256 := by
 simp only [rangedB, decide_eq_true_eq] at h
 exact ⟨z.toNat, by omega, by omega⟩
theorem ret_int {k : IntKind} {a b : Int} (h : a = b) : Ending.returned (.int k a) = .returned (.int k b) := by rw [h]
theorem ret_bool {a b : Bool} (h : a = b) : Ending.returned (.bool a) = .returned (.bool b) := by rw [h]
theorem ranged_any (z : Int) (W : World) : Calls Tryd.prog 88 #[.int .i64 z] W fun e w' => e = .returned (.bool (rangedB z)) ∧ W = w' := by
 by_cases h0 : 0 ≤ z
 ·by_cases h1 : z ≤ 256
  ·rw [show rangedB z = true from decide_eq_true ⟨h0, h1⟩]
   go_enter Tryd.func88, Tryd.ntmps88
   go_wp2
   go_ret
   exact ⟨rfl, rfl⟩
  rw [show rangedB z = false from decide_eq_false (fun h => h1 h.2)]
  go_enter Tryd.func88, Tryd.ntmps88
  go_wp2
  go_ret
  exact ⟨rfl, rfl⟩
 rw [show rangedB z = false from decide_eq_false (fun h => h0 h.1)]
 go_enter Tryd.func88, Tryd.ntmps88
 go_wp2
 go_ret
 exact ⟨rfl, rfl⟩
theorem words_any (w : Nat) (hw : w ≤ 256) (W : World) : Calls Tryd.prog 89 #[.int .i64 (w : Int)] W fun e w' => e = .returned (.int .i64 (nw w : Int)) ∧ W = w' := by
 have hw' : (w : Int) ≤ 256 := by omega
 go_enter Tryd.func89, Tryd.ntmps89
 go_wp2
 go_ret
 exact ⟨ret_int (by unfold nw; omega), rfl⟩
def spareN (w : Nat) : Nat := 2 ^ 64 - 2 ^ (w % 64)
theorem spareN_lt (w : Nat) : spareN w < 2 ^ 64 := by unfold spareN; have := Nat.two_pow_pos (w % 64); omega
theorem shl_ones (k : Nat) (h : k < 64) : IntKind.u64.wrap (18446744073709551615 * 2 ^ k) = ((2 ^ 64 - 2 ^ k : Nat) : Int) := by
 have h1 : 2 ^ k < 2 ^ 64 := Nat.pow_lt_pow_right (by decide) h
 have h0 := Nat.two_pow_pos k
 have e : (18446744073709551615 * 2 ^ k : Int) = (((2 ^ 64 - 1) * 2 ^ k : Nat) : Int) := by simp
 rw [e]
 simp only [IntKind.wrap, IntKind.bits, IntKind.signed]
 simp
 have e2 : ((18446744073709551615 : Int) * 2 ^ k) = 18446744073709551616 * 2 ^ k - 2 ^ k := by
  have : (18446744073709551615 : Int) = 18446744073709551616 - 1 := rfl
  rw [this, Int.sub_mul, Int.one_mul]
 generalize hp : (2 : Nat) ^ k = p at *
 have hq : ((2 : Int) ^ k) = p := by rw [← hp]; simp
 rw [hq] at e2 ⊢
 omega
theorem spare_any (w : Nat) (hw : w ≤ 256) (W : World) : Calls Tryd.prog 90 #[.int .i64 (w : Int)] W fun e w' => e = .returned (.int .u64 (spareN w : Int)) ∧ W = w' := by
 have hw' : (w : Int) ≤ 256 := by omega
 have hu : IntKind.u64.wrap (w : Int) = w := wrapU w (by omega)
 have hs : 0 ≤ (w : Int) % 64 ∧ (w : Int) % 64 ≤ 64 := by omega
 obtain ⟨hs1, hs2⟩ := hs
 go_enter Tryd.func90, Tryd.ntmps90
 go_wp2
 go_ret
 exact ⟨ret_int (shl_ones _ (Nat.mod_lt _ (by decide))), rfl⟩
theorem spare_and (w n : Nat) (hn : n < 2 ^ 64) : bits .and .u64 (n : Int) (spareN w : Int) = ((n &&& spareN w : Nat) : Int) := bits_and _ _ hn (spareN_lt w)
theorem and_spare (w n : Nat) (hn : n < 2 ^ 64) : n &&& spareN w = 0 ↔ n < 2 ^ (w % 64) := by
 have hk : w % 64 < 64 := Nat.mod_lt _ (by decide)
 generalize hkk : w % 64 = k at *
 have hb : ∀ j, (spareN w).testBit j = (decide (k ≤ j) && decide (j < 64)) := by
  intro j
  unfold spareN
  rw [hkk]
  have e : 2 ^ 64 - 2 ^ k = 2 ^ k * (2 ^ (64 - k) - 1) := by
   rw [Nat.mul_sub, ← Nat.pow_add, Nat.mul_one, show k + (64 - k) = 64 by omega]
  rw [e, Nat.testBit_two_pow_mul, Nat.testBit_two_pow_sub_one]
  by_cases h1 : k ≤ j
  ·simp only [h1, decide_true, Bool.true_and, ge_iff_le]
   apply decide_eq_decide.2; omega
  simp [h1]
 constructor
 ·intro h
  refine Nat.lt_pow_two_of_testBit _ (fun j hj => ?_)
  by_cases hj2 : j < 64
  ·have := congrArg (fun x => x.testBit j) h
   simp only [Nat.testBit_and, hb, Nat.zero_testBit] at this
   simpa [hj, hj2] using this
  exact Nat.testBit_lt_two_pow (Nat.lt_of_lt_of_le hn (Nat.pow_le_pow_right (by decide) (by omega)))
 intro h
 refine Nat.eq_of_testBit_eq (fun j => ?_)
 rw [Nat.testBit_and, hb, Nat.zero_testBit]
 by_cases hj : k ≤ j
 ·rw [Nat.testBit_lt_two_pow (Nat.lt_of_lt_of_le h (Nat.pow_le_pow_right (by decide) hj))]; rfl
 simp [hj]
theorem joinN_lt (l : List Nat) (h : ∀ n ∈ l, n < 2 ^ 64) (hl : l ≠ []) (k : Nat) (hk : k ≤ 64) : joinN l < 2 ^ (64 * (l.length - 1) + k) ↔ l[l.length - 1]'(by have := List.length_pos_iff.2 hl; omega) < 2 ^ k := by
 induction l with
 | nil => exact absurd rfl hl
 | cons a l ih =>
  cases l with
  | nil => simp [joinN]
  | cons b l =>
   have ih := ih (fun n hn => h n (List.mem_cons_of_mem _ hn)) (by simp)
   have ha := h a (List.mem_cons_self ..)
   rw [joinN]
   simp only [List.length_cons, Nat.add_sub_cancel] at ih ⊢
   have e : (a :: b :: l)[l.length + 1] = (b :: l)[l.length] := rfl
   rw [e, ← ih]
   have e2 : 2 ^ (64 * (l.length + 1) + k) = 2 ^ 64 * 2 ^ (64 * l.length + k) := by rw [← Nat.pow_add]; congr 1; omega
   rw [e2]
   generalize 2 ^ (64 * l.length + k) = p
   generalize joinN (b :: l) = q
   constructor
   ·intro h1
    rcases Nat.lt_or_ge q p with h2 | h2
    ·exact h2
    have := Nat.mul_le_mul_left (2 ^ 64) h2
    omega
   intro h1
   have := Nat.mul_le_mul_left (2 ^ 64) (Nat.succ_le_of_lt h1)
   rw [Nat.mul_succ] at this
   omega
theorem cleanB_zero {w : Nat} {l : List Nat} (h : ∀ n ∈ l, n < 2 ^ 64) (hl : l.length = nw w) (hz : w % 64 = 0) : cleanB w l = true := by
 unfold cleanB
 apply decide_eq_true
 by_cases h0 : l = []
 ·subst h0; simp only [joinN]; exact Nat.two_pow_pos w
 have hp := List.length_pos_iff.2 h0
 have h1 := (joinN_lt l h h0 64 (Nat.le_refl _)).2 (h _ (List.getElem_mem _))
 have : 64 * (l.length - 1) + 64 = w := by unfold nw at hl; omega
 rw [this] at h1; exact h1
theorem cleanB_last {w : Nat} {l : List Nat} (h : ∀ n ∈ l, n < 2 ^ 64) (hl : l.length = nw w) (hz : w % 64 ≠ 0) (hk : l.length - 1 < l.length) : cleanB w l = decide (l[l.length - 1] &&& spareN w = 0) := by
 unfold cleanB
 apply decide_eq_decide.2
 have h0 : l ≠ [] := List.length_pos_iff.1 (by omega)
 rw [and_spare w _ (h _ (List.getElem_mem _)), ← joinN_lt l h h0 (w % 64) (by omega)]
 have : 64 * (l.length - 1) + w % 64 = w := by unfold nw at hl; omega
 rw [this]
end Go.Proofs.YtmddchceacmopaaDoor
namespace Go.Proofs.YtmddchceacmopaaDoor
open Go Go.RowKit
theorem validB_w {w : Nat} {l : List Nat} (hw : w ≤ 256) : validB ⟨w, l⟩ = (decide (l.length = nw w) && cleanB w l) := by
 unfold validB
 simp only [Int.toNat_natCast]
 congr 1
 apply decide_eq_decide.2
 constructor
 ·exact fun h => h.2.2
 exact fun h => ⟨by omega, by omega, h⟩
theorem qs1 {P : Program} {f : FuncId} {args : Array Value} {w : World} {n : Nat} {v : Value} (h : Calls P f args (w.drewN n) fun e w' => e = .returned v ∧ w.drewN n = w') : Calls P f args (w.drewN n) fun e w' => e = .returned v ∧ ∃ m, w' = w.drewN m :=
 h.mono fun _ _ ⟨he, hm⟩ => ⟨he, n, hm.symm⟩
theorem qs2 {P : Program} {f : FuncId} {args : Array Value} {w : World} {a n : Nat} {v : Value} (h : Calls P f args (w.drewN (a + n)) fun e w' => e = .returned v ∧ w.drewN (a + n) = w') : Calls P f args (w.drewN (a + n)) fun e w' => e = .returned v ∧ ∃ m, w' = w.drewN (a + m) :=
 h.mono fun _ _ ⟨he, hm⟩ => ⟨he, n, hm.symm⟩
def BoolPost (b : Bool) (W : World) (e : Ending) (w' : World) : Prop := e = .returned (.bool b) ∧ Ext No W w'
set_option maxRecDepth 100000 in
set_option maxHeartbeats 1000000 in
theorem valid_any (v : Value) (s : RawSet) (W : World) (h : RawV No W v s) : Calls Tryd.prog 62 #[v] W (BoolPost (validB s) W) := by
 obtain ⟨sl, rfl, hs⟩ := h
 obtain ⟨a, c, rfl⟩ := hs.slice
 have HS := Lib.hid hs
 clear hs
 obtain ⟨width, l⟩ := s
 simp only at HS ⊢
 have hlen := HS.out.row.2.1
 cases hr : rangedB width with
 | false =>
  have hv : validB ⟨width, l⟩ = false := by
   unfold validB
   rw [show decide (0 ≤ width ∧ width ≤ 256 ∧ l.length = nw width.toNat) = false from decide_eq_false (fun h => by simp only [rangedB, decide_eq_false_iff_not] at hr; exact hr ⟨h.1, h.2.1⟩)]; rfl
  rw [hv]
  clear hv
  go_enter Tryd.func62, Tryd.ntmps62
  go_wp2_with fail
  go_quiet ((go_at_call 88; exact qs1 (hr ▸ ranged_any width _)))
  go_wp2
  go_ret
  exact ⟨rfl, by (repeat (first | (with_reducible exact Ext.refl _ _) | (with_reducible assumption) | (with_reducible refine Ext.drewN ?_ _) | (with_reducible refine Ext.drew ?_) | (with_reducible refine Ext.alloc ?_ _)))⟩
 | true =>
  have hrt : rangedB width = true := hr
  obtain ⟨w, rfl, hw⟩ := rangedB_true hrt
  clear hr
  rw [validB_w hw]
  have hw' : (w : Int) ≤ 256 := by omega
  by_cases hl : l.length = nw w
  ·have HL := Lib.hid hl
   rw [show decide (l.length = nw w) = true from decide_eq_true hl, Bool.true_and]
   have hne : ((l.length : Int) != (nw w : Int)) = false := by simp [hl]
   clear hl
   by_cases hz : w % 64 = 0
   ·rw [cleanB_zero HS.out.lt HL.out hz]
    have hz1 : ((w : Int) % 64 == 0) = true := by simp; omega
    have hz2 : ((w : Int).tmod 64 == 0) = true := by rw [Int.tmod_eq_emod_of_nonneg (by omega)]; exact hz1
    clear hz
    go_enter Tryd.func62, Tryd.ntmps62
    go_wp2_with fail
    go_quiet (first | (go_at_call 88; exact qs1 (hrt ▸ ranged_any w _)) | (go_at_call 89; exact qs1 (words_any w hw _)))
    go_wp2_with fail
    go_quiet (fail)
    go_wp2
    go_ret
    exact ⟨rfl, by (repeat (first | (with_reducible exact Ext.refl _ _) | (with_reducible assumption) | (with_reducible refine Ext.drewN ?_ _) | (with_reducible refine Ext.drew ?_) | (with_reducible refine Ext.alloc ?_ _)))⟩
   have hpos : l.length - 1 < l.length := by have := HL.out; unfold nw at this; omega
   rw [cleanB_last HS.out.lt HL.out hz hpos]
   have hz1 : ((w : Int) % 64 == 0) = false := by simp; omega
   have hz2 : ((w : Int).tmod 64 == 0) = false := by rw [Int.tmod_eq_emod_of_nonneg (by omega)]; exact hz1
   clear hz
   obtain ⟨b, off, cap, hsl, hb1, _, hc⟩ := HS.out.at (i := 0) (by omega)
   simp only [Value.slice.injEq] at hsl
   obtain ⟨rfl, _, rfl⟩ := hsl
   have hc1 := hc (l.length - 1) hpos
   have hlt1 := HS.out.lt _ (List.getElem_mem hpos)
   have hand := spare_and w _ hlt1
   have hn : ((l[l.length - 1] &&& spareN w : Nat) : Int) = 0 ↔ l[l.length - 1] &&& spareN w = 0 := by omega
   clear hc
   have hw1 : IntKind.i64.wrap ((l.length : Int) - 1) = ((l.length - 1 : Nat) : Int) := by rw [IntWalk.i64_in _ (by omega)]; omega
   have hp1 : 0 ≤ ((l.length - 1 : Nat) : Int) := by omega
   have hp2 : ((l.length - 1 : Nat) : Int) < (l.length : Int) := by omega
   generalize l[l.length - 1] = x at *
   generalize l.length - 1 = k at *
   cases hx : decide (x &&& spareN w = 0) with
   | true =>
    have hx1 : (((x &&& spareN w : Nat) : Int) == 0) = true := by simpa using hx
    clear hx hn
    go_enter Tryd.func62, Tryd.ntmps62
    go_wp2_with fail
    go_quiet (first | (go_at_call 88; exact qs1 (hrt ▸ ranged_any w _)) | (go_at_call 89; exact qs1 (words_any w hw _)))
    go_wp2_with fail
    go_quiet ((go_at_call 90; exact qs2 (spare_any w hw _)))
    go_wp2
    go_ret
    exact ⟨rfl, by (repeat (first | (with_reducible exact Ext.refl _ _) | (with_reducible assumption) | (with_reducible refine Ext.drewN ?_ _) | (with_reducible refine Ext.drew ?_) | (with_reducible refine Ext.alloc ?_ _)))⟩
   | false =>
    have hx1 : (((x &&& spareN w : Nat) : Int) == 0) = false := by simpa using hx
    clear hx hn
    go_enter Tryd.func62, Tryd.ntmps62
    go_wp2_with fail
    go_quiet (first | (go_at_call 88; exact qs1 (hrt ▸ ranged_any w _)) | (go_at_call 89; exact qs1 (words_any w hw _)))
    go_wp2_with fail
    go_quiet ((go_at_call 90; exact qs2 (spare_any w hw _)))
    go_wp2
    go_ret
    exact ⟨rfl, by (repeat (first | (with_reducible exact Ext.refl _ _) | (with_reducible assumption) | (with_reducible refine Ext.drewN ?_ _) | (with_reducible refine Ext.drew ?_) | (with_reducible refine Ext.alloc ?_ _)))⟩
  rw [show decide (l.length = nw w) = false from decide_eq_false hl]
  have hne : ((l.length : Int) != (nw w : Int)) = true := by simp; omega
  go_enter Tryd.func62, Tryd.ntmps62
  go_wp2_with fail
  go_quiet (first | (go_at_call 88; exact qs1 (hrt ▸ ranged_any w _)) | (go_at_call 89; exact qs1 (words_any w hw _)))
  go_wp2
  go_ret
  exact ⟨rfl, by (repeat (first | (with_reducible exact Ext.refl _ _) | (with_reducible assumption) | (with_reducible refine Ext.drewN ?_ _) | (with_reducible refine Ext.drew ?_) | (with_reducible refine Ext.alloc ?_ _)))⟩
end Go.Proofs.YtmddchceacmopaaDoor
namespace Go.Proofs.YtmddchceacmopaaDoor
open Go Go.RowKit
def inB (z : Int) (b : Int) : Bool := decide (0 ≤ b ∧ b < z)
def hasZ (w m : Nat) (b : Int) : Bool := inB w b && m.testBit b.toNat
theorem inB_true {z b : Int} (h : inB z b = true) : ∃ k : Nat, b = k ∧ (k : Int) < z := by
 simp only [inB, decide_eq_true_eq] at h
 exact ⟨b.toNat, by omega, by omega⟩
theorem within_any (v : Value) (s : RawSet) (b : Int) (W : World) (h : RawV No W v s) : Calls Tryd.prog 106 #[v, .int .i64 b] W (BoolPost (inB s.width b) W) := by
 obtain ⟨sl, rfl, hs⟩ := h
 obtain ⟨a, c, rfl⟩ := hs.slice
 clear hs
 by_cases h0 : 0 ≤ b
 ·by_cases h1 : b < s.width
  ·rw [show inB s.width b = true from decide_eq_true ⟨h0, h1⟩]
   go_enter Tryd.func106, Tryd.ntmps106
   go_wp2
   go_ret
   exact ⟨rfl, by (repeat (first | (with_reducible exact Ext.refl _ _) | (with_reducible assumption) | (with_reducible refine Ext.drewN ?_ _) | (with_reducible refine Ext.drew ?_) | (with_reducible refine Ext.alloc ?_ _)))⟩
  rw [show inB s.width b = false from decide_eq_false (fun h => h1 h.2)]
  go_enter Tryd.func106, Tryd.ntmps106
  go_wp2
  go_ret
  exact ⟨rfl, by (repeat (first | (with_reducible exact Ext.refl _ _) | (with_reducible assumption) | (with_reducible refine Ext.drewN ?_ _) | (with_reducible refine Ext.drew ?_) | (with_reducible refine Ext.alloc ?_ _)))⟩
 rw [show inB s.width b = false from decide_eq_false (fun h => h0 h.1)]
 go_enter Tryd.func106, Tryd.ntmps106
 go_wp2
 go_ret
 exact ⟨rfl, by (repeat (first | (with_reducible exact Ext.refl _ _) | (with_reducible assumption) | (with_reducible refine Ext.drewN ?_ _) | (with_reducible refine Ext.drew ?_) | (with_reducible refine Ext.alloc ?_ _)))⟩
theorem testBit_word (m b : Nat) : (wordN m (b / 64)).testBit (b % 64) = m.testBit b := by
 rw [wordN_bit, Nat.div_add_mod]
 have : b % 64 < 64 := Nat.mod_lt _ (by decide)
 simp [this]
set_option maxRecDepth 100000 in
set_option maxHeartbeats 1000000 in
theorem has_any (w m : Nat) (sl : Value) (b : Int) (W : World) (h : SetAt No W sl w m) : Calls Tryd.prog 92 #[.agg #[.int .i64 (w : Int), sl], .int .i64 b] W (BoolPost (hasZ w m b) W) := by
 have H := Lib.hid h
 obtain ⟨a, c, rfl⟩ := h.slice
 have hv := validB_set h.hw h.hm
 have hw := h.hw
 clear h
 unfold hasZ
 cases hb : inB w b with
 | false =>
  go_enter Tryd.func92, Tryd.ntmps92
  go_wp2_with fail
  refine (valid_any _ (setN w m) _ (H.out.raw.extNo ((Ext.refl _ _).alloc _))).mono ?_
  rintro e1 w1 ⟨rfl, hx1⟩
  rw [hv]
  have hB := hx1.blk (alloc_top (w := W) rfl) (fun x => x.elim)
  have cB := cellOf hB
  have hxa : Ext No W w1 := ((Ext.refl _ _).alloc _).transNo hx1
  go_wp2_with fail
  refine (within_any _ (setN w m) b _ (H.out.raw.extNo hxa)).mono ?_
  rintro e2 w2 ⟨rfl, hx2⟩
  rw [show inB (setN w m).width b = false from hb]
  go_wp2_with fail
  go_ret
  exact ⟨rfl, hxa.transNo hx2⟩
 | true =>
  obtain ⟨k, rfl, hk⟩ := inB_true hb
  have hkw : k < w := by omega
  have hn : k / 64 < nw w := by unfold nw; omega
  obtain ⟨b0, off, cap, hsl, hb1, _, hc⟩ := H.out.at (by omega)
  simp only [Value.slice.injEq] at hsl
  obtain ⟨rfl, _, rfl⟩ := hsl
  have hc1 := hc (k / 64) hn
  have ht := bit_test _ (k % 64) (wordN_lt m (k / 64))
  rw [testBit_word] at ht
  have hk0 : (0 : Int) ≤ (k : Int) := by omega
  have hk2 : (k : Int) ≤ 256 := by omega
  have hu : IntKind.u64.wrap (k : Int) = k := wrapU k (by omega)
  clear hc
  simp only [Bool.true_and, Int.toNat_natCast]
  go_enter Tryd.func92, Tryd.ntmps92
  go_wp2_with fail
  refine (valid_any _ (setN w m) _ (H.out.raw.extNo ((Ext.refl _ _).alloc _))).mono ?_
  rintro e1 w1 ⟨rfl, hx1⟩
  rw [hv]
  have hB := hx1.blk (alloc_top (w := W) rfl) (fun x => x.elim)
  have cB := cellOf hB
  have hxa : Ext No W w1 := ((Ext.refl _ _).alloc _).transNo hx1
  go_wp2_with fail
  refine (within_any _ (setN w m) k _ (H.out.raw.extNo hxa)).mono ?_
  rintro e2 w2 ⟨rfl, hx2⟩
  rw [show inB (setN w m).width k = true from hb]
  have hxb := hxa.transNo hx2
  have hB2 := hx2.blk hB (fun x => x.elim)
  clear cB
  have cB := cellOf hB2
  have hc2 := hxb.keep hc1
  go_wp2_with fail
  all_goals
   go_ret
   exact ⟨rfl, hxb⟩
end Go.Proofs.YtmddchceacmopaaDoor
namespace Go.Proofs.YtmddchceacmopaaDoor
open Go Go.RowKit
theorem ret_ex {P : Program} {fn : Func} {R : Ending → World → Prop} {a : Act} {w : World}
  (hd : a.defers = []) (h : ∃ v, (results fn a.tmps).run P w = .ok v w ∧ R (.returned v) w) : bodyPost P fn R .ret a w := by
 obtain ⟨v, hr, hR⟩ := h; exact ⟨hd, v, hr, hR⟩
theorem info_parts {P : Program} {e : TypeId} {z : Value} {s b : Nat} (h : (P.info? e).map (fun i => (i.zero, i.size, i.bytes)) = some (some z, s, b)) : ∃ i, P.info? e = some i ∧ i.zero = some z ∧ i.size = s ∧ i.bytes = b := by
 cases hi : P.info? e with
 | none => rw [hi] at h; simp at h
 | some i => rw [hi] at h; simp at h; exact ⟨i, rfl, h.1, h.2.1, h.2.2⟩
theorem infoW : (Tryd.prog.info? 83).map (fun i => (i.zero, i.size, i.bytes)) = some (some (.int .u64 0), 1, 8) := by kernel_rfl
structure OwnW (W : World) (base : Nat) (v : Value) (l : List Nat) : Prop where
 own : W.ownsRow base 83 1 v l.length (u64s l)
 lt : ∀ n ∈ l, n < 2 ^ 64
def OwnPost (l : List Nat) (W : World) (e : Ending) (w' : World) : Prop := ∃ v, e = .returned v ∧ OwnW w' W.heap.size v l ∧ Ext No W w'
set_option maxHeartbeats 400000 in
theorem clone_any (sl : Value) (l : List Nat) (W : World) (h : WordsAt No W sl l) (hn : l.length ≤ 1048576) :
  Calls Tryd.prog 109 #[sl] W (OwnPost l W) := by
 obtain ⟨i0, hi, hz0, hz1, hz2⟩ := info_parts infoW
 have H := Lib.hid h
 obtain ⟨a, cap, rfl⟩ := h.slice
 clear h
 have ke := fun (w : World) (a : Option Addr) (n c : Nat) => Lib.run_eql_slice_nil (P := Tryd.prog) w 22 83 a n c 0 0 Tryd.underlying22
 cases a with
 | none =>
  have h0 : l.length = 0 := by
   rcases H.out.row.2.2 with ⟨a, c, h1, _, h2 | ⟨b, off, h2, _⟩⟩
   ·exact h2
   simp only [Value.slice.injEq] at h1; rw [h2] at h1; exact absurd h1.1 (by simp)
  have HL := Lib.hid (List.eq_nil_of_length_eq_zero h0)
  clear h0
  go_enter Tryd.func109, Tryd.ntmps109
  go_wp2
  go_ret
  exact ⟨_, rfl, by rw [HL.out]; exact ⟨World.ownsRow_nil _ _ _ _, by simp⟩, Ext.refl _ _⟩
 | some ad =>
  go_enter Tryd.func109, Tryd.ntmps109
  go_wp2_with (at_builtin; refine wpList_app _ rfl (.tmp 5) (.tmp 6) 22 rfl W.heap.size 83 i0 _ 1 8 Tryd.underlying22 hi hz0 hz1 hz2 rfl (by omega) _ 0 [] rfl (World.ownsRow_made W #[] 0 (Nat.le_refl _) (Nat.zero_le _) rfl) No (some ad) l.length cap (u64s l) rfl (Row.extNo H.out.row ((Ext.refl _ _).alloc _)) (u64s_one l) (by omega) (by omega) (by simp) ?_; intro v1 w1 hown hg hat)
  go_ret
  simp only [Nat.zero_add, List.nil_append] at hown
  exact ⟨_, rfl, ⟨hown, H.out.lt⟩, ((Ext.refl _ _).alloc _).grown hg (fun k hk hlt => by cases hk; exact absurd hlt (Nat.lt_irrefl _))⟩
theorem OwnW.shape {W : World} {base : Nat} {v : Value} {l : List Nat} (h : OwnW W base v l) (hn : l.length ≠ 0) : ∃ g cap, v = .slice (some ⟨g, 0, none⟩) l.length cap ∧ base ≤ g ∧ g < W.heap.size := by
 obtain ⟨h1, h2⟩ := h.own
 rcases h2 with ⟨_, h3⟩ | ⟨g, cap, cur, rfl, hb, hg, _⟩
 ·omega
 exact ⟨g, cap, rfl, hb, lt_of_block hg⟩
theorem OwnW.slice {W : World} {base : Nat} {v : Value} {l : List Nat} (h : OwnW W base v l) : ∃ a cap, v = .slice a l.length cap := (Row.ofOwns (M := No) h.own (fun _ _ x => x)).slice
theorem OwnW.at {W : World} {base g cap : Nat} {l : List Nat} (h : OwnW W base (.slice (some ⟨g, 0, none⟩) l.length cap) l) {i : Nat} (hi : i < l.length) : W.cell? ⟨g, i, none⟩ = some (.int .u64 (l[i] : Int)) := by
 rw [World.ownsRow.cellAt h.own i (by omega), u64s_get l i hi]
theorem OwnW.free {W : World} {base g cap : Nat} {l : List Nat} (h : OwnW W base (.slice (some ⟨g, 0, none⟩) l.length cap) l) (i : Nat) : W.frozen? ⟨g, i, none⟩ = false := World.ownsRow.frozenAt h.own i
theorem u64s_set (l : List Nat) (i n : Nat) : u64s (l.set i n) = (u64s l).set i (.int .u64 (n : Int)) := by simp [u64s, List.map_set]
theorem OwnW.set {W : World} {base g cap : Nat} {l : List Nat} (h : OwnW W base (.slice (some ⟨g, 0, none⟩) l.length cap) l) (i n : Nat) (hn : n < 2 ^ 64) : OwnW (W.setCell ⟨g, i, none⟩ (.int .u64 (n : Int))) base (.slice (some ⟨g, 0, none⟩) l.length cap) (l.set i n) :=
 ⟨by rw [List.length_set, u64s_set]; exact (World.ownsRow.stored (w := W) h.own i (.int .u64 (n : Int))).1, fun k hk => by
  rcases List.mem_or_eq_of_mem_set hk with h1 | rfl
  ·exact h.lt k h1
  exact hn⟩
theorem OwnW.ext {M : Nat → Prop} {W W' : World} {base : Nat} {v : Value} {l : List Nat} (h : OwnW W base v l) (hx : Ext M W W') (hM : ∀ i, base ≤ i → ¬ M i) : OwnW W' base v l := by
 refine ⟨?_, h.lt⟩
 obtain ⟨h1, h2⟩ := h.own
 refine ⟨h1, ?_⟩
 rcases h2 with h2 | ⟨g, cap, cur, hv, hb, hg, hr⟩
 ·exact .inl h2
 exact .inr ⟨g, cap, cur, hv, hb, (hx.block g (lt_of_block hg) (hM g hb)).trans hg, hr⟩
theorem OwnW.fin {M : Nat → Prop} {W0 W W' : World} {base w m : Nat} {v : Value} (h : OwnW W base v (wordsN w m)) (hb : W0.heap.size ≤ base) (hM : ∀ b, M b → b < W0.heap.size) (hx : Ext (Lo base) W W') (hw : w ≤ 256) (hm : m < 2 ^ w) : SetAt M W' v w m :=
 ⟨⟨Row.fin h.own hb hM hx, h.lt⟩, hw, hm⟩
theorem wordsN_zero (w : Nat) : wordsN w 0 = List.replicate (nw w) 0 := by
 refine List.ext_getElem (by simp [wordsN_len]) (fun i h1 h2 => ?_)
 rw [wordsN_get, wordN_zero, List.getElem_replicate]
theorem wordsN_with (w m b : Nat) (hb : b < w) : (wordsN w m).set (b / 64) (wordN m (b / 64) ||| 2 ^ (b % 64)) = wordsN w (m ||| 2 ^ b) := by
 refine List.ext_getElem (by simp [wordsN_len]) (fun i h1 h2 => ?_)
 rw [List.getElem_set, wordsN_get, wordsN_get, wordN_or, wordN_bit2]
 by_cases h : b / 64 = i
 ·rw [if_pos h, if_pos h.symm, h]
 rw [if_neg h, if_neg (Ne.symm h), Nat.or_zero]
theorem wordsN_without (w m b : Nat) (hb : b < w) : (wordsN w m).set (b / 64) (diffN (wordN m (b / 64)) (2 ^ (b % 64))) = wordsN w (diffN m (2 ^ b)) := by
 refine List.ext_getElem (by simp [wordsN_len]) (fun i h1 h2 => ?_)
 rw [List.getElem_set, wordsN_get, wordsN_get, wordN_diff, wordN_bit2]
 by_cases h : b / 64 = i
 ·rw [if_pos h, if_pos h.symm, h]
 rw [if_neg h, if_neg (Ne.symm h)]
 unfold diffN; simp
def p2 (k : Nat) : Nat := 2 ^ k
theorem p2_lt {k : Nat} (h : k < 64) : p2 k < 2 ^ 64 := Nat.pow_lt_pow_right (by decide) h
theorem shl_p2 {k : Nat} (h : k < 64) : IntKind.u64.wrap (2 ^ k) = (p2 k : Int) := by
 have := shl_one k h
 rw [Int.one_mul] at this
 exact this
def PutPost (base : Nat) (v : Value) (w m b : Nat) (g : Nat) (W : World) (e : Ending) (w' : World) : Prop := e = .returned (.tuple #[]) ∧ OwnW w' base v (wordsN w (m ||| 2 ^ b)) ∧ Ext (At g) W w' ∧ W.heap.size ≤ w'.heap.size
set_option maxHeartbeats 400000 in
theorem put_any (base g cap w m b : Nat) (hb : b < w) (hw : w ≤ 256) (W : World) (h : OwnW W base (.slice (some ⟨g, 0, none⟩) (nw w) cap) (wordsN w m)) (hg : g < W.heap.size) (hbg : base ≤ g) :
  Calls Tryd.prog 108 #[.agg #[.int .i64 (w : Int), .slice (some ⟨g, 0, none⟩) (nw w) cap], .int .i64 (b : Int)] W (PutPost base (.slice (some ⟨g, 0, none⟩) (nw w) cap) w m b g W) := by
 have hn : b / 64 < nw w := by unfold nw; omega
 have hl := wordsN_len w m
 rw [← hl] at h
 have hc := h.at (i := b / 64) (by rw [hl]; exact hn)
 have hf := h.free (b / 64)
 rw [wordsN_get] at hc
 have HS := Lib.hid (h.set (b / 64) (wordN m (b / 64) ||| p2 (b % 64)) (Nat.or_lt_two_pow (wordN_lt _ _) (p2_lt (Nat.mod_lt _ (by decide)))))
 rw [hl, show wordN m (b / 64) ||| p2 (b % 64) = wordN m (b / 64) ||| 2 ^ (b % 64) from rfl, wordsN_with w m b hb] at HS
 clear h hl
 have hk0 : (0 : Int) ≤ (b : Int) := by omega
 have hk2 : (b : Int) ≤ 256 := by omega
 have hu : IntKind.u64.wrap (b : Int) = b := wrapU b (by omega)
 have h64 : b % 64 < 64 := Nat.mod_lt _ (by decide)
 have hor := bits_or (wordN m (b / 64)) (p2 (b % 64)) (wordN_lt _ _) (p2_lt h64)
 have hsh := shl_p2 h64
 go_enter Tryd.func108, Tryd.ntmps108
 go_wp2_with fail
 go_end0
 exact ⟨rfl, OwnW.ext HS.out ((Ext.refl No _).alloc _) (fun _ _ x => x), ((Ext.refl (At g) _).setCell (p := ⟨g, _, none⟩) (fun _ => rfl) _).alloc _, by simp [World.setCell]⟩
def Also (M : Nat → Prop) (b : Nat) : Nat → Prop := fun k => M k ∨ k = b ∨ k = b + 1
theorem also_lt {M : Nat → Prop} {W : World} {o o' : Obj} (hM : ∀ b, M b → b < W.heap.size) : ∀ b, Also M W.heap.size b → b < ((W.alloc o).alloc o').heap.size := fun b h => by
 have e : ((W.alloc o).alloc o').heap.size = W.heap.size + 2 := by simp
 rcases h with h | rfl | rfl
 ·have := hM b h; omega
 ·omega
 omega
def Two (b : Nat) : Nat → Prop := fun k => k = b ∨ k = b + 1
theorem ext_set2 {W w1 : World} {u0 u1 : Value} (_ : Ext No W w1) : Ext (Two W.heap.size) w1 ((w1.setCell ⟨W.heap.size + 1, 0, none⟩ u0).setCell ⟨W.heap.size + 1, 1, none⟩ u1) :=
 ((Ext.refl (Two W.heap.size) _).setCell (p := ⟨W.heap.size + 1, 0, none⟩) (fun _ => .inr rfl) _).setCell (p := ⟨W.heap.size + 1, 1, none⟩) (fun _ => .inr rfl) _
theorem ext_two {W w1 : World} {u0 u1 : Value} (_ : Ext No W w1) (C : Nat) : Ext (At C) w1 ((w1.setCell ⟨C, 0, none⟩ u0).setCell ⟨C, 1, none⟩ u1) :=
 ((Ext.refl (At C) _).setCell (p := ⟨C, 0, none⟩) (fun _ => rfl) _).setCell (p := ⟨C, 1, none⟩) (fun _ => rfl) _
theorem SetAt.alsoBack {M : Nat → Prop} {W w' : World} {b w m : Nat} {sl : Value} (h : SetAt (Also M b) W sl w m) (hx : Ext (Two b) W w') : SetAt M w' sl w m :=
 (h.ext hx (fun i _ e => .inr e)).mono (fun i _ e => .inl e)
theorem alloc_lt {w : World} {o : Obj} {g : Nat} (h : (w.alloc o).drew.heap.size ≤ g) : w.heap.size < g := by
 have e : (w.alloc o).drew.heap.size = w.heap.size + 1 := by simp
 omega
theorem no_no {k : Nat} : ¬ No k := fun x => x
theorem keepA {w : World} {a : Addr} {v : Value} {o : Obj} (h : w.cell? a = some v) : (w.alloc o).cell? a = some v := ((Ext.refl No w).alloc o).keep h
theorem keepD {w : World} {a : Addr} {v : Value} (h : w.cell? a = some v) : w.drew.cell? a = some v := h
theorem keepS {w : World} {a b : Addr} {v u : Value} (hne : a.block ≠ b.block) (h : w.cell? a = some v) : (w.setCell b u).cell? a = some v := ((Ext.refl (At b.block) w).setCell (fun _ => rfl) u).keepM h hne
theorem keepS2 {w : World} {a : Addr} {v u0 u1 : Value} {D : Nat} (h : w.cell? a = some v) (hne : a.block ≠ D) : ((w.setCell ⟨D, 0, none⟩ u0).setCell ⟨D, 1, none⟩ u1).cell? a = some v := keepS hne (keepS hne h)
theorem ext2 {M : Nat → Prop} {a w : World} {u0 u1 : Value} {D : Nat} (h : Ext M a w) (hD : a.heap.size ≤ D) : Ext M a ((w.setCell ⟨D, 0, none⟩ u0).setCell ⟨D, 1, none⟩ u1) := (h.own hD _).own hD _
theorem keepN {w w' : World} {a : Addr} {v : Value} (hx : Ext No w w') (h : w.cell? a = some v) : w'.cell? a = some v := hx.keep h
theorem OwnW.shapeN {W : World} {base w m : Nat} {v : Value} (h : OwnW W base v (wordsN w m)) (hn : 0 < w) : ∃ g cap, v = .slice (some ⟨g, 0, none⟩) (nw w) cap ∧ base ≤ g ∧ g < W.heap.size := by
 obtain ⟨g, cap, h1, h2, h3⟩ := h.shape (by rw [wordsN_len]; unfold nw; omega)
 exact ⟨g, cap, by rw [h1, wordsN_len], h2, h3⟩
def ChMem (W : World) (w m : Nat) (s8 : Value) (wx : World) : Prop :=
 ∃ D g cap, s8 = .pointer (some ⟨D, 0, none⟩) ∧ wx.heap[D]? = some (.cells #[.int .i64 (w : Int), .slice (some ⟨g, 0, none⟩) (nw w) cap] 24 (0, 0)) ∧ OwnW wx (W.heap.size + 2) (.slice (some ⟨g, 0, none⟩) (nw w) cap) (wordsN w m) ∧ Ext No W wx ∧ W.heap.size + 1 < D ∧ D ≠ g ∧
  wx.heap[W.heap.size + 1]? = some (.cells #[.int .i64 0, .slice none 0 0] 24 (0, 0))
def SetEPost (M : Nat → Prop) (w m : Nat) (W : World) (e : Ending) (w' : World) : Prop :=
 ∃ a c, e = .returned (.tuple #[.agg #[.int .i64 (w : Int), .slice a (nw w) c], .int .i64 0]) ∧ Hid (SetAt M w' (.slice a (nw w) c) w m) ∧ Ext No W w'
def SetPost (M : Nat → Prop) (w m : Nat) (W : World) (e : Ending) (w' : World) : Prop :=
 ∃ a c, e = .returned (.agg #[.int .i64 (w : Int), .slice a (nw w) c]) ∧ Hid (SetAt M w' (.slice a (nw w) c) w m) ∧ Ext No W w'
theorem ChMem.late {W w3 : World} {w m base g cap : Nat} (hx : Ext No W w3) (ho : OwnW w3 base (.slice (some ⟨g, 0, none⟩) (nw w) cap) (wordsN w m)) (hb : W.heap.size + 2 ≤ base) (hC : w3.heap[W.heap.size + 1]? = some (.cells #[.int .i64 0, .slice none 0 0] 24 (0, 0))) (hg : g < w3.heap.size) :
  ChMem W w m (.pointer (some ⟨w3.heap.size, 0, none⟩)) (w3.alloc (.cells #[.int .i64 (w : Int), .slice (some ⟨g, 0, none⟩) (nw w) cap] 24)) := by
 have hc := lt_of_block hC
 refine ⟨_, g, cap, rfl, alloc_top rfl, ?_, hx.alloc _, hc, by omega, alloc_under hC⟩
 have h2 := ho.ext (M := No) ((Ext.refl _ _).alloc (.cells #[.int .i64 (w : Int), .slice (some ⟨g, 0, none⟩) (nw w) cap] 24)) (fun _ _ x => x)
 exact ⟨World.ownsRow.mono h2.own hb, h2.lt⟩
theorem ChMem.early {W w2 w3 : World} {w m base g cap : Nat} (hx : Ext No W w3) (ho : OwnW w3 base (.slice (some ⟨g, 0, none⟩) (nw w) cap) (wordsN w m)) (hD : W.heap.size + 1 < w2.heap.size) (hC : w3.heap[W.heap.size + 1]? = some (.cells #[.int .i64 0, .slice none 0 0] 24 (0, 0))) (hz : w3.heap[w2.heap.size]? = some (.cells #[.int .i64 0, .slice none 0 0] 24 (0, 0))) (hg : w2.heap.size < g) :
  ChMem W w m (.pointer (some ⟨w2.heap.size, 0, none⟩)) ((w3.setCell ⟨w2.heap.size, 0, none⟩ (.int .i64 (w : Int))).setCell ⟨w2.heap.size, 1, none⟩ (.slice (some ⟨g, 0, none⟩) (nw w) cap)) := by
 have e1 := set_same (j := 1) (u := .slice (some ⟨g, 0, none⟩) (nw w) cap) (set_same (j := 0) (u := .int .i64 (w : Int)) hz)
 have hx2 : Ext (At w2.heap.size) w3 ((w3.setCell ⟨w2.heap.size, 0, none⟩ (.int .i64 (w : Int))).setCell ⟨w2.heap.size, 1, none⟩ (.slice (some ⟨g, 0, none⟩) (nw w) cap)) := ((Ext.refl (At w2.heap.size) _).setCell (p := ⟨w2.heap.size, 0, none⟩) (fun _ => rfl) _).setCell (p := ⟨w2.heap.size, 1, none⟩) (fun _ => rfl) _
 refine ⟨_, g, cap, rfl, e1.trans rfl, ?_, (hx.own (by simp only; omega) _).own (by simp only; omega) _, hD, by omega, hx2.blk hC (by unfold At; omega)⟩
 have hbase : base ≤ g := (World.ownsRow.lt ho.own g rfl).1
 have h2 : OwnW w3 g (.slice (some ⟨g, 0, none⟩) (nw w) cap) (wordsN w m) := by
  refine ⟨?_, ho.lt⟩
  obtain ⟨h1, h2⟩ := ho.own
  refine ⟨h1, ?_⟩
  rcases h2 with ⟨h2, _⟩ | ⟨g', cap', cur, hv, hb, hg', hr⟩
  ·simp at h2
  simp only [Value.slice.injEq, Option.some.injEq, Addr.mk.injEq] at hv
  obtain ⟨⟨rfl, _⟩, _, rfl⟩ := hv
  exact .inr ⟨g, cap, cur, by rw [wordsN_len], Nat.le_refl _, hg', hr⟩
 have h3 := h2.ext hx2 (fun i hi => by unfold At; omega)
 exact ⟨World.ownsRow.mono h3.own (by omega), h3.lt⟩
section
variable {W : World} {base g cap w m : Nat}
theorem OwnW.at' (h : OwnW W base (.slice (some ⟨g, 0, none⟩) (nw w) cap) (wordsN w m)) {i : Nat} (hi : i < nw w) : W.cell? ⟨g, i, none⟩ = some (.int .u64 (wordN m i : Int)) := by
 have hl := wordsN_len w m
 rw [← hl] at h
 rw [h.at (i := i) (by rw [hl]; exact hi), wordsN_get]
theorem OwnW.free' (h : OwnW W base (.slice (some ⟨g, 0, none⟩) (nw w) cap) (wordsN w m)) (i : Nat) : W.frozen? ⟨g, i, none⟩ = false := by
 rw [← wordsN_len w m] at h
 exact h.free i
theorem OwnW.set' (h : OwnW W base (.slice (some ⟨g, 0, none⟩) (nw w) cap) (wordsN w m)) (i n : Nat) (hn : n < 2 ^ 64) : OwnW (W.setCell ⟨g, i, none⟩ (.int .u64 (n : Int))) base (.slice (some ⟨g, 0, none⟩) (nw w) cap) ((wordsN w m).set i n) := by
 rw [← wordsN_len w m] at h ⊢
 exact h.set i n hn
theorem OwnW.low (h : OwnW W base (.slice (some ⟨g, 0, none⟩) (nw w) cap) (wordsN w m)) : base ≤ g := (World.ownsRow.lt h.own g rfl).1
theorem OwnW.lt' (h : OwnW W base (.slice (some ⟨g, 0, none⟩) (nw w) cap) (wordsN w m)) : g < W.heap.size := (World.ownsRow.lt h.own g rfl).2
end
theorem ext_at {W wx : World} (_ : Ext No W wx) (g o : Nat) (u : Value) : Ext (At g) wx (wx.setCell ⟨g, o, none⟩ u) := (Ext.refl (At g) _).setCell (p := ⟨g, o, none⟩) (fun _ => rfl) _
theorem with_without (m b : Nat) : diffN m (2 ^ b) ||| 2 ^ b = m ||| 2 ^ b := Nat.eq_of_testBit_eq fun j => by
 rw [Nat.testBit_or, Nat.testBit_or, diffN_bit]
 cases m.testBit j <;> cases (2 ^ b).testBit j <;> rfl
set_option maxRecDepth 100000 in
set_option maxHeartbeats 2000000 in
theorem changed_any (M : Nat → Prop) (w m b : Nat) (sl : Value) (W : World) (hM : ∀ b, M b → b < W.heap.size) (hb : b < w) (h : SetAt No W sl w m) :
  Calls Tryd.prog 107 #[.agg #[.int .i64 (w : Int), sl], .int .i64 (b : Int), .bool true] W (SetEPost M w (m ||| 2 ^ b) W) := by
 have H := Lib.hid h
 obtain ⟨a, c, rfl⟩ := h.slice
 have hv := validB_set h.hw h.hm
 have hw := h.hw
 have hm := h.hm
 clear h
 have hpos : 0 < w := by omega
 have hin : inB (setN w m).width b = true := decide_eq_true ⟨by omega, by show (b : Int) < (w : Int); omega⟩
 go_enter Tryd.func107, Tryd.ntmps107
 go_wp2_with fail
 refine (valid_any _ (setN w m) _ (H.out.raw.extNo (((Ext.refl _ _).alloc _).alloc _))).mono ?_
 rintro e1 w1 ⟨rfl, hx1⟩
 rw [hv]
 have hB := hx1.blk (alloc_under (alloc_top (w := W) rfl)) (fun x => x.elim)
 have hC := hx1.blk (n := W.heap.size + 1) (alloc_top (by simp)) (fun x => x.elim)
 have hxa : Ext No W w1 := (((Ext.refl _ _).alloc _).alloc _).transNo hx1
 have cB := cellOf hB
 clear hx1
 go_wp2_with fail
 refine (within_any _ (setN w m) b _ (H.out.raw.extNo hxa)).mono ?_
 rintro e2 w2 ⟨rfl, hx2⟩
 rw [hin]
 replace hB := hx2.blk hB (fun x => x.elim)
 replace hC := hx2.blk hC (fun x => x.elim)
 replace hxa := hxa.transNo hx2
 clear hx2 cB
 have cB := cellOf hB
 have hszC := lt_of_block hC
 go_wp2_with fail
 go_cut [8] (fun s8 wx => ChMem W w m s8 wx)
 case first =>
  have l0 : w2.cell? ⟨W.heap.size, 0, none⟩ = some (.int .i64 (w : Int)) := cB 0
  have l1 : w2.cell? ⟨W.heap.size, 1, none⟩ = some (.slice a (nw w) c) := cB 1
  have l2 : Ext No w2 w2 := Ext.refl _ _
  have HSD : Hid (w2.heap.size = w2.drew.heap.size) := Lib.hid rfl
  have hltB : W.heap.size < w2.heap.size := by omega
  have hszE : W.heap.size + 2 ≤ w2.drew.heap.size := hszC
  go_region_held3 (fun w' => w'.cell? ⟨W.heap.size, 0, none⟩ = some (.int .i64 (w : Int)) ∧ w'.cell? ⟨W.heap.size, 1, none⟩ = some (.slice a (nw w) c) ∧ Ext No w2 w')
   ((go_split_ands; refine ⟨?_, ?_, ?_⟩; (first | ((with_reducible refine keepS2 ?_ ?_); (first | (with_reducible assumption) | (with_reducible exact keepN hyA (by with_reducible assumption))); (exact Nat.ne_of_lt hltB)) | (with_reducible assumption) | (with_reducible exact keepD (by with_reducible assumption)) | (with_reducible exact keepA (by with_reducible assumption)) | (with_reducible exact keepD (keepA (by with_reducible assumption))) | (with_reducible exact keepA (keepD (by with_reducible assumption))) | (with_reducible exact keepN hyA (by with_reducible assumption)) | (with_reducible exact keepA (keepN hyA (by with_reducible assumption)))); (first | ((with_reducible refine keepS2 ?_ ?_); (first | (with_reducible assumption) | (with_reducible exact keepN hyA (by with_reducible assumption))); (exact Nat.ne_of_lt hltB)) | (with_reducible assumption) | (with_reducible exact keepD (by with_reducible assumption)) | (with_reducible exact keepA (by with_reducible assumption)) | (with_reducible exact keepD (keepA (by with_reducible assumption))) | (with_reducible exact keepA (keepD (by with_reducible assumption))) | (with_reducible exact keepN hyA (by with_reducible assumption)) | (with_reducible exact keepA (keepN hyA (by with_reducible assumption)))); (first | ((with_reducible refine ext2 ?_ ?_); (first | (with_reducible assumption) | (with_reducible exact Ext.transNo (by with_reducible assumption) hyA)); (exact Nat.le_refl _)) | (with_reducible assumption) | (with_reducible exact Ext.drew (by with_reducible assumption)) | (with_reducible exact Ext.alloc (by with_reducible assumption) _) | (with_reducible exact Ext.drew (Ext.alloc (by with_reducible assumption) _)) | (with_reducible exact Ext.transNo (by with_reducible assumption) hyA) | (with_reducible exact Ext.alloc (Ext.transNo (by with_reducible assumption) hyA) _))))
   (first | ((go_at_call 109); (try go_split_ands); (with_reducible refine (clone_any _ (wordsN w m) _ ?_ ?_).mono ?_); (exact H.out.words.extNo (hxa.transNo (by with_reducible assumption))); (rw [wordsN_len]; unfold nw; omega); (rintro e3 w3 ⟨v3, rfl, hown, hyA⟩); (obtain ⟨g, gcap, hsl, hbg, hgw⟩ := hown.shapeN hpos); (subst hsl); (have hx3 := Lib.hid (Ext.transNo (show Ext No w2 _ from by with_reducible assumption) hyA)); (first | ((with_reducible have hi := hyA.blk (alloc_top (n := w2.heap.size) (w := w2.drew) (o := .cells #[.int .i64 0, .slice none 0 0] 24) HSD.out) no_no); (have HD := Lib.hid hi); (have cD := cellOf hi); (have fD := freeOf hi); (clear hi); (have hbg2 := alloc_lt hbg)) | skip)))
  all_goals
   go_wp2_with fail
   go_meet
   first
   | (with_reducible exact ChMem.late (hxa.transNo hx3.out) hown hszE (Ext.blk hx3.out hC no_no) hgw)
   | (with_reducible exact ChMem.early (hxa.transNo hx3.out) hown hszC (Ext.blk hx3.out hC no_no) HD.out hbg2)
 case rest =>
  obtain ⟨D, g, cap, rfl, hD, hown, hx, hBD, hDg, hC3⟩ := hcut
  clear hxa hB hC hszC cB
  have hl := wordsN_len w m
  have hn : b / 64 < nw w := by unfold nw; omega
  have HO := Lib.hid (hown.set' (b / 64) (diffN (wordN m (b / 64)) (p2 (b % 64))) (diffN_lt (wordN_lt _ _)))
  rw [show diffN (wordN m (b / 64)) (p2 (b % 64)) = diffN (wordN m (b / 64)) (2 ^ (b % 64)) from rfl, wordsN_without w m b hb] at HO
  have hc := hown.at' hn
  have hf := hown.free' (b / 64)
  have hbg : W.heap.size + 2 ≤ g := hown.low
  have hgw := hown.lt'
  clear hown
  have hk0 : (0 : Int) ≤ (b : Int) := by omega
  have hk2 : (b : Int) ≤ 256 := by omega
  have hu : IntKind.u64.wrap (b : Int) = b := wrapU b (by omega)
  have h64 : b % 64 < 64 := Nat.mod_lt _ (by decide)
  have hsh := shl_p2 h64
  have hand := bits_andNot (wordN m (b / 64)) (p2 (b % 64)) (wordN_lt _ _)
  have cD := cellOf hD
  have hDg' : ¬ D = g := hDg
  have hgD' : ¬ g = D := fun e => hDg e.symm
  go_wp2_with fail
  have hx4 := ext_at hx g (b / 64) (.int .u64 (diffN (wordN m (b / 64)) (p2 (b % 64)) : Nat))
  refine (put_any (W.heap.size + 2) g cap w (diffN m (2 ^ b)) b hb hw _ HO.out (by simp [World.setCell]; exact hgw) hbg).mono ?_
  rintro e5 w5 ⟨rfl, ho5, hx5, hs5⟩
  rw [with_without] at ho5
  have hx6 := hx4.trans hx5
  have hD5 := hx6.blk hD hDg
  have hC5 := hx6.blk hC3 (by unfold At; omega)
  have hx7 : Ext No W w5 := hx.trans2 hx6 (fun i hi e => by unfold At at e; omega)
  have HO5 := Lib.hid ho5
  have hm2 : m ||| 2 ^ b < 2 ^ w := orN_lt hm (bitN_lt hb)
  clear cD hD hC3 hx hx4 hx5 hx6 ho5 HO hc hf hs5
  have cD := cellOf hD5
  have cC := cellOf hC5
  have fC := freeOf hC5
  go_wp2_with fail
  refine ret_ex rfl ?_
  simp [results, Tryd.results107, go_sem, cC]
  refine ⟨_, _, rfl, Lib.hid (HO5.out.fin (W0 := W) (by omega) hM ?_ hw hm2), ?_⟩
  ·exact ((Ext.refl (Lo (W.heap.size + 2)) _).setCell (p := ⟨W.heap.size + 1, 0, none⟩) (fun _ => Nat.lt_succ_self _) _).setCell (p := ⟨W.heap.size + 1, 1, none⟩) (fun _ => Nat.lt_succ_self _) _
  exact ext2 hx7 (by omega)
end Go.Proofs.YtmddchceacmopaaDoor
namespace Go.Proofs.YtmddchceacmopaaDoor
open Go Go.RowKit
set_option maxRecDepth 100000 in
set_option maxHeartbeats 1000000 in
theorem with_any (M : Nat → Prop) (w m b : Nat) (sl : Value) (W : World) (hM : ∀ b, M b → b < W.heap.size) (hb : b < w) (h : SetAt No W sl w m) :
  Calls Tryd.prog 93 #[.agg #[.int .i64 (w : Int), sl], .int .i64 (b : Int)] W (SetEPost M w (m ||| 2 ^ b) W) := by
 have H := Lib.hid h
 obtain ⟨a, c, rfl⟩ := h.slice
 clear h
 go_enter Tryd.func93, Tryd.ntmps93
 go_wp2_with fail
 refine (changed_any (Also M W.heap.size) w m b _ _ (also_lt hM) hb (H.out.extNo (((Ext.refl _ _).alloc _).alloc _))).mono ?_
 rintro e1 w1 ⟨a1, c1, rfl, hs1, hx1⟩
 have hC := hx1.blk (n := W.heap.size + 1) (alloc_top (by simp)) (fun x => x.elim)
 have hxa : Ext No W w1 := (((Ext.refl _ _).alloc _).alloc _).transNo hx1
 have cC := cellOf hC
 have fC := freeOf hC
 clear hx1
 go_wp2_with fail
 refine ret_ex rfl ?_
 simp [results, Tryd.results93, go_sem, cC]
 exact ⟨_, _, rfl, Lib.hid (hs1.out.alsoBack (ext_set2 hxa)), ext2 hxa (by omega)⟩
theorem diff1_any (x y : Nat) (hx : x < 2 ^ 64) (_ : y < 2 ^ 64) (W : World) : Calls Tryd.prog 105 #[.int .u64 (x : Int), .int .u64 (y : Int)] W fun e w' => e = .returned (.int .u64 (diffN x y : Nat)) ∧ W = w' := by
 have h := bits_andNot x y hx
 go_enter Tryd.func105, Tryd.ntmps105
 go_wp2
 go_ret
 exact ⟨rfl, rfl⟩
theorem union1_any (x y : Nat) (hx : x < 2 ^ 64) (hy : y < 2 ^ 64) (W : World) : Calls Tryd.prog 60 #[.int .u64 (x : Int), .int .u64 (y : Int)] W fun e w' => e = .returned (.int .u64 ((x ||| y : Nat) : Int)) ∧ W = w' := by
 have h := bits_or x y hx hy
 go_enter Tryd.func60, Tryd.ntmps60
 go_wp2
 go_ret
 exact ⟨rfl, rfl⟩
end Go.Proofs.YtmddchceacmopaaDoor
namespace Go.Proofs.YtmddchceacmopaaDoor
open Go Go.RowKit
def zeroW (n : Nat) : Array Value := madeCells (Value.cells (.int .u64 0)) (n * 1)
theorem zeroW_list (n : Nat) : (zeroW n).toList = u64s (List.replicate n 0) := by
 refine List.ext_getElem? (fun i => ?_)
 simp only [zeroW, madeCells, u64s, List.map_replicate]
 by_cases h : i < n
 ·simp [h, Value.cells, Nat.mod_one]
 simp [h]
theorem mk_words (n : Nat) (hn : n ≤ 1000) (w : World) : (Instr.makeSlice 22 (.int .i64 (n : Int)) (.int .i64 (n : Int))).run Tryd.prog w = .ok (.slice (some ⟨w.heap.size, 0, none⟩) n n) (w.alloc (.cells (zeroW n) 83)) := by
 obtain ⟨i, hi, hz0, hz1, hz2⟩ := info_parts infoW
 have h := run_makeSlice (P := Tryd.prog) w 22 83 i _ Tryd.underlying22 hi hz0 .i64 .i64 n n (by omega) (Int.le_refl _) (by rw [hz1]; simp; omega) (by rw [hz2]; omega) (by omega)
 simp only [Int.toNat_natCast, hz1] at h
 exact h
theorem OwnW.zero {W : World} {base w : Nat} (hb : base ≤ W.heap.size) (hw : w ≤ 256) : OwnW (W.alloc (.cells (zeroW (nw w)) 83)) base (.slice (some ⟨W.heap.size, 0, none⟩) (nw w) (nw w)) (wordsN w 0) := by
 have h := World.ownsRow_lit (base := base) (e := 83) (size := 1) W (zeroW (nw w)) (nw w) hb (by simp only [maxLen]; unfold nw; omega) (by simp [zeroW, madeCells])
 rw [zeroW_list, ← wordsN_zero] at h
 exact ⟨by rw [wordsN_len]; exact h, wordsN_lt w 0⟩
def partW (op : Nat → Nat → Nat) (w m k i : Nat) : List Nat := (List.range (nw w)).map fun j => if j < i then op (wordN m j) (wordN k j) else 0
theorem partW_len (op : Nat → Nat → Nat) (w m k i : Nat) : (partW op w m k i).length = nw w := by simp [partW]
theorem partW_zero (op : Nat → Nat → Nat) (w m k : Nat) : partW op w m k 0 = wordsN w 0 := by
 refine List.ext_getElem (by simp [partW_len, wordsN_len]) (fun i h1 h2 => ?_)
 rw [wordsN_get, wordN_zero]; simp [partW]
theorem partW_succ (op : Nat → Nat → Nat) (w m k i : Nat) : (partW op w m k i).set i (op (wordN m i) (wordN k i)) = partW op w m k (i + 1) := by
 refine List.ext_getElem (by simp [partW_len]) (fun j h1 h2 => ?_)
 rw [List.getElem_set]
 simp only [partW, List.getElem_map, List.getElem_range]
 by_cases h : i = j
 ·subst h; simp
 rw [if_neg h]
 by_cases h3 : j < i
 ·rw [if_pos h3, if_pos (by omega)]
 rw [if_neg h3, if_neg (by omega)]
theorem partW_all {op opm : Nat → Nat → Nat} (h : ∀ a b i, wordN (opm a b) i = op (wordN a i) (wordN b i)) (w m k : Nat) : partW op w m k (nw w) = wordsN w (opm m k) := by
 refine List.ext_getElem (by simp [partW_len, wordsN_len]) (fun i h1 h2 => ?_)
 rw [wordsN_get, h]
 rw [partW_len] at h1
 simp [partW, h1]
structure MergeMem (W : World) (op : Nat → Nat → Nat) (w m k D g i : Nat) (s1 s2 : Value) (wr : World) : Prop where
 ext : Ext No W wr
 boxA : wr.heap[W.heap.size]? = some (.cells #[.int .i64 (w : Int), s1] 24 (0, 0))
 boxB : wr.heap[W.heap.size + 1]? = some (.cells #[.int .i64 (w : Int), s2] 24 (0, 0))
 boxC : wr.heap[W.heap.size + 2]? = some (.cells #[.int .i64 0, .slice none 0 0] 24 (0, 0))
 boxD : wr.heap[D]? = some (.cells #[.int .i64 (w : Int), .slice (some ⟨g, 0, none⟩) (nw w) (nw w)] 24 (0, 0))
 own : OwnW wr (W.heap.size + 3) (.slice (some ⟨g, 0, none⟩) (nw w) (nw w)) (partW op w m k i)
 big : W.heap.size + 2 < D
 ne : D ≠ g
 low : W.heap.size + 3 ≤ g
theorem MergeMem.mk1 {W w2 : World} (op : Nat → Nat → Nat) {w : Nat} (m k : Nat) {s1 s2 : Value} (hx : Ext No W w2) (hA : w2.heap[W.heap.size]? = some (.cells #[.int .i64 (w : Int), s1] 24 (0, 0))) (hB : w2.heap[W.heap.size + 1]? = some (.cells #[.int .i64 (w : Int), s2] 24 (0, 0)))
  (hC : w2.heap[W.heap.size + 2]? = some (.cells #[.int .i64 0, .slice none 0 0] 24 (0, 0))) (hw : w ≤ 256) :
  ∃ D g, Value.pointer (some ⟨w2.heap.size + 1, 0, none⟩) = .pointer (some ⟨D, 0, none⟩) ∧ MergeMem W op w m k D g 0 s1 s2 ((w2.alloc (.cells (zeroW (nw w)) 83)).alloc (.cells #[.int .i64 (w : Int), .slice (some ⟨w2.heap.size, 0, none⟩) (nw w) (nw w)] 24)).drew := by
 have hs := lt_of_block hC
 refine ⟨w2.heap.size + 1, w2.heap.size, rfl, ((hx.alloc _).alloc _).drew, alloc_under (alloc_under hA), alloc_under (alloc_under hB), alloc_under (alloc_under hC), alloc_top (by simp), ?_, by omega, by omega, hs⟩
 rw [partW_zero]
 exact ((OwnW.zero (base := W.heap.size + 3) hs hw).ext (M := No) ((Ext.refl _ _).alloc _) (fun _ _ x => x)).ext (M := No) (Ext.refl _ _).drew (fun _ _ x => x)
theorem MergeMem.mk2 {W w2 : World} (op : Nat → Nat → Nat) {w : Nat} (m k : Nat) {s1 s2 : Value} (hx : Ext No W w2) (hA : w2.heap[W.heap.size]? = some (.cells #[.int .i64 (w : Int), s1] 24 (0, 0))) (hB : w2.heap[W.heap.size + 1]? = some (.cells #[.int .i64 (w : Int), s2] 24 (0, 0)))
  (hC : w2.heap[W.heap.size + 2]? = some (.cells #[.int .i64 0, .slice none 0 0] 24 (0, 0))) (hw : w ≤ 256) :
  ∃ D g, Value.pointer (some ⟨w2.heap.size, 0, none⟩) = .pointer (some ⟨D, 0, none⟩) ∧ MergeMem W op w m k D g 0 s1 s2 ((w2.alloc (.cells #[.int .i64 (w : Int), .slice (some ⟨w2.heap.size + 1, 0, none⟩) (nw w) (nw w)] 24)).alloc (.cells (zeroW (nw w)) 83)).drew := by
 have hs := lt_of_block hC
 refine ⟨w2.heap.size, w2.heap.size + 1, rfl, ((hx.alloc _).alloc _).drew, alloc_under (alloc_under hA), alloc_under (alloc_under hB), alloc_under (alloc_under hC), alloc_under (alloc_top rfl), ?_, by omega, by omega, by omega⟩
 rw [partW_zero]
 have h := OwnW.zero (W := w2.alloc (.cells #[.int .i64 (w : Int), .slice (some ⟨w2.heap.size + 1, 0, none⟩) (nw w) (nw w)] 24)) (base := W.heap.size + 3) (by simp; omega) hw
 have e : (w2.alloc (.cells #[.int .i64 (w : Int), .slice (some ⟨w2.heap.size + 1, 0, none⟩) (nw w) (nw w)] 24)).heap.size = w2.heap.size + 1 := by simp
 rw [e] at h
 exact h.ext (M := No) (Ext.refl _ _).drew (fun _ _ x => x)
section
variable {W wr : World} {op : Nat → Nat → Nat} {w m k D g j : Nat} {s1 s2 : Value}
theorem MergeMem.drewN (h : MergeMem W op w m k D g j s1 s2 wr) (n : Nat) : MergeMem W op w m k D g j s1 s2 (wr.drewN n) :=
 ⟨h.ext.drewN n, h.boxA, h.boxB, h.boxC, h.boxD, h.own.ext (M := No) ((Ext.refl _ _).drewN n) (fun _ _ x => x), h.big, h.ne, h.low⟩
theorem MergeMem.free (h : MergeMem W op w m k D g j s1 s2 wr) (i : Nat) : wr.frozen? ⟨g, i, none⟩ = false := by
 have := h.own
 rw [← partW_len op w m k j] at this
 exact this.free i
theorem MergeMem.cellG (h : MergeMem W op w m k D g j s1 s2 wr) {i : Nat} (hi : i < nw w) : ∃ u, wr.cell? ⟨g, i, none⟩ = some u := by
 have := h.own
 rw [← partW_len op w m k j] at this
 exact ⟨_, this.at (i := i) (by rw [partW_len]; exact hi)⟩
theorem MergeMem.store (h : MergeMem W op w m k D g j s1 s2 wr) (_ : j < nw w) (hlt : op (wordN m j) (wordN k j) < 2 ^ 64) : MergeMem W op w m k D g (j + 1) s1 s2 (wr.setCell ⟨g, j, none⟩ (.int .u64 (op (wordN m j) (wordN k j) : Nat))) := by
 have h1 := h.low
 have h2 := h.big
 have h3 := h.ne
 have ho := h.own
 rw [← partW_len op w m k j] at ho
 have hs := ho.set j (op (wordN m j) (wordN k j)) hlt
 rw [partW_succ, partW_len] at hs
 refine ⟨h.ext.own (by simp only; omega) _, set_other h.boxA (by simp only; omega), set_other h.boxB (by simp only; omega), set_other h.boxC (by simp only; omega), set_other h.boxD (by simpa using h3), hs, h2, h3, h1⟩
end
end Go.Proofs.YtmddchceacmopaaDoor
namespace Go.Proofs.YtmddchceacmopaaDoor
open Go Go.RowKit
def orN (a b : Nat) : Nat := a ||| b
theorem wordN_orN (a b i : Nat) : wordN (orN a b) i = orN (wordN a i) (wordN b i) := wordN_or a b i
theorem orN_lt' {a b w : Nat} (h : a < 2 ^ w) (h2 : b < 2 ^ w) : orN a b < 2 ^ w := Nat.or_lt_two_pow h h2
set_option maxRecDepth 100000 in
set_option maxHeartbeats 2000000 in
theorem merge_diff (M : Nat → Prop)
  (w m k : Nat) (s1 s2 : Value) (W : World) (hM : ∀ b, M b → b < W.heap.size) (h1 : SetAt No W s1 w m) (h2 : SetAt No W s2 w k) :
  Calls Tryd.prog 59 #[.agg #[.int .i64 (w : Int), s1], .agg #[.int .i64 (w : Int), s2], .func (.func 105) #[] #[]] W (SetEPost M w ((diffN m k)) W) := by
 have H1 := Lib.hid h1
 have H2 := Lib.hid h2
 obtain ⟨a1, c1, rfl⟩ := h1.slice
 obtain ⟨a2, c2, rfl⟩ := h2.slice
 have hv1 := validB_set h1.hw h1.hm
 have hv2 := validB_set h2.hw h2.hm
 have hw := h1.hw
 have hm2 := Lib.hid (diffN_lt (b := k) h1.hm)
 have HM := Lib.hid hM
 clear h1 h2 hM
 go_enter Tryd.func59, Tryd.ntmps59
 go_wp2_with fail
 refine (valid_any _ (setN w m) _ (H1.out.raw.extNo ((((Ext.refl _ _).alloc _).alloc _).alloc _))).mono ?_
 rintro e1 w1 ⟨rfl, hx1⟩
 rw [hv1]
 have hA := hx1.blk (alloc_under (alloc_under (alloc_top (w := W) rfl))) no_no
 have hB := hx1.blk (n := W.heap.size + 1) (alloc_under (alloc_top (by simp))) no_no
 have hC := hx1.blk (n := W.heap.size + 2) (alloc_top (by simp)) no_no
 have hxa : Ext No W w1 := ((((Ext.refl _ _).alloc _).alloc _).alloc _).transNo hx1
 have cB := cellOf hB
 clear hx1
 go_wp2_with fail
 refine (valid_any _ (setN w k) _ (H2.out.raw.extNo hxa)).mono ?_
 rintro e2 w2 ⟨rfl, hx2⟩
 rw [hv2]
 replace hA := hx2.blk hA no_no
 replace hB := hx2.blk hB no_no
 replace hC := hx2.blk hC no_no
 replace hxa := hxa.transNo hx2
 clear hx2 cB
 have cA := cellOf hA
 have cB := cellOf hB
 have hszC := lt_of_block hC
 have hltA : W.heap.size < w2.heap.size := by omega
 have hltB : W.heap.size + 1 < w2.heap.size := by omega
 have hmk := mk_words (nw w) (by unfold nw; omega)
 go_wp2_with fail
 go_cut [8] (fun s8 wx => ∃ D g, s8 = .pointer (some ⟨D, 0, none⟩) ∧ MergeMem W (diffN) w m k D g 0 (.slice a1 (nw w) c1) (.slice a2 (nw w) c2) wx)
 case first =>
  go_region
  all_goals
   go_wp2_with fail
   go_meet
   first
   | exact MergeMem.mk1 (diffN) m k hxa hA hB hC hw
   | exact MergeMem.mk2 (diffN) m k hxa hA hB hC hw
 case rest =>
  obtain ⟨D, g, rfl, hm⟩ := hcut
  clear hA hB hC hxa cA cB hszC hltA hltB hmk
  have HMM := Lib.hid hm
  have cD := cellOf hm.boxD
  clear hm
  go_wp2_with fail
  go_loopw [37] (fun i wr => ∃ j : Nat, j ≤ nw w ∧ i = .int .i64 j ∧ Hid (MergeMem W (diffN) w m k D g j (.slice a1 (nw w) c1) (.slice a2 (nw w) c2) wr)) (fun i _ => nw w - (intOf i).toNat)
  case atStart => exact ⟨0, Nat.zero_le _, rfl, HMM⟩
  clear HMM cD
  obtain ⟨j, hj, rfl, hm⟩ := hrel
  have cA := cellOf hm.out.boxA
  have cB := cellOf hm.out.boxB
  have cD := cellOf hm.out.boxD
  by_cases hlt : j < nw w
  ·obtain ⟨b1, o1, p1, hsl, _, _, hc1⟩ := H1.out.at (by omega)
   simp only [Value.slice.injEq] at hsl
   obtain ⟨rfl, _, rfl⟩ := hsl
   obtain ⟨b2, o2, p2, hsl, _, _, hc2⟩ := H2.out.at (by omega)
   simp only [Value.slice.injEq] at hsl
   obtain ⟨rfl, _, rfl⟩ := hsl
   have hx1 := hm.out.ext.keep (hc1 j hlt)
   have hx2 := hm.out.ext.keep (hc2 j hlt)
   have hf := hm.out.free j
   have hcg := hm.out.cellG hlt
   have HS := Lib.hid (hm.out.store hlt (diffN_lt (wordN_lt m j)))
   clear hc1 hc2
   have hnw : nw w ≤ 5 := by unfold nw; omega
   have hj0 : (0 : Int) ≤ (j : Int) := by omega
   have hj1 : (j : Int) < (nw w : Int) := by omega
   go_wp2_with fail
   go_still_tail 16, (by kernel_rfl)
   still_call ((diff1_any _ _ (wordN_lt m j) (wordN_lt k j) _).mono (fun _ _ h => ⟨h.1, h.2.symm⟩))
   repeat still_step
   try refine wpStill_nil ?_
   obtain ⟨ug, hug⟩ := hcg
   go_wp2_with fail
   go_roundw
   case rel => exact ⟨j + 1, by omega, by go_num, Lib.hid (HS.out.drewN _)⟩
   case measure => simp [intOf]; omega
  obtain rfl : j = nw w := by omega
  have cC := cellOf hm.out.boxC
  have fC := freeOf hm.out.boxC
  have ho := hm.out.own
  rw [partW_all wordN_diff] at ho
  have HO := Lib.hid ho
  clear ho
  go_wp2_with fail
  refine ret_ex rfl ?_
  simp [results, Tryd.results59, go_sem, cC]
  refine ⟨_, _, rfl, Lib.hid (HO.out.fin (W0 := W) (by omega) HM.out ?_ hw hm2.out), ?_⟩
  ·exact ((Ext.refl (Lo (W.heap.size + 3)) _).setCell (p := ⟨W.heap.size + 2, 0, none⟩) (fun _ => Nat.lt_succ_self _) _).setCell (p := ⟨W.heap.size + 2, 1, none⟩) (fun _ => Nat.lt_succ_self _) _
  exact ext2 hm.out.ext (by omega)
set_option maxRecDepth 100000 in
set_option maxHeartbeats 2000000 in
theorem merge_union (M : Nat → Prop)
  (w m k : Nat) (s1 s2 : Value) (W : World) (hM : ∀ b, M b → b < W.heap.size) (h1 : SetAt No W s1 w m) (h2 : SetAt No W s2 w k) :
  Calls Tryd.prog 59 #[.agg #[.int .i64 (w : Int), s1], .agg #[.int .i64 (w : Int), s2], .func (.func 60) #[] #[]] W (SetEPost M w ((orN m k)) W) := by
 have H1 := Lib.hid h1
 have H2 := Lib.hid h2
 obtain ⟨a1, c1, rfl⟩ := h1.slice
 obtain ⟨a2, c2, rfl⟩ := h2.slice
 have hv1 := validB_set h1.hw h1.hm
 have hv2 := validB_set h2.hw h2.hm
 have hw := h1.hw
 have hm2 := Lib.hid (orN_lt' h1.hm h2.hm)
 have HM := Lib.hid hM
 clear h1 h2 hM
 go_enter Tryd.func59, Tryd.ntmps59
 go_wp2_with fail
 refine (valid_any _ (setN w m) _ (H1.out.raw.extNo ((((Ext.refl _ _).alloc _).alloc _).alloc _))).mono ?_
 rintro e1 w1 ⟨rfl, hx1⟩
 rw [hv1]
 have hA := hx1.blk (alloc_under (alloc_under (alloc_top (w := W) rfl))) no_no
 have hB := hx1.blk (n := W.heap.size + 1) (alloc_under (alloc_top (by simp))) no_no
 have hC := hx1.blk (n := W.heap.size + 2) (alloc_top (by simp)) no_no
 have hxa : Ext No W w1 := ((((Ext.refl _ _).alloc _).alloc _).alloc _).transNo hx1
 have cB := cellOf hB
 clear hx1
 go_wp2_with fail
 refine (valid_any _ (setN w k) _ (H2.out.raw.extNo hxa)).mono ?_
 rintro e2 w2 ⟨rfl, hx2⟩
 rw [hv2]
 replace hA := hx2.blk hA no_no
 replace hB := hx2.blk hB no_no
 replace hC := hx2.blk hC no_no
 replace hxa := hxa.transNo hx2
 clear hx2 cB
 have cA := cellOf hA
 have cB := cellOf hB
 have hszC := lt_of_block hC
 have hltA : W.heap.size < w2.heap.size := by omega
 have hltB : W.heap.size + 1 < w2.heap.size := by omega
 have hmk := mk_words (nw w) (by unfold nw; omega)
 go_wp2_with fail
 go_cut [8] (fun s8 wx => ∃ D g, s8 = .pointer (some ⟨D, 0, none⟩) ∧ MergeMem W (orN) w m k D g 0 (.slice a1 (nw w) c1) (.slice a2 (nw w) c2) wx)
 case first =>
  go_region
  all_goals
   go_wp2_with fail
   go_meet
   first
   | exact MergeMem.mk1 (orN) m k hxa hA hB hC hw
   | exact MergeMem.mk2 (orN) m k hxa hA hB hC hw
 case rest =>
  obtain ⟨D, g, rfl, hm⟩ := hcut
  clear hA hB hC hxa cA cB hszC hltA hltB hmk
  have HMM := Lib.hid hm
  have cD := cellOf hm.boxD
  clear hm
  go_wp2_with fail
  go_loopw [37] (fun i wr => ∃ j : Nat, j ≤ nw w ∧ i = .int .i64 j ∧ Hid (MergeMem W (orN) w m k D g j (.slice a1 (nw w) c1) (.slice a2 (nw w) c2) wr)) (fun i _ => nw w - (intOf i).toNat)
  case atStart => exact ⟨0, Nat.zero_le _, rfl, HMM⟩
  clear HMM cD
  obtain ⟨j, hj, rfl, hm⟩ := hrel
  have cA := cellOf hm.out.boxA
  have cB := cellOf hm.out.boxB
  have cD := cellOf hm.out.boxD
  by_cases hlt : j < nw w
  ·obtain ⟨b1, o1, p1, hsl, _, _, hc1⟩ := H1.out.at (by omega)
   simp only [Value.slice.injEq] at hsl
   obtain ⟨rfl, _, rfl⟩ := hsl
   obtain ⟨b2, o2, p2, hsl, _, _, hc2⟩ := H2.out.at (by omega)
   simp only [Value.slice.injEq] at hsl
   obtain ⟨rfl, _, rfl⟩ := hsl
   have hx1 := hm.out.ext.keep (hc1 j hlt)
   have hx2 := hm.out.ext.keep (hc2 j hlt)
   have hf := hm.out.free j
   have hcg := hm.out.cellG hlt
   have HS := Lib.hid (hm.out.store hlt (orN_lt' (wordN_lt m j) (wordN_lt k j)))
   clear hc1 hc2
   have hnw : nw w ≤ 5 := by unfold nw; omega
   have hj0 : (0 : Int) ≤ (j : Int) := by omega
   have hj1 : (j : Int) < (nw w : Int) := by omega
   go_wp2_with fail
   go_still_tail 16, (by kernel_rfl)
   still_call ((union1_any _ _ (wordN_lt m j) (wordN_lt k j) _).mono (fun _ _ h => ⟨h.1, h.2.symm⟩))
   repeat still_step
   try refine wpStill_nil ?_
   obtain ⟨ug, hug⟩ := hcg
   go_wp2_with fail
   go_roundw
   case rel => exact ⟨j + 1, by omega, by go_num, Lib.hid (HS.out.drewN _)⟩
   case measure => simp [intOf]; omega
  obtain rfl : j = nw w := by omega
  have cC := cellOf hm.out.boxC
  have fC := freeOf hm.out.boxC
  have ho := hm.out.own
  rw [partW_all wordN_orN] at ho
  have HO := Lib.hid ho
  clear ho
  go_wp2_with fail
  refine ret_ex rfl ?_
  simp [results, Tryd.results59, go_sem, cC]
  refine ⟨_, _, rfl, Lib.hid (HO.out.fin (W0 := W) (by omega) HM.out ?_ hw hm2.out), ?_⟩
  ·exact ((Ext.refl (Lo (W.heap.size + 3)) _).setCell (p := ⟨W.heap.size + 2, 0, none⟩) (fun _ => Nat.lt_succ_self _) _).setCell (p := ⟨W.heap.size + 2, 1, none⟩) (fun _ => Nat.lt_succ_self _) _
  exact ext2 hm.out.ext (by omega)
set_option maxRecDepth 100000 in
set_option maxHeartbeats 1000000 in
theorem diff_any (M : Nat → Prop) (w m k : Nat) (s1 s2 : Value) (W : World) (hM : ∀ b, M b → b < W.heap.size) (h1 : SetAt No W s1 w m) (h2 : SetAt No W s2 w k) :
  Calls Tryd.prog 91 #[.agg #[.int .i64 (w : Int), s1], .agg #[.int .i64 (w : Int), s2]] W (SetEPost M w (diffN m k) W) := by
 have H1 := Lib.hid h1
 have H2 := Lib.hid h2
 obtain ⟨a1, c1, rfl⟩ := h1.slice
 obtain ⟨a2, c2, rfl⟩ := h2.slice
 clear h1 h2
 go_enter Tryd.func91, Tryd.ntmps91
 go_wp2_with fail
 have hx0 : Ext No W (((W.alloc (.cells #[.int .i64 (w : Int), .slice a1 (nw w) c1] 24)).alloc (.cells #[.int .i64 (w : Int), .slice a2 (nw w) c2] 24)).alloc (.cells #[.int .i64 0, .slice none 0 0] 24)) := (((Ext.refl _ _).alloc _).alloc _).alloc _
 refine (merge_diff (fun b => M b ∨ b = W.heap.size + 2) w m k _ _ _ (fun b hb => ?_) (H1.out.extNo hx0) (H2.out.extNo hx0)).mono ?_
 ·simp
  rcases hb with hb | hb
  ·have := hM b hb; omega
  omega
 rintro e1 w1 ⟨a3, c3, rfl, hs3, hx1⟩
 have hC := hx1.blk (n := W.heap.size + 2) (alloc_top (by simp)) no_no
 have hxa : Ext No W w1 := hx0.transNo hx1
 have cC := cellOf hC
 have fC := freeOf hC
 clear hx1 hx0
 go_wp2_with fail
 refine ret_ex rfl ?_
 simp [results, Tryd.results91, go_sem, cC]
 exact ⟨_, _, rfl, Lib.hid ((hs3.out.ext (ext_two hxa (W.heap.size + 2)) (fun i _ e => .inr e)).mono (fun i _ e => .inl e)), ext2 hxa (by omega)⟩
set_option maxRecDepth 100000 in
set_option maxHeartbeats 1000000 in
theorem union_any (M : Nat → Prop) (w m k : Nat) (s1 s2 : Value) (W : World) (hM : ∀ b, M b → b < W.heap.size) (h1 : SetAt No W s1 w m) (h2 : SetAt No W s2 w k) :
  Calls Tryd.prog 34 #[.agg #[.int .i64 (w : Int), s1], .agg #[.int .i64 (w : Int), s2]] W (SetEPost M w (orN m k) W) := by
 have H1 := Lib.hid h1
 have H2 := Lib.hid h2
 obtain ⟨a1, c1, rfl⟩ := h1.slice
 obtain ⟨a2, c2, rfl⟩ := h2.slice
 clear h1 h2
 go_enter Tryd.func34, Tryd.ntmps34
 go_wp2_with fail
 have hx0 : Ext No W (((W.alloc (.cells #[.int .i64 (w : Int), .slice a1 (nw w) c1] 24)).alloc (.cells #[.int .i64 (w : Int), .slice a2 (nw w) c2] 24)).alloc (.cells #[.int .i64 0, .slice none 0 0] 24)) := (((Ext.refl _ _).alloc _).alloc _).alloc _
 refine (merge_union (fun b => M b ∨ b = W.heap.size + 2) w m k _ _ _ (fun b hb => ?_) (H1.out.extNo hx0) (H2.out.extNo hx0)).mono ?_
 ·simp
  rcases hb with hb | hb
  ·have := hM b hb; omega
  omega
 rintro e1 w1 ⟨a3, c3, rfl, hs3, hx1⟩
 have hC := hx1.blk (n := W.heap.size + 2) (alloc_top (by simp)) no_no
 have hxa : Ext No W w1 := hx0.transNo hx1
 have cC := cellOf hC
 have fC := freeOf hC
 clear hx1 hx0
 go_wp2_with fail
 refine ret_ex rfl ?_
 simp [results, Tryd.results34, go_sem, cC]
 exact ⟨_, _, rfl, Lib.hid ((hs3.out.ext (ext_two hxa (W.heap.size + 2)) (fun i _ e => .inr e)).mono (fun i _ e => .inl e)), ext2 hxa (by omega)⟩

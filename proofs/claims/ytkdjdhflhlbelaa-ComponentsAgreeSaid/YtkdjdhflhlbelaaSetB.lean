/- Merged: Pop Can Set8 Set9 Set10 Set11 Set12 -/
import Derived.Test.YtkdjdhflhlbelaaHeap
import Derived.Test.YtkdjdhflhlbelaaSetA
import Derived.Lib.TrailingZeros
set_option linter.unusedVariables false
set_option linter.unusedSimpArgs false
/- Pop -/
namespace Go.Proofs.Ytkdjdhflhlbelaa
open Go Go.RowKit
def f1 (b : Nat) : Nat := b / 2 &&& 85
def g1 (b : Nat) : Nat := b &&& 85
def f2 (b : Nat) : Nat := b / 4 &&& 51
def g2 (b : Nat) : Nat := b &&& 51
def s1 (b : Nat) : Nat := f1 b + g1 b
def s2 (b : Nat) : Nat := f2 b + g2 b
def s3 (b : Nat) : Nat := b / 16 + b % 16
def popB (b : Nat) : Nat := s3 (s2 (s1 b))
theorem b1 : ∀ b, b < 256 → b &&& 170 = 2 * f1 b ∧ s1 b < 256 ∧ s2 (s1 b) < 256 ∧ s2 (s1 b) / 16 ≤ 4 ∧ s2 (s1 b) % 16 ≤ 4 ∧ (s1 b &&& 204) = 4 * f2 (s1 b) ∧ popB b ≤ 8 ∧ (popB b = 0 → b = 0) := by decide +kernel
def m1 : Nat := 3689348814741910323
def m2 : Nat := 1085102592571150095
def big : Nat := 18446744073709551616
end Go.Proofs.Ytkdjdhflhlbelaa
/- Can -/
namespace Go.Proofs.Ytkdjdhflhlbelaa
open Go Go.RowKit
/-- the number with the bits that p tells, below w -/
def bitsN : Nat → (Nat → Bool) → Nat
 | 0, _ => 0
 | w + 1, p => bitsN w p ||| (if p w then 2 ^ w else 0)
theorem bitsN_bit (w : Nat) (p : Nat → Bool) (b : Nat) : (bitsN w p).testBit b = (decide (b < w) && p b) := by
 induction w with
 | zero => simp [bitsN]
 | succ w ih =>
  rw [bitsN, Nat.testBit_or, ih]
  by_cases h : b = w
  ·subst h
   cases hp : p b <;> simp
  ·have e : (if p w = true then 2 ^ w else 0 : Nat).testBit b = false := by
    split
    ·rw [Nat.testBit_two_pow]; exact decide_eq_false (fun e => h e.symm)
    ·simp
   rw [e, Bool.or_false]
   congr 1
   apply decide_eq_decide.2
   omega
theorem bitsN_lt (w : Nat) (p : Nat → Bool) : bitsN w p < 2 ^ w := by
 refine Nat.lt_pow_two_of_testBit _ (fun i hi => ?_)
 rw [bitsN_bit, decide_eq_false (by omega)]; rfl
theorem bit_high {m w b : Nat} (h : m < 2 ^ w) (hb : w ≤ b) : m.testBit b = false := Nat.testBit_lt_two_pow (Nat.lt_of_lt_of_le h (Nat.pow_le_pow_right (by decide) hb))
theorem bits_ext {m k w : Nat} (h1 : m < 2 ^ w) (h2 : k < 2 ^ w) (h : ∀ b, b < w → m.testBit b = k.testBit b) : m = k := Nat.eq_of_testBit_eq fun b => by
 by_cases hb : b < w
 ·exact h b hb
 ·rw [bit_high h1 (by omega), bit_high h2 (by omega)]
theorem bitsN_eq {m w : Nat} {p : Nat → Bool} (h1 : m < 2 ^ w) (h : ∀ b, b < w → m.testBit b = p b) : m = bitsN w p :=
 bits_ext h1 (bitsN_lt w p) (fun b hb => by rw [bitsN_bit, decide_eq_true hb, h b hb]; rfl)
theorem bitsN_congr {w : Nat} {p q : Nat → Bool} (h : ∀ b, b < w → p b = q b) : bitsN w p = bitsN w q :=
 bitsN_eq (bitsN_lt w p) (fun b hb => by rw [bitsN_bit, decide_eq_true hb, h b hb]; rfl)
theorem or_bit (m b j : Nat) : (m ||| 2 ^ b).testBit j = (m.testBit j || decide (b = j)) := by rw [Nat.testBit_or, Nat.testBit_two_pow]
/-! ### members in ascending order -/
end Go.Proofs.Ytkdjdhflhlbelaa
/- Set8 -/
namespace Go.Proofs.Ytkdjdhflhlbelaa
open Go Go.RowKit
theorem alloc_size1 (w : World) (o : Obj) : (w.alloc o).heap.size = w.heap.size + 1 := by simp
set_option maxHeartbeats 400000 in
theorem bempty_any (M : Nat → Prop) (w : Nat) (W : World) (hM : ∀ b, M b → b < W.heap.size) (hw : w ≤ 256) : Calls Try.prog 86 #[.int .i64 (w : Int)] W (SetEPost M w 0 W) := by
 have hmk := mk_words (nw w) (by unfold nw; omega)
 have hr : rangedB w = true := decide_eq_true ⟨by omega, by omega⟩
 go_enter Try.func86, Try.ntmps86
 go_wp2_with fail
 refine (ranged_any _ _).mono ?_
 rintro e1 w1 ⟨rfl, rfl⟩
 rw [hr]
 go_wp2_with fail
 refine (words_any w hw _).mono ?_
 rintro e2 w2 ⟨rfl, rfl⟩
 go_wp2_with fail
 have hC : ((W.alloc (.cells #[.int .i64 (w : Int), .slice (some ⟨W.heap.size + 1, 0, none⟩) (nw w) (nw w)] 33)).alloc (.cells (zeroW (nw w)) 74)).heap[W.heap.size]? = some (.cells #[.int .i64 (w : Int), .slice (some ⟨W.heap.size + 1, 0, none⟩) (nw w) (nw w)] 33 (0, 0)) := alloc_under (alloc_top rfl)
 have cC := cellOf hC
 have ho := OwnW.zero (W := W.alloc (.cells #[.int .i64 (w : Int), .slice (some ⟨W.heap.size + 1, 0, none⟩) (nw w) (nw w)] 33)) (w := w) (Nat.le_refl _) hw
 simp only [alloc_size1] at ho
 refine ret_ex rfl ?_
 simp [results, Try.results86, go_sem, cC]
 exact ⟨_, _, rfl, Lib.hid (ho.fin (W0 := W) (Nat.le_succ _) hM (Ext.refl _ _) hw (Nat.two_pow_pos w)), ((Ext.refl _ _).alloc _).alloc _⟩
end Go.Proofs.Ytkdjdhflhlbelaa
/- Set9 -/
namespace Go.Proofs.Ytkdjdhflhlbelaa
open Go Go.RowKit
theorem wrapM (n : Nat) : IntKind.u64.wrap (n : Int) = ((n % 18446744073709551616 : Nat) : Int) := by
 simp only [IntKind.wrap, IntKind.bits, IntKind.signed]
 simp
end Go.Proofs.Ytkdjdhflhlbelaa
/- Set10 -/
namespace Go.Proofs.Ytkdjdhflhlbelaa
open Go Go.RowKit
def eqW (l k : List Nat) : Bool := decide (l = k)
set_option maxRecDepth 100000 in
set_option maxHeartbeats 1000000 in
theorem sequal_any (l k : List Nat) (u v : Value) (W : World) (hu : WordsAt No W u l) (hv : WordsAt No W v k) (hl : l.length = k.length) : Calls Try.prog 50 #[u, v] W (BoolPost (eqW l k) W) := by
 have HU := Lib.hid hu
 have HV := Lib.hid hv
 have HL := Lib.hid hl
 obtain ⟨au, cu, rfl⟩ := hu.slice
 obtain ⟨av, cv, rfl⟩ := hv.slice
 have hbig : l.length ≤ 9223372036854775807 := hu.row.2.1
 rw [← hl]
 clear hu hv hl
 go_enter Try.func50, Try.ntmps50
 go_wp2_with fail
 have hx0 : Hid (Ext No W W) := Lib.hid (Ext.refl _ _)
 go_loopw [13] (fun i wr => ∃ q : Nat, q ≤ l.length ∧ i = .int .i64 q ∧ Hid (∀ j (h1 : j < l.length) (h2 : j < k.length), j < q → l[j] = k[j]) ∧ Hid (Ext No W wr)) (fun i _ => l.length - (intOf i).toNat)
 case atStart => exact ⟨0, Nat.zero_le _, rfl, Lib.hid (fun j _ _ h => by omega), hx0⟩
 case round =>
  clear hx0
  obtain ⟨q, hq0, rfl, hq, hx⟩ := hrel
  rename World => wr
  have hpos : (0 : Int) ≤ (q : Int) := by omega
  by_cases hlt : q < l.length
  ·have hlt2 : q < k.length := HL.out ▸ hlt
   obtain ⟨bu, ou, pu, hsu, _, _, hcu⟩ := (HU.out.extNo hx.out).at hlt
   obtain ⟨bv, ov, pv, hsv, _, _, hcv⟩ := (HV.out.extNo hx.out).at hlt2
   rw [← HL.out] at hsv
   simp only [Value.slice.injEq] at hsu hsv
   obtain ⟨rfl, _, rfl⟩ := hsu
   obtain ⟨rfl, _, rfl⟩ := hsv
   have q0 := hcu q hlt
   have q1 := hcv q hlt2
   obtain ⟨x, hxe⟩ : ∃ x, x = l[q] := ⟨_, rfl⟩
   obtain ⟨y, hye⟩ : ∃ y, y = k[q] := ⟨_, rfl⟩
   rw [← hxe] at q0
   rw [← hye] at q1
   have HXE := Lib.hid hxe
   have HYE := Lib.hid hye
   clear hcu hcv hxe hye
   have HKK : Hid (Value.int .i64 ((q : Int) + 1) = .int .i64 ((q + 1 : Nat) : Int)) := Lib.hid (by rw [show ((q + 1 : Nat) : Int) = (q : Int) + 1 from by omega])
   have hlz : (q : Int) < (l.length : Int) := by omega
   by_cases he : x = y
   ·have hez : (x : Int) = (y : Int) := by omega
    go_wp2_with fail
    go_quiet (fail)
    go_wp2_with fail
    go_roundw
    case rel => exact ⟨q + 1, by omega, HKK.out, Lib.hid (fun j h1 h2 h3 => by
     by_cases hj : j < q
     ·exact hq.out j h1 h2 hj
     ·obtain rfl : j = q := by omega
      rw [← HXE.out, ← HYE.out, he]), Lib.hid (hx.out.drewN _)⟩
    case measure => simp [intOf]; omega
   ·have hez : ¬ (x : Int) = (y : Int) := by omega
    have e : eqW l k = false := decide_eq_false (fun h => he (by rw [HXE.out, HYE.out]; simp only [h]))
    go_wp2_with fail
    go_quiet (fail)
    go_wp2_with fail
    go_ret
    rw [e]
    exact ⟨rfl, hx.out.drewN _⟩
  ·have hge : (l.length : Int) ≤ (q : Int) := by omega
   have e : eqW l k = true := decide_eq_true (List.ext_getElem HL.out (fun j h1 h2 => hq.out j h1 h2 (by omega)))
   go_wp2_with fail
   go_ret
   rw [e]
   exact ⟨rfl, hx.out⟩
set_option maxRecDepth 100000 in
set_option maxHeartbeats 1000000 in
theorem equal_any (w m k : Nat) (s1 s2 : Value) (W : World) (h1 : SetAt No W s1 w m) (h2 : SetAt No W s2 w k) : Calls Try.prog 16 #[.agg #[.int .i64 (w : Int), s1], .agg #[.int .i64 (w : Int), s2]] W (BoolPost (decide (m = k)) W) := by
 have H1 := Lib.hid h1
 have H2 := Lib.hid h2
 have hv1 := validB_set h1.hw h1.hm
 have hv2 := validB_set h2.hw h2.hm
 have he : eqW (wordsN w m) (wordsN w k) = decide (m = k) := decide_eq_decide.2 ⟨wordsN_inj h1.hm h2.hm, fun e => by rw [e]⟩
 have HE := Lib.hid he
 obtain ⟨a1, c1, rfl⟩ := h1.slice
 obtain ⟨a2, c2, rfl⟩ := h2.slice
 clear h1 h2 he
 go_enter Try.func16, Try.ntmps16
 go_wp2_with fail
 have hx0 : Ext No W ((W.alloc (.cells #[.int .i64 (w : Int), .slice a1 (nw w) c1] 33)).alloc (.cells #[.int .i64 (w : Int), .slice a2 (nw w) c2] 33)) := ((Ext.refl _ _).alloc _).alloc _
 refine (valid_any _ (setN w m) _ (H1.out.raw.extNo hx0)).mono ?_
 rintro e1 w1 ⟨rfl, hx1⟩
 rw [hv1]
 have hA := hx1.blk (n := W.heap.size) (alloc_under (alloc_top rfl)) no_no
 have hB := hx1.blk (n := W.heap.size + 1) (alloc_top (by simp)) no_no
 have hxa := Lib.hid (hx0.transNo hx1)
 have HA := Lib.hid hA
 have cB := cellOf hB
 have HB := Lib.hid hB
 clear hx0 hx1 hA hB
 go_wp2_with fail
 refine (valid_any _ (setN w k) _ (H2.out.raw.extNo hxa.out)).mono ?_
 rintro e2 w2 ⟨rfl, hx2⟩
 rw [hv2]
 have cA2 := cellOf (hx2.blk HA.out no_no)
 have cB2 := cellOf (hx2.blk HB.out no_no)
 have hxb := Lib.hid (hxa.out.transNo hx2)
 clear hx2 cB HA HB hxa
 go_wp2_with fail
 refine (sequal_any _ _ _ _ _ (H1.out.words.extNo hxb.out) (H2.out.words.extNo hxb.out) (by rw [wordsN_len, wordsN_len])).mono ?_
 rintro e3 w3 ⟨rfl, hx3⟩
 rw [HE.out]
 have hxf := hxb.out.transNo hx3
 clear hx3 HE
 go_wp2_with fail
 all_goals
  go_ret
  exact ⟨rfl, hxf⟩
end Go.Proofs.Ytkdjdhflhlbelaa
/- Set12 -/
namespace Go.Proofs.Ytkdjdhflhlbelaa
open Go Go.RowKit
def ints (l : List Int) : List Value := l.map (.int .i64)
end Go.Proofs.Ytkdjdhflhlbelaa

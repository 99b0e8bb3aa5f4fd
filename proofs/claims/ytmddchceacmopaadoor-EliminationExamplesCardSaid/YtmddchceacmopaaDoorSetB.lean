
import Derived.Test.YtmddchceacmopaaDoorSetA
import Derived.Lib.TrailingZeros
set_option linter.unusedVariables false
set_option linter.unusedSimpArgs false
namespace Go.Proofs.YtmddchceacmopaaDoor
open Go Go.RowKit
def f1 (b : Nat) : Nat := b / 2 &&& 85
def g1 (b : Nat) : Nat := b &&& 85
def f2 (b : Nat) : Nat := b / 4 &&& 51
def g2 (b : Nat) : Nat := b &&& 51
def s1 (b : Nat) : Nat := f1 b + g1 b
def s2 (b : Nat) : Nat := f2 b + g2 b
def s3 (b : Nat) : Nat := b / 16 + b % 16
def popB (b : Nat) : Nat := s3 (s2 (s1 b))
theorem b1 : ∀ b, b < 256 → b &&& 170 = 2 * f1 b ∧ s1 b < 256 ∧ s2 (s1 b) < 256 ∧ s2 (s1 b) / 16 ≤ 4 ∧ s2 (s1 b) % 16 ≤ 4 ∧ (s1 b &&& 204) = 4 * f2 (s1 b) ∧ popB b ≤ 8 ∧ (popB b = 0 → b = 0) := by decide +kernel
def m1 : Nat := 3689348814741910323
def m2 : Nat := 1085102592571150095
def big : Nat := 18446744073709551616
end Go.Proofs.YtmddchceacmopaaDoor
namespace Go.Proofs.YtmddchceacmopaaDoor
open Go Go.RowKit
def bitsN : Nat → (Nat → Bool) → Nat
 | 0, _ => 0
 | w + 1, p => bitsN w p ||| (if p w then 2 ^ w else 0)
theorem bitsN_bit (w : Nat) (p : Nat → Bool) (b : Nat) : (bitsN w p).testBit b = (decide (b < w) && p b) := by
 induction w with
 | zero => simp [bitsN]
 | succ w ih =>
  rw [bitsN, Nat.testBit_or, ih]
  by_cases h : b = w
  ·subst h
   cases hp : p b <;> simp
  have e : (if p w = true then 2 ^ w else 0 : Nat).testBit b = false := by
   split
   ·rw [Nat.testBit_two_pow]; exact decide_eq_false (fun e => h e.symm)
   simp
  rw [e, Bool.or_false]
  congr 1
  apply decide_eq_decide.2
  omega
theorem bitsN_lt (w : Nat) (p : Nat → Bool) : bitsN w p < 2 ^ w := by
 refine Nat.lt_pow_two_of_testBit _ (fun i hi => ?_)
 rw [bitsN_bit, decide_eq_false (by omega)]; rfl
theorem bit_high {m w b : Nat} (h : m < 2 ^ w) (hb : w ≤ b) : m.testBit b = false := Nat.testBit_lt_two_pow (Nat.lt_of_lt_of_le h (Nat.pow_le_pow_right (by decide) hb))
theorem bits_ext {m k w : Nat} (h1 : m < 2 ^ w) (h2 : k < 2 ^ w) (h : ∀ b, b < w → m.testBit b = k.testBit b) : m = k := Nat.eq_of_testBit_eq fun b => by
 by_cases hb : b < w
 ·exact h b hb
 rw [bit_high h1 (by omega), bit_high h2 (by omega)]
theorem bitsN_eq {m w : Nat} {p : Nat → Bool} (h1 : m < 2 ^ w) (h : ∀ b, b < w → m.testBit b = p b) : m = bitsN w p :=
 bits_ext h1 (bitsN_lt w p) (fun b hb => by rw [bitsN_bit, decide_eq_true hb, h b hb]; rfl)
theorem bitsN_congr {w : Nat} {p q : Nat → Bool} (h : ∀ b, b < w → p b = q b) : bitsN w p = bitsN w q :=
 bitsN_eq (bitsN_lt w p) (fun b hb => by rw [bitsN_bit, decide_eq_true hb, h b hb]; rfl)
theorem or_bit (m b j : Nat) : (m ||| 2 ^ b).testBit j = (m.testBit j || decide (b = j)) := by rw [Nat.testBit_or, Nat.testBit_two_pow]
theorem one_bit (b j : Nat) : (2 ^ b).testBit j = decide (b = j) := Nat.testBit_two_pow
def membersN (w m : Nat) : List Int := ((List.range w).filter fun b => m.testBit b).map fun (b : Nat) => (b : Int)
theorem membersN_mem {w m : Nat} {x : Int} : x ∈ membersN w m ↔ ∃ b : Nat, x = b ∧ b < w ∧ m.testBit b = true := by
 unfold membersN
 simp only [List.mem_map, List.mem_filter, List.mem_range]
 constructor
 ·rintro ⟨b, ⟨h1, h2⟩, rfl⟩; exact ⟨b, rfl, h1, h2⟩
 rintro ⟨b, rfl, h1, h2⟩; exact ⟨b, ⟨h1, h2⟩, rfl⟩
theorem membersN_len (w m : Nat) : (membersN w m).length ≤ w := by
 unfold membersN
 rw [List.length_map]
 have := List.length_filter_le (fun b => m.testBit b) (List.range w)
 rwa [List.length_range] at this
def memTo (m k : Nat) : List Int := membersN k m
theorem memTo_succ (m k : Nat) : memTo m (k + 1) = memTo m k ++ (if m.testBit k then [(k : Int)] else []) := by
 unfold memTo membersN
 rw [List.range_succ, List.filter_append, List.map_append]
 congr 1
 simp only [List.filter_cons, List.filter_nil]
 split <;> rfl
theorem memTo_zero (m : Nat) : memTo m 0 = [] := rfl
theorem memTo_skip {m k j : Nat} (hkj : k ≤ j) (h : ∀ b, k ≤ b → b < j → m.testBit b = false) : memTo m j = memTo m k := by
 induction j with
 | zero =>
  have : k = 0 := by omega
  subst this; rfl
 | succ j ih =>
  by_cases e : k = j + 1
  ·subst e; rfl
  rw [memTo_succ, h j (by omega) (by omega), ih (by omega) (fun b h1 h2 => h b h1 (by omega))]
  simp
theorem membersN_all {w m k : Nat} (hm : m < 2 ^ w) (h : w ≤ k) : memTo m k = membersN w m :=
 memTo_skip (m := m) h (fun b hb _ => bit_high hm hb)
end Go.Proofs.YtmddchceacmopaaDoor
namespace Go.Proofs.YtmddchceacmopaaDoor
open Go Go.RowKit
theorem alloc_size1 (w : World) (o : Obj) : (w.alloc o).heap.size = w.heap.size + 1 := by simp
set_option maxHeartbeats 400000 in
theorem bempty_any (M : Nat → Prop) (w : Nat) (W : World) (hM : ∀ b, M b → b < W.heap.size) (hw : w ≤ 256) : Calls Tryd.prog 83 #[.int .i64 (w : Int)] W (SetEPost M w 0 W) := by
 have hmk := mk_words (nw w) (by unfold nw; omega)
 have hr : rangedB w = true := decide_eq_true ⟨by omega, by omega⟩
 go_enter Tryd.func83, Tryd.ntmps83
 go_wp2_with fail
 refine (ranged_any _ _).mono ?_
 rintro e1 w1 ⟨rfl, rfl⟩
 rw [hr]
 go_wp2_with fail
 refine (words_any w hw _).mono ?_
 rintro e2 w2 ⟨rfl, rfl⟩
 go_wp2_with fail
 have hC : ((W.alloc (.cells #[.int .i64 (w : Int), .slice (some ⟨W.heap.size + 1, 0, none⟩) (nw w) (nw w)] 24)).alloc (.cells (zeroW (nw w)) 83)).heap[W.heap.size]? = some (.cells #[.int .i64 (w : Int), .slice (some ⟨W.heap.size + 1, 0, none⟩) (nw w) (nw w)] 24 (0, 0)) := alloc_under (alloc_top rfl)
 have cC := cellOf hC
 have ho := OwnW.zero (W := W.alloc (.cells #[.int .i64 (w : Int), .slice (some ⟨W.heap.size + 1, 0, none⟩) (nw w) (nw w)] 24)) (w := w) (Nat.le_refl _) hw
 simp only [alloc_size1] at ho
 refine ret_ex rfl ?_
 simp [results, Tryd.results83, go_sem, cC]
 exact ⟨_, _, rfl, Lib.hid (ho.fin (W0 := W) (Nat.le_succ _) hM (Ext.refl _ _) hw (Nat.two_pow_pos w)), ((Ext.refl _ _).alloc _).alloc _⟩
end Go.Proofs.YtmddchceacmopaaDoor
namespace Go.Proofs.YtmddchceacmopaaDoor
open Go Go.RowKit
theorem div_cast (x k : Nat) : (x : Int) / (k : Int) = ((x / k : Nat) : Int) := by simp
theorem wrapM (n : Nat) : IntKind.u64.wrap (n : Int) = ((n % 18446744073709551616 : Nat) : Int) := by
 simp only [IntKind.wrap, IntKind.bits, IntKind.signed]
 simp
end Go.Proofs.YtmddchceacmopaaDoor
namespace Go.Proofs.YtmddchceacmopaaDoor
open Go Go.RowKit
def eqW (l k : List Nat) : Bool := decide (l = k)
set_option maxRecDepth 100000 in
set_option maxHeartbeats 1000000 in
theorem sequal_any (l k : List Nat) (u v : Value) (W : World) (hu : WordsAt No W u l) (hv : WordsAt No W v k) (hl : l.length = k.length) : Calls Tryd.prog 103 #[u, v] W (BoolPost (eqW l k) W) := by
 have HU := Lib.hid hu
 have HV := Lib.hid hv
 have HL := Lib.hid hl
 obtain ⟨au, cu, rfl⟩ := hu.slice
 obtain ⟨av, cv, rfl⟩ := hv.slice
 have hbig : l.length ≤ 9223372036854775807 := hu.row.2.1
 rw [← hl]
 clear hu hv hl
 go_enter Tryd.func103, Tryd.ntmps103
 go_wp2_with fail
 have hx0 : Hid (Ext No W W) := Lib.hid (Ext.refl _ _)
 go_loopw [13] (fun i wr => ∃ q : Nat, q ≤ l.length ∧ i = .int .i64 q ∧ Hid (∀ j (h1 : j < l.length) (h2 : j < k.length), j < q → l[j] = k[j]) ∧ Hid (Ext No W wr)) (fun i _ => l.length - (intOf i).toNat)
 case atStart => exact ⟨0, Nat.zero_le _, rfl, Lib.hid (fun j _ _ h => by omega), hx0⟩
 clear hx0
 obtain ⟨q, hq0, rfl, hq, hx⟩ := hrel
 rename World => wr
 have hpos : (0 : Int) ≤ (q : Int) := by omega
 by_cases hlt : q < l.length
 ·have hlt2 : q < k.length := HL.out ▸ hlt
  obtain ⟨bu, ou, pu, hsu, _, _, hcu⟩ := (HU.out.extNo hx.out).at hlt
  obtain ⟨bv, ov, pv, hsv, _, _, hcv⟩ := (HV.out.extNo hx.out).at hlt2
  rw [← HL.out] at hsv
  simp only [Value.slice.injEq] at hsu hsv
  obtain ⟨rfl, _, rfl⟩ := hsu
  obtain ⟨rfl, _, rfl⟩ := hsv
  have q0 := hcu q hlt
  have q1 := hcv q hlt2
  obtain ⟨x, hxe⟩ : ∃ x, x = l[q] := ⟨_, rfl⟩
  obtain ⟨y, hye⟩ : ∃ y, y = k[q] := ⟨_, rfl⟩
  rw [← hxe] at q0
  rw [← hye] at q1
  have HXE := Lib.hid hxe
  have HYE := Lib.hid hye
  clear hcu hcv hxe hye
  have HKK : Hid (Value.int .i64 ((q : Int) + 1) = .int .i64 ((q + 1 : Nat) : Int)) := Lib.hid (by rw [show ((q + 1 : Nat) : Int) = (q : Int) + 1 from by omega])
  have hlz : (q : Int) < (l.length : Int) := by omega
  by_cases he : x = y
  ·have hez : (x : Int) = (y : Int) := by omega
   go_wp2_with fail
   go_quiet (fail)
   go_wp2_with fail
   go_roundw
   case rel => exact ⟨q + 1, by omega, HKK.out, Lib.hid (fun j h1 h2 h3 => by
    by_cases hj : j < q
    ·exact hq.out j h1 h2 hj
    obtain rfl : j = q := by omega
    rw [← HXE.out, ← HYE.out, he]), Lib.hid (hx.out.drewN _)⟩
   case measure => simp [intOf]; omega
  have hez : ¬ (x : Int) = (y : Int) := by omega
  have e : eqW l k = false := decide_eq_false (fun h => he (by rw [HXE.out, HYE.out]; simp only [h]))
  go_wp2_with fail
  go_quiet (fail)
  go_wp2_with fail
  go_ret
  rw [e]
  exact ⟨rfl, hx.out.drewN _⟩
 have hge : (l.length : Int) ≤ (q : Int) := by omega
 have e : eqW l k = true := decide_eq_true (List.ext_getElem HL.out (fun j h1 h2 => hq.out j h1 h2 (by omega)))
 go_wp2_with fail
 go_ret
 rw [e]
 exact ⟨rfl, hx.out⟩
set_option maxRecDepth 100000 in
set_option maxHeartbeats 1000000 in
theorem equal_any (w m k : Nat) (s1 s2 : Value) (W : World) (h1 : SetAt No W s1 w m) (h2 : SetAt No W s2 w k) : Calls Tryd.prog 85 #[.agg #[.int .i64 (w : Int), s1], .agg #[.int .i64 (w : Int), s2]] W (BoolPost (decide (m = k)) W) := by
 have H1 := Lib.hid h1
 have H2 := Lib.hid h2
 have hv1 := validB_set h1.hw h1.hm
 have hv2 := validB_set h2.hw h2.hm
 have he : eqW (wordsN w m) (wordsN w k) = decide (m = k) := decide_eq_decide.2 ⟨wordsN_inj h1.hm h2.hm, fun e => by rw [e]⟩
 have HE := Lib.hid he
 obtain ⟨a1, c1, rfl⟩ := h1.slice
 obtain ⟨a2, c2, rfl⟩ := h2.slice
 clear h1 h2 he
 go_enter Tryd.func85, Tryd.ntmps85
 go_wp2_with fail
 have hx0 : Ext No W ((W.alloc (.cells #[.int .i64 (w : Int), .slice a1 (nw w) c1] 24)).alloc (.cells #[.int .i64 (w : Int), .slice a2 (nw w) c2] 24)) := ((Ext.refl _ _).alloc _).alloc _
 refine (valid_any _ (setN w m) _ (H1.out.raw.extNo hx0)).mono ?_
 rintro e1 w1 ⟨rfl, hx1⟩
 rw [hv1]
 have hA := hx1.blk (n := W.heap.size) (alloc_under (alloc_top rfl)) no_no
 have hB := hx1.blk (n := W.heap.size + 1) (alloc_top (by simp)) no_no
 have hxa := Lib.hid (hx0.transNo hx1)
 have HA := Lib.hid hA
 have cB := cellOf hB
 have HB := Lib.hid hB
 clear hx0 hx1 hA hB
 go_wp2_with fail
 refine (valid_any _ (setN w k) _ (H2.out.raw.extNo hxa.out)).mono ?_
 rintro e2 w2 ⟨rfl, hx2⟩
 rw [hv2]
 have cA2 := cellOf (hx2.blk HA.out no_no)
 have cB2 := cellOf (hx2.blk HB.out no_no)
 have hxb := Lib.hid (hxa.out.transNo hx2)
 clear hx2 cB HA HB hxa
 go_wp2_with fail
 refine (sequal_any _ _ _ _ _ (H1.out.words.extNo hxb.out) (H2.out.words.extNo hxb.out) (by rw [wordsN_len, wordsN_len])).mono ?_
 rintro e3 w3 ⟨rfl, hx3⟩
 rw [HE.out]
 have hxf := hxb.out.transNo hx3
 clear hx3 HE
 go_wp2_with fail
 all_goals
  go_ret
  exact ⟨rfl, hxf⟩
end Go.Proofs.YtmddchceacmopaaDoor
namespace Go.Proofs.YtmddchceacmopaaDoor
open Go Go.RowKit
def TabW (w : World) : Prop := ∀ j, j < 64 → w.cell? ⟨0, j, none⟩ = some (.int .u8 (Lib.deBruijn64tab.getD j 0 : Nat))
theorem TabW.extM {M : Nat → Prop} {w w' : World} (h : TabW w) (hx : Ext M w w') (hM : ¬ M 0) : TabW w' := fun j hj => hx.keepM (h j hj) hM
theorem TabW.ext {w w' : World} (h : TabW w) (hx : Ext No w w') : TabW w' := h.extM hx no_no
theorem TabW.pos {w : World} (h : TabW w) : 0 < w.heap.size := World.block_lt_of_cell? w _ (h 0 (by decide))
theorem bits_and_u64 (a b : Nat) (ha : a < 2 ^ 64) (hb : b < 2 ^ 64) : bits .and .u64 (a : Int) (b : Int) = ((a &&& b : Nat) : Int) := bits_and a b ha hb
theorem tz_key (x a : Nat) (hx : x < 18446744073709551616) (hx0 : x ≠ 0) (hlow : x &&& (18446744073709551616 - x) = a) :
  IntKind.u64.wrap (bits BinOp.and IntKind.u64 (x : Int) (IntKind.u64.wrap (-(x : Int))) * 285870213051353865) / 288230376151711744 = ((a * 285870213051353865 % 18446744073709551616 / 288230376151711744 : Nat) : Int) := by
 have e1 : IntKind.u64.wrap (-(x : Int)) = ((18446744073709551616 - x : Nat) : Int) := by
  simp only [IntKind.wrap, IntKind.bits, IntKind.signed]; simp; omega
 rw [e1, bits_and_u64 x _ hx (by omega), hlow, show ((a : Int) * 285870213051353865) = ((a * 285870213051353865 : Nat) : Int) from by simp, wrapM]
 exact div_cast _ 288230376151711744
set_option maxHeartbeats 400000 in
theorem tz_core (x k idx : Nat) (W : World) (hx0 : ((x : Int) == 0) = false)
  (key : IntKind.u64.wrap (bits BinOp.and IntKind.u64 (x : Int) (IntKind.u64.wrap (-(x : Int))) * 285870213051353865) / 288230376151711744 = (idx : Int))
  (hi : idx < 64) (hk : k < 64) (hcell : W.cell? ⟨0, idx, none⟩ = some (.int .u8 (k : Int))) :
  Calls Tryd.prog 110 #[.int .u64 (x : Int)] W fun e w' => e = .returned (.int .i64 (k : Int)) ∧ W = w' := by
 go_enter Tryd.func110, Tryd.ntmps110
 go_wp2_with (simp only [key])
 go_ret
 exact ⟨rfl, rfl⟩
theorem tz_any (x : Nat) (hx : x < 18446744073709551616) (h0 : x ≠ 0) (W : World) (hT : TabW W) : Calls Tryd.prog 110 #[.int .u64 (x : Int)] W fun e w' => e = .returned (.int .i64 (Lib.ctz 64 x : Int)) ∧ W = w' := by
 obtain ⟨hlow, hk⟩ := Lib.lowest_bit 64 x h0 hx
 obtain ⟨hi, htab⟩ := Lib.deBruijn64_at _ hk
 have hcell := hT _ hi
 rw [htab] at hcell
 exact tz_core x _ _ W (by simp; omega) (tz_key x _ hx h0 hlow) hi hk hcell
theorem ctz_bits (x : Nat) (h0 : x ≠ 0) (h : x < 2 ^ 64) : x.testBit (Lib.ctz 64 x) = true ∧ (∀ b, b < Lib.ctz 64 x → x.testBit b = false) ∧ Lib.ctz 64 x < 64 ∧ (∀ b, (x &&& (x - 1)).testBit b = (x.testBit b && decide (b ≠ Lib.ctz 64 x))) := by
 obtain ⟨m, hm, hk⟩ := Lib.ctzFrom_spec 64 x (by omega) h
 have e : Lib.ctz 64 x = Lib.ctzFrom 64 x := by simp [Lib.ctz, h0]
 rw [e]
 generalize Lib.ctzFrom 64 x = c at *
 have hp := Nat.two_pow_pos c
 have hb1 : ∀ b, x.testBit b = if b < c then false else (2 * m + 1).testBit (b - c) := fun b => by
  have := Nat.testBit_two_pow_mul_add (2 * m + 1) hp b
  rw [Nat.add_zero] at this
  rw [hm, this]
  split <;> simp
 have hb2 : ∀ b, (x - 1).testBit b = if b < c then true else (2 * m).testBit (b - c) := fun b => by
  have e1 : x - 1 = 2 ^ c * (2 * m) + (2 ^ c - 1) := by rw [hm, Nat.mul_add, Nat.mul_one]; omega
  rw [e1, Nat.testBit_two_pow_mul_add _ (by omega)]
  split
  ·rw [Nat.testBit_two_pow_sub_one]; simpa using ‹b < c›
  rfl
 refine ⟨?_, ?_, hk, ?_⟩
 ·rw [hb1, if_neg (Nat.lt_irrefl _), Nat.sub_self]; simp [Nat.testBit_zero]
 ·intro b hb; rw [hb1, if_pos hb]
 intro b
 rw [Nat.testBit_and, hb1, hb2]
 by_cases hb : b < c
 ·simp [hb]
 rw [if_neg hb, if_neg hb]
 by_cases he : b = c
 ·subst he; rw [Nat.sub_self]; simp [Nat.testBit_zero]
 obtain ⟨d, rfl⟩ : ∃ d, b = c + (d + 1) := ⟨b - c - 1, by omega⟩
 have e3 : c + (d + 1) - c = d + 1 := by omega
 rw [e3, Nat.testBit_succ, Nat.testBit_succ, show (2 * m + 1) / 2 = m by omega, show (2 * m) / 2 = m by omega]
 simp
structure HiOf (x y j : Nat) : Prop where
 lt : x < 2 ^ 64
 le : j ≤ 64
 bit : ∀ b, x.testBit b = (y.testBit b && decide (j ≤ b))
theorem HiOf.start {y : Nat} (h : y < 2 ^ 64) : HiOf y y 0 := ⟨h, by omega, fun b => by simp⟩
theorem HiOf.step {x y j : Nat} (h : HiOf x y j) (h0 : x ≠ 0) : HiOf (x &&& (x - 1)) y (Lib.ctz 64 x + 1) ∧ j ≤ Lib.ctz 64 x ∧ y.testBit (Lib.ctz 64 x) = true ∧ (∀ b, j ≤ b → b < Lib.ctz 64 x → y.testBit b = false) ∧ x &&& (x - 1) < x ∧ Lib.ctz 64 x < 64 := by
 obtain ⟨h1, h2, h3, h4⟩ := ctz_bits x h0 h.lt
 generalize Lib.ctz 64 x = c at *
 have hc := h.bit c
 rw [h1] at hc
 have hc' : y.testBit c = true ∧ j ≤ c := by
  have := hc.symm
  simpa using this
 have hlow : ∀ b, j ≤ b → b < c → y.testBit b = false := fun b hj hb => by
  have h5 := h.bit b
  rw [h2 b hb, decide_eq_true hj, Bool.and_true] at h5
  exact h5.symm
 refine ⟨⟨Nat.lt_of_le_of_lt Nat.and_le_left h.lt, by omega, fun b => ?_⟩, hc'.2, hc'.1, hlow, ?_, h3⟩
 ·rw [h4 b, h.bit b]
  by_cases hb : c + 1 ≤ b
  ·simp [hb, show j ≤ b by omega, show b ≠ c by omega]
  rw [decide_eq_false hb, Bool.and_false]
  by_cases he : b = c
  ·simp [he]
  by_cases hj : j ≤ b
  ·rw [hlow b hj (by omega)]; rfl
  simp [hj]
 have : x &&& (x - 1) ≤ x - 1 := Nat.and_le_right
 omega
theorem HiOf.done {x y j : Nat} (h : HiOf x y j) (h0 : x = 0) : ∀ b, j ≤ b → y.testBit b = false := fun b hb => by
 have := h.bit b
 subst h0
 rw [decide_eq_true hb, Bool.and_true, Nat.zero_testBit] at this
 exact this.symm
theorem memTo_step {m k x j : Nat} (h : HiOf x (wordN m k) j) (h0 : x ≠ 0) : memTo m (64 * k + (Lib.ctz 64 x + 1)) = memTo m (64 * k + j) ++ [((64 * k + Lib.ctz 64 x : Nat) : Int)] := by
 obtain ⟨_, h1, h2, h3, _, h5⟩ := h.step h0
 generalize Lib.ctz 64 x = c at *
 rw [← Nat.add_assoc, memTo_succ, memTo_skip (j := 64 * k + c) (k := 64 * k + j) (by omega)]
 ·congr 1
  have := wordN_bit m k c
  rw [h2, decide_eq_true h5, Bool.true_and] at this
  rw [if_pos this.symm]
 intro b hb1 hb2
 have := h3 (b - 64 * k) (by omega) (by omega)
 rw [wordN_bit, decide_eq_true (by omega), Bool.true_and, show 64 * k + (b - 64 * k) = b by omega] at this
 exact this
theorem memTo_done {m k x j : Nat} (h : HiOf x (wordN m k) j) (h0 : x = 0) : memTo m (64 * (k + 1)) = memTo m (64 * k + j) := by
 have hj := h.le
 refine memTo_skip (by omega) (fun b hb1 hb2 => ?_)
 have := h.done h0 (b - 64 * k) (by omega)
 rw [wordN_bit, decide_eq_true (by omega), Bool.true_and, show 64 * k + (b - 64 * k) = b by omega] at this
 exact this
theorem memTo_len (m k : Nat) : (memTo m k).length ≤ k := membersN_len k m
end Go.Proofs.YtmddchceacmopaaDoor
namespace Go.Proofs.YtmddchceacmopaaDoor
open Go Go.RowKit
theorem infoI : (Tryd.prog.info? 3).map (fun i => (i.zero, i.size, i.bytes)) = some (some (.int .i64 0), 1, 8) := by kernel_rfl
def ints (l : List Int) : List Value := l.map (.int .i64)
theorem ints_app (l k : List Int) : ints (l ++ k) = ints l ++ ints k := List.map_append
theorem ints_len (l : List Int) : (ints l).length = l.length := by simp [ints]
structure IntsOwn (W : World) (base : Nat) (v : Value) (l : List Int) : Prop where
 own : W.ownsRow base 3 1 v l.length (ints l)
theorem IntsOwn.nil (W : World) (base : Nat) : IntsOwn W base (.slice none 0 0) [] := ⟨⟨rfl, .inl ⟨rfl, rfl⟩⟩⟩
theorem IntsOwn.shape {W : World} {base : Nat} {v : Value} {l : List Int} (h : IntsOwn W base v l) : ∃ a c, v = .slice a l.length c := (Row.ofOwns (M := No) h.own (fun _ _ x => x)).slice
theorem IntsOwn.ext {M : Nat → Prop} {W W' : World} {base : Nat} {v : Value} {l : List Int} (h : IntsOwn W base v l) (hx : Ext M W W') (hM : ∀ i, base ≤ i → ¬ M i) : IntsOwn W' base v l := by
 obtain ⟨h⟩ := h
 refine ⟨?_⟩
 obtain ⟨h1, h2⟩ := h
 refine ⟨h1, ?_⟩
 rcases h2 with h2 | ⟨g, cap, cur, h3, hb, hg, hr⟩
 ·exact .inl h2
 exact .inr ⟨g, cap, cur, h3, hb, (hx.block g (lt_of_block hg) (hM g hb)).trans hg, hr⟩
theorem IntsOwn.app {W1 wi w5 : World} {base : Nat} {v v1 : Value} {l l2 : List Int} {o : Obj} {z : Int} (h : IntsOwn wi base v l) (hx : Ext No W1 wi) (hb : W1.heap.size ≤ base) (hown : w5.ownsRow base 3 1 v1 (l.length + 1) (ints l ++ [.int .i64 z])) (hg : (wi.alloc o).grownBy w5 v.ownBlock) (hl : l2 = l ++ [z]) :
  ∃ a c, v1 = .slice a l2.length c ∧ Hid (IntsOwn w5 base (.slice a l2.length c) l2) ∧ Hid (Ext No W1 w5) := by
 have e1 : l.length + 1 = l2.length := by rw [hl]; simp
 have e2 : ints l ++ [.int .i64 z] = ints l2 := by rw [hl, ints_app]; rfl
 rw [e1, e2] at hown
 have h2 : IntsOwn w5 base v1 l2 := ⟨hown⟩
 obtain ⟨a, c, rfl⟩ := h2.shape
 refine ⟨a, c, rfl, Lib.hid h2, Lib.hid ((hx.alloc o).grown hg (fun k hk hlt => ?_))⟩
 have := (World.ownsRow.lt h.own k hk).1
 omega
theorem IntsOwn.fin {M : Nat → Prop} {W W' : World} {base n c : Nat} {a : Option Addr} {l : List Int} (h : IntsOwn W' base (.slice a n c) l) (hn : n = l.length) (hM : ∀ b, M b → b < W.heap.size) (hb : W.heap.size ≤ base) : Row M W' 1 (.slice a n n) n (ints l) := by
 subst hn
 have h1 := (Row.ofOwns (M := M) h.own (fun b hb' hm => by have := hM b hm; omega)).take (Nat.le_refl _)
 rwa [Nat.mul_one, ← ints_len l, List.take_length, ints_len] at h1
theorem clip_any (a : Option Addr) (n c : Nat) (W : World) (hn : n ≤ c) (hc : c ≤ 9223372036854775807) : Calls Tryd.prog 111 #[.slice a n c] W fun e w' => e = .returned (.slice a n n) ∧ W = w' := by
 go_enter Tryd.func111, Tryd.ntmps111
 go_wp2_with fail
 go_ret
 exact ⟨rfl, rfl⟩
def MemPost (M : Nat → Prop) (l : List Int) (W : World) (e : Ending) (w' : World) : Prop := ∃ a, e = .returned (.slice a l.length l.length) ∧ Hid (Row M w' 1 (.slice a l.length l.length) l.length (ints l)) ∧ Ext No W w'
set_option maxRecDepth 100000 in
set_option maxHeartbeats 1000000 in
theorem members_any (M : Nat → Prop) (w m : Nat) (sl : Value) (W : World) (hM : ∀ b, M b → b < W.heap.size) (hT : TabW W) (h : SetAt No W sl w m) : Calls Tryd.prog 98 #[.agg #[.int .i64 (w : Int), sl]] W (MemPost M (membersN w m) W) := by
 have H := Lib.hid h
 have HT := Lib.hid hT
 have HM := Lib.hid hM
 obtain ⟨a, c, rfl⟩ := h.slice
 have hv := validB_set h.hw h.hm
 have hw := h.hw
 have hnw : nw w ≤ 5 := by unfold nw; omega
 obtain ⟨i0, hi0, hz0, hz1, hz2⟩ := info_parts infoI
 clear h hT hM
 go_enter Tryd.func98, Tryd.ntmps98
 go_wp2_with fail
 refine (valid_any _ (setN w m) _ (H.out.raw.extNo ((Ext.refl _ _).alloc _))).mono ?_
 rintro e1 w1 ⟨rfl, hx1⟩
 rw [hv]
 have hB := hx1.blk (alloc_top (w := W) rfl) no_no
 have cB := cellOf hB
 have hx := Lib.hid (Ext.transNo ((Ext.refl _ _).alloc _) hx1 : Ext No W w1)
 clear hx1 hB
 go_wp2_with fail
 clear cB
 have hs0 : Hid (IntsOwn w1 w1.heap.size (.slice none 0 0) (memTo m (64 * 0))) := Lib.hid (IntsOwn.nil _ _)
 have hx0 : Hid (Ext No w1 w1) := Lib.hid (Ext.refl _ _)
 go_loopw [3, 12] (fun v i wr => ∃ (k : Nat) (av : Option Addr) (cv : Nat), k ≤ nw w ∧ i = .int .i64 k ∧ v = .slice av (memTo m (64 * k)).length cv ∧ Hid (IntsOwn wr w1.heap.size (.slice av (memTo m (64 * k)).length cv) (memTo m (64 * k))) ∧ Hid (Ext No w1 wr)) (fun _ i _ => nw w - (intOf i).toNat)
 case atStart => exact ⟨0, none, 0, Nat.zero_le _, rfl, rfl, hs0, hx0⟩
 clear hs0 hx0
 obtain ⟨k, av, cv, hk, rfl, rfl, hs, hxr⟩ := hrel
 rename World => wr
 have hpos : (0 : Int) ≤ (k : Int) := by omega
 by_cases hlt : k < nw w
 ·obtain ⟨b, off, cap, hsl, _, _, hcell⟩ := (H.out.extNo (hx.out.transNo hxr.out)).at (by omega)
  simp only [Value.slice.injEq] at hsl
  obtain ⟨rfl, _, rfl⟩ := hsl
  have q0 := hcell k hlt
  have HKK : Hid (Value.int .i64 ((k : Int) + 1) = .int .i64 ((k + 1 : Nat) : Int)) := Lib.hid (by rw [show ((k + 1 : Nat) : Int) = (k : Int) + 1 from by omega])
  have hlz : (k : Int) < (nw w : Int) := by omega
  have hk5 : (k : Int) ≤ 5 := by omega
  have h0 := Lib.hid (HiOf.start (wordN_lt m k))
  clear hcell
  go_wp2_with fail
  clear q0
  obtain ⟨wo, rfl⟩ : ∃ wo : World, wo = wr := ⟨_, rfl⟩
  go_loopw [3, 5] (fun v x wr => ∃ (j y : Nat) (av : Option Addr) (cv : Nat), x = .int .u64 (y : Int) ∧ v = .slice av (memTo m (64 * k + j)).length cv ∧ Hid (HiOf y (wordN m k) j) ∧ Hid (IntsOwn wr w1.heap.size (.slice av (memTo m (64 * k + j)).length cv) (memTo m (64 * k + j))) ∧ Hid (Ext No w1 wr)) (fun _ x _ => (intOf x).toNat)
  case atStart => exact ⟨0, wordN m k, av, cv, rfl, rfl, h0, hs, hxr⟩
  clear h0 hs hxr
  obtain ⟨j, y, av, cv, rfl, rfl, hy, hs, hxr⟩ := hrel
  rename World => wi
  by_cases hy0 : y = 0
  ·subst hy0
   have hd := Lib.hid (memTo_done hy.out rfl)
   go_wp2_with fail
   go_roundw
   case rel => exact ⟨k + 1, av, cv, by omega, HKK.out, by rw [hd.out], Lib.hid (by rw [hd.out]; exact hs.out), hxr⟩
   case measure => simp [intOf]; omega
  have hst := Lib.hid (memTo_step hy.out hy0)
  have hm5 := memTo_len m (64 * k + j)
  have hj := hy.out.le
  have hn0 : ((y : Int) != 0) = true := by simp; omega
  have hyl := hy.out.lt
  have HY2 := Lib.hid (hy.out.step hy0).1
  have HDE : Hid (y &&& (y - 1) < y) := Lib.hid (hy.out.step hy0).2.2.2.2.1
  have hc64 := (hy.out.step hy0).2.2.2.2.2
  have g1 : IntKind.u64.wrap ((y : Int) - 1) = ((y - 1 : Nat) : Int) := by
   rw [show ((y : Int) - 1) = ((y - 1 : Nat) : Int) from by omega]; exact wrapU _ (by omega)
  have g2 : bits .and .u64 (y : Int) ((y - 1 : Nat) : Int) = ((y &&& (y - 1) : Nat) : Int) := bits_and _ _ hyl (by omega)
  have g3 : bits .and .u64 (y : Int) ((y : Int) - 1) = ((y &&& (y - 1) : Nat) : Int) := by
   rw [show ((y : Int) - 1) = ((y - 1 : Nat) : Int) from by omega]; exact g2
  have hTi := Lib.hid (HT.out.ext (hx.out.transNo hxr.out))
  clear hy
  go_wp2_with (first
   | (go_at_call 110; (with_reducible refine (tz_any y ?_ ?_ _ hTi.out).mono ?_); (exact hyl); (exact hy0); (rintro e w' ⟨rfl, rfl⟩))
   | (at_builtin; (refine wpList_app _ rfl (.tmp 23) (.tmp 29) 45 rfl w1.heap.size 3 i0 _ 1 8 Tryd.underlying45 hi0 hz0 hz1 hz2 rfl (by omega) (.slice av (memTo m (64 * k + j)).length cv) (memTo m (64 * k + j)).length (ints (memTo m (64 * k + j))) rfl (hs.out.ext ((Ext.refl No _).alloc _) (fun _ _ x => x)).own No (some ⟨wi.heap.size, 0, none⟩) 1 1 [.int .i64 ((k : Int) * 64 + (Lib.ctz 64 y : Int))] rfl (Row.block (alloc_top rfl) rfl no_no (by omega)) (by simp [Value.oneCell']) (by omega) (by omega) (by simp; exact Nat.le_succ_of_le hxr.out.size) ?_); (intro v1 w5 hown1 hg1 _)))
  obtain ⟨a1, c1, rfl, hs1, hx1⟩ := hs.out.app hxr.out (Nat.le_refl _) hown1 hg1 (l2 := memTo m (64 * k + (Lib.ctz 64 y + 1))) (by rw [hst.out]; congr 2; omega)
  go_roundw
  case rel => exact ⟨_, _, a1, c1, rfl, rfl, HY2, hs1, hx1⟩
  case measure => simp [intOf]; exact HDE.out
 obtain rfl : k = nw w := by omega
 have hall := Lib.hid (membersN_all (k := 64 * nw w) H.out.hm (nw_mul w).1)
 have hcap := (Row.ofOwns (M := No) hs.out.own (fun _ _ x => x)).caps
 obtain ⟨hcap1, hcap2⟩ := hcap
 go_wp2_with ((go_at_call 111; (with_reducible refine (clip_any _ _ _ _ ?_ ?_).mono ?_); (exact hcap1); (exact hcap2); (rintro e w' ⟨rfl, rfl⟩)))
 go_ret
 rw [hall.out] at hs ⊢
 exact ⟨av, rfl, Lib.hid (hs.out.fin rfl HM.out hx.out.size), hx.out.transNo hxr.out⟩

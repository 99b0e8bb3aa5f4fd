
import Derived.Test.YtjeohlooaiociaaGreatDoorSetA
import Derived.Lib.TrailingZeros
set_option linter.unusedVariables false
set_option linter.unusedSimpArgs false
namespace Go.Proofs.YtjeohlooaiociaaGreatDoor
open Go Go.RowKit
def ofB : List Nat → Nat
 | [] => 0
 | a :: l => a + 256 * ofB l
theorem and_cons (a b h k : Nat) (ha : a < 256) (hb : b < 256) : (a + 256 * h) &&& (b + 256 * k) = (a &&& b) + 256 * (h &&& k) := by
 have hab : a &&& b < 256 := Nat.lt_of_le_of_lt Nat.and_le_left ha
 refine Nat.eq_of_testBit_eq fun j => ?_
 have e : (256 : Nat) = 2 ^ 8 := rfl
 rw [e] at ha hb hab ⊢
 rw [Nat.testBit_and, Nat.add_comm a, Nat.add_comm b, Nat.add_comm (a &&& b), Nat.testBit_two_pow_mul_add _ ha, Nat.testBit_two_pow_mul_add _ hb, Nat.testBit_two_pow_mul_add _ hab]
 by_cases hj : j < 8
 ·simp [hj]
 simp [hj]
theorem and_rep (c : Nat) (hc : c < 256) : ∀ l : List Nat, (∀ a ∈ l, a < 256) → ofB l &&& ofB (List.replicate l.length c) = ofB (l.map (· &&& c))
 | [], _ => by simp [ofB]
 | a :: l, h => by
  have ih := and_rep c hc l (fun x hx => h x (List.mem_cons_of_mem _ hx))
  simp only [List.length_cons, List.replicate_succ, List.map_cons, ofB]
  rw [and_cons _ _ _ _ (h a (List.mem_cons_self ..)) hc, ih]
theorem ofB_scale (k : Nat) (f : Nat → Nat) : ∀ l : List Nat, ofB (l.map fun a => k * f a) = k * ofB (l.map f)
 | [] => by simp [ofB]
 | a :: l => by
  have ih := ofB_scale k f l
  simp only [List.map_cons, ofB, ih, Nat.mul_add]
  rw [Nat.mul_left_comm]
theorem ofB_add (f g : Nat → Nat) : ∀ l : List Nat, ofB (l.map f) + ofB (l.map g) = ofB (l.map fun a => f a + g a)
 | [] => rfl
 | a :: l => by
  have ih := ofB_add f g l
  simp only [List.map_cons, ofB]
  omega
theorem ofB_congr {f g : Nat → Nat} : ∀ l : List Nat, (∀ a ∈ l, f a = g a) → ofB (l.map f) = ofB (l.map g)
 | [], _ => rfl
 | a :: l, h => by
  have ih := ofB_congr l (fun x hx => h x (List.mem_cons_of_mem _ hx))
  simp only [List.map_cons, ofB, ih, h a (List.mem_cons_self ..)]
def f1 (b : Nat) : Nat := b / 2 &&& 85
def g1 (b : Nat) : Nat := b &&& 85
def f2 (b : Nat) : Nat := b / 4 &&& 51
def g2 (b : Nat) : Nat := b &&& 51
def s1 (b : Nat) : Nat := f1 b + g1 b
def s2 (b : Nat) : Nat := f2 b + g2 b
def s3 (b : Nat) : Nat := b / 16 + b % 16
def popB (b : Nat) : Nat := s3 (s2 (s1 b))
theorem b1 : ∀ b, b < 256 → b &&& 170 = 2 * f1 b ∧ s1 b < 256 ∧ s2 (s1 b) < 256 ∧ s2 (s1 b) / 16 ≤ 4 ∧ s2 (s1 b) % 16 ≤ 4 ∧ (s1 b &&& 204) = 4 * f2 (s1 b) ∧ popB b ≤ 8 ∧ (popB b = 0 → b = 0) := by decide +kernel
theorem shift_and (k x m : Nat) : x / 2 ^ k &&& m = (x &&& 2 ^ k * m) / 2 ^ k := Nat.eq_of_testBit_eq fun j => by
 rw [Nat.testBit_and, Nat.testBit_div_two_pow, Nat.testBit_div_two_pow, Nat.testBit_and, Nat.testBit_two_pow_mul]
 congr 1
 simp
def m0 : Nat := 6148914691236517205
def m1 : Nat := 3689348814741910323
def m2 : Nat := 1085102592571150095
structure Bytes (l : List Nat) : Prop where
 len : l.length = 8
 lt : ∀ a ∈ l, a < 256
theorem Bytes.map {l : List Nat} (h : Bytes l) (f : Nat → Nat) (hf : ∀ a, a < 256 → f a < 256) : Bytes (l.map f) := ⟨by rw [List.length_map, h.len], fun a ha => by
 obtain ⟨b, hb, rfl⟩ := List.mem_map.1 ha; exact hf b (h.lt b hb)⟩
theorem half_f1 : ∀ b, b < 256 → b &&& 170 = 2 * f1 b := fun b h => (b1 b h).1
theorem quart_f2 : ∀ b, b < 256 → b &&& 204 = 4 * f2 b := by decide +kernel
theorem step1 {l : List Nat} (h : Bytes l) : (ofB l / 2 &&& m0) + (ofB l &&& m0) = ofB (l.map s1) := by
 have e1 := shift_and 1 (ofB l) m0
 have e2 : (2 ^ 1 * m0 : Nat) = ofB (List.replicate l.length 170) := by rw [h.len]; decide
 have e3 : m0 = ofB (List.replicate l.length 85) := by rw [h.len]; decide
 rw [e2, and_rep 170 (by decide) l h.lt, ofB_congr l (fun a ha => half_f1 a (h.lt a ha)), ofB_scale] at e1
 have e4 : ofB l &&& m0 = ofB (l.map g1) := by rw [e3]; exact and_rep 85 (by decide) l h.lt
 rw [show ofB l / 2 = ofB l / 2 ^ 1 from rfl, e1, e4, show (2 * ofB (l.map f1)) / 2 ^ 1 = ofB (l.map f1) from by omega, ofB_add]
 rfl
theorem step2 {l : List Nat} (h : Bytes l) : (ofB l / 4 &&& m1) + (ofB l &&& m1) = ofB (l.map s2) := by
 have e1 := shift_and 2 (ofB l) m1
 have e2 : (2 ^ 2 * m1 : Nat) = ofB (List.replicate l.length 204) := by rw [h.len]; decide
 have e3 : m1 = ofB (List.replicate l.length 51) := by rw [h.len]; decide
 rw [e2, and_rep 204 (by decide) l h.lt, ofB_congr l (fun a ha => quart_f2 a (h.lt a ha)), ofB_scale] at e1
 have e4 : ofB l &&& m1 = ofB (l.map g2) := by rw [e3]; exact and_rep 51 (by decide) l h.lt
 rw [show ofB l / 4 = ofB l / 2 ^ 2 from rfl, e1, e4, show (4 * ofB (l.map f2)) / 2 ^ 2 = ofB (l.map f2) from by omega, ofB_add]
 rfl
theorem step3 : ∀ l : List Nat, (∀ a ∈ l, a / 16 ≤ 4 ∧ a % 16 ≤ 4) → (ofB l / 16 + ofB l) &&& ofB (List.replicate l.length 15) = ofB (l.map s3) ∧ ofB l / 16 + ofB l < 256 ^ l.length ∧ ofB l % 16 ≤ 4
 | [], _ => by simp [ofB]
 | a :: l, h => by
  obtain ⟨i1, i2, i3⟩ := step3 l (fun x hx => h x (List.mem_cons_of_mem _ hx))
  obtain ⟨h1, h2⟩ := h a (List.mem_cons_self ..)
  have e : ofB (a :: l) / 16 + ofB (a :: l) = (s3 a + 16 * (a / 16 + ofB l % 16)) + 256 * (ofB l / 16 + ofB l) := by
   simp only [ofB, s3]; omega
  refine ⟨?_, ?_, ?_⟩
  ·rw [e]
   simp only [List.length_cons, List.replicate_succ, List.map_cons, ofB]
   rw [and_cons _ _ _ _ (by unfold s3; omega) (by decide), i1]
   congr 1
   rw [show (15 : Nat) = 2 ^ 4 - 1 from rfl, Nat.and_two_pow_sub_one_eq_mod]
   unfold s3; omega
  ·rw [e, List.length_cons, Nat.pow_succ]
   unfold s3; omega
  simp only [ofB]; omega
theorem div_at {x lo hi k : Nat} (h : x = lo + k * hi) (hl : lo < k) : x / k = hi := by
 rw [h, Nat.add_mul_div_left _ _ (by omega), Nat.div_eq_of_lt hl, Nat.zero_add]
theorem add4 (a b c d e f g h y3 y4 : Nat) (h3 : y3 = a + 256 * (b + 256 * (c + 256 * (d + 256 * (e + 256 * (f + 256 * (g + 256 * h))))))) (h4 : y4 = y3 + (b + 256 * (c + 256 * (d + 256 * (e + 256 * (f + 256 * (g + 256 * h))))))) :
  y4 = (a + b) + 256 * ((b + c) + 256 * ((c + d) + 256 * ((d + e) + 256 * ((e + f) + 256 * ((f + g) + 256 * ((g + h) + 256 * h)))))) := by omega
theorem lt8 {a b c d e f g h : Nat} (ha : a < 256) (hb : b < 256) (hc : c < 256) (hd : d < 256) (he : e < 256) (hf : f < 256) (hg : g < 256) (hh : h < 256) : a + 256 * (b + 256 * (c + 256 * (d + 256 * (e + 256 * (f + 256 * (g + 256 * h)))))) < 18446744073709551616 := by omega
theorem step4 (a b c d e f g h : Nat) (ha : a ≤ 8) (hb : b ≤ 8) (hc : c ≤ 8) (hd : d ≤ 8) (he : e ≤ 8) (hf : f ≤ 8) (hg : g ≤ 8) (hh : h ≤ 8) (y3 y4 y5 y6 : Nat)
  (h3 : y3 = ofB [a, b, c, d, e, f, g, h]) (h4 : y4 = (y3 + y3 / 256) % 18446744073709551616) (h5 : y5 = (y4 + y4 / 65536) % 18446744073709551616) (h6 : y6 = (y5 + y5 / 4294967296) % 18446744073709551616) : y6 % 128 = a + b + c + d + e + f + g + h := by
 have h3' : y3 = a + 256 * (b + 256 * (c + 256 * (d + 256 * (e + 256 * (f + 256 * (g + 256 * h)))))) := h3
 have d3 : y3 / 256 = b + 256 * (c + 256 * (d + 256 * (e + 256 * (f + 256 * (g + 256 * h))))) := div_at (lo := a) h3' (by omega)
 have k4 := add4 a b c d e f g h y3 _ h3' rfl
 rw [d3, k4, Nat.mod_eq_of_lt (lt8 (by omega) (by omega) (by omega) (by omega) (by omega) (by omega) (by omega) (by omega))] at h4
 clear h3 h3' d3 k4
 have d4 : y4 / 65536 = (c + d) + 256 * ((d + e) + 256 * ((e + f) + 256 * ((f + g) + 256 * ((g + h) + 256 * h)))) := div_at (lo := (a + b) + 256 * (b + c)) (by rw [h4]; clear ha hb hc hd he hf hg hh h4 h5 h6; omega) (by omega)
 have k5 : y4 + y4 / 65536 = (a + b + c + d) + 256 * ((b + c + d + e) + 256 * ((c + d + e + f) + 256 * ((d + e + f + g) + 256 * ((e + f + g + h) + 256 * ((f + g + h) + 256 * ((g + h) + 256 * h)))))) := by
  rw [d4, h4]; clear ha hb hc hd he hf hg hh h4 h5 h6 d4; omega
 rw [k5, Nat.mod_eq_of_lt (lt8 (by omega) (by omega) (by omega) (by omega) (by omega) (by omega) (by omega) (by omega))] at h5
 clear h4 d4 k5
 have d5 : y5 / 4294967296 = (e + f + g + h) + 256 * ((f + g + h) + 256 * ((g + h) + 256 * h)) := div_at (lo := (a + b + c + d) + 256 * ((b + c + d + e) + 256 * ((c + d + e + f) + 256 * (d + e + f + g)))) (by rw [h5]; clear ha hb hc hd he hf hg hh h5 h6; omega) (by clear h5 h6; omega)
 have k6 : y5 + y5 / 4294967296 = (a + b + c + d + (e + f + g + h)) + 256 * ((b + c + d + e + (f + g + h)) + 256 * ((c + d + e + f + (g + h)) + 256 * ((d + e + f + g + h) + 256 * ((e + f + g + h) + 256 * ((f + g + h) + 256 * ((g + h) + 256 * h)))))) := by
  rw [d5, h5]; clear ha hb hc hd he hf hg hh h5 h6 d5; omega
 rw [k6, Nat.mod_eq_of_lt (lt8 (by omega) (by omega) (by omega) (by omega) (by omega) (by omega) (by omega) (by omega))] at h6
 clear h5 d5 k6
 have e1 : (256 : Nat) = 128 * 2 := rfl
 rw [h6, e1, Nat.mul_assoc, Nat.add_mul_mod_self_left, Nat.mod_eq_of_lt (by clear h6; omega)]
 clear h6; omega
theorem bytes_ex : ∀ (n x : Nat), x < 256 ^ n → ∃ l : List Nat, l.length = n ∧ (∀ a ∈ l, a < 256) ∧ x = ofB l
 | 0, x, h => ⟨[], rfl, (fun a ha => by cases ha), by simp at h; simp [ofB, h]⟩
 | n + 1, x, h => by
  obtain ⟨l, h1, h2, h3⟩ := bytes_ex n (x / 256) (by rw [Nat.pow_succ] at h; omega)
  refine ⟨(x % 256) :: l, by simp [h1], ?_, ?_⟩
  ·intro a ha
   rcases List.mem_cons.1 ha with rfl | ha
   ·omega
   exact h2 a ha
  simp only [ofB, ← h3]; omega
def popA (x : Nat) : Nat := (x / 2 &&& m0) + (x &&& m0)
def popC (x : Nat) : Nat := (popA x / 4 &&& m1) + (popA x &&& m1)
def popD (x : Nat) : Nat := (popC x / 16 + popC x) % 18446744073709551616 &&& m2
def popE (x : Nat) : Nat := (popD x + popD x / 256) % 18446744073709551616
def popF (x : Nat) : Nat := (popE x + popE x / 65536) % 18446744073709551616
def popG (x : Nat) : Nat := (popF x + popF x / 4294967296) % 18446744073709551616
def popN (x : Nat) : Nat := popG x % 128
theorem ofB_lt : ∀ l : List Nat, (∀ a ∈ l, a < 256) → ofB l < 256 ^ l.length
 | [], _ => by simp [ofB]
 | a :: l, h => by
  have ih := ofB_lt l (fun x hx => h x (List.mem_cons_of_mem _ hx))
  have ha := h a (List.mem_cons_self ..)
  rw [List.length_cons, Nat.pow_succ]
  simp only [ofB]; omega
theorem ofB_zero : ∀ l : List Nat, ofB l = 0 ↔ ∀ a ∈ l, a = 0
 | [] => by simp [ofB]
 | a :: l => by
  have ih := ofB_zero l
  simp only [ofB, List.forall_mem_cons]
  constructor
  ·intro h; exact ⟨by omega, ih.1 (by omega)⟩
  rintro ⟨h1, h2⟩; have := ih.2 h2; omega
theorem list8 {l : List Nat} (h : l.length = 8) : ∃ a b c d e f g i, l = [a, b, c, d, e, f, g, i] := by
 rcases l with _ | ⟨a, _ | ⟨b, _ | ⟨c, _ | ⟨d, _ | ⟨e, _ | ⟨f, _ | ⟨g, _ | ⟨i, _ | ⟨j, l⟩⟩⟩⟩⟩⟩⟩⟩⟩ <;> simp at h
 exact ⟨_, _, _, _, _, _, _, _, rfl⟩
theorem sum8 {l : List Nat} (h : l.length = 8) (hl : ∀ a ∈ l, a ≤ 8) (y3 y4 y5 y6 : Nat) (h3 : y3 = ofB l) (h4 : y4 = (y3 + y3 / 256) % 18446744073709551616) (h5 : y5 = (y4 + y4 / 65536) % 18446744073709551616) (h6 : y6 = (y5 + y5 / 4294967296) % 18446744073709551616) :
  y6 % 128 ≤ 64 ∧ (y6 % 128 = 0 ↔ ∀ a ∈ l, a = 0) := by
 obtain ⟨a, b, c, d, e, f, g, i, rfl⟩ := list8 h
 simp only [List.forall_mem_cons] at hl ⊢
 obtain ⟨ha, hb, hc, hd, he, hf, hg, hi, _⟩ := hl
 rw [step4 a b c d e f g i ha hb hc hd he hf hg hi y3 y4 y5 y6 h3 h4 h5 h6]
 clear h3 h4 h5 h6 h
 refine ⟨by omega, fun h => ⟨by omega, by omega, by omega, by omega, by omega, by omega, by omega, by omega, fun _ hx => by cases hx⟩, fun ⟨h1, h2, h3, h4, h5, h6, h7, h8, _⟩ => by omega⟩
def big : Nat := 18446744073709551616
theorem big_pow : (256 : Nat) ^ 8 = big := by decide
theorem s2_lt (a : Nat) : s2 a < 256 := by
 have h51 : a &&& 51 ≤ 51 := Nat.and_le_right
 have h52 : a / 4 &&& 51 ≤ 51 := Nat.and_le_right
 show (a / 4 &&& 51) + (a &&& 51) < 256
 omega
theorem pop_parts {l : List Nat} (hb : Bytes l) : popA (ofB l) = ofB (l.map s1) ∧ popC (ofB l) = ofB ((l.map s1).map s2) ∧ popD (ofB l) = ofB (l.map popB) := by
 have e1 : popA (ofB l) = ofB (l.map s1) := step1 hb
 have hb1 : Bytes (l.map s1) := hb.map s1 (fun a h => (b1 a h).2.1)
 have e2 : popC (ofB l) = ofB ((l.map s1).map s2) := by unfold popC; rw [e1]; exact step2 hb1
 have e3 := step3 ((l.map s1).map s2) (fun a ha => by
  obtain ⟨b, hb', rfl⟩ := List.mem_map.1 ha
  obtain ⟨c, hc, rfl⟩ := List.mem_map.1 hb'
  exact ⟨(b1 c (hb.lt c hc)).2.2.2.1, (b1 c (hb.lt c hc)).2.2.2.2.1⟩)
 have hl : ((l.map s1).map s2).length = 8 := by rw [List.length_map, List.length_map, hb.len]
 rw [hl] at e3
 obtain ⟨e3, e4, _⟩ := e3
 refine ⟨e1, e2, ?_⟩
 have hm : ((l.map s1).map s2).map s3 = l.map popB := by simp only [List.map_map]; rfl
 unfold popD
 rw [e2, Nat.mod_eq_of_lt e4, ← hm, ← e3]
 rfl
theorem popN_spec (x : Nat) (hx : x < 18446744073709551616) : popA x < 18446744073709551616 ∧ popC x < 18446744073709551616 ∧ popD x < 18446744073709551616 ∧ popN x ≤ 64 ∧ (popN x = 0 ↔ x = 0) := by
 show popA x < big ∧ popC x < big ∧ popD x < big ∧ _
 obtain ⟨l, h1, h2, rfl⟩ := bytes_ex 8 x hx
 clear hx
 have hb : Bytes l := ⟨h1, h2⟩
 obtain ⟨e1, e2, e3⟩ := pop_parts hb
 have hb1 : Bytes (l.map s1) := hb.map s1 (fun a h => (b1 a h).2.1)
 have hb2 := hb1.map s2 (fun a _ => s2_lt a)
 have hp : ∀ a ∈ l.map popB, a ≤ 8 := fun a ha => by
  obtain ⟨b, hb', rfl⟩ := List.mem_map.1 ha
  exact (b1 b (h2 b hb')).2.2.2.2.2.2.1
 have hb3 : Bytes (l.map popB) := ⟨by rw [List.length_map, h1], fun a ha => Nat.lt_of_le_of_lt (hp a ha) (by decide)⟩
 refine ⟨?_, ?_, ?_, ?_⟩
 ·rw [e1, ← big_pow, ← hb1.len]; exact ofB_lt _ hb1.lt
 ·rw [e2, ← big_pow, ← hb2.len]; exact ofB_lt _ hb2.lt
 ·rw [e3, ← big_pow, ← hb3.len]; exact ofB_lt _ hb3.lt
 obtain ⟨k1, k2⟩ := sum8 hb3.len hp _ _ _ _ e3 rfl rfl rfl
 refine ⟨k1, k2.trans ?_⟩
 rw [ofB_zero]
 constructor
 ·intro h a ha
  exact (b1 a (h2 a ha)).2.2.2.2.2.2.2 (h _ (List.mem_map_of_mem ha))
 intro h a ha
 obtain ⟨b, hb', rfl⟩ := List.mem_map.1 ha
 rw [h b hb']; decide
end Go.Proofs.YtjeohlooaiociaaGreatDoor
namespace Go.Proofs.YtjeohlooaiociaaGreatDoor
open Go Go.RowKit
def bitsN : Nat → (Nat → Bool) → Nat
 | 0, _ => 0
 | w + 1, p => bitsN w p ||| (if p w then 2 ^ w else 0)
theorem bitsN_bit (w : Nat) (p : Nat → Bool) (b : Nat) : (bitsN w p).testBit b = (decide (b < w) && p b) := by
 induction w with
 | zero => simp [bitsN]
 | succ w ih =>
  rw [bitsN, Nat.testBit_or, ih]
  by_cases h : b = w
  ·subst h
   cases hp : p b <;> simp
  have e : (if p w = true then 2 ^ w else 0 : Nat).testBit b = false := by
   split
   ·rw [Nat.testBit_two_pow]; exact decide_eq_false (fun e => h e.symm)
   simp
  rw [e, Bool.or_false]
  congr 1
  apply decide_eq_decide.2
  omega
theorem bitsN_lt (w : Nat) (p : Nat → Bool) : bitsN w p < 2 ^ w := by
 refine Nat.lt_pow_two_of_testBit _ (fun i hi => ?_)
 rw [bitsN_bit, decide_eq_false (by omega)]; rfl
theorem bit_high {m w b : Nat} (h : m < 2 ^ w) (hb : w ≤ b) : m.testBit b = false := Nat.testBit_lt_two_pow (Nat.lt_of_lt_of_le h (Nat.pow_le_pow_right (by decide) hb))
theorem bits_ext {m k w : Nat} (h1 : m < 2 ^ w) (h2 : k < 2 ^ w) (h : ∀ b, b < w → m.testBit b = k.testBit b) : m = k := Nat.eq_of_testBit_eq fun b => by
 by_cases hb : b < w
 ·exact h b hb
 rw [bit_high h1 (by omega), bit_high h2 (by omega)]
theorem bitsN_eq {m w : Nat} {p : Nat → Bool} (h1 : m < 2 ^ w) (h : ∀ b, b < w → m.testBit b = p b) : m = bitsN w p :=
 bits_ext h1 (bitsN_lt w p) (fun b hb => by rw [bitsN_bit, decide_eq_true hb, h b hb]; rfl)
theorem bitsN_congr {w : Nat} {p q : Nat → Bool} (h : ∀ b, b < w → p b = q b) : bitsN w p = bitsN w q :=
 bitsN_eq (bitsN_lt w p) (fun b hb => by rw [bitsN_bit, decide_eq_true hb, h b hb]; rfl)
theorem or_bit (m b j : Nat) : (m ||| 2 ^ b).testBit j = (m.testBit j || decide (b = j)) := by rw [Nat.testBit_or, Nat.testBit_two_pow]
def membersN (w m : Nat) : List Int := ((List.range w).filter fun b => m.testBit b).map fun (b : Nat) => (b : Int)
theorem membersN_len (w m : Nat) : (membersN w m).length ≤ w := by
 unfold membersN
 rw [List.length_map]
 have := List.length_filter_le (fun b => m.testBit b) (List.range w)
 rwa [List.length_range] at this
def memTo (m k : Nat) : List Int := membersN k m
theorem memTo_succ (m k : Nat) : memTo m (k + 1) = memTo m k ++ (if m.testBit k then [(k : Int)] else []) := by
 unfold memTo membersN
 rw [List.range_succ, List.filter_append, List.map_append]
 congr 1
 simp only [List.filter_cons, List.filter_nil]
 split <;> rfl
theorem memTo_skip {m k j : Nat} (hkj : k ≤ j) (h : ∀ b, k ≤ b → b < j → m.testBit b = false) : memTo m j = memTo m k := by
 induction j with
 | zero =>
  have : k = 0 := by omega
  subst this; rfl
 | succ j ih =>
  by_cases e : k = j + 1
  ·subst e; rfl
  rw [memTo_succ, h j (by omega) (by omega), ih (by omega) (fun b h1 h2 => h b h1 (by omega))]
  simp
theorem membersN_all {w m k : Nat} (hm : m < 2 ^ w) (h : w ≤ k) : memTo m k = membersN w m :=
 memTo_skip (m := m) h (fun b hb _ => bit_high hm hb)
end Go.Proofs.YtjeohlooaiociaaGreatDoor
namespace Go.Proofs.YtjeohlooaiociaaGreatDoor
open Go Go.RowKit
theorem alloc_size1 (w : World) (o : Obj) : (w.alloc o).heap.size = w.heap.size + 1 := by simp
def SetNo (e0 : Int) (W : World) (e : Ending) (w' : World) : Prop := e = .returned (.tuple #[.agg #[.int .i64 0, .slice none 0 0], .int .i64 e0]) ∧ Ext No W w'
set_option maxHeartbeats 400000 in
theorem bempty_any (M : Nat → Prop) (w : Nat) (W : World) (hM : ∀ b, M b → b < W.heap.size) (hw : w ≤ 256) : Calls Tryz.prog 76 #[.int .i64 (w : Int)] W (SetEPost M w 0 W) := by
 have hmk := mk_words (nw w) (by unfold nw; omega)
 have hr : rangedB w = true := decide_eq_true ⟨by omega, by omega⟩
 go_enter Tryz.func76, Tryz.ntmps76
 go_wp2_with fail
 refine (ranged_any _ _).mono ?_
 rintro e1 w1 ⟨rfl, rfl⟩
 rw [hr]
 go_wp2_with fail
 refine (words_any w hw _).mono ?_
 rintro e2 w2 ⟨rfl, rfl⟩
 go_wp2_with fail
 have hC : ((W.alloc (.cells #[.int .i64 (w : Int), .slice (some ⟨W.heap.size + 1, 0, none⟩) (nw w) (nw w)] 50)).alloc (.cells (zeroW (nw w)) 100)).heap[W.heap.size]? = some (.cells #[.int .i64 (w : Int), .slice (some ⟨W.heap.size + 1, 0, none⟩) (nw w) (nw w)] 50 (0, 0)) := alloc_under (alloc_top rfl)
 have cC := cellOf hC
 have ho := OwnW.zero (W := W.alloc (.cells #[.int .i64 (w : Int), .slice (some ⟨W.heap.size + 1, 0, none⟩) (nw w) (nw w)] 50)) (w := w) (Nat.le_refl _) hw
 simp only [alloc_size1] at ho
 refine ret_ex rfl ?_
 simp [results, Tryz.results76, go_sem, cC]
 exact ⟨_, _, rfl, Lib.hid (ho.fin (W0 := W) (Nat.le_succ _) hM (Ext.refl _ _) hw (Nat.two_pow_pos w)), ((Ext.refl _ _).alloc _).alloc _⟩
end Go.Proofs.YtjeohlooaiociaaGreatDoor
namespace Go.Proofs.YtjeohlooaiociaaGreatDoor
open Go Go.RowKit
theorem div_cast (x k : Nat) : (x : Int) / (k : Int) = ((x / k : Nat) : Int) := by simp
theorem popA_int (x : Nat) (hx : x < 18446744073709551616) : IntKind.u64.wrap (bits .and .u64 ((x : Int) / 2) 6148914691236517205 + bits .and .u64 (x : Int) 6148914691236517205) = ((popA x : Nat) : Int) := by
 have h := (popN_spec x hx).1
 rw [show ((x : Int) / 2) = ((x / 2 : Nat) : Int) from div_cast x 2, show (6148914691236517205 : Int) = ((m0 : Nat) : Int) from rfl, bits_and _ _ (by omega) (by decide), bits_and _ _ hx (by decide), ← Int.natCast_add]
 exact wrapU _ h
theorem popC_int (x : Nat) (hx : x < 18446744073709551616) : IntKind.u64.wrap (bits .and .u64 ((popA x : Int) / 4) 3689348814741910323 + bits .and .u64 (popA x : Int) 3689348814741910323) = ((popC x : Nat) : Int) := by
 obtain ⟨h1, h2, _⟩ := popN_spec x hx
 rw [show ((popA x : Int) / 4) = ((popA x / 4 : Nat) : Int) from div_cast _ 4, show (3689348814741910323 : Int) = ((m1 : Nat) : Int) from rfl, bits_and _ _ (by omega) (by decide), bits_and _ _ h1 (by decide), ← Int.natCast_add]
 exact wrapU _ h2
theorem wrapM (n : Nat) : IntKind.u64.wrap (n : Int) = ((n % 18446744073709551616 : Nat) : Int) := by
 simp only [IntKind.wrap, IntKind.bits, IntKind.signed]
 simp
theorem popD_int (x : Nat) : bits .and .u64 (IntKind.u64.wrap ((popC x : Int) / 16 + (popC x : Int))) 1085102592571150095 = ((popD x : Nat) : Int) := by
 rw [show ((popC x : Int) / 16) = ((popC x / 16 : Nat) : Int) from div_cast _ 16, ← Int.natCast_add, wrapM, show (1085102592571150095 : Int) = ((m2 : Nat) : Int) from rfl, bits_and _ _ (Nat.mod_lt _ (by decide)) (by decide)]
 rfl
theorem popE_int (x : Nat) : IntKind.u64.wrap ((popD x : Int) + (popD x : Int) / 256) = ((popE x : Nat) : Int) := by
 rw [show ((popD x : Int) / 256) = ((popD x / 256 : Nat) : Int) from div_cast _ 256, ← Int.natCast_add, wrapM]; rfl
theorem popF_int (x : Nat) : IntKind.u64.wrap ((popE x : Int) + (popE x : Int) / 65536) = ((popF x : Nat) : Int) := by
 rw [show ((popE x : Int) / 65536) = ((popE x / 65536 : Nat) : Int) from div_cast _ 65536, ← Int.natCast_add, wrapM]; rfl
theorem popG_int (x : Nat) : IntKind.u64.wrap ((popF x : Int) + (popF x : Int) / 4294967296) = ((popG x : Nat) : Int) := by
 rw [show ((popF x : Int) / 4294967296) = ((popF x / 4294967296 : Nat) : Int) from div_cast _ 4294967296, ← Int.natCast_add, wrapM]; rfl
theorem popN_int (x : Nat) : bits .and .i64 (wrap64 (popG x : Int)) 127 = ((popN x : Nat) : Int) := by
 have hg : popG x < 18446744073709551616 := Nat.mod_lt _ (by decide)
 unfold popN
 generalize popG x = g at *
 unfold bits
 show IntKind.i64.wrap (((BitVec.ofInt 64 (wrap64 (g : Int)) &&& BitVec.ofInt 64 127).toNat : Nat) : Int) = _
 have e1 : (BitVec.ofInt 64 (wrap64 (g : Int))).toNat = g := by
  rw [BitVec.toNat_ofInt]
  unfold wrap64
  omega
 have e2 : (BitVec.ofInt 64 127).toNat = 2 ^ 7 - 1 := by decide
 rw [BitVec.toNat_and, e1, e2, Nat.and_two_pow_sub_one_eq_mod]
 have : g % 2 ^ 7 < 128 := Nat.mod_lt _ (by decide)
 exact IntWalk.i64_in _ (by omega)
set_option maxHeartbeats 400000 in
theorem ones_any (x : Nat) (hx : x < 18446744073709551616) (W : World) : Calls Tryz.prog 74 #[.int .u64 (x : Int)] W fun e w' => e = .returned (.int .i64 (popN x : Int)) ∧ W = w' := by
 have hA := popA_int x hx
 have hC := popC_int x hx
 have hD := popD_int x
 have hE := popE_int x
 have hF := popF_int x
 have hG := popG_int x
 go_enter Tryz.func74, Tryz.ntmps74
 go_wp2_with fail
 go_ret
 exact ⟨ret_int (popN_int x), rfl⟩
def cntN (m : Nat) : Nat → Nat
 | 0 => 0
 | k + 1 => cntN m k + popN (wordN m k)
theorem cntN_le (m k : Nat) : cntN m k ≤ 64 * k := by
 induction k with
 | zero => exact Nat.le_refl _
 | succ k ih => rw [cntN]; have := (popN_spec _ (wordN_lt m k)).2.2.2.1; omega
theorem cntN_zero (m : Nat) : ∀ k, (cntN m k = 0 ↔ ∀ j, j < k → wordN m j = 0) := by
 intro k
 induction k with
 | zero => simp [cntN]
 | succ k ih =>
  rw [cntN]
  have h := (popN_spec _ (wordN_lt m k)).2.2.2.2
  constructor
  ·intro h0 j hj
   by_cases e : j = k
   ·subst e; exact h.1 (by omega)
   exact ih.1 (by omega) j (by omega)
  intro h0
  rw [h.2 (h0 k (by omega)), ih.2 (fun j hj => h0 j (by omega))]
theorem words_zero {w m : Nat} (hm : m < 2 ^ w) : (∀ j, j < nw w → wordN m j = 0) ↔ m = 0 := by
 constructor
 ·intro h
  refine wordsN_inj hm (Nat.two_pow_pos w) ?_
  unfold wordsN
  refine List.map_congr_left (fun j hj => ?_)
  rw [h j (List.mem_range.1 hj)]; simp [wordN]
 rintro rfl j _; simp [wordN]
def CntPost (w m : Nat) (W : World) (e : Ending) (w' : World) : Prop := e = .returned (.int .i64 (cntN m (nw w) : Int)) ∧ Ext No W w'
set_option maxRecDepth 100000 in
set_option maxHeartbeats 1000000 in
theorem count_any (w m : Nat) (sl : Value) (W : World) (h : SetAt No W sl w m) : Calls Tryz.prog 35 #[.agg #[.int .i64 (w : Int), sl]] W (CntPost w m W) := by
 have H := Lib.hid h
 obtain ⟨a, c, rfl⟩ := h.slice
 have hv := validB_set h.hw h.hm
 have hw := h.hw
 clear h
 have hnw : nw w ≤ 5 := by unfold nw; omega
 go_enter Tryz.func35, Tryz.ntmps35
 go_wp2_with fail
 refine (valid_any _ (setN w m) _ (H.out.raw.extNo ((Ext.refl _ _).alloc _))).mono ?_
 rintro e1 w1 ⟨rfl, hx1⟩
 rw [hv]
 have hB := hx1.blk (alloc_top (w := W) rfl) no_no
 have cB := cellOf hB
 have hx := Lib.hid (Ext.transNo ((Ext.refl _ _).alloc _) hx1 : Ext No W w1)
 clear hx1
 go_wp2_with fail
 clear cB
 go_loop [3, 11] (fun v i => ∃ k : Nat, k ≤ nw w ∧ i = .int .i64 k ∧ v = .int .i64 (cntN m k : Int)) (fun _ i => nw w - (intOf i).toNat)
 case atStart => exact ⟨0, Nat.zero_le _, rfl, rfl⟩
 obtain ⟨k, hk, rfl, rfl⟩ := hrel
 have hpos : (0 : Int) ≤ (k : Int) := by omega
 by_cases hlt : k < nw w
 ·obtain ⟨b, off, cap, hsl, _, _, hcell⟩ := (H.out.extNo hx.out).at (by omega)
  simp only [Value.slice.injEq] at hsl
  obtain ⟨rfl, _, rfl⟩ := hsl
  have q0 := hcell k hlt
  have hle := cntN_le m k
  have hp := (popN_spec _ (wordN_lt m k)).2.2.2.1
  have HKK : Hid (Value.int .i64 ((k : Int) + 1) = .int .i64 ((k + 1 : Nat) : Int)) := Lib.hid (by rw [show ((k + 1 : Nat) : Int) = (k : Int) + 1 from by omega])
  have HCC : Hid (Value.int .i64 ((cntN m k : Int) + (popN (wordN m k) : Int)) = .int .i64 ((cntN m (k + 1) : Nat) : Int)) := Lib.hid (by rw [cntN, Int.natCast_add])
  have hlz : (k : Int) < (nw w : Int) := by omega
  have hlw := wordN_lt m k
  clear hcell
  go_wp2_with ((go_at_call 74; (with_reducible refine (ones_any _ ?_ _).mono ?_); (exact hlw); (rintro e w' ⟨rfl, rfl⟩)))
  go_round
  case rel => exact ⟨k + 1, by omega, HKK.out, HCC.out⟩
  case measure => simp [intOf]; omega
 obtain rfl : k = nw w := by omega
 go_wp2_with fail
 go_ret
 exact ⟨rfl, hx.out⟩
def subN (m k : Nat) : Bool := decide (diffN m k = 0)
set_option maxRecDepth 100000 in
set_option maxHeartbeats 1000000 in
theorem subset_any (w m k : Nat) (s1 s2 : Value) (W : World) (h1 : SetAt No W s1 w m) (h2 : SetAt No W s2 w k) : Calls Tryz.prog 92 #[.agg #[.int .i64 (w : Int), s1], .agg #[.int .i64 (w : Int), s2]] W (BoolPost (subN m k) W) := by
 have H1 := Lib.hid h1
 have H2 := Lib.hid h2
 obtain ⟨a1, c1, rfl⟩ := h1.slice
 obtain ⟨a2, c2, rfl⟩ := h2.slice
 clear h1 h2
 go_enter Tryz.func92, Tryz.ntmps92
 go_wp2_with fail
 have hxa : Ext No W ((W.alloc (.cells #[.int .i64 (w : Int), .slice a1 (nw w) c1] 50)).alloc (.cells #[.int .i64 (w : Int), .slice a2 (nw w) c2] 50)) := ((Ext.refl _ _).alloc _).alloc _
 refine (diff_any (Lo ((W.alloc (.cells #[.int .i64 (w : Int), .slice a1 (nw w) c1] 50)).alloc (.cells #[.int .i64 (w : Int), .slice a2 (nw w) c2] 50)).heap.size) w m k _ _ _ (fun _ x => x) (H1.out.extNo hxa) (H2.out.extNo hxa)).mono ?_
 rintro e1 w1 ⟨a3, c3, rfl, hs1, hx1⟩
 have hx := Lib.hid (hxa.transNo hx1)
 have hS := Lib.hid hs1.out.no
 clear hxa hs1 hx1
 go_wp2_with fail
 have hx2 : Ext No w1 (w1.alloc (.cells #[.int .i64 (w : Int), .slice a3 (nw w) c3] 50)) := (Ext.refl _ _).alloc _
 refine (count_any w (diffN m k) _ _ (hS.out.extNo hx2)).mono ?_
 rintro e3 w3 ⟨rfl, hx3⟩
 have hxf := (hx.out.transNo hx2).transNo hx3
 clear hx2 hx3
 have hz : cntN (diffN m k) (nw w) = 0 ↔ diffN m k = 0 := (cntN_zero _ _).trans (words_zero hS.out.hm)
 cases hb : subN m k with
 | true =>
  have e : ((cntN (diffN m k) (nw w) : Int) == 0) = true := by
   have := hz.2 (of_decide_eq_true hb)
   simp; exact this
  clear hz
  go_wp2_with fail
  go_ret
  rw [hb]
  exact ⟨rfl, hxf⟩
 | false =>
  have e : ((cntN (diffN m k) (nw w) : Int) == 0) = false := by
   have := mt hz.1 (of_decide_eq_false hb)
   simp; exact this
  clear hz
  go_wp2_with fail
  go_ret
  rw [hb]
  exact ⟨rfl, hxf⟩
end Go.Proofs.YtjeohlooaiociaaGreatDoor
namespace Go.Proofs.YtjeohlooaiociaaGreatDoor
open Go Go.RowKit
def eqW (l k : List Nat) : Bool := decide (l = k)
set_option maxRecDepth 100000 in
set_option maxHeartbeats 1000000 in
theorem sequal_any (l k : List Nat) (u v : Value) (W : World) (hu : WordsAt No W u l) (hv : WordsAt No W v k) (hl : l.length = k.length) : Calls Tryz.prog 144 #[u, v] W (BoolPost (eqW l k) W) := by
 have HU := Lib.hid hu
 have HV := Lib.hid hv
 have HL := Lib.hid hl
 obtain ⟨au, cu, rfl⟩ := hu.slice
 obtain ⟨av, cv, rfl⟩ := hv.slice
 have hbig : l.length ≤ 9223372036854775807 := hu.row.2.1
 rw [← hl]
 clear hu hv hl
 go_enter Tryz.func144, Tryz.ntmps144
 go_wp2_with fail
 have hx0 : Hid (Ext No W W) := Lib.hid (Ext.refl _ _)
 go_loopw [13] (fun i wr => ∃ q : Nat, q ≤ l.length ∧ i = .int .i64 q ∧ Hid (∀ j (h1 : j < l.length) (h2 : j < k.length), j < q → l[j] = k[j]) ∧ Hid (Ext No W wr)) (fun i _ => l.length - (intOf i).toNat)
 case atStart => exact ⟨0, Nat.zero_le _, rfl, Lib.hid (fun j _ _ h => by omega), hx0⟩
 clear hx0
 obtain ⟨q, hq0, rfl, hq, hx⟩ := hrel
 rename World => wr
 have hpos : (0 : Int) ≤ (q : Int) := by omega
 by_cases hlt : q < l.length
 ·have hlt2 : q < k.length := HL.out ▸ hlt
  obtain ⟨bu, ou, pu, hsu, _, _, hcu⟩ := (HU.out.extNo hx.out).at hlt
  obtain ⟨bv, ov, pv, hsv, _, _, hcv⟩ := (HV.out.extNo hx.out).at hlt2
  rw [← HL.out] at hsv
  simp only [Value.slice.injEq] at hsu hsv
  obtain ⟨rfl, _, rfl⟩ := hsu
  obtain ⟨rfl, _, rfl⟩ := hsv
  have q0 := hcu q hlt
  have q1 := hcv q hlt2
  obtain ⟨x, hxe⟩ : ∃ x, x = l[q] := ⟨_, rfl⟩
  obtain ⟨y, hye⟩ : ∃ y, y = k[q] := ⟨_, rfl⟩
  rw [← hxe] at q0
  rw [← hye] at q1
  have HXE := Lib.hid hxe
  have HYE := Lib.hid hye
  clear hcu hcv hxe hye
  have HKK : Hid (Value.int .i64 ((q : Int) + 1) = .int .i64 ((q + 1 : Nat) : Int)) := Lib.hid (by rw [show ((q + 1 : Nat) : Int) = (q : Int) + 1 from by omega])
  have hlz : (q : Int) < (l.length : Int) := by omega
  by_cases he : x = y
  ·have hez : (x : Int) = (y : Int) := by omega
   go_wp2_with fail
   go_quiet (fail)
   go_wp2_with fail
   go_roundw
   case rel => exact ⟨q + 1, by omega, HKK.out, Lib.hid (fun j h1 h2 h3 => by
    by_cases hj : j < q
    ·exact hq.out j h1 h2 hj
    obtain rfl : j = q := by omega
    rw [← HXE.out, ← HYE.out, he]), Lib.hid (hx.out.drewN _)⟩
   case measure => simp [intOf]; omega
  have hez : ¬ (x : Int) = (y : Int) := by omega
  have e : eqW l k = false := decide_eq_false (fun h => he (by rw [HXE.out, HYE.out]; simp only [h]))
  go_wp2_with fail
  go_quiet (fail)
  go_wp2_with fail
  go_ret
  rw [e]
  exact ⟨rfl, hx.out.drewN _⟩
 have hge : (l.length : Int) ≤ (q : Int) := by omega
 have e : eqW l k = true := decide_eq_true (List.ext_getElem HL.out (fun j h1 h2 => hq.out j h1 h2 (by omega)))
 go_wp2_with fail
 go_ret
 rw [e]
 exact ⟨rfl, hx.out⟩
set_option maxRecDepth 100000 in
set_option maxHeartbeats 1000000 in
theorem equal_any (w m k : Nat) (s1 s2 : Value) (W : World) (h1 : SetAt No W s1 w m) (h2 : SetAt No W s2 w k) : Calls Tryz.prog 129 #[.agg #[.int .i64 (w : Int), s1], .agg #[.int .i64 (w : Int), s2]] W (BoolPost (decide (m = k)) W) := by
 have H1 := Lib.hid h1
 have H2 := Lib.hid h2
 have hv1 := validB_set h1.hw h1.hm
 have hv2 := validB_set h2.hw h2.hm
 have he : eqW (wordsN w m) (wordsN w k) = decide (m = k) := decide_eq_decide.2 ⟨wordsN_inj h1.hm h2.hm, fun e => by rw [e]⟩
 have HE := Lib.hid he
 obtain ⟨a1, c1, rfl⟩ := h1.slice
 obtain ⟨a2, c2, rfl⟩ := h2.slice
 clear h1 h2 he
 go_enter Tryz.func129, Tryz.ntmps129
 go_wp2_with fail
 have hx0 : Ext No W ((W.alloc (.cells #[.int .i64 (w : Int), .slice a1 (nw w) c1] 50)).alloc (.cells #[.int .i64 (w : Int), .slice a2 (nw w) c2] 50)) := ((Ext.refl _ _).alloc _).alloc _
 refine (valid_any _ (setN w m) _ (H1.out.raw.extNo hx0)).mono ?_
 rintro e1 w1 ⟨rfl, hx1⟩
 rw [hv1]
 have hA := hx1.blk (n := W.heap.size) (alloc_under (alloc_top rfl)) no_no
 have hB := hx1.blk (n := W.heap.size + 1) (alloc_top (by simp)) no_no
 have hxa := Lib.hid (hx0.transNo hx1)
 have HA := Lib.hid hA
 have cB := cellOf hB
 have HB := Lib.hid hB
 clear hx0 hx1 hA hB
 go_wp2_with fail
 refine (valid_any _ (setN w k) _ (H2.out.raw.extNo hxa.out)).mono ?_
 rintro e2 w2 ⟨rfl, hx2⟩
 rw [hv2]
 have cA2 := cellOf (hx2.blk HA.out no_no)
 have cB2 := cellOf (hx2.blk HB.out no_no)
 have hxb := Lib.hid (hxa.out.transNo hx2)
 clear hx2 cB HA HB hxa
 go_wp2_with fail
 refine (sequal_any _ _ _ _ _ (H1.out.words.extNo hxb.out) (H2.out.words.extNo hxb.out) (by rw [wordsN_len, wordsN_len])).mono ?_
 rintro e3 w3 ⟨rfl, hx3⟩
 rw [HE.out]
 have hxf := hxb.out.transNo hx3
 clear hx3 HE
 go_wp2_with fail
 all_goals
  go_ret
  exact ⟨rfl, hxf⟩
end Go.Proofs.YtjeohlooaiociaaGreatDoor
namespace Go.Proofs.YtjeohlooaiociaaGreatDoor
open Go Go.RowKit
def TabW (w : World) : Prop := ∀ j, j < 64 → w.cell? ⟨0, j, none⟩ = some (.int .u8 (Lib.deBruijn64tab.getD j 0 : Nat))
theorem TabW.extM {M : Nat → Prop} {w w' : World} (h : TabW w) (hx : Ext M w w') (hM : ¬ M 0) : TabW w' := fun j hj => hx.keepM (h j hj) hM
theorem TabW.ext {w w' : World} (h : TabW w) (hx : Ext No w w') : TabW w' := h.extM hx no_no
theorem bits_and_u64 (a b : Nat) (ha : a < 2 ^ 64) (hb : b < 2 ^ 64) : bits .and .u64 (a : Int) (b : Int) = ((a &&& b : Nat) : Int) := bits_and a b ha hb
theorem tz_key (x a : Nat) (hx : x < 18446744073709551616) (hx0 : x ≠ 0) (hlow : x &&& (18446744073709551616 - x) = a) :
  IntKind.u64.wrap (bits BinOp.and IntKind.u64 (x : Int) (IntKind.u64.wrap (-(x : Int))) * 285870213051353865) / 288230376151711744 = ((a * 285870213051353865 % 18446744073709551616 / 288230376151711744 : Nat) : Int) := by
 have e1 : IntKind.u64.wrap (-(x : Int)) = ((18446744073709551616 - x : Nat) : Int) := by
  simp only [IntKind.wrap, IntKind.bits, IntKind.signed]; simp; omega
 rw [e1, bits_and_u64 x _ hx (by omega), hlow, show ((a : Int) * 285870213051353865) = ((a * 285870213051353865 : Nat) : Int) from by simp, wrapM]
 exact div_cast _ 288230376151711744
set_option maxHeartbeats 400000 in
theorem tz_core (x k idx : Nat) (W : World) (hx0 : ((x : Int) == 0) = false)
  (key : IntKind.u64.wrap (bits BinOp.and IntKind.u64 (x : Int) (IntKind.u64.wrap (-(x : Int))) * 285870213051353865) / 288230376151711744 = (idx : Int))
  (hi : idx < 64) (hk : k < 64) (hcell : W.cell? ⟨0, idx, none⟩ = some (.int .u8 (k : Int))) :
  Calls Tryz.prog 77 #[.int .u64 (x : Int)] W fun e w' => e = .returned (.int .i64 (k : Int)) ∧ W = w' := by
 go_enter Tryz.func77, Tryz.ntmps77
 go_wp2_with (simp only [key])
 go_ret
 exact ⟨rfl, rfl⟩
theorem tz_any (x : Nat) (hx : x < 18446744073709551616) (h0 : x ≠ 0) (W : World) (hT : TabW W) : Calls Tryz.prog 77 #[.int .u64 (x : Int)] W fun e w' => e = .returned (.int .i64 (Lib.ctz 64 x : Int)) ∧ W = w' := by
 obtain ⟨hlow, hk⟩ := Lib.lowest_bit 64 x h0 hx
 obtain ⟨hi, htab⟩ := Lib.deBruijn64_at _ hk
 have hcell := hT _ hi
 rw [htab] at hcell
 exact tz_core x _ _ W (by simp; omega) (tz_key x _ hx h0 hlow) hi hk hcell
theorem ctz_bits (x : Nat) (h0 : x ≠ 0) (h : x < 2 ^ 64) : x.testBit (Lib.ctz 64 x) = true ∧ (∀ b, b < Lib.ctz 64 x → x.testBit b = false) ∧ Lib.ctz 64 x < 64 ∧ (∀ b, (x &&& (x - 1)).testBit b = (x.testBit b && decide (b ≠ Lib.ctz 64 x))) := by
 obtain ⟨m, hm, hk⟩ := Lib.ctzFrom_spec 64 x (by omega) h
 have e : Lib.ctz 64 x = Lib.ctzFrom 64 x := by simp [Lib.ctz, h0]
 rw [e]
 generalize Lib.ctzFrom 64 x = c at *
 have hp := Nat.two_pow_pos c
 have hb1 : ∀ b, x.testBit b = if b < c then false else (2 * m + 1).testBit (b - c) := fun b => by
  have := Nat.testBit_two_pow_mul_add (2 * m + 1) hp b
  rw [Nat.add_zero] at this
  rw [hm, this]
  split <;> simp
 have hb2 : ∀ b, (x - 1).testBit b = if b < c then true else (2 * m).testBit (b - c) := fun b => by
  have e1 : x - 1 = 2 ^ c * (2 * m) + (2 ^ c - 1) := by rw [hm, Nat.mul_add, Nat.mul_one]; omega
  rw [e1, Nat.testBit_two_pow_mul_add _ (by omega)]
  split
  ·rw [Nat.testBit_two_pow_sub_one]; simpa using ‹b < c›
  rfl
 refine ⟨?_, ?_, hk, ?_⟩
 ·rw [hb1, if_neg (Nat.lt_irrefl _), Nat.sub_self]; simp [Nat.testBit_zero]
 ·intro b hb; rw [hb1, if_pos hb]
 intro b
 rw [Nat.testBit_and, hb1, hb2]
 by_cases hb : b < c
 ·simp [hb]
 rw [if_neg hb, if_neg hb]
 by_cases he : b = c
 ·subst he; rw [Nat.sub_self]; simp [Nat.testBit_zero]
 obtain ⟨d, rfl⟩ : ∃ d, b = c + (d + 1) := ⟨b - c - 1, by omega⟩
 have e3 : c + (d + 1) - c = d + 1 := by omega
 rw [e3, Nat.testBit_succ, Nat.testBit_succ, show (2 * m + 1) / 2 = m by omega, show (2 * m) / 2 = m by omega]
 simp
structure HiOf (x y j : Nat) : Prop where
 lt : x < 2 ^ 64
 le : j ≤ 64
 bit : ∀ b, x.testBit b = (y.testBit b && decide (j ≤ b))
theorem HiOf.start {y : Nat} (h : y < 2 ^ 64) : HiOf y y 0 := ⟨h, by omega, fun b => by simp⟩
theorem HiOf.step {x y j : Nat} (h : HiOf x y j) (h0 : x ≠ 0) : HiOf (x &&& (x - 1)) y (Lib.ctz 64 x + 1) ∧ j ≤ Lib.ctz 64 x ∧ y.testBit (Lib.ctz 64 x) = true ∧ (∀ b, j ≤ b → b < Lib.ctz 64 x → y.testBit b = false) ∧ x &&& (x - 1) < x ∧ Lib.ctz 64 x < 64 := by
 obtain ⟨h1, h2, h3, h4⟩ := ctz_bits x h0 h.lt
 generalize Lib.ctz 64 x = c at *
 have hc := h.bit c
 rw [h1] at hc
 have hc' : y.testBit c = true ∧ j ≤ c := by
  have := hc.symm
  simpa using this
 have hlow : ∀ b, j ≤ b → b < c → y.testBit b = false := fun b hj hb => by
  have h5 := h.bit b
  rw [h2 b hb, decide_eq_true hj, Bool.and_true] at h5
  exact h5.symm
 refine ⟨⟨Nat.lt_of_le_of_lt Nat.and_le_left h.lt, by omega, fun b => ?_⟩, hc'.2, hc'.1, hlow, ?_, h3⟩
 ·rw [h4 b, h.bit b]
  by_cases hb : c + 1 ≤ b
  ·simp [hb, show j ≤ b by omega, show b ≠ c by omega]
  rw [decide_eq_false hb, Bool.and_false]
  by_cases he : b = c
  ·simp [he]
  by_cases hj : j ≤ b
  ·rw [hlow b hj (by omega)]; rfl
  simp [hj]
 have : x &&& (x - 1) ≤ x - 1 := Nat.and_le_right
 omega
theorem HiOf.done {x y j : Nat} (h : HiOf x y j) (h0 : x = 0) : ∀ b, j ≤ b → y.testBit b = false := fun b hb => by
 have := h.bit b
 subst h0
 rw [decide_eq_true hb, Bool.and_true, Nat.zero_testBit] at this
 exact this.symm
theorem memTo_step {m k x j : Nat} (h : HiOf x (wordN m k) j) (h0 : x ≠ 0) : memTo m (64 * k + (Lib.ctz 64 x + 1)) = memTo m (64 * k + j) ++ [((64 * k + Lib.ctz 64 x : Nat) : Int)] := by
 obtain ⟨_, h1, h2, h3, _, h5⟩ := h.step h0
 generalize Lib.ctz 64 x = c at *
 rw [← Nat.add_assoc, memTo_succ, memTo_skip (j := 64 * k + c) (k := 64 * k + j) (by omega)]
 ·congr 1
  have := wordN_bit m k c
  rw [h2, decide_eq_true h5, Bool.true_and] at this
  rw [if_pos this.symm]
 intro b hb1 hb2
 have := h3 (b - 64 * k) (by omega) (by omega)
 rw [wordN_bit, decide_eq_true (by omega), Bool.true_and, show 64 * k + (b - 64 * k) = b by omega] at this
 exact this
theorem memTo_done {m k x j : Nat} (h : HiOf x (wordN m k) j) (h0 : x = 0) : memTo m (64 * (k + 1)) = memTo m (64 * k + j) := by
 have hj := h.le
 refine memTo_skip (by omega) (fun b hb1 hb2 => ?_)
 have := h.done h0 (b - 64 * k) (by omega)
 rw [wordN_bit, decide_eq_true (by omega), Bool.true_and, show 64 * k + (b - 64 * k) = b by omega] at this
 exact this
theorem memTo_len (m k : Nat) : (memTo m k).length ≤ k := membersN_len k m
end Go.Proofs.YtjeohlooaiociaaGreatDoor
namespace Go.Proofs.YtjeohlooaiociaaGreatDoor
open Go Go.RowKit
theorem infoI : (Tryz.prog.info? 3).map (fun i => (i.zero, i.size, i.bytes)) = some (some (.int .i64 0), 1, 8) := by kernel_rfl
def ints (l : List Int) : List Value := l.map (.int .i64)
theorem ints_app (l k : List Int) : ints (l ++ k) = ints l ++ ints k := List.map_append
theorem ints_len (l : List Int) : (ints l).length = l.length := by simp [ints]
structure IntsOwn (W : World) (base : Nat) (v : Value) (l : List Int) : Prop where
 own : W.ownsRow base 3 1 v l.length (ints l)
theorem IntsOwn.nil (W : World) (base : Nat) : IntsOwn W base (.slice none 0 0) [] := ⟨⟨rfl, .inl ⟨rfl, rfl⟩⟩⟩
theorem IntsOwn.shape {W : World} {base : Nat} {v : Value} {l : List Int} (h : IntsOwn W base v l) : ∃ a c, v = .slice a l.length c := (Row.ofOwns (M := No) h.own (fun _ _ x => x)).slice
theorem IntsOwn.ext {M : Nat → Prop} {W W' : World} {base : Nat} {v : Value} {l : List Int} (h : IntsOwn W base v l) (hx : Ext M W W') (hM : ∀ i, base ≤ i → ¬ M i) : IntsOwn W' base v l := by
 obtain ⟨h⟩ := h
 refine ⟨?_⟩
 obtain ⟨h1, h2⟩ := h
 refine ⟨h1, ?_⟩
 rcases h2 with h2 | ⟨g, cap, cur, h3, hb, hg, hr⟩
 ·exact .inl h2
 exact .inr ⟨g, cap, cur, h3, hb, (hx.block g (lt_of_block hg) (hM g hb)).trans hg, hr⟩
theorem IntsOwn.app {W1 wi w5 : World} {base : Nat} {v v1 : Value} {l l2 : List Int} {o : Obj} {z : Int} (h : IntsOwn wi base v l) (hx : Ext No W1 wi) (hb : W1.heap.size ≤ base) (hown : w5.ownsRow base 3 1 v1 (l.length + 1) (ints l ++ [.int .i64 z])) (hg : (wi.alloc o).grownBy w5 v.ownBlock) (hl : l2 = l ++ [z]) :
  ∃ a c, v1 = .slice a l2.length c ∧ Hid (IntsOwn w5 base (.slice a l2.length c) l2) ∧ Hid (Ext No W1 w5) := by
 have e1 : l.length + 1 = l2.length := by rw [hl]; simp
 have e2 : ints l ++ [.int .i64 z] = ints l2 := by rw [hl, ints_app]; rfl
 rw [e1, e2] at hown
 have h2 : IntsOwn w5 base v1 l2 := ⟨hown⟩
 obtain ⟨a, c, rfl⟩ := h2.shape
 refine ⟨a, c, rfl, Lib.hid h2, Lib.hid ((hx.alloc o).grown hg (fun k hk hlt => ?_))⟩
 have := (World.ownsRow.lt h.own k hk).1
 omega
theorem IntsOwn.fin {M : Nat → Prop} {W W' : World} {base n c : Nat} {a : Option Addr} {l : List Int} (h : IntsOwn W' base (.slice a n c) l) (hn : n = l.length) (hM : ∀ b, M b → b < W.heap.size) (hb : W.heap.size ≤ base) : Row M W' 1 (.slice a n n) n (ints l) := by
 subst hn
 have h1 := (Row.ofOwns (M := M) h.own (fun b hb' hm => by have := hM b hm; omega)).take (Nat.le_refl _)
 rwa [Nat.mul_one, ← ints_len l, List.take_length, ints_len] at h1
theorem clip_any (a : Option Addr) (n c : Nat) (W : World) (hn : n ≤ c) (hc : c ≤ 9223372036854775807) : Calls Tryz.prog 78 #[.slice a n c] W fun e w' => e = .returned (.slice a n n) ∧ W = w' := by
 go_enter Tryz.func78, Tryz.ntmps78
 go_wp2_with fail
 go_ret
 exact ⟨rfl, rfl⟩
def MemPost (M : Nat → Prop) (l : List Int) (W : World) (e : Ending) (w' : World) : Prop := ∃ a, e = .returned (.slice a l.length l.length) ∧ Hid (Row M w' 1 (.slice a l.length l.length) l.length (ints l)) ∧ Ext No W w'
set_option maxRecDepth 100000 in
set_option maxHeartbeats 1000000 in
theorem members_any (M : Nat → Prop) (w m : Nat) (sl : Value) (W : World) (hM : ∀ b, M b → b < W.heap.size) (hT : TabW W) (h : SetAt No W sl w m) : Calls Tryz.prog 38 #[.agg #[.int .i64 (w : Int), sl]] W (MemPost M (membersN w m) W) := by
 have H := Lib.hid h
 have HT := Lib.hid hT
 have HM := Lib.hid hM
 obtain ⟨a, c, rfl⟩ := h.slice
 have hv := validB_set h.hw h.hm
 have hw := h.hw
 have hnw : nw w ≤ 5 := by unfold nw; omega
 obtain ⟨i0, hi0, hz0, hz1, hz2⟩ := info_parts infoI
 clear h hT hM
 go_enter Tryz.func38, Tryz.ntmps38
 go_wp2_with fail
 refine (valid_any _ (setN w m) _ (H.out.raw.extNo ((Ext.refl _ _).alloc _))).mono ?_
 rintro e1 w1 ⟨rfl, hx1⟩
 rw [hv]
 have hB := hx1.blk (alloc_top (w := W) rfl) no_no
 have cB := cellOf hB
 have hx := Lib.hid (Ext.transNo ((Ext.refl _ _).alloc _) hx1 : Ext No W w1)
 clear hx1 hB
 go_wp2_with fail
 clear cB
 have hs0 : Hid (IntsOwn w1 w1.heap.size (.slice none 0 0) (memTo m (64 * 0))) := Lib.hid (IntsOwn.nil _ _)
 have hx0 : Hid (Ext No w1 w1) := Lib.hid (Ext.refl _ _)
 go_loopw [3, 12] (fun v i wr => ∃ (k : Nat) (av : Option Addr) (cv : Nat), k ≤ nw w ∧ i = .int .i64 k ∧ v = .slice av (memTo m (64 * k)).length cv ∧ Hid (IntsOwn wr w1.heap.size (.slice av (memTo m (64 * k)).length cv) (memTo m (64 * k))) ∧ Hid (Ext No w1 wr)) (fun _ i _ => nw w - (intOf i).toNat)
 case atStart => exact ⟨0, none, 0, Nat.zero_le _, rfl, rfl, hs0, hx0⟩
 clear hs0 hx0
 obtain ⟨k, av, cv, hk, rfl, rfl, hs, hxr⟩ := hrel
 rename World => wr
 have hpos : (0 : Int) ≤ (k : Int) := by omega
 by_cases hlt : k < nw w
 ·obtain ⟨b, off, cap, hsl, _, _, hcell⟩ := (H.out.extNo (hx.out.transNo hxr.out)).at (by omega)
  simp only [Value.slice.injEq] at hsl
  obtain ⟨rfl, _, rfl⟩ := hsl
  have q0 := hcell k hlt
  have HKK : Hid (Value.int .i64 ((k : Int) + 1) = .int .i64 ((k + 1 : Nat) : Int)) := Lib.hid (by rw [show ((k + 1 : Nat) : Int) = (k : Int) + 1 from by omega])
  have hlz : (k : Int) < (nw w : Int) := by omega
  have hk5 : (k : Int) ≤ 5 := by omega
  have h0 := Lib.hid (HiOf.start (wordN_lt m k))
  clear hcell
  go_wp2_with fail
  clear q0
  obtain ⟨wo, rfl⟩ : ∃ wo : World, wo = wr := ⟨_, rfl⟩
  go_loopw [3, 5] (fun v x wr => ∃ (j y : Nat) (av : Option Addr) (cv : Nat), x = .int .u64 (y : Int) ∧ v = .slice av (memTo m (64 * k + j)).length cv ∧ Hid (HiOf y (wordN m k) j) ∧ Hid (IntsOwn wr w1.heap.size (.slice av (memTo m (64 * k + j)).length cv) (memTo m (64 * k + j))) ∧ Hid (Ext No w1 wr)) (fun _ x _ => (intOf x).toNat)
  case atStart => exact ⟨0, wordN m k, av, cv, rfl, rfl, h0, hs, hxr⟩
  clear h0 hs hxr
  obtain ⟨j, y, av, cv, rfl, rfl, hy, hs, hxr⟩ := hrel
  rename World => wi
  by_cases hy0 : y = 0
  ·subst hy0
   have hd := Lib.hid (memTo_done hy.out rfl)
   go_wp2_with fail
   go_roundw
   case rel => exact ⟨k + 1, av, cv, by omega, HKK.out, by rw [hd.out], Lib.hid (by rw [hd.out]; exact hs.out), hxr⟩
   case measure => simp [intOf]; omega
  have hst := Lib.hid (memTo_step hy.out hy0)
  have hm5 := memTo_len m (64 * k + j)
  have hj := hy.out.le
  have hn0 : ((y : Int) != 0) = true := by simp; omega
  have hyl := hy.out.lt
  have HY2 := Lib.hid (hy.out.step hy0).1
  have HDE : Hid (y &&& (y - 1) < y) := Lib.hid (hy.out.step hy0).2.2.2.2.1
  have hc64 := (hy.out.step hy0).2.2.2.2.2
  have g1 : IntKind.u64.wrap ((y : Int) - 1) = ((y - 1 : Nat) : Int) := by
   rw [show ((y : Int) - 1) = ((y - 1 : Nat) : Int) from by omega]; exact wrapU _ (by omega)
  have g2 : bits .and .u64 (y : Int) ((y - 1 : Nat) : Int) = ((y &&& (y - 1) : Nat) : Int) := bits_and _ _ hyl (by omega)
  have g3 : bits .and .u64 (y : Int) ((y : Int) - 1) = ((y &&& (y - 1) : Nat) : Int) := by
   rw [show ((y : Int) - 1) = ((y - 1 : Nat) : Int) from by omega]; exact g2
  have hTi := Lib.hid (HT.out.ext (hx.out.transNo hxr.out))
  clear hy
  go_wp2_with (first
   | (go_at_call 77; (with_reducible refine (tz_any y ?_ ?_ _ hTi.out).mono ?_); (exact hyl); (exact hy0); (rintro e w' ⟨rfl, rfl⟩))
   | (at_builtin; (refine wpList_app _ rfl (.tmp 23) (.tmp 29) 22 rfl w1.heap.size 3 i0 _ 1 8 Tryz.underlying22 hi0 hz0 hz1 hz2 rfl (by omega) (.slice av (memTo m (64 * k + j)).length cv) (memTo m (64 * k + j)).length (ints (memTo m (64 * k + j))) rfl (hs.out.ext ((Ext.refl No _).alloc _) (fun _ _ x => x)).own No (some ⟨wi.heap.size, 0, none⟩) 1 1 [.int .i64 ((k : Int) * 64 + (Lib.ctz 64 y : Int))] rfl (Row.block (alloc_top rfl) rfl no_no (by omega)) (by simp [Value.oneCell']) (by omega) (by omega) (by simp; exact Nat.le_succ_of_le hxr.out.size) ?_); (intro v1 w5 hown1 hg1 _)))
  obtain ⟨a1, c1, rfl, hs1, hx1⟩ := hs.out.app hxr.out (Nat.le_refl _) hown1 hg1 (l2 := memTo m (64 * k + (Lib.ctz 64 y + 1))) (by rw [hst.out]; congr 2; omega)
  go_roundw
  case rel => exact ⟨_, _, a1, c1, rfl, rfl, HY2, hs1, hx1⟩
  case measure => simp [intOf]; exact HDE.out
 obtain rfl : k = nw w := by omega
 have hall := Lib.hid (membersN_all (k := 64 * nw w) H.out.hm (nw_mul w).1)
 have hcap := (Row.ofOwns (M := No) hs.out.own (fun _ _ x => x)).caps
 obtain ⟨hcap1, hcap2⟩ := hcap
 go_wp2_with ((go_at_call 78; (with_reducible refine (clip_any _ _ _ _ ?_ ?_).mono ?_); (exact hcap1); (exact hcap2); (rintro e w' ⟨rfl, rfl⟩)))
 go_ret
 rw [hall.out] at hs ⊢
 exact ⟨av, rfl, Lib.hid (hs.out.fin rfl HM.out hx.out.size), hx.out.transNo hxr.out⟩


import Derived.Test.YtmddchceacmopaaDoorSetA
import Derived.Laws.StructEq
set_option linter.unusedVariables false
set_option linter.unusedSimpArgs false
namespace Go.Proofs.YtmddchceacmopaaDoor
open Go Go.RowKit
def cmpZ (a b : Int) : Int := if a < b then -1 else if b < a then 1 else 0
theorem isNaN_any (a : Int) (W : World) : Calls Tryd.prog 99 #[.int .i64 a] W fun e w' => e = .returned (.bool false) ∧ W = w' := by
 go_enter Tryd.func99, Tryd.ntmps99
 go_wp2
 go_ret
 exact ⟨rfl, rfl⟩
theorem cmp_any (a b : Int) (W : World) : Calls Tryd.prog 75 #[.int .i64 a, .int .i64 b] W fun e w' => e = .returned (.int .i64 (cmpZ a b)) ∧ W = w' := by
 unfold cmpZ
 by_cases h1 : a < b
 ·rw [if_pos h1]
  go_enter Tryd.func75, Tryd.ntmps75
  go_wp2_with (go_at_call 99; refine (isNaN_any _ _).mono ?_; rintro e' w1 ⟨rfl, rfl⟩)
  go_ret
  exact ⟨rfl, rfl⟩
 by_cases h2 : b < a
 ·rw [if_neg h1, if_pos h2]
  go_enter Tryd.func75, Tryd.ntmps75
  go_wp2_with (go_at_call 99; refine (isNaN_any _ _).mono ?_; rintro e' w1 ⟨rfl, rfl⟩)
  go_ret
  exact ⟨rfl, rfl⟩
 rw [if_neg h1, if_neg h2]
 go_enter Tryd.func75, Tryd.ntmps75
 go_wp2_with (go_at_call 99; refine (isNaN_any _ _).mono ?_; rintro e' w1 ⟨rfl, rfl⟩)
 go_ret
 exact ⟨rfl, rfl⟩
def orZ (a b : Int) : Int := if a = 0 then b else a
theorem or_any (a b : Int) (g : Nat) (W : World) (h0 : W.cell? ⟨g, 0, none⟩ = some (.int .i64 a)) (h1 : W.cell? ⟨g, 1, none⟩ = some (.int .i64 b)) :
  Calls Tryd.prog 104 #[.slice (some ⟨g, 0, none⟩) 2 2] W fun e w' => e = .returned (.int .i64 (orZ a b)) ∧ W = w' := by
 unfold orZ
 by_cases ha : a = 0
 ·rw [if_pos ha]
  subst ha
  by_cases hb : b = 0
  ·subst hb
   go_enter Tryd.func104, Tryd.ntmps104
   go_wp2
   go_loop [8] (fun i => i = .int .i64 0 ∨ i = .int .i64 1 ∨ i = .int .i64 2) (fun i => 2 - (intOf i).toNat)
   case atStart => exact .inl rfl
   rcases hrel with rfl | rfl | rfl
   ·go_wp2
    go_round
    case rel => exact .inr (.inl rfl)
    case measure => simp [intOf]
   ·go_wp2
    go_round
    case rel => exact .inr (.inr rfl)
    case measure => simp [intOf]
   go_wp2
   go_ret
   exact ⟨rfl, rfl⟩
  have hb' : (b != 0) = true := by simp [hb]
  clear hb
  go_enter Tryd.func104, Tryd.ntmps104
  go_wp2
  go_loop [8] (fun i => i = .int .i64 0 ∨ i = .int .i64 1) (fun i => 2 - (intOf i).toNat)
  case atStart => exact .inl rfl
  rcases hrel with rfl | rfl
  ·go_wp2
   go_round
   case rel => exact .inr rfl
   case measure => simp [intOf]
  go_wp2
  go_ret
  exact ⟨rfl, rfl⟩
 rw [if_neg ha]
 have ha' : (a != 0) = true := by simp [ha]
 clear ha
 go_enter Tryd.func104, Tryd.ntmps104
 go_wp2
 go_loop [8] (fun i => i = .int .i64 0) (fun i => 2 - (intOf i).toNat)
 case atStart => exact rfl
 subst hrel
 go_wp2
 go_ret
 exact ⟨rfl, rfl⟩
end Go.Proofs.YtmddchceacmopaaDoor
namespace Go.Proofs.YtmddchceacmopaaDoor
open Go Go.RowKit
def CopyC (c : Int × Int) : List Value := [.int .i64 c.1, .int .i64 c.2]
def flatC (l : List (Int × Int)) : List Value := l.flatMap CopyC
def CopiesAt (M : Nat → Prop) (W : World) (sl : Value) (l : List (Int × Int)) : Prop := Row M W 2 sl l.length (flatC l)
theorem flat_get {α : Type} (f : α → List Value) (n : Nat) (hf : ∀ a, (f a).length = n) : ∀ (l : List α) (i j : Nat) (hi : i < l.length), j < n → (l.flatMap f)[n * i + j]? = (f l[i])[j]? := by
 intro l
 induction l with
 | nil => intro i j hi; simp at hi
 | cons a l ih =>
  intro i j hi hj
  rw [List.flatMap_cons]
  cases i with
  | zero => simp only [Nat.mul_zero, Nat.zero_add, List.getElem_cons_zero]; rw [List.getElem?_append_left (by rw [hf]; exact hj)]
  | succ i =>
   rw [List.getElem?_append_right (by rw [hf, Nat.mul_add]; omega), hf]
   rw [show n * (i + 1) + j - n = n * i + j by rw [Nat.mul_add]; omega]
   rw [ih i j (by simpa using hi) hj]; rfl
theorem flatC_get (l : List (Int × Int)) (i j : Nat) (hi : i < l.length) (hj : j < 2) : (flatC l)[i * 2 + j]? = (CopyC l[i])[j]? := by
 rw [Nat.mul_comm i 2]; exact flat_get _ 2 (fun _ => rfl) l i j hi hj
theorem CopiesAt.at {M : Nat → Prop} {W : World} {sl : Value} {l : List (Int × Int)} (h : CopiesAt M W sl l) {i : Nat} (hi : i < l.length) : ∃ b off cap, sl = .slice (some ⟨b, off, none⟩) l.length cap ∧ b < W.heap.size ∧ ¬ M b ∧
  ∀ j (hj : j < l.length), W.cell? ⟨b, off + j * 2, none⟩ = some (.int .i64 l[j].1) ∧ W.cell? ⟨b, off + j * 2 + 1, none⟩ = some (.int .i64 l[j].2) := by
 obtain ⟨b, off, cap, h1, h2, h3, h4⟩ := Row.shape h (by omega)
 exact ⟨b, off, cap, h1, h2, h3, fun j hj => ⟨h4 (j * 2) _ (flatC_get l j 0 hj (by omega)), h4 (j * 2 + 1) _ (flatC_get l j 1 hj (by omega))⟩⟩
def compareZ (a b : Int × Int) : Int := orZ (cmpZ a.1 b.1) (cmpZ a.2 b.2)
def IntPost (z : Int) (W : World) (e : Ending) (w' : World) : Prop := e = .returned (.int .i64 z) ∧ Ext No W w'
set_option maxRecDepth 100000 in
set_option maxHeartbeats 1000000 in
theorem compare_any (a b : Int × Int) (W : World) : Calls Tryd.prog 87 #[.agg #[.int .i64 a.1, .int .i64 a.2], .agg #[.int .i64 b.1, .int .i64 b.2]] W (IntPost (compareZ a b) W) := by
 obtain ⟨a1, a2⟩ := a
 obtain ⟨b1, b2⟩ := b
 simp only
 go_enter Tryd.func87, Tryd.ntmps87
 go_wp2_with fail
 have hA := alloc_under (o := .cells #[.int .i64 b1, .int .i64 b2] 27) (alloc_top (w := W) (o := .cells #[.int .i64 a1, .int .i64 a2] 27) rfl)
 have hB := alloc_top (n := W.heap.size + 1) (w := W.alloc (.cells #[.int .i64 a1, .int .i64 a2] 27)) (o := .cells #[.int .i64 b1, .int .i64 b2] 27) (by simp)
 have hx : Ext No W ((W.alloc (.cells #[.int .i64 a1, .int .i64 a2] 27)).alloc (.cells #[.int .i64 b1, .int .i64 b2] 27)) := ((Ext.refl _ _).alloc _).alloc _
 generalize (W.alloc (.cells #[.int .i64 a1, .int .i64 a2] 27)).alloc (.cells #[.int .i64 b1, .int .i64 b2] 27) = W2 at *
 have l0 := cellOf hA 0
 have l1 := cellOf hA 1
 have l2 := cellOf hB 0
 have l3 := cellOf hB 1
 simp only [List.getElem?_toArray, List.getElem?_cons_zero, List.getElem?_cons_succ] at l0 l1 l2 l3
 go_region_held3 (fun w' => w'.cell? ⟨W.heap.size, 0, none⟩ = some (.int .i64 a1) ∧ w'.cell? ⟨W.heap.size, 1, none⟩ = some (.int .i64 a2) ∧ w'.cell? ⟨W.heap.size + 1, 0, none⟩ = some (.int .i64 b1) ∧ w'.cell? ⟨W.heap.size + 1, 1, none⟩ = some (.int .i64 b2))
  ((go_split_ands; refine ⟨?_, ?_, ?_, ?_⟩ <;> (first | ((with_reducible refine keepS2 ?_ ?_); (first | (with_reducible assumption) | (with_reducible exact keepN hyA (by with_reducible assumption))); (exact Nat.ne_of_lt hltB)) | (with_reducible assumption) | (with_reducible exact keepD (by with_reducible assumption)) | (with_reducible exact keepA (by with_reducible assumption)) | (with_reducible exact keepD (keepA (by with_reducible assumption))) | (with_reducible exact keepA (keepD (by with_reducible assumption))) | (with_reducible exact keepN hyA (by with_reducible assumption)) | (with_reducible exact keepA (keepN hyA (by with_reducible assumption))))))
  (first | ((go_at_call 75); (with_reducible refine (cmp_any _ _ _).mono ?_); (rintro e' w1 ⟨rfl, rfl⟩)) | ((go_at_call 104); (with_reducible refine (or_any (cmpZ a1 b1) (cmpZ a2 b2) _ _ ?_ ?_).mono ?_); (exact cellOf (alloc_top (by simp)) 0); (exact cellOf (alloc_top (by simp)) 1); (rintro e' w1 ⟨rfl, rfl⟩)))
 all_goals
  go_wp2
  go_ret
  exact ⟨rfl, by (repeat (first | (with_reducible exact Ext.refl _ _) | (with_reducible assumption) | (with_reducible refine Ext.drewN ?_ _) | (with_reducible refine Ext.drew ?_) | (with_reducible refine Ext.alloc ?_ _)))⟩
end Go.Proofs.YtmddchceacmopaaDoor
namespace Go.Proofs.YtmddchceacmopaaDoor
open Go Go.RowKit
def hasC (l : List (Int × Int)) (c : Int × Int) : Bool := decide (c ∈ l)
theorem hasC_true {l : List (Int × Int)} {c : Int × Int} {k : Nat} (hk : k < l.length) (h : l[k] = c) : hasC l c = true := decide_eq_true (h ▸ List.getElem_mem hk)
theorem hasC_false {l : List (Int × Int)} {c : Int × Int} (h : ∀ j (hj : j < l.length), l[j] ≠ c) : hasC l c = false := decide_eq_false (fun hm => by
 obtain ⟨j, hj, he⟩ := List.getElem_of_mem hm
 exact h j hj he)
end Go.Proofs.YtmddchceacmopaaDoor
namespace Go.Proofs.YtmddchceacmopaaDoor
open Go Go.RowKit
structure TrD where
 w : Nat
 gen : Nat
 kill : Nat
 copies : List (Int × Int)
structure TrOk (t : TrD) : Prop where
 w : t.w ≤ 256
 gen : t.gen < 2 ^ t.w
 kill : t.kill < 2 ^ t.w
 len : t.copies.length ≤ 64
 inr : ∀ i (h : i < t.copies.length), inB t.w t.copies[i].1 = true ∧ inB t.w t.copies[i].2 = true
 sorted : ∀ i (h : i + 1 < t.copies.length), compareZ t.copies[i] t.copies[i + 1] < 0
structure TrAt (M : Nat → Prop) (W : World) (sg sk sc : Value) (t : TrD) : Prop where
 gen : SetAt M W sg t.w t.gen
 kill : SetAt M W sk t.w t.kill
 copies : CopiesAt M W sc t.copies
 ok : TrOk t
section
variable {M M' : Nat → Prop} {W W' : World} {sg sk sc : Value} {t : TrD}
theorem TrAt.ext (h : TrAt M W sg sk sc t) (hx : Ext M' W W') (hm : ∀ i, i < W.heap.size → M' i → M i) : TrAt M W' sg sk sc t := ⟨h.gen.ext hx hm, h.kill.ext hx hm, Row.ext h.copies hx hm, h.ok⟩
theorem TrAt.extNo (h : TrAt M W sg sk sc t) (hx : Ext No W W') : TrAt M W' sg sk sc t := h.ext hx (fun _ _ x => x.elim)
theorem TrAt.mono (h : TrAt M W sg sk sc t) (hm : ∀ i, i < W.heap.size → M' i → M i) : TrAt M' W sg sk sc t := ⟨h.gen.mono hm, h.kill.mono hm, Row.mono h.copies hm, h.ok⟩
theorem TrAt.no (h : TrAt M W sg sk sc t) : TrAt No W sg sk sc t := h.mono (fun _ _ x => x.elim)
end
def shaped (v : Value) : Prop := ∃ a n c, v = .slice a n c
theorem shp (a : Option Addr) (n c : Nat) : shaped (.slice a n c) := ⟨a, n, c, rfl⟩
theorem SetAt.shaped {M : Nat → Prop} {W : World} {sl : Value} {w m : Nat} (h : SetAt M W sl w m) : shaped sl := by
 obtain ⟨a, c, h⟩ := h.slice; exact ⟨a, _, c, h⟩
theorem CopiesAt.shaped {M : Nat → Prop} {W : World} {sl : Value} {l : List (Int × Int)} (h : CopiesAt M W sl l) : shaped sl := by
 obtain ⟨a, c, h⟩ := Row.slice h; exact ⟨a, _, c, h⟩
theorem bit_any (wg wk : Int) (sg sk sc : Value) (b : Int) (W : World) (hg : shaped sg) (hk : shaped sk) (hc : shaped sc) : Calls Tryd.prog 86 #[.agg #[.int .i64 (wg : Int), sg, .int .i64 (wk : Int), sk, sc], .int .i64 b] W (BoolPost (inB wg b) W) := by
 obtain ⟨ag, ng, cg, rfl⟩ := hg
 obtain ⟨ak, nk, ck, rfl⟩ := hk
 obtain ⟨ac, nc, cc, rfl⟩ := hc
 by_cases h0 : 0 ≤ b
 ·by_cases h1 : b < wg
  ·rw [show inB wg b = true from decide_eq_true ⟨h0, h1⟩]
   go_enter Tryd.func86, Tryd.ntmps86
   go_wp2
   go_ret
   exact ⟨rfl, by (repeat (first | (with_reducible exact Ext.refl _ _) | (with_reducible assumption) | (with_reducible refine Ext.drewN ?_ _) | (with_reducible refine Ext.drew ?_) | (with_reducible refine Ext.alloc ?_ _)))⟩
  rw [show inB wg b = false from decide_eq_false (fun h => h1 h.2)]
  go_enter Tryd.func86, Tryd.ntmps86
  go_wp2
  go_ret
  exact ⟨rfl, by (repeat (first | (with_reducible exact Ext.refl _ _) | (with_reducible assumption) | (with_reducible refine Ext.drewN ?_ _) | (with_reducible refine Ext.drew ?_) | (with_reducible refine Ext.alloc ?_ _)))⟩
 rw [show inB wg b = false from decide_eq_false (fun h => h0 h.1)]
 go_enter Tryd.func86, Tryd.ntmps86
 go_wp2
 go_ret
 exact ⟨rfl, by (repeat (first | (with_reducible exact Ext.refl _ _) | (with_reducible assumption) | (with_reducible refine Ext.drewN ?_ _) | (with_reducible refine Ext.drew ?_) | (with_reducible refine Ext.alloc ?_ _)))⟩
def followsB (t : TrD) (a b : Int) : Bool := (decide (a = b) && !hasZ t.w t.kill b) || hasC t.copies (a, b)
end Go.Proofs.YtmddchceacmopaaDoor
namespace Go.Proofs.YtmddchceacmopaaDoor
open Go Go.RowKit
structure RawT where
 gen : RawSet
 kill : RawSet
 copies : List (Int × Int)
structure RawTAt (M : Nat → Prop) (W : World) (sg sk sc : Value) (r : RawT) : Prop where
 gen : WordsAt M W sg r.gen.words
 kill : WordsAt M W sk r.kill.words
 copies : CopiesAt M W sc r.copies
section
variable {M M' : Nat → Prop} {W W' : World} {sg sk sc : Value} {r : RawT}
theorem RawTAt.ext (h : RawTAt M W sg sk sc r) (hx : Ext M' W W') (hm : ∀ i, i < W.heap.size → M' i → M i) : RawTAt M W' sg sk sc r := ⟨h.gen.ext hx hm, h.kill.ext hx hm, Row.ext h.copies hx hm⟩
theorem RawTAt.extNo (h : RawTAt M W sg sk sc r) (hx : Ext No W W') : RawTAt M W' sg sk sc r := h.ext hx (fun _ _ x => x.elim)
theorem RawTAt.mono (h : RawTAt M W sg sk sc r) (hm : ∀ i, i < W.heap.size → M' i → M i) : RawTAt M' W sg sk sc r := ⟨h.gen.mono hm, h.kill.mono hm, Row.mono h.copies hm⟩
theorem RawTAt.no (h : RawTAt M W sg sk sc r) : RawTAt No W sg sk sc r := h.mono (fun _ _ x => x.elim)
end
theorem WordsAt.shaped {M : Nat → Prop} {W : World} {sl : Value} {l : List Nat} (h : WordsAt M W sl l) : shaped sl := by
 obtain ⟨a, c, h⟩ := h.slice; exact ⟨a, _, c, h⟩
def copyOk (wg : Int) (l : List (Int × Int)) (i : Nat) (h : i < l.length) : Bool :=
 inB wg l[i].1 && (inB wg l[i].2 && (decide (i = 0) || decide (compareZ (l[i - 1]'(by omega)) l[i] < 0)))
def headT (r : RawT) : Bool := validB r.gen && (validB r.kill && (decide (r.gen.width = r.kill.width) && decide (r.copies.length ≤ 64)))
def validT (r : RawT) : Bool := headT r && decide (∀ i (h : i < r.copies.length), copyOk r.gen.width r.copies i h = true)
theorem validT_head {r : RawT} (h : headT r = false) : validT r = false := by unfold validT; rw [h]; rfl
theorem validT_bad {r : RawT} (k : Nat) (hk : k < r.copies.length) (h : copyOk r.gen.width r.copies k hk = false) : validT r = false := by
 unfold validT
 rw [decide_eq_false (fun hh => by have := hh k hk; rw [h] at this; cases this), Bool.and_false]
theorem validT_all {r : RawT} (h : headT r = true) (h2 : ∀ i (h : i < r.copies.length), copyOk r.gen.width r.copies i h = true) : validT r = true := by
 unfold validT; rw [h, decide_eq_true h2]; rfl
set_option maxRecDepth 100000 in
set_option maxHeartbeats 2000000 in
theorem validT_no (r : RawT) (sg sk sc : Value) (W : World) (h : RawTAt No W sg sk sc r) (hd : headT r = false) : Calls Tryd.prog 61 #[.agg #[.int .i64 (r.gen.width : Int), sg, .int .i64 (r.kill.width : Int), sk, sc]] W (BoolPost (validT r) W) := by
 have H := Lib.hid h
 have hgv : RawV No W (.agg #[.int .i64 r.gen.width, sg]) r.gen := ⟨_, rfl, h.gen⟩
 have hkv : RawV No W (.agg #[.int .i64 r.kill.width, sk]) r.kill := ⟨_, rfl, h.kill⟩
 have HG := Lib.hid hgv
 have HK := Lib.hid hkv
 have hlen := h.copies.2.1
 obtain ⟨ag, ng, cg, rfl⟩ := h.gen.shaped
 obtain ⟨ak, nk, ck, rfl⟩ := h.kill.shaped
 obtain ⟨ac, cc, rfl⟩ := Row.slice h.copies
 clear h hgv hkv
 rw [validT_head hd]
 unfold headT at hd
 cases h1 : validB r.gen with
 | false =>
  clear hd
  go_enter Tryd.func61, Tryd.ntmps61
  go_wp2_with fail
  refine (valid_any _ r.gen _ (HG.out.extNo ((Ext.refl _ _).alloc _))).mono ?_
  rintro e1 w1 ⟨rfl, hx1⟩
  rw [h1]
  go_wp2
  go_ret
  exact ⟨rfl, Ext.transNo (by (repeat (first | (with_reducible exact Ext.refl _ _) | (with_reducible assumption) | (with_reducible refine Ext.drewN ?_ _) | (with_reducible refine Ext.drew ?_) | (with_reducible refine Ext.alloc ?_ _)))) hx1⟩
 | true =>
  cases h2 : validB r.kill with
  | false =>
   clear hd
   go_enter Tryd.func61, Tryd.ntmps61
   go_wp2_with fail
   refine (valid_any _ r.gen _ (HG.out.extNo ((Ext.refl _ _).alloc _))).mono ?_
   rintro e1 w1 ⟨rfl, hx1⟩
   rw [h1]
   have hxa : Ext No W w1 := ((Ext.refl _ _).alloc _).transNo hx1
   have cB := cellOf (hx1.blk (alloc_top (w := W) rfl) no_no)
   clear hx1
   go_wp2_with fail
   refine (valid_any _ r.kill _ (HK.out.extNo hxa)).mono ?_
   rintro e2 w2 ⟨rfl, hx2⟩
   rw [h2]
   go_wp2
   go_ret
   exact ⟨rfl, hxa.transNo hx2⟩
  | true =>
   rw [h1, h2, Bool.true_and, Bool.true_and] at hd
   by_cases h3 : r.gen.width = r.kill.width
   ·have h4 : ¬ r.copies.length ≤ 64 := fun h4 => by rw [decide_eq_true h3, decide_eq_true h4] at hd; cases hd
    have h3' : (r.gen.width != r.kill.width) = false := by simpa using h3
    have h4' : decide ((64 : Int) < (r.copies.length : Int)) = true := by simp; omega
    clear h3 h4 hd
    go_enter Tryd.func61, Tryd.ntmps61
    go_wp2_with fail
    refine (valid_any _ r.gen _ (HG.out.extNo ((Ext.refl _ _).alloc _))).mono ?_
    rintro e1 w1 ⟨rfl, hx1⟩
    rw [h1]
    have hxa : Ext No W w1 := ((Ext.refl _ _).alloc _).transNo hx1
    have hB := hx1.blk (alloc_top (w := W) rfl) no_no
    have cB := cellOf hB
    clear hx1
    go_wp2_with fail
    refine (valid_any _ r.kill _ (HK.out.extNo hxa)).mono ?_
    rintro e2 w2 ⟨rfl, hx2⟩
    rw [h2]
    clear cB
    have cB := cellOf (hx2.blk hB no_no)
    go_wp2
    go_ret
    exact ⟨rfl, hxa.transNo hx2⟩
   have h3' : (r.gen.width != r.kill.width) = true := by simpa using h3
   clear h3 hd
   go_enter Tryd.func61, Tryd.ntmps61
   go_wp2_with fail
   refine (valid_any _ r.gen _ (HG.out.extNo ((Ext.refl _ _).alloc _))).mono ?_
   rintro e1 w1 ⟨rfl, hx1⟩
   rw [h1]
   have hxa : Ext No W w1 := ((Ext.refl _ _).alloc _).transNo hx1
   have hB := hx1.blk (alloc_top (w := W) rfl) no_no
   have cB := cellOf hB
   clear hx1
   go_wp2_with fail
   refine (valid_any _ r.kill _ (HK.out.extNo hxa)).mono ?_
   rintro e2 w2 ⟨rfl, hx2⟩
   rw [h2]
   clear cB
   have cB := cellOf (hx2.blk hB no_no)
   go_wp2
   go_ret
   exact ⟨rfl, hxa.transNo hx2⟩

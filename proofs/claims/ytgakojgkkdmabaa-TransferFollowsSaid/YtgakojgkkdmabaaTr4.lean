/- transfer: bit, follows. -/
import Derived.Test.YtgakojgkkdmabaaTr3
namespace Go.Proofs.Ytgakojgkkdmabaa
open Go Go.RowKit

/-- a valid function: its width, the bits of its two sets, its copies -/
structure TrD where
  w : Nat
  gen : Nat
  kill : Nat
  copies : List (Int × Int)
structure TrOk (t : TrD) : Prop where
  w : t.w ≤ 256
  gen : t.gen < 2 ^ t.w
  kill : t.kill < 2 ^ t.w
  len : t.copies.length ≤ 64
  inr : ∀ i (h : i < t.copies.length), inB t.w t.copies[i].1 = true ∧ inB t.w t.copies[i].2 = true
  sorted : ∀ i (h : i + 1 < t.copies.length), compareZ t.copies[i] t.copies[i + 1] < 0
/-- a valid function in memory -/
structure TrAt (M : Nat → Prop) (W : World) (sg sk sc : Value) (t : TrD) : Prop where
  gen : SetAt M W sg t.w t.gen
  kill : SetAt M W sk t.w t.kill
  copies : CopiesAt M W sc t.copies
  ok : TrOk t
section
variable {M M' : Nat → Prop} {W W' : World} {sg sk sc : Value} {t : TrD}
theorem TrAt.ext (h : TrAt M W sg sk sc t) (hx : Ext M' W W') (hm : ∀ i, i < W.heap.size → M' i → M i) : TrAt M W' sg sk sc t := ⟨h.gen.ext hx hm, h.kill.ext hx hm, Row.ext h.copies hx hm, h.ok⟩
theorem TrAt.extNo (h : TrAt M W sg sk sc t) (hx : Ext No W W') : TrAt M W' sg sk sc t := h.ext hx (fun _ _ x => x.elim)
theorem TrAt.mono (h : TrAt M W sg sk sc t) (hm : ∀ i, i < W.heap.size → M' i → M i) : TrAt M' W sg sk sc t := ⟨h.gen.mono hm, h.kill.mono hm, Row.mono h.copies hm, h.ok⟩
theorem TrAt.no (h : TrAt M W sg sk sc t) : TrAt No W sg sk sc t := h.mono (fun _ _ x => x.elim)
end
def shaped (v : Value) : Prop := ∃ a n c, v = .slice a n c
theorem shp (a : Option Addr) (n c : Nat) : shaped (.slice a n c) := ⟨a, n, c, rfl⟩
theorem SetAt.shaped {M : Nat → Prop} {W : World} {sl : Value} {w m : Nat} (h : SetAt M W sl w m) : shaped sl := by
  obtain ⟨a, c, h⟩ := h.slice; exact ⟨a, _, c, h⟩
theorem CopiesAt.shaped {M : Nat → Prop} {W : World} {sl : Value} {l : List (Int × Int)} (h : CopiesAt M W sl l) : shaped sl := by
  obtain ⟨a, c, h⟩ := Row.slice h; exact ⟨a, _, c, h⟩

theorem bit_any (wg wk : Int) (sg sk sc : Value) (b : Int) (W : World) (hg : shaped sg) (hk : shaped sk) (hc : shaped sc) : Calls Try.prog 19 #[.agg #[.int .i64 (wg : Int), sg, .int .i64 (wk : Int), sk, sc], .int .i64 b] W (BoolPost (inB wg b) W) := by
  obtain ⟨ag, ng, cg, rfl⟩ := hg
  obtain ⟨ak, nk, ck, rfl⟩ := hk
  obtain ⟨ac, nc, cc, rfl⟩ := hc
  by_cases h0 : 0 ≤ b
  · by_cases h1 : b < wg
    · rw [show inB wg b = true from decide_eq_true ⟨h0, h1⟩]
      go_enter Try.func19, Try.ntmps19
      go_wp2
      go_ret
      exact ⟨rfl, by (repeat (first | (with_reducible exact Ext.refl _ _) | (with_reducible assumption) | (with_reducible refine Ext.drewN ?_ _) | (with_reducible refine Ext.drew ?_) | (with_reducible refine Ext.alloc ?_ _)))⟩
    · rw [show inB wg b = false from decide_eq_false (fun h => h1 h.2)]
      go_enter Try.func19, Try.ntmps19
      go_wp2
      go_ret
      exact ⟨rfl, by (repeat (first | (with_reducible exact Ext.refl _ _) | (with_reducible assumption) | (with_reducible refine Ext.drewN ?_ _) | (with_reducible refine Ext.drew ?_) | (with_reducible refine Ext.alloc ?_ _)))⟩
  · rw [show inB wg b = false from decide_eq_false (fun h => h0 h.1)]
    go_enter Try.func19, Try.ntmps19
    go_wp2
    go_ret
    exact ⟨rfl, by (repeat (first | (with_reducible exact Ext.refl _ _) | (with_reducible assumption) | (with_reducible refine Ext.drewN ?_ _) | (with_reducible refine Ext.drew ?_) | (with_reducible refine Ext.alloc ?_ _)))⟩

def followsB (t : TrD) (a b : Int) : Bool := (decide (a = b) && !hasZ t.w t.kill b) || hasC t.copies (a, b)
set_option maxRecDepth 100000 in
set_option maxHeartbeats 1000000 in
theorem follows_any (t : TrD) (sg sk sc : Value) (a b : Int) (W : World) (h : TrAt No W sg sk sc t) : Calls Try.prog 20 #[.agg #[.int .i64 (t.w : Int), sg, .int .i64 (t.w : Int), sk, sc], .int .i64 a, .int .i64 b] W (BoolPost (followsB t a b) W) := by
  have H := Lib.hid h
  obtain ⟨ag, ng, cg, rfl⟩ := h.gen.shaped
  obtain ⟨ak, nk, ck, rfl⟩ := h.kill.shaped
  obtain ⟨ac, nc, cc, rfl⟩ := h.copies.shaped
  clear h
  have hfin : ∀ W' w1, Ext No W W' → Ext No W' w1 → Ext No W w1 := fun _ _ h1 h2 => h1.transNo h2
  by_cases hab : a = b
  · subst hab
    cases hb : hasZ t.w t.kill a with
    | false =>
      have hf : followsB t a a = true := by unfold followsB; rw [hb]; simp
      rw [hf]
      go_enter Try.func20, Try.ntmps20
      go_wp2_with fail
      refine (has_any t.w t.kill _ a _ (H.out.kill.extNo ((Ext.refl _ _).alloc _))).mono ?_
      rintro e1 w1 ⟨rfl, hx1⟩
      rw [hb]
      go_wp2
      go_ret
      exact ⟨rfl, Ext.transNo (by (repeat (first | (with_reducible exact Ext.refl _ _) | (with_reducible assumption) | (with_reducible refine Ext.drewN ?_ _) | (with_reducible refine Ext.drew ?_) | (with_reducible refine Ext.alloc ?_ _)))) hx1⟩
    | true =>
      have hf : followsB t a a = hasC t.copies (a, a) := by unfold followsB; rw [hb]; simp
      rw [hf]
      go_enter Try.func20, Try.ntmps20
      go_wp2_with fail
      refine (has_any t.w t.kill _ a _ (H.out.kill.extNo ((Ext.refl _ _).alloc _))).mono ?_
      rintro e1 w1 ⟨rfl, hx1⟩
      rw [hb]
      have hB := hx1.blk (alloc_top (w := W) rfl) no_no
      have hxa : Ext No W w1 := ((Ext.refl _ _).alloc _).transNo hx1
      have cB := cellOf hB
      clear hx1
      go_wp2_with fail
      refine (copied_any _ _ _ _ _ t.copies (a, a) _ ⟨_, _, _, rfl⟩ ⟨_, _, _, rfl⟩ (Row.extNo H.out.copies hxa)).mono ?_
      rintro e2 w2 ⟨rfl, hx2⟩
      go_wp2
      all_goals
        go_ret
        exact ⟨rfl, hxa.transNo hx2⟩
  · have hf : followsB t a b = hasC t.copies (a, b) := by unfold followsB; rw [decide_eq_false hab]; rfl
    rw [hf]
    have hab' : (a == b) = false := by simpa using hab
    clear hab
    go_enter Try.func20, Try.ntmps20
    go_wp2_with fail
    refine (copied_any _ _ _ _ _ t.copies (a, b) _ ⟨_, _, _, rfl⟩ ⟨_, _, _, rfl⟩ (Row.extNo H.out.copies ((Ext.refl _ _).alloc _))).mono ?_
    rintro e2 w2 ⟨rfl, hx2⟩
    go_wp2
    all_goals
      go_ret
      exact ⟨rfl, Ext.transNo (by (repeat (first | (with_reducible exact Ext.refl _ _) | (with_reducible assumption) | (with_reducible refine Ext.drewN ?_ _) | (with_reducible refine Ext.drew ?_) | (with_reducible refine Ext.alloc ?_ _)))) hx2⟩
end Go.Proofs.Ytgakojgkkdmabaa

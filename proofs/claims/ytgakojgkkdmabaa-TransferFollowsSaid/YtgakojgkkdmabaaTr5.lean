/- transfer.Valid. -/
import Derived.Test.YtgakojgkkdmabaaTr4
namespace Go.Proofs.Ytgakojgkkdmabaa
open Go Go.RowKit

structure RawT where
  gen : RawSet
  kill : RawSet
  copies : List (Int × Int)
structure RawTAt (M : Nat → Prop) (W : World) (sg sk sc : Value) (r : RawT) : Prop where
  gen : WordsAt M W sg r.gen.words
  kill : WordsAt M W sk r.kill.words
  copies : CopiesAt M W sc r.copies
section
variable {M M' : Nat → Prop} {W W' : World} {sg sk sc : Value} {r : RawT}
theorem RawTAt.ext (h : RawTAt M W sg sk sc r) (hx : Ext M' W W') (hm : ∀ i, i < W.heap.size → M' i → M i) : RawTAt M W' sg sk sc r := ⟨h.gen.ext hx hm, h.kill.ext hx hm, Row.ext h.copies hx hm⟩
theorem RawTAt.extNo (h : RawTAt M W sg sk sc r) (hx : Ext No W W') : RawTAt M W' sg sk sc r := h.ext hx (fun _ _ x => x.elim)
theorem RawTAt.mono (h : RawTAt M W sg sk sc r) (hm : ∀ i, i < W.heap.size → M' i → M i) : RawTAt M' W sg sk sc r := ⟨h.gen.mono hm, h.kill.mono hm, Row.mono h.copies hm⟩
theorem RawTAt.no (h : RawTAt M W sg sk sc r) : RawTAt No W sg sk sc r := h.mono (fun _ _ x => x.elim)
end
theorem WordsAt.shaped {M : Nat → Prop} {W : World} {sl : Value} {l : List Nat} (h : WordsAt M W sl l) : shaped sl := by
  obtain ⟨a, c, h⟩ := h.slice; exact ⟨a, _, c, h⟩
def copyOk (wg : Int) (l : List (Int × Int)) (i : Nat) (h : i < l.length) : Bool :=
  inB wg l[i].1 && (inB wg l[i].2 && (decide (i = 0) || decide (compareZ (l[i - 1]'(by omega)) l[i] < 0)))
def headT (r : RawT) : Bool := validB r.gen && (validB r.kill && (decide (r.gen.width = r.kill.width) && decide (r.copies.length ≤ 64)))
def validT (r : RawT) : Bool := headT r && decide (∀ i (h : i < r.copies.length), copyOk r.gen.width r.copies i h = true)
theorem validT_head {r : RawT} (h : headT r = false) : validT r = false := by unfold validT; rw [h]; rfl
theorem validT_bad {r : RawT} (k : Nat) (hk : k < r.copies.length) (h : copyOk r.gen.width r.copies k hk = false) : validT r = false := by
  unfold validT
  rw [decide_eq_false (fun hh => by have := hh k hk; rw [h] at this; cases this), Bool.and_false]
theorem validT_all {r : RawT} (h : headT r = true) (h2 : ∀ i (h : i < r.copies.length), copyOk r.gen.width r.copies i h = true) : validT r = true := by
  unfold validT; rw [h, decide_eq_true h2]; rfl

set_option maxRecDepth 100000 in
set_option maxHeartbeats 2000000 in
theorem validT_no (r : RawT) (sg sk sc : Value) (W : World) (h : RawTAt No W sg sk sc r) (hd : headT r = false) : Calls Try.prog 15 #[.agg #[.int .i64 (r.gen.width : Int), sg, .int .i64 (r.kill.width : Int), sk, sc]] W (BoolPost (validT r) W) := by
  have H := Lib.hid h
  have hgv : RawV No W (.agg #[.int .i64 r.gen.width, sg]) r.gen := ⟨_, rfl, h.gen⟩
  have hkv : RawV No W (.agg #[.int .i64 r.kill.width, sk]) r.kill := ⟨_, rfl, h.kill⟩
  have HG := Lib.hid hgv
  have HK := Lib.hid hkv
  have hlen := h.copies.2.1
  obtain ⟨ag, ng, cg, rfl⟩ := h.gen.shaped
  obtain ⟨ak, nk, ck, rfl⟩ := h.kill.shaped
  obtain ⟨ac, cc, rfl⟩ := Row.slice h.copies
  clear h hgv hkv
  rw [validT_head hd]
  unfold headT at hd
  cases h1 : validB r.gen with
  | false =>
    clear hd
    go_enter Try.func15, Try.ntmps15
    go_wp2_with fail
    refine (valid_any _ r.gen _ (HG.out.extNo ((Ext.refl _ _).alloc _))).mono ?_
    rintro e1 w1 ⟨rfl, hx1⟩
    rw [h1]
    go_wp2
    go_ret
    exact ⟨rfl, Ext.transNo (by (repeat (first | (with_reducible exact Ext.refl _ _) | (with_reducible assumption) | (with_reducible refine Ext.drewN ?_ _) | (with_reducible refine Ext.drew ?_) | (with_reducible refine Ext.alloc ?_ _)))) hx1⟩
  | true =>
    cases h2 : validB r.kill with
    | false =>
      clear hd
      go_enter Try.func15, Try.ntmps15
      go_wp2_with fail
      refine (valid_any _ r.gen _ (HG.out.extNo ((Ext.refl _ _).alloc _))).mono ?_
      rintro e1 w1 ⟨rfl, hx1⟩
      rw [h1]
      have hxa : Ext No W w1 := ((Ext.refl _ _).alloc _).transNo hx1
      have cB := cellOf (hx1.blk (alloc_top (w := W) rfl) no_no)
      clear hx1
      go_wp2_with fail
      refine (valid_any _ r.kill _ (HK.out.extNo hxa)).mono ?_
      rintro e2 w2 ⟨rfl, hx2⟩
      rw [h2]
      go_wp2
      go_ret
      exact ⟨rfl, hxa.transNo hx2⟩
    | true =>
      rw [h1, h2, Bool.true_and, Bool.true_and] at hd
      by_cases h3 : r.gen.width = r.kill.width
      · have h4 : ¬ r.copies.length ≤ 64 := fun h4 => by rw [decide_eq_true h3, decide_eq_true h4] at hd; cases hd
        have h3' : (r.gen.width != r.kill.width) = false := by simpa using h3
        have h4' : decide ((64 : Int) < (r.copies.length : Int)) = true := by simp; omega
        clear h3 h4 hd
        go_enter Try.func15, Try.ntmps15
        go_wp2_with fail
        refine (valid_any _ r.gen _ (HG.out.extNo ((Ext.refl _ _).alloc _))).mono ?_
        rintro e1 w1 ⟨rfl, hx1⟩
        rw [h1]
        have hxa : Ext No W w1 := ((Ext.refl _ _).alloc _).transNo hx1
        have hB := hx1.blk (alloc_top (w := W) rfl) no_no
        have cB := cellOf hB
        clear hx1
        go_wp2_with fail
        refine (valid_any _ r.kill _ (HK.out.extNo hxa)).mono ?_
        rintro e2 w2 ⟨rfl, hx2⟩
        rw [h2]
        clear cB
        have cB := cellOf (hx2.blk hB no_no)
        go_wp2
        go_ret
        exact ⟨rfl, hxa.transNo hx2⟩
      · have h3' : (r.gen.width != r.kill.width) = true := by simpa using h3
        clear h3 hd
        go_enter Try.func15, Try.ntmps15
        go_wp2_with fail
        refine (valid_any _ r.gen _ (HG.out.extNo ((Ext.refl _ _).alloc _))).mono ?_
        rintro e1 w1 ⟨rfl, hx1⟩
        rw [h1]
        have hxa : Ext No W w1 := ((Ext.refl _ _).alloc _).transNo hx1
        have hB := hx1.blk (alloc_top (w := W) rfl) no_no
        have cB := cellOf hB
        clear hx1
        go_wp2_with fail
        refine (valid_any _ r.kill _ (HK.out.extNo hxa)).mono ?_
        rintro e2 w2 ⟨rfl, hx2⟩
        rw [h2]
        clear cB
        have cB := cellOf (hx2.blk hB no_no)
        go_wp2
        go_ret
        exact ⟨rfl, hxa.transNo hx2⟩
end Go.Proofs.Ytgakojgkkdmabaa

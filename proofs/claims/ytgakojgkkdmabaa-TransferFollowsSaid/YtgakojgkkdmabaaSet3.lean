/- bitset: within, Has. -/
import Derived.Test.YtgakojgkkdmabaaSet2
namespace Go.Proofs.Ytgakojgkkdmabaa
open Go Go.RowKit

def inB (z : Int) (b : Int) : Bool := decide (0 ≤ b ∧ b < z)
def hasZ (w m : Nat) (b : Int) : Bool := inB w b && m.testBit b.toNat
theorem inB_true {z b : Int} (h : inB z b = true) : ∃ k : Nat, b = k ∧ (k : Int) < z := by
  simp only [inB, decide_eq_true_eq] at h
  exact ⟨b.toNat, by omega, by omega⟩
theorem within_any (v : Value) (s : RawSet) (b : Int) (W : World) (h : RawV No W v s) : Calls Try.prog 18 #[v, .int .i64 b] W (BoolPost (inB s.width b) W) := by
  obtain ⟨sl, rfl, hs⟩ := h
  obtain ⟨a, c, rfl⟩ := hs.slice
  clear hs
  by_cases h0 : 0 ≤ b
  · by_cases h1 : b < s.width
    · rw [show inB s.width b = true from decide_eq_true ⟨h0, h1⟩]
      go_enter Try.func18, Try.ntmps18
      go_wp2
      go_ret
      exact ⟨rfl, by (repeat (first | (with_reducible exact Ext.refl _ _) | (with_reducible assumption) | (with_reducible refine Ext.drewN ?_ _) | (with_reducible refine Ext.drew ?_) | (with_reducible refine Ext.alloc ?_ _)))⟩
    · rw [show inB s.width b = false from decide_eq_false (fun h => h1 h.2)]
      go_enter Try.func18, Try.ntmps18
      go_wp2
      go_ret
      exact ⟨rfl, by (repeat (first | (with_reducible exact Ext.refl _ _) | (with_reducible assumption) | (with_reducible refine Ext.drewN ?_ _) | (with_reducible refine Ext.drew ?_) | (with_reducible refine Ext.alloc ?_ _)))⟩
  · rw [show inB s.width b = false from decide_eq_false (fun h => h0 h.1)]
    go_enter Try.func18, Try.ntmps18
    go_wp2
    go_ret
    exact ⟨rfl, by (repeat (first | (with_reducible exact Ext.refl _ _) | (with_reducible assumption) | (with_reducible refine Ext.drewN ?_ _) | (with_reducible refine Ext.drew ?_) | (with_reducible refine Ext.alloc ?_ _)))⟩
theorem testBit_word (m b : Nat) : (wordN m (b / 64)).testBit (b % 64) = m.testBit b := by
  rw [wordN_bit, Nat.div_add_mod]
  have : b % 64 < 64 := Nat.mod_lt _ (by decide)
  simp [this]

set_option maxRecDepth 100000 in
set_option maxHeartbeats 1000000 in
theorem has_any (w m : Nat) (sl : Value) (b : Int) (W : World) (h : SetAt No W sl w m) : Calls Try.prog 9 #[.agg #[.int .i64 (w : Int), sl], .int .i64 b] W (BoolPost (hasZ w m b) W) := by
  have H := Lib.hid h
  obtain ⟨a, c, rfl⟩ := h.slice
  have hv := validB_set h.hw h.hm
  have hw := h.hw
  clear h
  unfold hasZ
  cases hb : inB w b with
  | false =>
    go_enter Try.func9, Try.ntmps9
    go_wp2_with fail
    refine (valid_any _ (setN w m) _ (H.out.raw.extNo ((Ext.refl _ _).alloc _))).mono ?_
    rintro e1 w1 ⟨rfl, hx1⟩
    rw [hv]
    have hB := hx1.blk (alloc_top (w := W) rfl) (fun x => x.elim)
    have cB := cellOf hB
    have hxa : Ext No W w1 := ((Ext.refl _ _).alloc _).transNo hx1
    go_wp2_with fail
    refine (within_any _ (setN w m) b _ (H.out.raw.extNo hxa)).mono ?_
    rintro e2 w2 ⟨rfl, hx2⟩
    rw [show inB (setN w m).width b = false from hb]
    go_wp2_with fail
    go_ret
    exact ⟨rfl, hxa.transNo hx2⟩
  | true =>
    obtain ⟨k, rfl, hk⟩ := inB_true hb
    have hkw : k < w := by omega
    have hn : k / 64 < nw w := by unfold nw; omega
    obtain ⟨b0, off, cap, hsl, hb1, _, hc⟩ := H.out.at (by omega)
    simp only [Value.slice.injEq] at hsl
    obtain ⟨rfl, _, rfl⟩ := hsl
    have hc1 := hc (k / 64) hn
    have ht := bit_test _ (k % 64) (wordN_lt m (k / 64))
    rw [testBit_word] at ht
    have hk0 : (0 : Int) ≤ (k : Int) := by omega
    have hk2 : (k : Int) ≤ 256 := by omega
    have hu : IntKind.u64.wrap (k : Int) = k := wrapU k (by omega)
    clear hc
    simp only [Bool.true_and, Int.toNat_natCast]
    go_enter Try.func9, Try.ntmps9
    go_wp2_with fail
    refine (valid_any _ (setN w m) _ (H.out.raw.extNo ((Ext.refl _ _).alloc _))).mono ?_
    rintro e1 w1 ⟨rfl, hx1⟩
    rw [hv]
    have hB := hx1.blk (alloc_top (w := W) rfl) (fun x => x.elim)
    have cB := cellOf hB
    have hxa : Ext No W w1 := ((Ext.refl _ _).alloc _).transNo hx1
    go_wp2_with fail
    refine (within_any _ (setN w m) k _ (H.out.raw.extNo hxa)).mono ?_
    rintro e2 w2 ⟨rfl, hx2⟩
    rw [show inB (setN w m).width k = true from hb]
    have hxb := hxa.transNo hx2
    have hB2 := hx2.blk hB (fun x => x.elim)
    clear cB
    have cB := cellOf hB2
    have hc2 := hxb.keep hc1
    go_wp2_with fail
    all_goals
      go_ret
      exact ⟨rfl, hxb⟩
end Go.Proofs.Ytgakojgkkdmabaa

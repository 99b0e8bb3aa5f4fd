/- Merged: TrD TrF -/
import Derived.Test.YtfejidihocoboaaHeap
import Derived.Test.YtfejidihocoboaaSetA
import Derived.Lib.TrailingZeros
import Derived.Test.YtfejidihocoboaaTrC
import Derived.Test.YtfejidihocoboaaHeld
import Derived.Test.YtfejidihocoboaaTrB
import Derived.Deep.LoopGhost
set_option linter.unusedVariables false
set_option linter.unusedSimpArgs false
/- TrD -/
namespace Go.Proofs.Ytfejidihocoboaa
open Go Go.RowKit
def f1 (b : Nat) : Nat := b / 2 &&& 85
def g1 (b : Nat) : Nat := b &&& 85
def f2 (b : Nat) : Nat := b / 4 &&& 51
def g2 (b : Nat) : Nat := b &&& 51
def s1 (b : Nat) : Nat := f1 b + g1 b
def s2 (b : Nat) : Nat := f2 b + g2 b
def s3 (b : Nat) : Nat := b / 16 + b % 16
def popB (b : Nat) : Nat := s3 (s2 (s1 b))
theorem b1 : ∀ b, b < 256 → b &&& 170 = 2 * f1 b ∧ s1 b < 256 ∧ s2 (s1 b) < 256 ∧ s2 (s1 b) / 16 ≤ 4 ∧ s2 (s1 b) % 16 ≤ 4 ∧ (s1 b &&& 204) = 4 * f2 (s1 b) ∧ popB b ≤ 8 ∧ (popB b = 0 → b = 0) := by decide +kernel
def m1 : Nat := 3689348814741910323
def m2 : Nat := 1085102592571150095
def big : Nat := 18446744073709551616
end Go.Proofs.Ytfejidihocoboaa
/- Can -/
namespace Go.Proofs.Ytfejidihocoboaa
open Go Go.RowKit
theorem bit_high {m w b : Nat} (h : m < 2 ^ w) (hb : w ≤ b) : m.testBit b = false := Nat.testBit_lt_two_pow (Nat.lt_of_lt_of_le h (Nat.pow_le_pow_right (by decide) hb))
/-! ### members in ascending order -/
end Go.Proofs.Ytfejidihocoboaa

/- TrD -/
namespace Go.Proofs.Ytfejidihocoboaa
open Go Go.RowKit
/-- a box of n cells, whatever it holds -/
def BoxR (n : Nat) (T : TypeId) (C : Nat) (w : World) : Prop := ∃ cs : Array Value, cs.size = n ∧ w.heap[C]? = some (.cells cs T (0, 0))
section
variable {n T C : Nat} {w w' : World}
theorem BoxR.ext (h : BoxR n T C w) (hx : Ext No w w') : BoxR n T C w' := by obtain ⟨cs, h1, h⟩ := h; exact ⟨cs, h1, hx.blk h no_no⟩
theorem BoxR.drew (h : BoxR n T C w) : BoxR n T C w.drew := h
theorem BoxR.alloc (h : BoxR n T C w) (o : Obj) : BoxR n T C (w.alloc o) := h.ext ((Ext.refl _ _).alloc _)
theorem BoxR.set (h : BoxR n T C w) (j : Nat) (x : Value) : BoxR n T C (w.setCell ⟨C, j, none⟩ x) := by obtain ⟨cs, h1, h⟩ := h; exact ⟨_, by simp [h1], set_same h⟩
theorem BoxR.free (h : BoxR n T C w) : ∀ j, w.frozen? ⟨C, j, none⟩ = false := by obtain ⟨cs, h1, h⟩ := h; exact freeOf h
theorem BoxR.lt (h : BoxR n T C w) : C < w.heap.size := by obtain ⟨cs, h1, h⟩ := h; exact lt_of_block h
theorem Ext.setAt {C : Nat} {a w : World} (h : Ext (At C) a w) (j : Nat) (x : Value) : Ext (At C) a (w.setCell ⟨C, j, none⟩ x) := h.setCell (p := ⟨C, j, none⟩) (fun _ => rfl) _
end
end Go.Proofs.Ytfejidihocoboaa
/- Sets2 -/
namespace Go.Proofs.Ytfejidihocoboaa
open Go Go.RowKit
theorem row_keep {M : Nat → Prop} {wx wy : World} {B : Nat} {e : TypeId} {size n : Nat} {v : Value} {xs : List Value} (h : wx.ownsRow B e size v n xs) (hx : Ext M wx wy) (hM : ∀ i, B ≤ i → ¬ M i) : wy.ownsRow B e size v n xs := by
  obtain ⟨h1, h2⟩ := h
  refine ⟨h1, ?_⟩
  rcases h2 with h2 | ⟨g, cap, cur, hv, hb, hg, hr⟩
  · exact .inl h2
  · exact .inr ⟨g, cap, cur, hv, hb, (hx.block g (lt_of_block hg) (hM g hb)).trans hg, hr⟩
theorem row_keep2 {M : Nat → Prop} {wx wy : World} {B : Nat} {e : TypeId} {size n : Nat} {v : Value} {xs : List Value} (h : wx.ownsRow B e size v n xs) (hx : Ext M wx wy) (hM : ∀ k, v.ownBlock = some k → ¬ M k) : wy.ownsRow B e size v n xs := by
  obtain ⟨h1, h2⟩ := h
  refine ⟨h1, ?_⟩
  rcases h2 with h2 | ⟨g, cap, cur, hv, hb, hg, hr⟩
  · exact .inl h2
  · exact .inr ⟨g, cap, cur, hv, hb, (hx.block g (lt_of_block hg) (hM g (by rw [hv]; rfl))).trans hg, hr⟩
theorem row_base {w : World} {B B' : Nat} {e : TypeId} {size n : Nat} {v : Value} {xs : List Value} (h : w.ownsRow B e size v n xs) (hB : B' ≤ B) : w.ownsRow B' e size v n xs := by
  obtain ⟨h1, h2⟩ := h
  refine ⟨h1, ?_⟩
  rcases h2 with h2 | ⟨g, cap, cur, hv, hb, hr⟩
  · exact .inl h2
  · exact .inr ⟨g, cap, cur, hv, Nat.le_trans hB hb, hr⟩
end Go.Proofs.Ytfejidihocoboaa

/- TrF -/
namespace Go.Proofs.Ytfejidihocoboaa
open Go Go.RowKit
theorem clean_iff {w : Nat} {l : List Nat} (hl : ∀ n ∈ l, n < 2 ^ 64) : cleanB w l = true ↔ ∀ b, w ≤ b → b < 64 * l.length → (joinN l).testBit b = false := by
  unfold cleanB
  rw [decide_eq_true_eq]
  constructor
  · intro h b hb _; exact bit_high h hb
  · intro h
    refine Nat.lt_pow_two_of_testBit _ (fun b hb => ?_)
    by_cases hb2 : b < 64 * l.length
    · exact h b hb hb2
    · rw [joinN_bit l hl, List.getElem?_eq_none (by omega), Option.getD_none, Nat.zero_testBit]
set_option maxRecDepth 100000 in
set_option maxHeartbeats 2000000 in
theorem rvalid_any (v : Value) (s : RawSet) (W : World) (h : RawV No W v s) : Calls Try.prog 56 #[v] W (BoolPost (validB s) W) := by
  obtain ⟨sl, rfl, hs⟩ := h
  obtain ⟨a, c, rfl⟩ := hs.slice
  have HS := Lib.hid hs
  clear hs
  obtain ⟨width, l⟩ := s
  simp only at HS ⊢
  have hlen := HS.out.row.2.1
  by_cases h0 : width < 0
  · have hv : validB ⟨width, l⟩ = false := by
      unfold validB
      rw [show decide (0 ≤ width ∧ width ≤ 256 ∧ l.length = nw width.toNat) = false from decide_eq_false (fun h => by omega)]; rfl
    have HV := Lib.hid hv
    clear hv
    go_enter Try.func56, Try.ntmps56
    go_wp2_with fail
    go_ret
    rw [HV.out]
    exact ⟨rfl, by (repeat (first | (with_reducible exact Ext.refl _ _) | (with_reducible assumption) | (with_reducible refine Ext.drewN ?_ _) | (with_reducible refine Ext.drew ?_) | (with_reducible refine Ext.alloc ?_ _)))⟩
  · by_cases h1 : 256 < width
    · have hv : validB ⟨width, l⟩ = false := by
        unfold validB
        rw [show decide (0 ≤ width ∧ width ≤ 256 ∧ l.length = nw width.toNat) = false from decide_eq_false (fun h => by omega)]; rfl
      have HV := Lib.hid hv
      have h0' : decide (width < 0) = false := by simpa using h0
      have h1' : decide (256 < width) = true := by simpa using h1
      clear hv
      go_enter Try.func56, Try.ntmps56
      go_wp2_with fail
      go_ret
      rw [HV.out]
      exact ⟨rfl, by (repeat (first | (with_reducible exact Ext.refl _ _) | (with_reducible assumption) | (with_reducible refine Ext.drewN ?_ _) | (with_reducible refine Ext.drew ?_) | (with_reducible refine Ext.alloc ?_ _)))⟩
    · obtain ⟨w, rfl⟩ : ∃ w : Nat, width = w := ⟨width.toNat, by omega⟩
      have hw : w ≤ 256 := by omega
      have HVW := Lib.hid (validB_w (l := l) hw)
      have hn : ((w : Int) + 63) / 64 = (nw w : Int) := by unfold nw; omega
      have hw' : (w : Int) ≤ 256 := by omega
      clear h0 h1
      by_cases hl : l.length = nw w
      · have HL := Lib.hid hl
        have hne : ((l.length : Int) != (nw w : Int)) = false := by simp [hl]
        have hl5 : l.length ≤ 5 := by rw [hl]; unfold nw; omega
        clear hl
        go_enter Try.func56, Try.ntmps56
        go_wp2_with fail
        have HA : Hid ((W.alloc (.cells #[.int .i64 (w : Int), .slice a l.length c] 40)).heap[W.heap.size]? = some (.cells #[.int .i64 (w : Int), .slice a l.length c] 40 (0, 0))) := Lib.hid (alloc_top rfl)
        have HW0 := Lib.hid (HS.out.extNo ((Ext.refl No W).alloc (.cells #[.int .i64 (w : Int), .slice a l.length c] 40)))
        have HX : Hid (Ext No W (W.alloc (.cells #[.int .i64 (w : Int), .slice a l.length c] 40))) := Lib.hid ((Ext.refl _ _).alloc _)
        generalize (W.alloc (.cells #[.int .i64 (w : Int), .slice a l.length c] 40)) = W0 at *
        have hwn : w ≤ 64 * l.length := by rw [HL.out]; exact (nw_mul w).1
        go_loop [3] (fun i => ∃ k : Nat, w ≤ k ∧ k ≤ 64 * l.length ∧ i = .int .i64 k ∧ Hid (∀ b, w ≤ b → b < k → (joinN l).testBit b = false)) (fun i => 64 * l.length - (intOf i).toNat)
        case atStart => exact ⟨w, Nat.le_refl _, hwn, rfl, Lib.hid (fun b h1 h2 => by omega)⟩
        case round =>
          obtain ⟨k, hwk, hk, rfl, hq⟩ := hrel
          have cA := cellOf HA.out
          have hpos : (0 : Int) ≤ (k : Int) := by omega
          by_cases hlt : k < 64 * l.length
          · have hkl : k / 64 < l.length := by omega
            obtain ⟨b0, off, cap, hsl, _, _, hc⟩ := HW0.out.at hkl
            simp only [Value.slice.injEq] at hsl
            obtain ⟨rfl, _, rfl⟩ := hsl
            have hc1 := hc (k / 64) hkl
            have hl1 := HS.out.lt _ (List.getElem_mem hkl)
            have ht := bit_test _ (k % 64) hl1
            have hjb : (joinN l).testBit k = l[k / 64].testBit (k % 64) := by rw [joinN_bit l HS.out.lt, List.getElem?_eq_getElem hkl]; rfl
            have HJB := Lib.hid hjb
            have hk2 : (k : Int) ≤ 320 := by omega
            have hlz : (k : Int) < 64 * (l.length : Int) := by omega
            have hlz2 : (k : Int) / 64 < (l.length : Int) := by omega
            have HKK : Hid (Value.int .i64 ((k : Int) + 1) = .int .i64 ((k + 1 : Nat) : Int)) := Lib.hid (by rw [show ((k + 1 : Nat) : Int) = (k : Int) + 1 from by omega])
            clear hc hjb hl1
            generalize l[k / 64] = x at *
            cases hb : x.testBit (k % 64) with
            | true =>
              have HB := Lib.hid hb
              have hv : validB ⟨w, l⟩ = false := by
                rw [HVW.out]
                have : cleanB w l = false := by
                  cases e : cleanB w l with
                  | false => rfl
                  | true =>
                    have := (clean_iff HS.out.lt).1 e k hwk hlt
                    rw [HJB.out, hb] at this; cases this
                rw [this, Bool.and_false]
              have HV := Lib.hid hv
              rw [hb, if_pos rfl] at ht
              clear hb hv
              go_wp2_with fail
              go_ret
              rw [HV.out]
              exact ⟨rfl, HX.out⟩
            | false =>
              have HB := Lib.hid hb
              rw [hb, if_neg (by simp)] at ht
              clear hb
              go_wp2_with fail
              go_round
              case rel => exact ⟨k + 1, by omega, by omega, HKK.out, Lib.hid (fun b h1 h2 => by
                by_cases e : b = k
                · subst e; rw [HJB.out, HB.out]
                · exact hq.out b h1 (by omega))⟩
              case measure => simp [intOf]; omega
          · obtain rfl : k = 64 * l.length := by omega
            have hv : validB ⟨w, l⟩ = true := by
              rw [HVW.out, decide_eq_true HL.out, Bool.true_and]
              exact (clean_iff HS.out.lt).2 hq.out
            have HV := Lib.hid hv
            clear hv
            go_wp2_with fail
            go_ret
            rw [HV.out]
            exact ⟨rfl, HX.out⟩
      · have hv : validB ⟨w, l⟩ = false := by rw [HVW.out, decide_eq_false hl]; rfl
        have HV := Lib.hid hv
        have hne : ((l.length : Int) != (nw w : Int)) = true := by simp; omega
        clear hv hl
        go_enter Try.func56, Try.ntmps56
        go_wp2_with fail
        go_ret
        rw [HV.out]
        exact ⟨rfl, by (repeat (first | (with_reducible exact Ext.refl _ _) | (with_reducible assumption) | (with_reducible refine Ext.drewN ?_ _) | (with_reducible refine Ext.drew ?_) | (with_reducible refine Ext.alloc ?_ _)))⟩
end Go.Proofs.Ytfejidihocoboaa

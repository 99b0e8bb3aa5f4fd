/- The reference: Before, Has, follows, ValidTransfer, Follows. -/
import Derived.Test.YtjeohlooaiociaaGreatDoorTrF
import Derived.Test.YtjeohlooaiociaaGreatDoorTr6
import Derived.Test.YtjeohlooaiociaaGreatDoorTrC
set_option linter.unusedVariables false
set_option linter.unusedSimpArgs false
namespace Go.Proofs.YtjeohlooaiociaaGreatDoor
open Go Go.RowKit
set_option maxHeartbeats 1000000 in
theorem rhas_any (w m : Nat) (sl : Value) (b : Int) (W : World) (h : SetAt No W sl w m) : Calls Tryz.prog 44 #[.agg #[.int .i64 (w : Int), sl], .int .i64 b] W (BoolPost (hasZ w m b) W) := by
 have H := Lib.hid h
 obtain ⟨a, c, rfl⟩ := h.slice
 have hv := validB_set h.hw h.hm
 have hw := h.hw
 clear h
 unfold hasZ
 cases hb : inB w b with
 | false =>
  have hcs : b < 0 ∨ 0 ≤ b ∧ (w : Int) ≤ b := by simp only [inB, decide_eq_false_iff_not] at hb; omega
  clear hb
  rcases hcs with h0 | ⟨h0, h1⟩
  ·have h0' : decide (0 ≤ b) = false := by simpa using h0
   go_enter Tryz.func44, Tryz.ntmps44
   go_wp2_with fail
   refine (rvalid_any _ (setN w m) _ (H.out.raw.extNo ((Ext.refl _ _).alloc _))).mono ?_
   rintro e1 w1 ⟨rfl, hx1⟩
   rw [hv]
   have cB := cellOf (hx1.blk (alloc_top (w := W) rfl) (fun x => x.elim))
   have hxa : Ext No W w1 := ((Ext.refl _ _).alloc _).transNo hx1
   go_wp2_with fail
   go_ret
   exact ⟨rfl, hxa⟩
  ·have h0' : decide (0 ≤ b) = true := by simpa using h0
   have h1' : decide (b < (w : Int)) = false := by simpa using h1
   go_enter Tryz.func44, Tryz.ntmps44
   go_wp2_with fail
   refine (rvalid_any _ (setN w m) _ (H.out.raw.extNo ((Ext.refl _ _).alloc _))).mono ?_
   rintro e1 w1 ⟨rfl, hx1⟩
   rw [hv]
   have cB := cellOf (hx1.blk (alloc_top (w := W) rfl) (fun x => x.elim))
   have hxa : Ext No W w1 := ((Ext.refl _ _).alloc _).transNo hx1
   go_wp2_with fail
   go_ret
   exact ⟨rfl, hxa⟩
 | true =>
  obtain ⟨k, rfl, hk⟩ := inB_true hb
  have hkw : k < w := by omega
  have hn : k / 64 < nw w := by unfold nw; omega
  obtain ⟨b0, off, cap, hsl, hb1, _, hc⟩ := H.out.at (by omega)
  simp only [Value.slice.injEq] at hsl
  obtain ⟨rfl, _, rfl⟩ := hsl
  have hc1 := hc (k / 64) hn
  have ht := bit_test _ (k % 64) (wordN_lt m (k / 64))
  rw [testBit_word] at ht
  have hk0 : (0 : Int) ≤ (k : Int) := by omega
  have hk2 : (k : Int) ≤ 256 := by omega
  have hu : IntKind.u64.wrap (k : Int) = k := wrapU k (by omega)
  clear hc hb
  simp only [Bool.true_and, Int.toNat_natCast]
  cases hbit : m.testBit k
  all_goals
   rw [hbit] at ht
   simp only [if_true, if_false, Bool.false_eq_true] at ht
   go_enter Tryz.func44, Tryz.ntmps44
   go_wp2_with fail
   refine (rvalid_any _ (setN w m) _ (H.out.raw.extNo ((Ext.refl _ _).alloc _))).mono ?_
   rintro e1 w1 ⟨rfl, hx1⟩
   rw [hv]
   have cB := cellOf (hx1.blk (alloc_top (w := W) rfl) (fun x => x.elim))
   have hxa : Ext No W w1 := ((Ext.refl _ _).alloc _).transNo hx1
   have hc2 := hxa.keep hc1
   go_wp2_with fail
   go_ret
   exact ⟨rfl, hxa⟩
end Go.Proofs.YtjeohlooaiociaaGreatDoor

/- bitset.Valid. -/
import Derived.Test.YtgakojgkkdmabaaSet1
namespace Go.Proofs.Ytgakojgkkdmabaa
open Go Go.RowKit

theorem validB_w {w : Nat} {l : List Nat} (hw : w ≤ 256) : validB ⟨w, l⟩ = (decide (l.length = nw w) && cleanB w l) := by
  unfold validB
  simp only [Int.toNat_natCast]
  congr 1
  apply decide_eq_decide.2
  constructor
  · exact fun h => h.2.2
  · exact fun h => ⟨by omega, by omega, h⟩
/-- a callee that only computes, met in a region that only reads: behind one draw, and behind an earlier such region -/
theorem qs1 {P : Program} {f : FuncId} {args : Array Value} {w : World} {n : Nat} {v : Value} (h : Calls P f args (w.drewN n) fun e w' => e = .returned v ∧ w.drewN n = w') : Calls P f args (w.drewN n) fun e w' => e = .returned v ∧ ∃ m, w' = w.drewN m :=
  h.mono fun _ _ ⟨he, hm⟩ => ⟨he, n, hm.symm⟩
theorem qs2 {P : Program} {f : FuncId} {args : Array Value} {w : World} {a n : Nat} {v : Value} (h : Calls P f args (w.drewN (a + n)) fun e w' => e = .returned v ∧ w.drewN (a + n) = w') : Calls P f args (w.drewN (a + n)) fun e w' => e = .returned v ∧ ∃ m, w' = w.drewN (a + m) :=
  h.mono fun _ _ ⟨he, hm⟩ => ⟨he, n, hm.symm⟩
def BoolPost (b : Bool) (W : World) (e : Ending) (w' : World) : Prop := e = .returned (.bool b) ∧ Ext No W w'

set_option maxRecDepth 100000 in
set_option maxHeartbeats 1000000 in
theorem valid_any (v : Value) (s : RawSet) (W : World) (h : RawV No W v s) : Calls Try.prog 16 #[v] W (BoolPost (validB s) W) := by
  obtain ⟨sl, rfl, hs⟩ := h
  obtain ⟨a, c, rfl⟩ := hs.slice
  have HS := Lib.hid hs
  clear hs
  obtain ⟨width, l⟩ := s
  simp only at HS ⊢
  have hlen := HS.out.row.2.1
  cases hr : rangedB width with
  | false =>
    have hv : validB ⟨width, l⟩ = false := by
      unfold validB
      rw [show decide (0 ≤ width ∧ width ≤ 256 ∧ l.length = nw width.toNat) = false from decide_eq_false (fun h => by simp only [rangedB, decide_eq_false_iff_not] at hr; exact hr ⟨h.1, h.2.1⟩)]; rfl
    rw [hv]
    clear hv
    go_enter Try.func16, Try.ntmps16
    go_wp2_with fail
    go_quiet ((go_at_call 25; exact qs1 (hr ▸ ranged_any width _)))
    go_wp2
    go_ret
    exact ⟨rfl, by (repeat (first | (with_reducible exact Ext.refl _ _) | (with_reducible assumption) | (with_reducible refine Ext.drewN ?_ _) | (with_reducible refine Ext.drew ?_) | (with_reducible refine Ext.alloc ?_ _)))⟩
  | true =>
    have hrt : rangedB width = true := hr
    obtain ⟨w, rfl, hw⟩ := rangedB_true hrt
    clear hr
    rw [validB_w hw]
    have hw' : (w : Int) ≤ 256 := by omega
    by_cases hl : l.length = nw w
    · have HL := Lib.hid hl
      rw [show decide (l.length = nw w) = true from decide_eq_true hl, Bool.true_and]
      have hne : ((l.length : Int) != (nw w : Int)) = false := by simp [hl]
      clear hl
      by_cases hz : w % 64 = 0
      · rw [cleanB_zero HS.out.lt HL.out hz]
        have hz1 : ((w : Int) % 64 == 0) = true := by simp; omega
        have hz2 : ((w : Int).tmod 64 == 0) = true := by rw [Int.tmod_eq_emod_of_nonneg (by omega)]; exact hz1
        clear hz
        go_enter Try.func16, Try.ntmps16
        go_wp2_with fail
        go_quiet (first | (go_at_call 25; exact qs1 (hrt ▸ ranged_any w _)) | (go_at_call 26; exact qs1 (words_any w hw _)))
        go_wp2_with fail
        go_quiet (fail)
        go_wp2
        go_ret
        exact ⟨rfl, by (repeat (first | (with_reducible exact Ext.refl _ _) | (with_reducible assumption) | (with_reducible refine Ext.drewN ?_ _) | (with_reducible refine Ext.drew ?_) | (with_reducible refine Ext.alloc ?_ _)))⟩
      · have hpos : l.length - 1 < l.length := by have := HL.out; unfold nw at this; omega
        rw [cleanB_last HS.out.lt HL.out hz hpos]
        have hz1 : ((w : Int) % 64 == 0) = false := by simp; omega
        have hz2 : ((w : Int).tmod 64 == 0) = false := by rw [Int.tmod_eq_emod_of_nonneg (by omega)]; exact hz1
        clear hz
        obtain ⟨b, off, cap, hsl, hb1, _, hc⟩ := HS.out.at (i := 0) (by omega)
        simp only [Value.slice.injEq] at hsl
        obtain ⟨rfl, _, rfl⟩ := hsl
        have hc1 := hc (l.length - 1) hpos
        have hlt1 := HS.out.lt _ (List.getElem_mem hpos)
        have hand := spare_and w _ hlt1
        have hn : ((l[l.length - 1] &&& spareN w : Nat) : Int) = 0 ↔ l[l.length - 1] &&& spareN w = 0 := by omega
        clear hc
        have hw1 : IntKind.i64.wrap ((l.length : Int) - 1) = ((l.length - 1 : Nat) : Int) := by rw [IntWalk.i64_in _ (by omega)]; omega
        have hp1 : 0 ≤ ((l.length - 1 : Nat) : Int) := by omega
        have hp2 : ((l.length - 1 : Nat) : Int) < (l.length : Int) := by omega
        generalize l[l.length - 1] = x at *
        generalize l.length - 1 = k at *
        cases hx : decide (x &&& spareN w = 0) with
        | true =>
          have hx1 : (((x &&& spareN w : Nat) : Int) == 0) = true := by simpa using hx
          clear hx hn
          go_enter Try.func16, Try.ntmps16
          go_wp2_with fail
          go_quiet (first | (go_at_call 25; exact qs1 (hrt ▸ ranged_any w _)) | (go_at_call 26; exact qs1 (words_any w hw _)))
          go_wp2_with fail
          go_quiet ((go_at_call 27; exact qs2 (spare_any w hw _)))
          go_wp2
          go_ret
          exact ⟨rfl, by (repeat (first | (with_reducible exact Ext.refl _ _) | (with_reducible assumption) | (with_reducible refine Ext.drewN ?_ _) | (with_reducible refine Ext.drew ?_) | (with_reducible refine Ext.alloc ?_ _)))⟩
        | false =>
          have hx1 : (((x &&& spareN w : Nat) : Int) == 0) = false := by simpa using hx
          clear hx hn
          go_enter Try.func16, Try.ntmps16
          go_wp2_with fail
          go_quiet (first | (go_at_call 25; exact qs1 (hrt ▸ ranged_any w _)) | (go_at_call 26; exact qs1 (words_any w hw _)))
          go_wp2_with fail
          go_quiet ((go_at_call 27; exact qs2 (spare_any w hw _)))
          go_wp2
          go_ret
          exact ⟨rfl, by (repeat (first | (with_reducible exact Ext.refl _ _) | (with_reducible assumption) | (with_reducible refine Ext.drewN ?_ _) | (with_reducible refine Ext.drew ?_) | (with_reducible refine Ext.alloc ?_ _)))⟩
    · rw [show decide (l.length = nw w) = false from decide_eq_false hl]
      have hne : ((l.length : Int) != (nw w : Int)) = true := by simp; omega
      go_enter Try.func16, Try.ntmps16
      go_wp2_with fail
      go_quiet (first | (go_at_call 25; exact qs1 (hrt ▸ ranged_any w _)) | (go_at_call 26; exact qs1 (words_any w hw _)))
      go_wp2
      go_ret
      exact ⟨rfl, by (repeat (first | (with_reducible exact Ext.refl _ _) | (with_reducible assumption) | (with_reducible refine Ext.drewN ?_ _) | (with_reducible refine Ext.drew ?_) | (with_reducible refine Ext.alloc ?_ _)))⟩
end Go.Proofs.Ytgakojgkkdmabaa

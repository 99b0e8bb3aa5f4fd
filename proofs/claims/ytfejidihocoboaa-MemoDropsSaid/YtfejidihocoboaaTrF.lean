/- Merged: Tr40 Tr41 -/
import Derived.Test.YtfejidihocoboaaTrD
import Derived.Test.YtfejidihocoboaaHeld
import Derived.Test.YtfejidihocoboaaTrB
import Derived.Deep.LoopGhost
set_option linter.unusedVariables false
set_option linter.unusedSimpArgs false
/- Tr40 -/
namespace Go.Proofs.Ytfejidihocoboaa
open Go Go.RowKit
theorem clean_iff {w : Nat} {l : List Nat} (hl : ∀ n ∈ l, n < 2 ^ 64) : cleanB w l = true ↔ ∀ b, w ≤ b → b < 64 * l.length → (joinN l).testBit b = false := by
  unfold cleanB
  rw [decide_eq_true_eq]
  constructor
  · intro h b hb _; exact bit_high h hb
  · intro h
    refine Nat.lt_pow_two_of_testBit _ (fun b hb => ?_)
    by_cases hb2 : b < 64 * l.length
    · exact h b hb hb2
    · rw [joinN_bit l hl, List.getElem?_eq_none (by omega), Option.getD_none, Nat.zero_testBit]
set_option maxRecDepth 100000 in
set_option maxHeartbeats 2000000 in
theorem rvalid_any (v : Value) (s : RawSet) (W : World) (h : RawV No W v s) : Calls Try.prog 56 #[v] W (BoolPost (validB s) W) := by
  obtain ⟨sl, rfl, hs⟩ := h
  obtain ⟨a, c, rfl⟩ := hs.slice
  have HS := Lib.hid hs
  clear hs
  obtain ⟨width, l⟩ := s
  simp only at HS ⊢
  have hlen := HS.out.row.2.1
  by_cases h0 : width < 0
  · have hv : validB ⟨width, l⟩ = false := by
      unfold validB
      rw [show decide (0 ≤ width ∧ width ≤ 256 ∧ l.length = nw width.toNat) = false from decide_eq_false (fun h => by omega)]; rfl
    have HV := Lib.hid hv
    clear hv
    go_enter Try.func56, Try.ntmps56
    go_wp2_with fail
    go_ret
    rw [HV.out]
    exact ⟨rfl, by (repeat (first | (with_reducible exact Ext.refl _ _) | (with_reducible assumption) | (with_reducible refine Ext.drewN ?_ _) | (with_reducible refine Ext.drew ?_) | (with_reducible refine Ext.alloc ?_ _)))⟩
  · by_cases h1 : 256 < width
    · have hv : validB ⟨width, l⟩ = false := by
        unfold validB
        rw [show decide (0 ≤ width ∧ width ≤ 256 ∧ l.length = nw width.toNat) = false from decide_eq_false (fun h => by omega)]; rfl
      have HV := Lib.hid hv
      have h0' : decide (width < 0) = false := by simpa using h0
      have h1' : decide (256 < width) = true := by simpa using h1
      clear hv
      go_enter Try.func56, Try.ntmps56
      go_wp2_with fail
      go_ret
      rw [HV.out]
      exact ⟨rfl, by (repeat (first | (with_reducible exact Ext.refl _ _) | (with_reducible assumption) | (with_reducible refine Ext.drewN ?_ _) | (with_reducible refine Ext.drew ?_) | (with_reducible refine Ext.alloc ?_ _)))⟩
    · obtain ⟨w, rfl⟩ : ∃ w : Nat, width = w := ⟨width.toNat, by omega⟩
      have hw : w ≤ 256 := by omega
      have HVW := Lib.hid (validB_w (l := l) hw)
      have hn : ((w : Int) + 63) / 64 = (nw w : Int) := by unfold nw; omega
      have hw' : (w : Int) ≤ 256 := by omega
      clear h0 h1
      by_cases hl : l.length = nw w
      · have HL := Lib.hid hl
        have hne : ((l.length : Int) != (nw w : Int)) = false := by simp [hl]
        have hl5 : l.length ≤ 5 := by rw [hl]; unfold nw; omega
        clear hl
        go_enter Try.func56, Try.ntmps56
        go_wp2_with fail
        have HA : Hid ((W.alloc (.cells #[.int .i64 (w : Int), .slice a l.length c] 40)).heap[W.heap.size]? = some (.cells #[.int .i64 (w : Int), .slice a l.length c] 40 (0, 0))) := Lib.hid (alloc_top rfl)
        have HW0 := Lib.hid (HS.out.extNo ((Ext.refl No W).alloc (.cells #[.int .i64 (w : Int), .slice a l.length c] 40)))
        have HX : Hid (Ext No W (W.alloc (.cells #[.int .i64 (w : Int), .slice a l.length c] 40))) := Lib.hid ((Ext.refl _ _).alloc _)
        generalize (W.alloc (.cells #[.int .i64 (w : Int), .slice a l.length c] 40)) = W0 at *
        have hwn : w ≤ 64 * l.length := by rw [HL.out]; exact (nw_mul w).1
        go_loop [3] (fun i => ∃ k : Nat, w ≤ k ∧ k ≤ 64 * l.length ∧ i = .int .i64 k ∧ Hid (∀ b, w ≤ b → b < k → (joinN l).testBit b = false)) (fun i => 64 * l.length - (intOf i).toNat)
        case atStart => exact ⟨w, Nat.le_refl _, hwn, rfl, Lib.hid (fun b h1 h2 => by omega)⟩
        case round =>
          obtain ⟨k, hwk, hk, rfl, hq⟩ := hrel
          have cA := cellOf HA.out
          have hpos : (0 : Int) ≤ (k : Int) := by omega
          by_cases hlt : k < 64 * l.length
          · have hkl : k / 64 < l.length := by omega
            obtain ⟨b0, off, cap, hsl, _, _, hc⟩ := HW0.out.at hkl
            simp only [Value.slice.injEq] at hsl
            obtain ⟨rfl, _, rfl⟩ := hsl
            have hc1 := hc (k / 64) hkl
            have hl1 := HS.out.lt _ (List.getElem_mem hkl)
            have ht := bit_test _ (k % 64) hl1
            have hjb : (joinN l).testBit k = l[k / 64].testBit (k % 64) := by rw [joinN_bit l HS.out.lt, List.getElem?_eq_getElem hkl]; rfl
            have HJB := Lib.hid hjb
            have hk2 : (k : Int) ≤ 320 := by omega
            have hlz : (k : Int) < 64 * (l.length : Int) := by omega
            have hlz2 : (k : Int) / 64 < (l.length : Int) := by omega
            have HKK : Hid (Value.int .i64 ((k : Int) + 1) = .int .i64 ((k + 1 : Nat) : Int)) := Lib.hid (by rw [show ((k + 1 : Nat) : Int) = (k : Int) + 1 from by omega])
            clear hc hjb hl1
            generalize l[k / 64] = x at *
            cases hb : x.testBit (k % 64) with
            | true =>
              have HB := Lib.hid hb
              have hv : validB ⟨w, l⟩ = false := by
                rw [HVW.out]
                have : cleanB w l = false := by
                  cases e : cleanB w l with
                  | false => rfl
                  | true =>
                    have := (clean_iff HS.out.lt).1 e k hwk hlt
                    rw [HJB.out, hb] at this; cases this
                rw [this, Bool.and_false]
              have HV := Lib.hid hv
              rw [hb, if_pos rfl] at ht
              clear hb hv
              go_wp2_with fail
              go_ret
              rw [HV.out]
              exact ⟨rfl, HX.out⟩
            | false =>
              have HB := Lib.hid hb
              rw [hb, if_neg (by simp)] at ht
              clear hb
              go_wp2_with fail
              go_round
              case rel => exact ⟨k + 1, by omega, by omega, HKK.out, Lib.hid (fun b h1 h2 => by
                by_cases e : b = k
                · subst e; rw [HJB.out, HB.out]
                · exact hq.out b h1 (by omega))⟩
              case measure => simp [intOf]; omega
          · obtain rfl : k = 64 * l.length := by omega
            have hv : validB ⟨w, l⟩ = true := by
              rw [HVW.out, decide_eq_true HL.out, Bool.true_and]
              exact (clean_iff HS.out.lt).2 hq.out
            have HV := Lib.hid hv
            clear hv
            go_wp2_with fail
            go_ret
            rw [HV.out]
            exact ⟨rfl, HX.out⟩
      · have hv : validB ⟨w, l⟩ = false := by rw [HVW.out, decide_eq_false hl]; rfl
        have HV := Lib.hid hv
        have hne : ((l.length : Int) != (nw w : Int)) = true := by simp; omega
        clear hv hl
        go_enter Try.func56, Try.ntmps56
        go_wp2_with fail
        go_ret
        rw [HV.out]
        exact ⟨rfl, by (repeat (first | (with_reducible exact Ext.refl _ _) | (with_reducible assumption) | (with_reducible refine Ext.drewN ?_ _) | (with_reducible refine Ext.drew ?_) | (with_reducible refine Ext.alloc ?_ _)))⟩
end Go.Proofs.Ytfejidihocoboaa

/- Merged: Tr12 Tr13 Tr14 Tr15 -/
import Derived.Test.YtfejidihocoboaaTrB
import Derived.Test.YtfejidihocoboaaTape
import Derived.Deep.Onto
set_option linter.unusedVariables false
set_option linter.unusedSimpArgs false
/- Tr15 -/
namespace Go.Proofs.Ytfejidihocoboaa
open Go Go.RowKit
def sameB (s t : RawSet) : Bool := decide (s.width = t.width ∧ s.words = t.words)
theorem same_no {s t : RawSet} (h : ¬ (s.width = t.width ∧ s.words = t.words)) : sameB s t = false := decide_eq_false h
set_option maxRecDepth 100000 in
set_option maxHeartbeats 1000000 in
theorem rsame_any (s t : RawSet) (u v : Value) (W : World) (hs : RawV No W u s) (ht : RawV No W v t) : Calls Try.prog 20 #[u, v] W (BoolPost (sameB s t) W) := by
  obtain ⟨su, rfl, hu⟩ := hs
  obtain ⟨sv, rfl, hv⟩ := ht
  have HU := Lib.hid hu
  have HV := Lib.hid hv
  obtain ⟨au, cu, rfl⟩ := hu.slice
  obtain ⟨av, cv, rfl⟩ := hv.slice
  clear hu hv
  have hxa : Ext No W ((W.alloc (.cells #[.int .i64 s.width, .slice au s.words.length cu] 40)).alloc (.cells #[.int .i64 t.width, .slice av t.words.length cv] 40)) := ((Ext.refl _ _).alloc _).alloc _
  have hA : ((W.alloc (.cells #[.int .i64 s.width, .slice au s.words.length cu] 40)).alloc (.cells #[.int .i64 t.width, .slice av t.words.length cv] 40)).heap[W.heap.size]? = some (.cells #[.int .i64 s.width, .slice au s.words.length cu] 40 (0, 0)) := alloc_under (alloc_top rfl)
  have hB : ((W.alloc (.cells #[.int .i64 s.width, .slice au s.words.length cu] 40)).alloc (.cells #[.int .i64 t.width, .slice av t.words.length cv] 40)).heap[W.heap.size + 1]? = some (.cells #[.int .i64 t.width, .slice av t.words.length cv] 40 (0, 0)) := alloc_top (by simp)
  have cA := cellOf hA
  have cB := cellOf hB
  by_cases hw : s.width = t.width
  · by_cases hl : s.words.length = t.words.length
    · have hbig : s.words.length ≤ 9223372036854775807 := HU.out.row.2.1
      have HW := Lib.hid hw
      have HL := Lib.hid hl
      rw [← hw] at hA hB hxa ⊢
      rw [← hl] at hA hB hxa HV ⊢
      clear hw hl cA cB
      have cA := cellOf hA
      have cB := cellOf hB
      go_enter Try.func20, Try.ntmps20
      go_wp2_with fail
      generalize ((W.alloc (.cells #[.int .i64 s.width, .slice au s.words.length cu] 40)).alloc (.cells #[.int .i64 s.width, .slice av s.words.length cv] 40)) = W0 at *
      clear cA cB
      have hx0 : Hid (Ext No W0 W0) := Lib.hid (Ext.refl _ _)
      go_loopw [5] (fun i wr => ∃ k : Nat, k ≤ s.words.length ∧ i = .int .i64 k ∧ Hid (∀ j (h1 : j < s.words.length) (h2 : j < t.words.length), j < k → s.words[j] = t.words[j]) ∧ Hid (Ext No W0 wr)) (fun i _ => s.words.length - (intOf i).toNat)
      case atStart => exact ⟨0, Nat.zero_le _, rfl, Lib.hid (fun j _ _ h => by omega), hx0⟩
      case round =>
        clear hx0
        obtain ⟨k, hk, rfl, hq, hx⟩ := hrel
        rename World => wr
        have cA := cellOf (hx.out.blk hA no_no)
        have cB := cellOf (hx.out.blk hB no_no)
        have hpos : (0 : Int) ≤ (k : Int) := by omega
        by_cases hlt : k < s.words.length
        · have hlt2 : k < t.words.length := HL.out ▸ hlt
          obtain ⟨bu, ou, pu, hsu, _, _, hcu⟩ := (HU.out.extNo (hxa.transNo hx.out)).at hlt
          obtain ⟨bv, ov, pv, hsv, _, _, hcv⟩ := (HV.out.extNo (hxa.transNo hx.out)).at hlt2
          rw [← HL.out] at hsv
          simp only [Value.slice.injEq] at hsu hsv
          obtain ⟨rfl, _, rfl⟩ := hsu
          obtain ⟨rfl, _, rfl⟩ := hsv
          have q0 := hcu k hlt
          have q1 := hcv k hlt2
          obtain ⟨x, hxe⟩ : ∃ x, x = s.words[k] := ⟨_, rfl⟩
          obtain ⟨y, hye⟩ : ∃ y, y = t.words[k] := ⟨_, rfl⟩
          rw [← hxe] at q0
          rw [← hye] at q1
          have HXE := Lib.hid hxe
          have HYE := Lib.hid hye
          clear hcu hcv hxe hye
          have HKK : Hid (Value.int .i64 ((k : Int) + 1) = .int .i64 ((k + 1 : Nat) : Int)) := Lib.hid (by rw [show ((k + 1 : Nat) : Int) = (k : Int) + 1 from by omega])
          have hlz : (k : Int) < (s.words.length : Int) := by omega
          by_cases he : x = y
          · have hez : (x : Int) = (y : Int) := by omega
            go_wp2_with fail
            go_quiet (fail)
            go_wp2_with fail
            go_roundw
            case rel => exact ⟨k + 1, by omega, HKK.out, Lib.hid (fun j h1 h2 h3 => by
              by_cases hj : j < k
              · exact hq.out j h1 h2 hj
              · obtain rfl : j = k := by omega
                rw [← HXE.out, ← HYE.out, he]), Lib.hid (hx.out.drewN _)⟩
            case measure => simp [intOf]; omega
          · have hez : ¬ (x : Int) = (y : Int) := by omega
            have e : sameB s t = false := same_no (fun h => he (by rw [HXE.out, HYE.out]; simp only [h.2]))
            go_wp2_with fail
            go_quiet (fail)
            go_wp2_with fail
            go_ret
            rw [e]
            exact ⟨rfl, hxa.transNo (hx.out.drewN _)⟩
        · have hge : (s.words.length : Int) ≤ (k : Int) := by omega
          have e : sameB s t = true := decide_eq_true ⟨HW.out, List.ext_getElem HL.out (fun j h1 h2 => hq.out j h1 h2 (by omega))⟩
          go_wp2_with fail
          go_ret
          rw [e]
          exact ⟨rfl, hxa.transNo hx.out⟩
    · have e : sameB s t = false := same_no (fun h => hl (by rw [h.2]))
      rw [e]
      have hl' : ¬ (s.words.length : Int) = (t.words.length : Int) := by omega
      go_enter Try.func20, Try.ntmps20
      go_wp2_with fail
      go_ret
      exact ⟨rfl, by (repeat (first | (with_reducible exact Ext.refl _ _) | (with_reducible assumption) | (with_reducible refine Ext.drewN ?_ _) | (with_reducible refine Ext.drew ?_) | (with_reducible refine Ext.alloc ?_ _)))⟩
  · have e : sameB s t = false := same_no (fun h => hw h.1)
    rw [e]
    go_enter Try.func20, Try.ntmps20
    go_wp2_with fail
    go_ret
    exact ⟨rfl, by (repeat (first | (with_reducible exact Ext.refl _ _) | (with_reducible assumption) | (with_reducible refine Ext.drewN ?_ _) | (with_reducible refine Ext.drew ?_) | (with_reducible refine Ext.alloc ?_ _)))⟩
end Go.Proofs.Ytfejidihocoboaa

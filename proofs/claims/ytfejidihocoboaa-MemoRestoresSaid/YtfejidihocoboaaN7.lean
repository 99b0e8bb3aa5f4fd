/- compare of keys. -/
import Derived.Test.YtfejidihocoboaaN6
import Derived.Test.YtfejidihocoboaaTrB
set_option linter.unusedVariables false
set_option linter.unusedSimpArgs false
namespace Go.Proofs.Ytfejidihocoboaa
open Go Go.RowKit
open Go.Maps (Keyed)
theorem Ext.ofEq {w w' : World} (h : w = w') : Ext No w w' := h ▸ Ext.refl _ _
def or3 (a b c : Int) : Int := if a = 0 then (if b = 0 then c else b) else a
set_option maxHeartbeats 1000000 in
theorem or3_any (a b c : Int) (g : Nat) (W : World) (h0 : W.cell? ⟨g, 0, none⟩ = some (.int .i64 a)) (h1 : W.cell? ⟨g, 1, none⟩ = some (.int .i64 b)) (h2 : W.cell? ⟨g, 2, none⟩ = some (.int .i64 c)) :
    Calls Try.prog 71 #[.slice (some ⟨g, 0, none⟩) 3 3] W fun e w' => e = .returned (.int .i64 (or3 a b c)) ∧ W = w' := by
  unfold or3
  by_cases ha : a = 0
  · rw [if_pos ha]
    subst ha
    by_cases hb : b = 0
    · rw [if_pos hb]
      subst hb
      by_cases hc : c = 0
      · subst hc
        go_enter Try.func71, Try.ntmps71
        go_wp2
        go_loop [8] (fun i => i = .int .i64 0 ∨ i = .int .i64 1 ∨ i = .int .i64 2 ∨ i = .int .i64 3) (fun i => 3 - (intOf i).toNat)
        case atStart => exact .inl rfl
        case round =>
          rcases hrel with rfl | rfl | rfl | rfl
          · go_wp2
            go_round
            case rel => exact .inr (.inl rfl)
            case measure => simp [intOf]
          · go_wp2
            go_round
            case rel => exact .inr (.inr (.inl rfl))
            case measure => simp [intOf]
          · go_wp2
            go_round
            case rel => exact .inr (.inr (.inr rfl))
            case measure => simp [intOf]
          · go_wp2
            go_ret
            exact ⟨rfl, rfl⟩
      · have hc' : (c != 0) = true := by simp [hc]
        clear hc
        go_enter Try.func71, Try.ntmps71
        go_wp2
        go_loop [8] (fun i => i = .int .i64 0 ∨ i = .int .i64 1 ∨ i = .int .i64 2) (fun i => 3 - (intOf i).toNat)
        case atStart => exact .inl rfl
        case round =>
          rcases hrel with rfl | rfl | rfl
          · go_wp2
            go_round
            case rel => exact .inr (.inl rfl)
            case measure => simp [intOf]
          · go_wp2
            go_round
            case rel => exact .inr (.inr rfl)
            case measure => simp [intOf]
          · go_wp2
            go_ret
            exact ⟨rfl, rfl⟩
    · rw [if_neg hb]
      have hb' : (b != 0) = true := by simp [hb]
      clear hb
      go_enter Try.func71, Try.ntmps71
      go_wp2
      go_loop [8] (fun i => i = .int .i64 0 ∨ i = .int .i64 1) (fun i => 3 - (intOf i).toNat)
      case atStart => exact .inl rfl
      case round =>
        rcases hrel with rfl | rfl
        · go_wp2
          go_round
          case rel => exact .inr rfl
          case measure => simp [intOf]
        · go_wp2
          go_ret
          exact ⟨rfl, rfl⟩
  · rw [if_neg ha]
    have ha' : (a != 0) = true := by simp [ha]
    clear ha
    go_enter Try.func71, Try.ntmps71
    go_wp2
    go_loop [8] (fun i => i = .int .i64 0) (fun i => 3 - (intOf i).toNat)
    case atStart => exact rfl
    case round =>
      subst hrel
      go_wp2
      go_ret
      exact ⟨rfl, rfl⟩
def cmpK (x y : Key3) : Int := or3 (cmpZ x.1 y.1) (cmpZ x.2.1 y.2.1) (cmpZ x.2.2 y.2.2)
def ltK (x y : Key3) : Prop := x.1 < y.1 ∨ (x.1 = y.1 ∧ (x.2.1 < y.2.1 ∨ (x.2.1 = y.2.1 ∧ x.2.2 < y.2.2)))
theorem cmpK_lt (x y : Key3) : cmpK x y < 0 ↔ ltK x y := by
  unfold cmpK or3 ltK cmpZ
  repeat' split
  all_goals omega
theorem cmpK_zero (x y : Key3) : cmpK x y = 0 ↔ x = y := by
  obtain ⟨a, b, c⟩ := x
  obtain ⟨d, e, f⟩ := y
  simp only [Prod.mk.injEq]
  unfold cmpK or3 cmpZ
  simp only
  repeat' split
  all_goals omega
theorem ltK_trans {x y z : Key3} (h : ltK x y) (h' : ltK y z) : ltK x z := by unfold ltK at *; omega
theorem ltK_irrefl (x : Key3) : ¬ ltK x x := by unfold ltK; omega
theorem ltK_total {x y : Key3} (h : x ≠ y) : ltK x y ∨ ltK y x := by
  have h1 : cmpK x y ≠ 0 := fun e => h ((cmpK_zero x y).1 e)
  rcases Int.lt_or_lt_of_ne h1 with h2 | h2
  · exact .inl ((cmpK_lt _ _).1 h2)
  · refine .inr ?_
    revert h2
    unfold cmpK or3 ltK cmpZ
    repeat' split
    all_goals omega
set_option maxRecDepth 100000 in
set_option maxHeartbeats 1000000 in
theorem compare_any (x y : Key3) (W : World) : Calls Try.prog 46 #[keyV x, keyV y] W (fun e w' => e = .returned (.int .i64 (cmpK x y)) ∧ Ext No W w') := by
  have hx0 : Ext No W ((W.alloc (.cells #[.int .i64 x.1, .int .i64 x.2.1, .int .i64 x.2.2] 68)).alloc (.cells #[.int .i64 y.1, .int .i64 y.2.1, .int .i64 y.2.2] 68)) := ((Ext.refl _ _).alloc _).alloc _
  have HX := Lib.hid hx0
  have HA := Lib.hid (show ((W.alloc (.cells #[.int .i64 x.1, .int .i64 x.2.1, .int .i64 x.2.2] 68)).alloc (.cells #[.int .i64 y.1, .int .i64 y.2.1, .int .i64 y.2.2] 68)).heap[W.heap.size]? = some (.cells #[.int .i64 x.1, .int .i64 x.2.1, .int .i64 x.2.2] 68 (0, 0)) from alloc_under (alloc_top rfl))
  have HB := Lib.hid (show ((W.alloc (.cells #[.int .i64 x.1, .int .i64 x.2.1, .int .i64 x.2.2] 68)).alloc (.cells #[.int .i64 y.1, .int .i64 y.2.1, .int .i64 y.2.2] 68)).heap[W.heap.size + 1]? = some (.cells #[.int .i64 y.1, .int .i64 y.2.1, .int .i64 y.2.2] 68 (0, 0)) from alloc_top (by simp))
  clear hx0
  unfold keyV
  go_enter Try.func46, Try.ntmps46
  go_upto_region 1 with (fail)
  generalize ((W.alloc (.cells #[.int .i64 x.1, .int .i64 x.2.1, .int .i64 x.2.2] 68)).alloc (.cells #[.int .i64 y.1, .int .i64 y.2.1, .int .i64 y.2.2] 68)) = V at *
  refine wp_region_held_drew (S := (fun w' => Ext No V w')) (by kernel_rfl) ?_ (fun hHeld => ?_)
  · exact (Ext.refl _ _).drew
  refine held_take (i := 0) (v := ?_) rfl (by kernel_rfl) (by kernel_rfl) (by kernel_rfl) (fun _ _ _ h => h) rfl (fun w hSw => ?_) hHeld ?_
  rotate_left
  · go_simp; (try with_reducible rfl)
  try simp only [Act.put, List.setIfInBounds_toArray, List.set_cons_zero, List.set_cons_succ]
  refine held_take (i := 1) (v := ?_) rfl (by kernel_rfl) (by kernel_rfl) (by kernel_rfl) (fun _ _ _ h => h) rfl (fun w hSw => ?_) hHeld ?_
  rotate_left
  · (have hEs : Ext No V _ := hSw); (have x0 := cellOf (hEs.blk HA.out no_no)); go_simp; (try with_reducible rfl)
  try simp only [Act.put, List.setIfInBounds_toArray, List.set_cons_zero, List.set_cons_succ]
  refine held_take (i := 2) (v := ?_) rfl (by kernel_rfl) (by kernel_rfl) (by kernel_rfl) (fun _ _ _ h => h) rfl (fun w hSw => ?_) hHeld ?_
  rotate_left
  · go_simp; (try with_reducible rfl)
  try simp only [Act.put, List.setIfInBounds_toArray, List.set_cons_zero, List.set_cons_succ]
  refine held_take (i := 3) (v := ?_) rfl (by kernel_rfl) (by kernel_rfl) (by kernel_rfl) (fun _ _ _ h => h) rfl (fun w hSw => ?_) hHeld ?_
  rotate_left
  · (have hEs : Ext No V _ := hSw); (have x0 := cellOf (hEs.blk HB.out no_no)); go_simp; (try with_reducible rfl)
  try simp only [Act.put, List.setIfInBounds_toArray, List.set_cons_zero, List.set_cons_succ]
  refine held_take (i := 5) (v := ?_) rfl (by kernel_rfl) (by kernel_rfl) (by kernel_rfl) (fun _ _ _ h => h) rfl (fun w hSw => ?_) hHeld ?_
  rotate_left
  · go_simp; (try with_reducible rfl)
  try simp only [Act.put, List.setIfInBounds_toArray, List.set_cons_zero, List.set_cons_succ]
  refine held_take (i := 6) (v := ?_) rfl (by kernel_rfl) (by kernel_rfl) (by kernel_rfl) (fun _ _ _ h => h) rfl (fun w hSw => ?_) hHeld ?_
  rotate_left
  · (have hEs : Ext No V _ := hSw); (have x0 := cellOf (hEs.blk HA.out no_no)); go_simp; (try with_reducible rfl)
  try simp only [Act.put, List.setIfInBounds_toArray, List.set_cons_zero, List.set_cons_succ]
  refine held_take (i := 7) (v := ?_) rfl (by kernel_rfl) (by kernel_rfl) (by kernel_rfl) (fun _ _ _ h => h) rfl (fun w hSw => ?_) hHeld ?_
  rotate_left
  · go_simp; (try with_reducible rfl)
  try simp only [Act.put, List.setIfInBounds_toArray, List.set_cons_zero, List.set_cons_succ]
  refine held_take (i := 8) (v := ?_) rfl (by kernel_rfl) (by kernel_rfl) (by kernel_rfl) (fun _ _ _ h => h) rfl (fun w hSw => ?_) hHeld ?_
  rotate_left
  · (have hEs : Ext No V _ := hSw); (have x0 := cellOf (hEs.blk HB.out no_no)); go_simp; (try with_reducible rfl)
  try simp only [Act.put, List.setIfInBounds_toArray, List.set_cons_zero, List.set_cons_succ]
  refine held_take (i := 10) (v := ?_) rfl (by kernel_rfl) (by kernel_rfl) (by kernel_rfl) (fun _ _ _ h => h) rfl (fun w hSw => ?_) hHeld ?_
  rotate_left
  · go_simp; (try with_reducible rfl)
  try simp only [Act.put, List.setIfInBounds_toArray, List.set_cons_zero, List.set_cons_succ]
  refine held_take (i := 11) (v := ?_) rfl (by kernel_rfl) (by kernel_rfl) (by kernel_rfl) (fun _ _ _ h => h) rfl (fun w hSw => ?_) hHeld ?_
  rotate_left
  · (have hEs : Ext No V _ := hSw); (have x0 := cellOf (hEs.blk HA.out no_no)); go_simp; (try with_reducible rfl)
  try simp only [Act.put, List.setIfInBounds_toArray, List.set_cons_zero, List.set_cons_succ]
  refine held_take (i := 12) (v := ?_) rfl (by kernel_rfl) (by kernel_rfl) (by kernel_rfl) (fun _ _ _ h => h) rfl (fun w hSw => ?_) hHeld ?_
  rotate_left
  · go_simp; (try with_reducible rfl)
  try simp only [Act.put, List.setIfInBounds_toArray, List.set_cons_zero, List.set_cons_succ]
  refine held_take (i := 13) (v := ?_) rfl (by kernel_rfl) (by kernel_rfl) (by kernel_rfl) (fun _ _ _ h => h) rfl (fun w hSw => ?_) hHeld ?_
  rotate_left
  · (have hEs : Ext No V _ := hSw); (have x0 := cellOf (hEs.blk HB.out no_no)); go_simp; (try with_reducible rfl)
  try simp only [Act.put, List.setIfInBounds_toArray, List.set_cons_zero, List.set_cons_succ]
  refine held_call (i := 4) rfl (by kernel_rfl) rfl (fun K hK => ?_)
  (go_simp; go_at_call 40; (refine (cmp_any x.1 y.1 _).mono ?_); (rintro e1 w1 ⟨rfl, hw1⟩); (have hyA := Ext.ofEq hw1); go_simp)
  refine hK.out _ _ ?_ (fun hNew => ?_)
  · exact Ext.transNo (show Ext No V _ from hHeld) hyA
  clear hK K hHeld
  have hHeld := hNew
  clear hNew
  try simp only [Act.put, List.setIfInBounds_toArray, List.set_cons_zero, List.set_cons_succ]
  clear hyA hw1
  refine held_call (i := 9) rfl (by kernel_rfl) rfl (fun K hK => ?_)
  (go_simp; go_at_call 40; (refine (cmp_any x.2.1 y.2.1 _).mono ?_); (rintro e2 w2 ⟨rfl, hw2⟩); (have hyA := Ext.ofEq hw2); go_simp)
  refine hK.out _ _ ?_ (fun hNew => ?_)
  · exact Ext.transNo (show Ext No V _ from hHeld) hyA
  clear hK K hHeld
  have hHeld := hNew
  clear hNew
  try simp only [Act.put, List.setIfInBounds_toArray, List.set_cons_zero, List.set_cons_succ]
  clear hyA hw2
  refine held_call (i := 14) rfl (by kernel_rfl) rfl (fun K hK => ?_)
  (go_simp; go_at_call 40; (refine (cmp_any x.2.2 y.2.2 _).mono ?_); (rintro e3 w3 ⟨rfl, hw3⟩); (have hyA := Ext.ofEq hw3); go_simp)
  refine hK.out _ _ ?_ (fun hNew => ?_)
  · exact Ext.transNo (show Ext No V _ from hHeld) hyA
  clear hK K hHeld
  have hHeld := hNew
  clear hNew
  try simp only [Act.put, List.setIfInBounds_toArray, List.set_cons_zero, List.set_cons_succ]
  clear hyA hw3
  refine held_call (i := 15) rfl (by kernel_rfl) rfl (fun K hK => ?_)
  go_simp
  refine hK.out _ _ ?_ (fun hNew => ?_)
  · exact Ext.alloc (show Ext No V _ from hHeld) _
  clear hK K hHeld
  have hHeld := hNew
  clear hNew
  try simp only [Act.put, List.setIfInBounds_toArray, List.set_cons_zero, List.set_cons_succ]
  have hG := alloc_top (w := w3) (o := .cells #[.int .i64 (cmpZ x.1 y.1), .int .i64 (cmpZ x.2.1 y.2.1), .int .i64 (cmpZ x.2.2 y.2.2)] 3) rfl
  refine held_call (i := 16) rfl (by kernel_rfl) rfl (fun K hK => ?_)
  (go_simp; go_at_call 71; (refine (or3_any _ _ _ _ _ (cellOf hG 0) (cellOf hG 1) (cellOf hG 2)).mono ?_); (rintro e4 w4 ⟨rfl, hw4⟩); (have hyA := Ext.ofEq hw4); go_simp)
  refine hK.out _ _ ?_ (fun hNew => ?_)
  · exact Ext.transNo (show Ext No V _ from hHeld) hyA
  clear hK K hHeld
  have hHeld := hNew
  clear hNew
  try simp only [Act.put, List.setIfInBounds_toArray, List.set_cons_zero, List.set_cons_succ]
  have hEnd : Ext No V w4 := hHeld
  refine held_take (i := 17) (v := ?_) rfl (by kernel_rfl) (by kernel_rfl) (by kernel_rfl) (fun _ _ _ h => h) rfl (fun w hSw => ?_) hHeld ?_
  rotate_left
  · go_simp; (try with_reducible rfl)
  try simp only [Act.put, List.setIfInBounds_toArray, List.set_cons_zero, List.set_cons_succ]
  refine wpAnyH_done (by kernel_rfl) ?_ _
  go_wp2_with fail
  go_ret
  exact ⟨rfl, HX.out.transNo hEnd⟩
end Go.Proofs.Ytfejidihocoboaa

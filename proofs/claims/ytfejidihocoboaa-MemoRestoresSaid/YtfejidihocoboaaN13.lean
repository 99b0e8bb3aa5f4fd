/- Evict$1: keys by their ticks. -/
import Derived.Test.YtfejidihocoboaaN12
set_option linter.unusedVariables false
set_option linter.unusedSimpArgs false
namespace Go.Proofs.Ytfejidihocoboaa
open Go Go.RowKit
open Go.Maps (Keyed)
set_option maxRecDepth 100000 in
set_option maxHeartbeats 4000000 in
theorem evict1_any {M : Nat → Prop} {W : World} {T bm tb : Nat} {cap clk : Int} {vk : Value} {L : List PE} (e1 e2 : PE) (h : PTab M W T cap clk bm vk L) (h1 : e1 ∈ L) (h2 : e2 ∈ L) (hb : W.heap[tb]? = some (.cells #[.pointer (some ⟨T, 0, none⟩)] 25 (0, 0))) :
    Calls Try.prog 39 #[keyV e1.1.key, keyV e2.1.key, .pointer (some ⟨tb, 0, none⟩)] W (fun e w' => e = .returned (.int .i64 (cmpZ e1.1.t e2.1.t)) ∧ Ext No W w') := by
  have hx0 : Ext No W ((W.alloc (.cells #[.int .i64 e1.1.key.1, .int .i64 e1.1.key.2.1, .int .i64 e1.1.key.2.2] 68)).alloc (.cells #[.int .i64 e2.1.key.1, .int .i64 e2.1.key.2.1, .int .i64 e2.1.key.2.2] 68)) := ((Ext.refl _ _).alloc _).alloc _
  have HX := Lib.hid hx0
  have HA := Lib.hid (show ((W.alloc (.cells #[.int .i64 e1.1.key.1, .int .i64 e1.1.key.2.1, .int .i64 e1.1.key.2.2] 68)).alloc (.cells #[.int .i64 e2.1.key.1, .int .i64 e2.1.key.2.1, .int .i64 e2.1.key.2.2] 68)).heap[W.heap.size]? = some (.cells #[.int .i64 e1.1.key.1, .int .i64 e1.1.key.2.1, .int .i64 e1.1.key.2.2] 68 (0, 0)) from alloc_under (alloc_top rfl))
  have HB := Lib.hid (show ((W.alloc (.cells #[.int .i64 e1.1.key.1, .int .i64 e1.1.key.2.1, .int .i64 e1.1.key.2.2] 68)).alloc (.cells #[.int .i64 e2.1.key.1, .int .i64 e2.1.key.2.1, .int .i64 e2.1.key.2.2] 68)).heap[W.heap.size + 1]? = some (.cells #[.int .i64 e2.1.key.1, .int .i64 e2.1.key.2.1, .int .i64 e2.1.key.2.2] 68 (0, 0)) from alloc_top (by simp))
  have HP := Lib.hid (h.stepNo hx0)
  have HT := Lib.hid (HP.out.t.box)
  have HTB := Lib.hid (hx0.blk hb no_no)
  have HM1 := Lib.hid h1
  have HM2 := Lib.hid h2
  have HI1 := Lib.hid (HP.out.t.it e1 h1)
  have HI2 := Lib.hid (HP.out.t.it e2 h2)
  unfold itemC at HI1 HI2
  clear hx0 h h1 h2 hb
  unfold keyV
  go_enter Try.func39, Try.ntmps39
  go_upto_region 1 with (fail)
  generalize ((W.alloc (.cells #[.int .i64 e1.1.key.1, .int .i64 e1.1.key.2.1, .int .i64 e1.1.key.2.2] 68)).alloc (.cells #[.int .i64 e2.1.key.1, .int .i64 e2.1.key.2.1, .int .i64 e2.1.key.2.2] 68)) = V at *
  refine wp_region_held_drew (S := (fun w' => Ext No V w')) (by kernel_rfl) ?_ (fun hHeld => ?_)
  · exact (Ext.refl _ _).drew
  refine held_take (i := 0) (v := ?_) rfl (by kernel_rfl) (by kernel_rfl) (by kernel_rfl) (fun _ _ _ h => h) rfl (fun w hSw => ?_) hHeld ?_
  rotate_left
  · (have hEs : Ext No V _ := hSw); (have x0 := cellOf (hEs.blk HTB.out no_no)); go_simp; (try with_reducible rfl)
  try simp only [Act.put, List.setIfInBounds_toArray, List.set_cons_zero, List.set_cons_succ]
  refine held_take (i := 1) (v := ?_) rfl (by kernel_rfl) (by kernel_rfl) (by kernel_rfl) (fun _ _ _ h => h) rfl (fun w hSw => ?_) hHeld ?_
  rotate_left
  · go_simp; (try with_reducible rfl)
  try simp only [Act.put, List.setIfInBounds_toArray, List.set_cons_zero, List.set_cons_succ]
  refine held_take (i := 2) (v := ?_) rfl (by kernel_rfl) (by kernel_rfl) (by kernel_rfl) (fun _ _ _ h => h) rfl (fun w hSw => ?_) hHeld ?_
  rotate_left
  · go_simp; (try with_reducible rfl)
  try simp only [Act.put, List.setIfInBounds_toArray, List.set_cons_zero, List.set_cons_succ]
  refine held_take (i := 3) (v := ?_) rfl (by kernel_rfl) (by kernel_rfl) (by kernel_rfl) (fun _ _ _ h => h) rfl (fun w hSw => ?_) hHeld ?_
  rotate_left
  · (have hEs : Ext No V _ := hSw); (have x0 := cellOf (hEs.blk HT.out no_no)); go_simp; (try with_reducible rfl)
  try simp only [Act.put, List.setIfInBounds_toArray, List.set_cons_zero, List.set_cons_succ]
  refine held_take (i := 4) (v := ?_) rfl (by kernel_rfl) (by kernel_rfl) (by kernel_rfl) (fun _ _ _ h => h) rfl (fun w hSw => ?_) hHeld ?_
  rotate_left
  · (have hEs : Ext No V _ := hSw); (have x0 := cellOf (hEs.blk HA.out no_no)); go_simp; (try with_reducible rfl)
  try simp only [Act.put, List.setIfInBounds_toArray, List.set_cons_zero, List.set_cons_succ]
  refine held_take (i := 5) (v := ?_) rfl (by kernel_rfl) (by kernel_rfl) (by kernel_rfl) (fun _ _ _ h => h) rfl (fun w hSw => ?_) hHeld ?_
  rotate_left
  · (have hEs : Ext No V _ := hSw); (have hl := (HP.out.stepNo hEs).look HM1.out); (unfold keyV ptrV at hl); go_simp; (try with_reducible rfl)
  try simp only [Act.put, List.setIfInBounds_toArray, List.set_cons_zero, List.set_cons_succ]
  refine held_take (i := 6) (v := ?_) rfl (by kernel_rfl) (by kernel_rfl) (by kernel_rfl) (fun _ _ _ h => h) rfl (fun w hSw => ?_) hHeld ?_
  rotate_left
  · go_simp; (try with_reducible rfl)
  try simp only [Act.put, List.setIfInBounds_toArray, List.set_cons_zero, List.set_cons_succ]
  refine held_take (i := 7) (v := ?_) rfl (by kernel_rfl) (by kernel_rfl) (by kernel_rfl) (fun _ _ _ h => h) rfl (fun w hSw => ?_) hHeld ?_
  rotate_left
  · go_simp; (try with_reducible rfl)
  try simp only [Act.put, List.setIfInBounds_toArray, List.set_cons_zero, List.set_cons_succ]
  refine held_take (i := 8) (v := ?_) rfl (by kernel_rfl) (by kernel_rfl) (by kernel_rfl) (fun _ _ _ h => h) rfl (fun w hSw => ?_) hHeld ?_
  rotate_left
  · (have hEs : Ext No V _ := hSw); (have x0 := cellOf (hEs.blk HI1.out no_no)); go_simp; (try with_reducible rfl)
  try simp only [Act.put, List.setIfInBounds_toArray, List.set_cons_zero, List.set_cons_succ]
  refine held_take (i := 9) (v := ?_) rfl (by kernel_rfl) (by kernel_rfl) (by kernel_rfl) (fun _ _ _ h => h) rfl (fun w hSw => ?_) hHeld ?_
  rotate_left
  · (have hEs : Ext No V _ := hSw); (have x0 := cellOf (hEs.blk HTB.out no_no)); go_simp; (try with_reducible rfl)
  try simp only [Act.put, List.setIfInBounds_toArray, List.set_cons_zero, List.set_cons_succ]
  refine held_take (i := 10) (v := ?_) rfl (by kernel_rfl) (by kernel_rfl) (by kernel_rfl) (fun _ _ _ h => h) rfl (fun w hSw => ?_) hHeld ?_
  rotate_left
  · go_simp; (try with_reducible rfl)
  try simp only [Act.put, List.setIfInBounds_toArray, List.set_cons_zero, List.set_cons_succ]
  refine held_take (i := 11) (v := ?_) rfl (by kernel_rfl) (by kernel_rfl) (by kernel_rfl) (fun _ _ _ h => h) rfl (fun w hSw => ?_) hHeld ?_
  rotate_left
  · go_simp; (try with_reducible rfl)
  try simp only [Act.put, List.setIfInBounds_toArray, List.set_cons_zero, List.set_cons_succ]
  refine held_take (i := 12) (v := ?_) rfl (by kernel_rfl) (by kernel_rfl) (by kernel_rfl) (fun _ _ _ h => h) rfl (fun w hSw => ?_) hHeld ?_
  rotate_left
  · (have hEs : Ext No V _ := hSw); (have x0 := cellOf (hEs.blk HT.out no_no)); go_simp; (try with_reducible rfl)
  try simp only [Act.put, List.setIfInBounds_toArray, List.set_cons_zero, List.set_cons_succ]
  refine held_take (i := 13) (v := ?_) rfl (by kernel_rfl) (by kernel_rfl) (by kernel_rfl) (fun _ _ _ h => h) rfl (fun w hSw => ?_) hHeld ?_
  rotate_left
  · (have hEs : Ext No V _ := hSw); (have x0 := cellOf (hEs.blk HB.out no_no)); go_simp; (try with_reducible rfl)
  try simp only [Act.put, List.setIfInBounds_toArray, List.set_cons_zero, List.set_cons_succ]
  refine held_take (i := 14) (v := ?_) rfl (by kernel_rfl) (by kernel_rfl) (by kernel_rfl) (fun _ _ _ h => h) rfl (fun w hSw => ?_) hHeld ?_
  rotate_left
  · (have hEs : Ext No V _ := hSw); (have hl := (HP.out.stepNo hEs).look HM2.out); (unfold keyV ptrV at hl); go_simp; (try with_reducible rfl)
  try simp only [Act.put, List.setIfInBounds_toArray, List.set_cons_zero, List.set_cons_succ]
  refine held_take (i := 15) (v := ?_) rfl (by kernel_rfl) (by kernel_rfl) (by kernel_rfl) (fun _ _ _ h => h) rfl (fun w hSw => ?_) hHeld ?_
  rotate_left
  · go_simp; (try with_reducible rfl)
  try simp only [Act.put, List.setIfInBounds_toArray, List.set_cons_zero, List.set_cons_succ]
  refine held_take (i := 16) (v := ?_) rfl (by kernel_rfl) (by kernel_rfl) (by kernel_rfl) (fun _ _ _ h => h) rfl (fun w hSw => ?_) hHeld ?_
  rotate_left
  · go_simp; (try with_reducible rfl)
  try simp only [Act.put, List.setIfInBounds_toArray, List.set_cons_zero, List.set_cons_succ]
  refine held_take (i := 17) (v := ?_) rfl (by kernel_rfl) (by kernel_rfl) (by kernel_rfl) (fun _ _ _ h => h) rfl (fun w hSw => ?_) hHeld ?_
  rotate_left
  · (have hEs : Ext No V _ := hSw); (have x0 := cellOf (hEs.blk HI2.out no_no)); go_simp; (try with_reducible rfl)
  try simp only [Act.put, List.setIfInBounds_toArray, List.set_cons_zero, List.set_cons_succ]
  refine held_call (i := 18) rfl (by kernel_rfl) rfl (fun K hK => ?_)
  (go_simp; go_at_call 40; (refine (cmp_any e1.1.t e2.1.t _).mono ?_); (rintro q1 w1 ⟨rfl, hw1⟩); (have hyA := Ext.ofEq hw1); go_simp)
  refine hK.out _ _ ?_ (fun hNew => ?_)
  · exact Ext.transNo (show Ext No V _ from hHeld) hyA
  clear hK K hHeld
  have hHeld := hNew
  clear hNew
  try simp only [Act.put, List.setIfInBounds_toArray, List.set_cons_zero, List.set_cons_succ]
  refine held_take (i := 19) (v := ?_) rfl (by kernel_rfl) (by kernel_rfl) (by kernel_rfl) (fun _ _ _ h => h) rfl (fun w hSw => ?_) hHeld ?_
  rotate_left
  · go_simp; (try with_reducible rfl)
  try simp only [Act.put, List.setIfInBounds_toArray, List.set_cons_zero, List.set_cons_succ]
  refine wpAnyH_done (by kernel_rfl) ?_ _
  have hEnd : Ext No V w1 := hHeld
  go_wp2_with fail
  go_ret
  exact ⟨rfl, HX.out.transNo hEnd⟩
end Go.Proofs.Ytfejidihocoboaa

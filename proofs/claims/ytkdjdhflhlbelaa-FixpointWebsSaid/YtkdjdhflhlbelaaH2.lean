/- equations.clone. -/
import Derived.Test.YtkdjdhflhlbelaaH1
import Derived.Test.YtkdjdhflhlbelaaF4
import Derived.Test.YtkdjdhflhlbelaaHeldL
set_option linter.unusedVariables false
set_option linter.unusedSimpArgs false
namespace Go.Proofs.Ytkdjdhflhlbelaa
open Go Go.RowKit
set_option maxRecDepth 100000 in
set_option maxHeartbeats 2000000 in
theorem eclone_any (w m : Nat) (sl : Value) (W : World) (h : SetAt No W sl w m) : Calls Try.prog 69 #[.agg #[.int .i64 (w : Int), sl]] W (SetPost (Lo W.heap.size) w m W) := by
  have H := Lib.hid h
  obtain ⟨a, c, rfl⟩ := h.slice
  clear h
  go_enter Try.func69, Try.ntmps69
  go_wp2_with fail
  have hx0 : Ext No W ((W.alloc (.cells #[.int .i64 (w : Int), .slice a (nw w) c] 33)).alloc (.cells #[.int .i64 0, .slice none 0 0] 33)) := ((Ext.refl _ _).alloc _).alloc _
  have HA := Lib.hid (show ((W.alloc (.cells #[.int .i64 (w : Int), .slice a (nw w) c] 33)).alloc (.cells #[.int .i64 0, .slice none 0 0] 33)).heap[W.heap.size]? = some (.cells #[.int .i64 (w : Int), .slice a (nw w) c] 33 (0, 0)) from alloc_under (alloc_top rfl))
  have HC := Lib.hid (show ((W.alloc (.cells #[.int .i64 (w : Int), .slice a (nw w) c] 33)).alloc (.cells #[.int .i64 0, .slice none 0 0] 33)).heap[W.heap.size + 1]? = some (.cells #[.int .i64 0, .slice none 0 0] 33 (0, 0)) from alloc_top (by simp))
  have hs0 := Lib.hid (H.out.extNo hx0)
  have HX := Lib.hid hx0
  clear hx0
  generalize ((W.alloc (.cells #[.int .i64 (w : Int), .slice a (nw w) c] 33)).alloc (.cells #[.int .i64 0, .slice none 0 0] 33)) = V at *
  have hVs := lt_of_block HC.out
  refine wp_region_heldL [6] (fun w' => Ext No V w') (by kernel_rfl) ?_ (fun hHeld => ?_)
  · exact (Ext.refl _ _).drew
  have HE := Lib.hid (show Ext No V V.drew from (Ext.refl _ _).drew)
  generalize V.drew = v0 at *
  refine heldL_free (i := 0) (v := ?_) rfl (by kernel_rfl) (by kernel_rfl) (by kernel_rfl) (by kernel_rfl) (by kernel_rfl) (fun _ _ _ h => h) rfl (fun w => ?_) hHeld ?_
  rotate_left
  · go_simp; (try with_reducible rfl)
  try simp only [Act.put, List.setIfInBounds_toArray, List.set_cons_zero, List.set_cons_succ]
  replace hHeld := (ST_set (T := [6]) (i := 0) (by kernel_rfl) _ _).2 hHeld
  refine heldL_take (i := 1) (v := ?_) rfl (by kernel_rfl) (by kernel_rfl) (by kernel_rfl) (by kernel_rfl) (by kernel_rfl) (fun _ _ _ h => h) rfl (fun w hSw => ?_) hHeld ?_
  rotate_left
  · (have x0 := cellOf ((show Ext No V _ from hSw).blk HA.out no_no)); go_simp; (try with_reducible rfl)
  try simp only [Act.put, List.setIfInBounds_toArray, List.set_cons_zero, List.set_cons_succ]
  replace hHeld := (ST_set (T := [6]) (i := 1) (by kernel_rfl) _ _).2 hHeld
  refine heldL_free (i := 2) (v := ?_) rfl (by kernel_rfl) (by kernel_rfl) (by kernel_rfl) (by kernel_rfl) (by kernel_rfl) (fun _ _ _ h => h) rfl (fun w => ?_) hHeld ?_
  rotate_left
  · go_simp; (try with_reducible rfl)
  try simp only [Act.put, List.setIfInBounds_toArray, List.set_cons_zero, List.set_cons_succ]
  replace hHeld := (ST_set (T := [6]) (i := 2) (by kernel_rfl) _ _).2 hHeld
  refine heldL_take (i := 3) (v := ?_) rfl (by kernel_rfl) (by kernel_rfl) (by kernel_rfl) (by kernel_rfl) (by kernel_rfl) (fun _ _ _ h => h) rfl (fun w hSw => ?_) hHeld ?_
  rotate_left
  · (have x0 := cellOf ((show Ext No V _ from hSw).blk HA.out no_no)); go_simp; (try with_reducible rfl)
  try simp only [Act.put, List.setIfInBounds_toArray, List.set_cons_zero, List.set_cons_succ]
  replace hHeld := (ST_set (T := [6]) (i := 3) (by kernel_rfl) _ _).2 hHeld
  refine heldL_next1 (i := 4) (by kernel_rfl) (NextL.mk rfl rfl (fun K hK => ?_))
  (go_simp; (go_at_call 111); (refine (clone_set w m _ _ (hs0.out.extNo HE.out)).mono ?_); (rintro e1 v1 ⟨a1, c1, rfl, hs1, hyA⟩); go_simp)
  refine hK.out _ _ ?_ (fun hNew => ?_)
  · intro _; exact HE.out.transNo hyA
  clear hK K hHeld
  have hHeld := hNew
  clear hNew
  have hsz1 := HE.out.size
  replace HE := Lib.hid (HE.out.transNo hyA)
  clear hyA
  try simp only [Act.put, List.setIfInBounds_toArray, List.set_cons_zero, List.set_cons_succ]
  refine heldL_free (i := 5) (v := ?_) rfl (by kernel_rfl) (by kernel_rfl) (by kernel_rfl) (by kernel_rfl) (by kernel_rfl) (fun _ _ _ h => h) rfl (fun w => ?_) hHeld ?_
  rotate_left
  · go_simp; (try with_reducible rfl)
  try simp only [Act.put, List.setIfInBounds_toArray, List.set_cons_zero, List.set_cons_succ]
  replace hHeld := (ST_set (T := [6]) (i := 5) (by kernel_rfl) _ _).2 hHeld
  refine heldL_next1 (i := 6) (by kernel_rfl) (NextL.mk rfl rfl (fun K hK => ?_))
  ((have hC2 := HE.out.blk HC.out no_no); (have cC := cellOf hC2); (have fC := freeOf hC2); go_simp; (clear cC fC hC2))
  refine hK.out _ _ ?_ (fun hNew => ?_)
  · exact fun h => absurd h (by decide)
  clear hK K hHeld
  have hHeld := hNew
  clear hNew
  try simp only [Act.put, List.setIfInBounds_toArray, List.set_cons_zero, List.set_cons_succ]
  refine heldL_done (by kernel_rfl) ?_ _
  have hC2 := HE.out.blk HC.out no_no
  have hbF := (set_same (j := 1) (u := .slice a1 (nw w) c1) (set_same (j := 0) (u := .int .i64 (w : Int)) hC2)).trans rfl
  have hE2 : Ext (At (W.heap.size + 1)) v1 ((v1.setCell ⟨W.heap.size + 1, 0, none⟩ (.int .i64 (w : Int))).setCell ⟨W.heap.size + 1, 1, none⟩ (.slice a1 (nw w) c1)) := ext_two (Ext.refl No v1) (W.heap.size + 1)
  go_wp2_with fail
  generalize ((v1.setCell ⟨W.heap.size + 1, 0, none⟩ (.int .i64 (w : Int))).setCell ⟨W.heap.size + 1, 1, none⟩ (.slice a1 (nw w) c1)) = WF at *
  have cF := cellOf hbF
  refine ret_ex rfl ?_
  simp [results, Try.results69, go_sem, cF]
  have hxf := (HX.out.transNo HE.out).trans2 hE2 (fun i hi e => by unfold At at e; omega)
  exact ⟨a1, c1, rfl, Lib.hid ((((hs1.out.mono (M' := fun b => Lo W.heap.size b ∨ b = W.heap.size + 1) (fun i hi e => by unfold Lo at e ⊢; omega))).ext hE2 (fun i _ e => .inr e)).mono (fun i _ e => .inl e)), hxf⟩
end Go.Proofs.Ytkdjdhflhlbelaa

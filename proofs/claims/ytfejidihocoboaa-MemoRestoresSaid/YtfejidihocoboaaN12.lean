/- remove, Drop of the memo table. -/
import Derived.Test.YtfejidihocoboaaN11
set_option linter.unusedVariables false
set_option linter.unusedSimpArgs false
namespace Go.Proofs.Ytfejidihocoboaa
open Go Go.RowKit
open Go.Maps (Keyed)
theorem no_no2 {v : Value} : ∀ i, v.ownBlock = some i → ¬ No i := fun _ _ e => e
theorem keysOf_filter (hB : Key3 → Bool) (L : List PE) : keysOf (L.filter (fun e => !hB e.1.key)) = (keysOf L).filter (fun x => !hB x) := by
  unfold keysOf
  rw [List.filter_map]
  rfl
theorem filter_fst (hB : Key3 → Bool) (L : List PE) : (L.filter (fun e => !hB e.1.key)).map Prod.fst = (L.map Prod.fst).filter (fun e => !hB e.key) := by
  rw [List.filter_map]
  rfl
theorem filter_own {T bm : Nat} {vk v' : Value} {L : List PE} (hB : Key3 → Bool) (ho : v'.ownBlock = vk.ownBlock) {b : Nat} (h : POwn T bm v' (L.filter (fun e => !hB e.1.key)) b) : POwn T bm vk L b := by
  rcases h with h | h | h | ⟨e, he, h⟩
  · exact .inl h
  · exact .inr (.inl h)
  · exact .inr (.inr (.inl (ho ▸ h)))
  · exact .inr (.inr (.inr ⟨e, (List.mem_filter.1 he).1, h⟩))
theorem tab_filter {M : Nat → Prop} {W w' : World} {T bm : Nat} {cap clk : Int} {vk v' : Value} {L : List PE} (h : PTab M W T cap clk bm vk L) (hB : Key3 → Bool) (hx : Ext (fun b => b = T ∨ b = bm ∨ vk.ownBlock = some b) W w')
    (hb : w'.heap[T]? = some (.cells #[.int .i64 cap, .int .i64 clk, .map (some bm), v'] 65 (0, 0))) (hk : LOwn kK No w' 0 v' ((keysOf L).filter (fun x => !hB x))) (hm : MapR Try.prog 68 w' bm (delR hB (keysOf L) (itemR L))) (ho : v'.ownBlock = vk.ownBlock) :
    PTab M w' T cap clk bm v' (L.filter (fun e => !hB e.1.key)) := by
  have hsub : ∀ e ∈ L.filter (fun e => !hB e.1.key), e ∈ L := fun e he => (List.mem_filter.1 he).1
  refine ⟨⟨hb, by rw [keysOf_filter]; exact hk, fun e he => ?_, fun e he => ?_, fun e he => h.t.ok e (hsub e he), ?_, ?_, fun b hb => h.t.out b (filter_own hB ho hb)⟩, hm.iff (fun x v => ?_)⟩
  · have he2 := hsub e he
    refine hx.blk (h.t.it e he2) (fun e3 => ?_)
    rcases e3 with e3 | e3 | e3
    · exact h.t.neTI he2 e3.symm
    · exact h.neIM he2 e3
    · exact h.t.neKI e3 he2 rfl
  · refine ((h.t.wd e (hsub e he)).ext hx (fun i _ e3 => .inr ?_)).mono (fun i _ e3 => e3.elim .inl (fun e3 => .inr (filter_own hB ho e3)))
    rcases e3 with e3 | e3 | e3
    · exact .inl e3
    · exact .inr (.inl e3)
    · exact .inr (.inr (.inl e3))
  · unfold addrsOf
    exact h.t.nd.sublist (List.Sublist.map _ List.filter_sublist)
  · rw [keysOf_filter]
    exact h.t.uk.sublist List.filter_sublist
  · unfold delR itemR
    constructor
    · rintro ⟨h1, e, he, rfl, rfl⟩
      refine ⟨e, List.mem_filter.2 ⟨he, ?_⟩, rfl, rfl⟩
      cases hb : hB e.1.key with
      | false => rfl
      | true => exact absurd rfl (h1 e.1.key (List.mem_map_of_mem he) hb)
    · rintro ⟨e, he, rfl, rfl⟩
      obtain ⟨he1, he2⟩ := List.mem_filter.1 he
      refine ⟨fun x hx hb e3 => ?_, e, he1, rfl, rfl⟩
      rw [keyV_inj e3, hb] at he2
      cases he2
set_option maxRecDepth 100000 in
set_option maxHeartbeats 4000000 in
theorem mremove_any {M : Nat → Prop} {W : World} {T bm : Nat} {cap clk : Int} {vk : Value} {L : List PE} (hB : Key3 → Bool) (fn0 : Fn) (ts0 : Array Value) (caps0 : Array Value) (Ok : Nat → Nat → World → Prop) (hF : ∀ tb hb, DelFn hB bm (ptrV hb) (ptrV tb) (Ok tb hb)) (hOkx : ∀ tb hb w w', Ok tb hb w → Ext (fun b => b = bm ∨ vk.ownBlock = some b) w w' → Ok tb hb w')
    (hOk0 : ∀ V, Ext No W V → V.heap[W.heap.size]? = some (.cells #[ptrV T] 25 (0, 0)) → V.heap[W.heap.size + 1]? = some (.cells #[.func fn0 ts0 caps0] 74 (0, 0)) → Ok W.heap.size (W.heap.size + 1) V) (h : PTab M W T cap clk bm vk L) (hn : L.length ≤ 1000) :
    Calls Try.prog 35 #[ptrV T, .func fn0 ts0 caps0] W (TabPost M T cap (POwn T bm vk L) (.int .i64 ((L.length : Int) - ((L.filter (fun e => !hB e.1.key)).length : Int))) clk ((L.map Prod.fst).filter (fun e => !hB e.key)) W) := by
  have hx0 : Ext No W ((W.alloc (.cells #[.pointer (some ⟨T, 0, none⟩)] 25)).alloc (.cells #[.func fn0 ts0 caps0] 74)) := ((Ext.refl _ _).alloc _).alloc _
  have hA : ((W.alloc (.cells #[.pointer (some ⟨T, 0, none⟩)] 25)).alloc (.cells #[.func fn0 ts0 caps0] 74)).heap[W.heap.size]? = some (.cells #[.pointer (some ⟨T, 0, none⟩)] 25 (0, 0)) := alloc_under (alloc_top rfl)
  have HO := Lib.hid (hOk0 ((W.alloc (.cells #[.pointer (some ⟨T, 0, none⟩)] 25)).alloc (.cells #[.func fn0 ts0 caps0] 74)) hx0 hA (alloc_top (by simp)))
  have HP := Lib.hid (h.stepNo hx0)
  have HA := Lib.hid (show ((W.alloc (.cells #[.pointer (some ⟨T, 0, none⟩)] 25)).alloc (.cells #[.func fn0 ts0 caps0] 74)).heap[W.heap.size]? = some (.cells #[.pointer (some ⟨T, 0, none⟩)] 25 (0, 0)) ∧ ¬ (fun b => b = bm ∨ vk.ownBlock = some b) W.heap.size from ⟨hA, fun e => by
    rcases e with e | e
    · have := h.map.lt; omega
    · have := (h.t.keys.lt _ e).2; omega⟩)
  have HT := Lib.hid (show ((W.alloc (.cells #[.pointer (some ⟨T, 0, none⟩)] 25)).alloc (.cells #[.func fn0 ts0 caps0] 74)).heap[T]? = some (.cells #[.int .i64 cap, .int .i64 clk, .map (some bm), vk] 65 (0, 0)) ∧ ¬ (fun b => b = bm ∨ vk.ownBlock = some b) T from ⟨hx0.blk h.t.box no_no, fun e => by
    rcases e with e | e
    · exact h.neTM e
    · exact h.t.neTK e rfl⟩)
  have HTM := Lib.hid h.neTM
  have HTK := Lib.hid (fun g hg => h.t.neTK (g := g) hg)
  have HAT := Lib.hid (show W.heap.size ≠ T from fun e => by have := lt_of_block h.t.box; omega)
  have HX := Lib.hid hx0
  have HF := Lib.hid hF
  have HOX := Lib.hid hOkx
  have hkl : (keysOf L).length = L.length := by simp [keysOf]
  have HOK := Lib.hid (show ∀ x ∈ keysOf L, KeyOk x from fun x hx => by
    obtain ⟨e, he, rfl⟩ := List.mem_map.1 hx
    exact h.t.ok e he)
  have hfl : (L.filter (fun e => !hB e.1.key)).length ≤ L.length := List.length_filter_le _ _
  obtain ⟨ak, ck, hvk⟩ := h.t.keys.slice
  rw [hkl] at hvk
  rw [← hkl] at hn
  have HVK := Lib.hid hvk
  have HKL := Lib.hid hkl
  clear hx0 hA hF hOkx hOk0 h hvk hkl
  unfold ptrV at *
  go_enter Try.func35, Try.ntmps35
  go_upto_region 1 with (fail)
  generalize ((W.alloc (.cells #[.pointer (some ⟨T, 0, none⟩)] 25)).alloc (.cells #[.func fn0 ts0 caps0] 74)) = V at *
  have cA := cellOf HA.out.1
  have cT := cellOf HT.out.1
  rw [HVK.out] at cT
  go_upto_region 2 with (fail)
  clear cA cT
  refine wp_region_heldL [9] (fun w' => Ext (fun b => b = bm ∨ vk.ownBlock = some b) V w') (by kernel_rfl) ?_ (fun hHeld => ?_)
  · exact (Ext.refl _ _).drew
  have HE := Lib.hid (show Ext No V V.drew from (Ext.refl _ _).drew)
  have HED := Lib.hid (show Ext No V V.drew from (Ext.refl _ _).drew)
  refine heldL_take (i := 0) (v := ?_) rfl (by kernel_rfl) (by kernel_rfl) (by kernel_rfl) (by kernel_rfl) (by kernel_rfl) (fun _ _ _ h => h) rfl (fun w hSw => ?_) hHeld ?_
  rotate_left
  · (have hEs : Ext (fun b => b = bm ∨ vk.ownBlock = some b) V _ := hSw); (have x0 := cellOf (hEs.blk HA.out.1 HA.out.2)); go_simp; (try with_reducible rfl)
  try simp only [Act.put, List.setIfInBounds_toArray, List.set_cons_zero, List.set_cons_succ]
  replace hHeld := (ST_set (T := [9]) (i := 0) (by kernel_rfl) _ _).2 hHeld
  refine heldL_take (i := 1) (v := ?_) rfl (by kernel_rfl) (by kernel_rfl) (by kernel_rfl) (by kernel_rfl) (by kernel_rfl) (fun _ _ _ h => h) rfl (fun w hSw => ?_) hHeld ?_
  rotate_left
  · (have hEs : Ext (fun b => b = bm ∨ vk.ownBlock = some b) V _ := hSw); (have x0 := cellOf (hEs.blk HA.out.1 HA.out.2)); go_simp; (try with_reducible rfl)
  try simp only [Act.put, List.setIfInBounds_toArray, List.set_cons_zero, List.set_cons_succ]
  replace hHeld := (ST_set (T := [9]) (i := 1) (by kernel_rfl) _ _).2 hHeld
  refine heldL_free (i := 2) (v := ?_) rfl (by kernel_rfl) (by kernel_rfl) (by kernel_rfl) (by kernel_rfl) (by kernel_rfl) (fun _ _ _ h => h) rfl (fun w => ?_) hHeld ?_
  rotate_left
  · go_simp; (try with_reducible rfl)
  try simp only [Act.put, List.setIfInBounds_toArray, List.set_cons_zero, List.set_cons_succ]
  replace hHeld := (ST_set (T := [9]) (i := 2) (by kernel_rfl) _ _).2 hHeld
  refine heldL_free (i := 3) (v := ?_) rfl (by kernel_rfl) (by kernel_rfl) (by kernel_rfl) (by kernel_rfl) (by kernel_rfl) (fun _ _ _ h => h) rfl (fun w => ?_) hHeld ?_
  rotate_left
  · go_simp; (try with_reducible rfl)
  try simp only [Act.put, List.setIfInBounds_toArray, List.set_cons_zero, List.set_cons_succ]
  replace hHeld := (ST_set (T := [9]) (i := 3) (by kernel_rfl) _ _).2 hHeld
  refine heldL_take (i := 4) (v := ?_) rfl (by kernel_rfl) (by kernel_rfl) (by kernel_rfl) (by kernel_rfl) (by kernel_rfl) (fun _ _ _ h => h) rfl (fun w hSw => ?_) hHeld ?_
  rotate_left
  · (have hEs : Ext (fun b => b = bm ∨ vk.ownBlock = some b) V _ := hSw); (have x0 := cellOf (hEs.blk HT.out.1 HT.out.2)); go_simp; (try with_reducible rfl)
  try simp only [Act.put, List.setIfInBounds_toArray, List.set_cons_zero, List.set_cons_succ]
  replace hHeld := (ST_set (T := [9]) (i := 4) (by kernel_rfl) _ _).2 hHeld
  refine heldL_free (i := 5) (v := ?_) rfl (by kernel_rfl) (by kernel_rfl) (by kernel_rfl) (by kernel_rfl) (by kernel_rfl) (fun _ _ _ h => h) rfl (fun w => ?_) hHeld ?_
  rotate_left
  · go_simp; (try with_reducible rfl)
  try simp only [Act.put, List.setIfInBounds_toArray, List.set_cons_zero, List.set_cons_succ]
  replace hHeld := (ST_set (T := [9]) (i := 5) (by kernel_rfl) _ _).2 hHeld
  refine heldL_next1 (i := 6) (by kernel_rfl) (NextL.mk rfl rfl (fun K hK => ?_))
  (go_simp; go_at_call 63; (refine (kdelete_any hB bm _ _ vk (Ok W.heap.size (W.heap.size + 1)) (HF.out _ _) (HOX.out _ _) (keysOf L) (itemR L) _ (HOX.out _ _ _ _ HO.out (show Ext (fun b => b = bm ∨ vk.ownBlock = some b) V _ from HE.out.ofNo)) (KOwn.ext HP.out.t.keys HE.out no_no2) HOK.out (HP.out.map.ext HE.out no_no) hn).mono ?_); (rintro e1 w1 ⟨v1, rfl, hS1, hR1, hx1, ho1⟩); go_simp)
  refine hK.out _ _ ?_ (fun hNew => ?_)
  · intro _; exact HE.out.ofNo.trans hx1
  clear hK K hHeld
  have hHeld := hNew
  clear hNew
  obtain ⟨a4, c4, hv4⟩ := hS1.out.slice
  rw [← keysOf_filter] at hv4
  have e4 : (keysOf (L.filter (fun e => !hB e.1.key))).length = (L.filter (fun e => !hB e.1.key)).length := by simp [keysOf]
  rw [e4] at hv4
  subst hv4
  clear e4
  have HE1 := Lib.hid (show Ext (fun b => b = bm ∨ vk.ownBlock = some b) V w1 from HE.out.ofNo.trans hx1)
  have hT1 := HE1.out.blk HT.out.1 HT.out.2
  have hT2 := (set_same (j := 3) (u := .slice a4 (L.filter (fun e => !hB e.1.key)).length c4) hT1).trans rfl
  try simp only [Act.put, List.setIfInBounds_toArray, List.set_cons_zero, List.set_cons_succ]
  refine heldL_free (i := 7) (v := ?_) rfl (by kernel_rfl) (by kernel_rfl) (by kernel_rfl) (by kernel_rfl) (by kernel_rfl) (fun _ _ _ h => h) rfl (fun w => ?_) hHeld ?_
  rotate_left
  · go_simp; (try with_reducible rfl)
  try simp only [Act.put, List.setIfInBounds_toArray, List.set_cons_zero, List.set_cons_succ]
  replace hHeld := (ST_set (T := [9]) (i := 7) (by kernel_rfl) _ _).2 hHeld
  refine heldL_free (i := 8) (v := ?_) rfl (by kernel_rfl) (by kernel_rfl) (by kernel_rfl) (by kernel_rfl) (by kernel_rfl) (fun _ _ _ h => h) rfl (fun w => ?_) hHeld ?_
  rotate_left
  · go_simp; (try with_reducible rfl)
  try simp only [Act.put, List.setIfInBounds_toArray, List.set_cons_zero, List.set_cons_succ]
  replace hHeld := (ST_set (T := [9]) (i := 8) (by kernel_rfl) _ _).2 hHeld
  refine heldL_next1 (i := 9) (by kernel_rfl) (NextL.mk rfl rfl (fun K hK => ?_))
  ((have cS := cellOf hT1); (have fS := freeOf hT1); go_simp; (clear cS fS))
  refine hK.out _ _ ?_ (fun hNew => ?_)
  · exact fun h => absurd h (by decide)
  clear hK K hHeld
  have hHeld := hNew
  clear hNew
  try simp only [Act.put, List.setIfInBounds_toArray, List.set_cons_zero, List.set_cons_succ]
  refine heldL_done (by kernel_rfl) ?_ _
  have hEF := (Ext.refl (At T) w1).setAt 3 (.slice a4 (L.filter (fun e => !hB e.1.key)).length c4)
  generalize (w1.setCell ⟨T, 3, none⟩ (.slice a4 (L.filter (fun e => !hB e.1.key)).length c4)) = w4 at *
  have hS4 := KOwn.ext hS1.out hEF (fun b hb e => HTK.out b (ho1 ▸ hb) (show b = T from e).symm)
  have hR4 := hR1.out.ext hEF (fun e => HTM.out (show bm = T from e).symm)
  have hfin := Lib.hid (tab_filter HP.out hB ((HE1.out.mono (fun i _ e => .inr e)).trans (hEF.mono (fun i _ e => .inl e))) hT2 hS4 hR4 ho1)
  have HXF := Lib.hid (show Ext (POwn T bm vk L) V w4 from (HE1.out.mono (fun i _ e => .inr (e.elim .inl (fun e => .inr (.inl e))))).trans (hEF.mono (fun i _ e => .inl e)))
  have HOF := Lib.hid (fun b (hb : POwn T bm (.slice a4 (L.filter (fun e => !hB e.1.key)).length c4) (L.filter (fun e => !hB e.1.key)) b) => filter_own (vk := vk) hB ho1 hb)
  have hA4 := hEF.blk (HE1.out.blk HA.out.1 HA.out.2) (fun e => HAT.out e)
  have cT := cellOf hT2
  have cA := cellOf hA4
  clear hS4 hR4 hT1 hT2 hEF hA4
  go_wp2_with fail
  go_ret
  refine ⟨bm, _, _, ?_, hfin, Lib.hid (filter_fst hB L), HX.out.ofNo.trans HXF.out, Lib.hid (fun b hb => .inl (HOF.out b hb))⟩
  have hkl := HKL.out
  exact ret_int (IntWalk.wrap64_in _ (by omega))
set_option maxRecDepth 100000 in
theorem mdrop_any {M : Nat → Prop} {W : World} {T bm : Nat} {cap clk : Int} {vk : Value} {L : List PE} (p : Int) (h : PTab M W T cap clk bm vk L) (hn : L.length ≤ 1000) :
    Calls Try.prog 13 #[ptrV T, .int .i64 p] W (TabPost M T cap (POwn T bm vk L) (.int .i64 ((L.length : Int) - ((L.filter (fun e => !decide (e.1.key.1 = p))).length : Int))) clk ((L.map Prod.fst).filter (fun e => !decide (e.key.1 = p))) W) := by
  have hx0 : Ext No W (W.alloc (.cells #[.int .i64 p] 3)) := (Ext.refl _ _).alloc _
  have H := Lib.hid (h.stepNo hx0)
  have HX := Lib.hid hx0
  have HB := Lib.hid (alloc_top (w := W) (o := .cells #[.int .i64 p] 3) rfl)
  have hown := fun b (hb : POwn T bm vk L b) => h.ownLt hb
  have HOW := Lib.hid hown
  clear h hx0 hown
  unfold ptrV at *
  go_enter Try.func13, Try.ntmps13
  go_upto_region 1 with (fail)
  generalize (W.alloc (.cells #[.int .i64 p] 3)) = V at *
  go_wp2_with fail
  refine (mremove_any (fun x : Key3 => decide (x.1 = p)) (.func 36) #[] #[.pointer (some ⟨W.heap.size, 0, none⟩)] (fun tb hb w => OkDrop W.heap.size p T tb hb bm w ∧ ¬ (fun b => b = bm ∨ vk.ownBlock = some b) tb ∧ ¬ (fun b => b = bm ∨ vk.ownBlock = some b) hb ∧ ¬ (fun b => b = bm ∨ vk.ownBlock = some b) T ∧ ¬ (fun b => b = bm ∨ vk.ownBlock = some b) W.heap.size)
    (fun tb hb x w R hx hO hR => rem1d_any W.heap.size p T tb hb bm x hx w R hO.1 hR) (fun tb hb w w' hO hx => ⟨hO.1.ext hx hO.2.1 hO.2.2.1 hO.2.2.2.1 hO.2.2.2.2, hO.2⟩) (fun V' hx hA hB => ?_) H.out hn).mono ?_
  · have hlt := lt_of_block HB.out
    have hkm : ∀ b, V.heap.size ≤ b → ¬ (fun b => b = bm ∨ vk.ownBlock = some b) b := fun b hb e => by
      rcases e with e | e
      · have := H.out.map.lt; omega
      · have := (H.out.t.keys.lt _ e).2; omega
    refine ⟨⟨hA, hB, ⟨_, _, _, hx.blk H.out.t.box no_no⟩, hx.blk HB.out no_no⟩, hkm _ (Nat.le_refl _), hkm _ (Nat.le_succ _), fun e => ?_, fun e => ?_⟩
    · rcases e with e | e
      · exact H.out.neTM e
      · exact H.out.t.neTK e rfl
    · rcases e with e | e
      · have := HOW.out _ (.inr (.inl rfl)); omega
      · have := HOW.out _ (.inr (.inr (.inl e))); omega
  · rintro e1 w1 ⟨bm1, vk1, L1, rfl, hP, hL, hx1, ho⟩
    go_wp2_with fail
    go_ret
    exact ⟨bm1, vk1, L1, rfl, hP, hL, HX.out.ofNo.trans hx1, Lib.hid (fun b hb => (ho.out b hb).imp id (fun h => Nat.le_trans HX.out.size h))⟩
end Go.Proofs.Ytfejidihocoboaa

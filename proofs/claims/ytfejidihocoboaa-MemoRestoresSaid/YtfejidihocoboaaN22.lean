/- Entries of the memo table. -/
import Derived.Test.YtfejidihocoboaaN21
set_option linter.unusedVariables false
set_option linter.unusedSimpArgs false
namespace Go.Proofs.Ytfejidihocoboaa
open Go Go.RowKit
open Go.Maps (Keyed)
def kE : EK (Ent × Value) where
  s := 6
  T := 42
  cells := fun p => [.int .i64 p.1.key.1, .int .i64 p.1.key.2.1, .int .i64 p.1.key.2.2, .int .i64 p.1.s.width, p.2, .int .i64 p.1.t]
  ok := fun M w p => WordsAt M w p.2 p.1.s.words
  len := fun _ => rfl
  ext := fun h hx hm => h.ext hx hm
  mono := fun h hm => h.mono hm
theorem infoEnt : (Try.prog.info? 42).map (fun i => (i.zero, i.size, i.bytes)) = some (some (.agg #[.int .i64 0, .int .i64 0, .int .i64 0, .int .i64 0, .slice none 0 0, .int .i64 0]), 6, 64) := by kernel_rfl
def EntPost (es : List Ent) (W : World) (e : Ending) (w' : World) : Prop := ∃ (v : Value) (LL : List (Ent × Value)), e = .returned v ∧ Hid (LOwn kE (Lo W.heap.size) w' W.heap.size v LL) ∧ Hid (LL.map Prod.fst = es) ∧ Ext No W w'
theorem ents_one (LL : List (Ent × Value)) (hs : ∀ p ∈ LL, ∃ a n c, p.2 = .slice a n c) : ∀ u ∈ LL.flatMap kE.cells, u.oneCell' = true := fun u hu => by
  obtain ⟨p, hp, hu⟩ := List.mem_flatMap.1 hu
  obtain ⟨a, n, c, hsl⟩ := hs p hp
  simp only [kE, List.mem_cons, List.not_mem_nil, or_false] at hu
  rcases hu with rfl | rfl | rfl | rfl | rfl | rfl
  · rfl
  · rfl
  · rfl
  · rfl
  · rw [hsl]; rfl
  · rfl
set_option maxRecDepth 100000 in
set_option maxHeartbeats 8000000 in
theorem mentries_any {M : Nat → Prop} {W : World} {T bm : Nat} {cap clk : Int} {vk : Value} {L : List PE} (h : PTab M W T cap clk bm vk L) (hn : L.length ≤ 1000) (hv : ∀ e ∈ L, validB e.1.s = true) :
    Calls Try.prog 11 #[ptrV T] W (EntPost (L.map Prod.fst) W) := by
  obtain ⟨iE, hiE, hE0, hE1, hE2⟩ := info_parts infoEnt
  have HP := Lib.hid h
  have HVV := Lib.hid hv
  obtain ⟨ak, ck, hak⟩ := h.t.keys.slice
  have hkl : (keysOf L).length = L.length := by simp [keysOf]
  obtain ⟨N, hN⟩ : ∃ N, N = L.length := ⟨_, rfl⟩
  rw [hkl, ← hN] at hak
  rw [← hN] at hn
  have HN := Lib.hid hN
  have HLK := Lib.hid (show LAt kK No W (.slice ak N ck) (keysOf L) from by rw [← hak]; exact KOwn.list h.t.keys no_no2)
  have HKN := Lib.hid (hkl.trans hN.symm)
  have cT := cellOf h.t.box
  rw [hak] at cT
  clear h hv hkl hN hak
  unfold ptrV
  go_enter Try.func11, Try.ntmps11
  go_wp2_with fail
  clear cT
  go_loopw [3, 12] (fun s3 s12 wr => ∃ (k : Nat) (LL : List (Ent × Value)), s12 = .int .i64 k ∧ k ≤ N ∧ Hid (LL.map Prod.fst = (L.take k).map Prod.fst) ∧ Hid (LOwn kE (Lo W.heap.size) wr W.heap.size s3 LL) ∧ Hid (Ext No W wr)) (fun _ s12 _ => N - (intOf s12).toNat)
  case atStart => exact ⟨0, [], rfl, Nat.zero_le _, Lib.hid rfl, Lib.hid (LOwn.nil _ _ _ _), Lib.hid (Ext.refl _ _)⟩
  case round =>
    obtain ⟨k, LL, rfl, hk, hLL, hO, hX⟩ := hrel
    rename World => wr
    have HLK2 := Lib.hid (show LL.length = k from by have h1 := congrArg List.length hLL.out; simp only [List.length_map, List.length_take] at h1; have := HN.out; omega)
    by_cases hlt : k < N
    · have hlz : (k : Int) < (N : Int) := by omega
      have hlz0 : (0 : Int) ≤ (k : Int) := by omega
      have HKK : Hid (Value.int .i64 ((k : Int) + 1) = .int .i64 ((k + 1 : Nat) : Int)) := Lib.hid (by rw [show ((k + 1 : Nat) : Int) = (k : Int) + 1 from by omega])
      have hk0 : k < L.length := by have := HN.out; omega
      have HKL0 := Lib.hid hk0
      have hkk : k < (keysOf L).length := by have := HKN.out; omega
      have HKK0 := Lib.hid hkk
      obtain ⟨b, off, cap', hsl, -, -, hc⟩ := HLK.out.atK hkk
      rw [HKN.out] at hsl
      simp only [Value.slice.injEq] at hsl
      obtain ⟨rfl, -, rfl⟩ := hsl
      obtain ⟨d0, d1, d2⟩ := hc k hkk
      replace d0 := hX.out.keep d0
      replace d1 := hX.out.keep d1
      replace d2 := hX.out.keep d2
      obtain ⟨e0, he0⟩ : ∃ e0, e0 = L[k]'HKL0.out := ⟨_, rfl⟩
      have hke : (keysOf L)[k]'HKK0.out = e0.1.key := by rw [he0]; simp [keysOf]
      rw [hke] at d0 d1 d2
      have HEQ := Lib.hid (show [L[k]'HKL0.out] = [e0] from by rw [he0])
      have HE0 := Lib.hid (show e0 ∈ L from by rw [he0]; exact List.getElem_mem _)
      have hl4 := valid_len (HVV.out e0 HE0.out)
      clear hc hkk hk0 hke he0
      go_upto_region 5 with (fail)
      clear d0 d1 d2
      have hxk : Ext No wr (wr.alloc (.cells #[.int .i64 e0.1.key.1, .int .i64 e0.1.key.2.1, .int .i64 e0.1.key.2.2] 68)) := (Ext.refl _ _).alloc _
      have HRK := Lib.hid hxk
      have HXK := Lib.hid (hX.out.transNo hxk)
      have HKB := Lib.hid (alloc_top (w := wr) (o := .cells #[.int .i64 e0.1.key.1, .int .i64 e0.1.key.2.1, .int .i64 e0.1.key.2.2] 68) rfl)
      clear hxk
      generalize (wr.alloc (.cells #[.int .i64 e0.1.key.1, .int .i64 e0.1.key.2.1, .int .i64 e0.1.key.2.2] 68)) = wk at *
      generalize wr.heap.size = kb at *
      refine wp_region_held_drew (S := (fun w' => Ext No wk w')) (by kernel_rfl) ?_ (fun hHeld => ?_)
      · exact (Ext.refl _ _).drew
      refine held_take (i := 0) (v := ?_) rfl (by kernel_rfl) (by kernel_rfl) (by kernel_rfl) (fun _ _ _ h => h) rfl (fun w hSw => ?_) hHeld ?_
      rotate_left
      · go_simp; (try with_reducible rfl)
      try simp only [Act.put, List.setIfInBounds_toArray, List.set_cons_zero, List.set_cons_succ]
      refine held_take (i := 1) (v := ?_) rfl (by kernel_rfl) (by kernel_rfl) (by kernel_rfl) (fun _ _ _ h => h) rfl (fun w hSw => ?_) hHeld ?_
      rotate_left
      · go_simp; (try with_reducible rfl)
      try simp only [Act.put, List.setIfInBounds_toArray, List.set_cons_zero, List.set_cons_succ]
      refine held_take (i := 2) (v := ?_) rfl (by kernel_rfl) (by kernel_rfl) (by kernel_rfl) (fun _ _ _ h => h) rfl (fun w hSw => ?_) hHeld ?_
      rotate_left
      · go_simp; (try with_reducible rfl)
      try simp only [Act.put, List.setIfInBounds_toArray, List.set_cons_zero, List.set_cons_succ]
      refine held_take (i := 3) (v := ?_) rfl (by kernel_rfl) (by kernel_rfl) (by kernel_rfl) (fun _ _ _ h => h) rfl (fun w hSw => ?_) hHeld ?_
      rotate_left
      · (have hEs : Ext No wk _ := hSw); (have x0 := cellOf (hEs.blk (HXK.out.blk HP.out.t.box no_no) no_no)); go_simp; (try with_reducible rfl)
      try simp only [Act.put, List.setIfInBounds_toArray, List.set_cons_zero, List.set_cons_succ]
      refine held_take (i := 4) (v := ?_) rfl (by kernel_rfl) (by kernel_rfl) (by kernel_rfl) (fun _ _ _ h => h) rfl (fun w hSw => ?_) hHeld ?_
      rotate_left
      · (have hEs : Ext No wk _ := hSw); (have x0 := cellOf (hEs.blk HKB.out no_no)); go_simp; (try with_reducible rfl)
      try simp only [Act.put, List.setIfInBounds_toArray, List.set_cons_zero, List.set_cons_succ]
      refine held_take (i := 5) (v := ?_) rfl (by kernel_rfl) (by kernel_rfl) (by kernel_rfl) (fun _ _ _ h => h) rfl (fun w hSw => ?_) hHeld ?_
      rotate_left
      · (have hEs : Ext No wk _ := hSw); (have hl := ((HP.out.stepNo HXK.out).stepNo hEs).look HE0.out); (unfold keyV ptrV at hl); go_simp; (try with_reducible rfl)
      try simp only [Act.put, List.setIfInBounds_toArray, List.set_cons_zero, List.set_cons_succ]
      refine held_take (i := 6) (v := ?_) rfl (by kernel_rfl) (by kernel_rfl) (by kernel_rfl) (fun _ _ _ h => h) rfl (fun w hSw => ?_) hHeld ?_
      rotate_left
      · go_simp; (try with_reducible rfl)
      try simp only [Act.put, List.setIfInBounds_toArray, List.set_cons_zero, List.set_cons_succ]
      refine wpAnyH_done (by kernel_rfl) ?_ _
      have hE5 : Ext No wk wk.drew := hHeld
      clear hHeld
      go_upto_region 6 with (fail)
      generalize hwl : wk.drew = wl at *
      clear hwl
      have HXL := Lib.hid (HXK.out.transNo hE5)
      have HKL := Lib.hid (hE5.blk HKB.out no_no)
      have hPL := HP.out.stepNo HXL.out
      have HIL := Lib.hid (hPL.t.it e0 HE0.out)
      have HWL := Lib.hid (hPL.t.wd e0 HE0.out)
      unfold itemC at HIL
      obtain ⟨wa, wc, hwsl⟩ := HWL.out.slice
      rw [hwsl] at HIL HWL
      clear hwsl hPL
      have HRL := Lib.hid (show wr.heap.size ≤ wl.heap.size from Nat.le_trans HRK.out.size hE5.size)
      have HRX := Lib.hid (show Ext No wr wl from HRK.out.transNo hE5)
      clear hE5
      refine wp_region_heldL [18] (fun w' => Ext No wl w') (by kernel_rfl) ?_ (fun hHeld => ?_)
      · exact (Ext.refl _ _).drew
      have HEV := Lib.hid (show Ext No wl wl.drew from (Ext.refl _ _).drew)
      generalize wl.drew = v0 at *
      refine heldL_free (i := 0) (v := ?_) rfl (by kernel_rfl) (by kernel_rfl) (by kernel_rfl) (by kernel_rfl) (by kernel_rfl) (fun _ _ _ h => h) rfl (fun w => ?_) hHeld ?_
      rotate_left
      · go_simp; (try with_reducible rfl)
      try simp only [Act.put, List.setIfInBounds_toArray, List.set_cons_zero, List.set_cons_succ]
      replace hHeld := (ST_set (T := [18]) (i := 0) (by kernel_rfl) _ _).2 hHeld
      refine heldL_free (i := 1) (v := ?_) rfl (by kernel_rfl) (by kernel_rfl) (by kernel_rfl) (by kernel_rfl) (by kernel_rfl) (fun _ _ _ h => h) rfl (fun w => ?_) hHeld ?_
      rotate_left
      · go_simp; (try with_reducible rfl)
      try simp only [Act.put, List.setIfInBounds_toArray, List.set_cons_zero, List.set_cons_succ]
      replace hHeld := (ST_set (T := [18]) (i := 1) (by kernel_rfl) _ _).2 hHeld
      refine heldL_take (i := 2) (v := ?_) rfl (by kernel_rfl) (by kernel_rfl) (by kernel_rfl) (by kernel_rfl) (by kernel_rfl) (fun _ _ _ h => h) rfl (fun w hSw => ?_) hHeld ?_
      rotate_left
      · (have hEs : Ext No wl _ := hSw); (have x0 := cellOf (hEs.blk HKL.out no_no)); go_simp; (try with_reducible rfl)
      try simp only [Act.put, List.setIfInBounds_toArray, List.set_cons_zero, List.set_cons_succ]
      replace hHeld := (ST_set (T := [18]) (i := 2) (by kernel_rfl) _ _).2 hHeld
      refine heldL_free (i := 3) (v := ?_) rfl (by kernel_rfl) (by kernel_rfl) (by kernel_rfl) (by kernel_rfl) (by kernel_rfl) (fun _ _ _ h => h) rfl (fun w => ?_) hHeld ?_
      rotate_left
      · go_simp; (try with_reducible rfl)
      try simp only [Act.put, List.setIfInBounds_toArray, List.set_cons_zero, List.set_cons_succ]
      replace hHeld := (ST_set (T := [18]) (i := 3) (by kernel_rfl) _ _).2 hHeld
      refine heldL_take (i := 4) (v := ?_) rfl (by kernel_rfl) (by kernel_rfl) (by kernel_rfl) (by kernel_rfl) (by kernel_rfl) (fun _ _ _ h => h) rfl (fun w hSw => ?_) hHeld ?_
      rotate_left
      · (have hEs : Ext No wl _ := hSw); (have x0 := cellOf (hEs.blk HKL.out no_no)); go_simp; (try with_reducible rfl)
      try simp only [Act.put, List.setIfInBounds_toArray, List.set_cons_zero, List.set_cons_succ]
      replace hHeld := (ST_set (T := [18]) (i := 4) (by kernel_rfl) _ _).2 hHeld
      refine heldL_free (i := 5) (v := ?_) rfl (by kernel_rfl) (by kernel_rfl) (by kernel_rfl) (by kernel_rfl) (by kernel_rfl) (fun _ _ _ h => h) rfl (fun w => ?_) hHeld ?_
      rotate_left
      · go_simp; (try with_reducible rfl)
      try simp only [Act.put, List.setIfInBounds_toArray, List.set_cons_zero, List.set_cons_succ]
      replace hHeld := (ST_set (T := [18]) (i := 5) (by kernel_rfl) _ _).2 hHeld
      refine heldL_take (i := 6) (v := ?_) rfl (by kernel_rfl) (by kernel_rfl) (by kernel_rfl) (by kernel_rfl) (by kernel_rfl) (fun _ _ _ h => h) rfl (fun w hSw => ?_) hHeld ?_
      rotate_left
      · (have hEs : Ext No wl _ := hSw); (have x0 := cellOf (hEs.blk HKL.out no_no)); go_simp; (try with_reducible rfl)
      try simp only [Act.put, List.setIfInBounds_toArray, List.set_cons_zero, List.set_cons_succ]
      replace hHeld := (ST_set (T := [18]) (i := 6) (by kernel_rfl) _ _).2 hHeld
      refine heldL_free (i := 7) (v := ?_) rfl (by kernel_rfl) (by kernel_rfl) (by kernel_rfl) (by kernel_rfl) (by kernel_rfl) (fun _ _ _ h => h) rfl (fun w => ?_) hHeld ?_
      rotate_left
      · go_simp; (try with_reducible rfl)
      try simp only [Act.put, List.setIfInBounds_toArray, List.set_cons_zero, List.set_cons_succ]
      replace hHeld := (ST_set (T := [18]) (i := 7) (by kernel_rfl) _ _).2 hHeld
      refine heldL_free (i := 8) (v := ?_) rfl (by kernel_rfl) (by kernel_rfl) (by kernel_rfl) (by kernel_rfl) (by kernel_rfl) (fun _ _ _ h => h) rfl (fun w => ?_) hHeld ?_
      rotate_left
      · go_simp; (try with_reducible rfl)
      try simp only [Act.put, List.setIfInBounds_toArray, List.set_cons_zero, List.set_cons_succ]
      replace hHeld := (ST_set (T := [18]) (i := 8) (by kernel_rfl) _ _).2 hHeld
      refine heldL_free (i := 9) (v := ?_) rfl (by kernel_rfl) (by kernel_rfl) (by kernel_rfl) (by kernel_rfl) (by kernel_rfl) (fun _ _ _ h => h) rfl (fun w => ?_) hHeld ?_
      rotate_left
      · go_simp; (try with_reducible rfl)
      try simp only [Act.put, List.setIfInBounds_toArray, List.set_cons_zero, List.set_cons_succ]
      replace hHeld := (ST_set (T := [18]) (i := 9) (by kernel_rfl) _ _).2 hHeld
      refine heldL_take (i := 10) (v := ?_) rfl (by kernel_rfl) (by kernel_rfl) (by kernel_rfl) (by kernel_rfl) (by kernel_rfl) (fun _ _ _ h => h) rfl (fun w hSw => ?_) hHeld ?_
      rotate_left
      · (have hEs : Ext No wl _ := hSw); (have x0 := cellOf (hEs.blk HIL.out no_no)); go_simp; (try with_reducible rfl)
      try simp only [Act.put, List.setIfInBounds_toArray, List.set_cons_zero, List.set_cons_succ]
      replace hHeld := (ST_set (T := [18]) (i := 10) (by kernel_rfl) _ _).2 hHeld
      refine heldL_free (i := 12) (v := ?_) rfl (by kernel_rfl) (by kernel_rfl) (by kernel_rfl) (by kernel_rfl) (by kernel_rfl) (fun _ _ _ h => h) rfl (fun w => ?_) hHeld ?_
      rotate_left
      · go_simp; (try with_reducible rfl)
      try simp only [Act.put, List.setIfInBounds_toArray, List.set_cons_zero, List.set_cons_succ]
      replace hHeld := (ST_set (T := [18]) (i := 12) (by kernel_rfl) _ _).2 hHeld
      refine heldL_free (i := 13) (v := ?_) rfl (by kernel_rfl) (by kernel_rfl) (by kernel_rfl) (by kernel_rfl) (by kernel_rfl) (fun _ _ _ h => h) rfl (fun w => ?_) hHeld ?_
      rotate_left
      · go_simp; (try with_reducible rfl)
      try simp only [Act.put, List.setIfInBounds_toArray, List.set_cons_zero, List.set_cons_succ]
      replace hHeld := (ST_set (T := [18]) (i := 13) (by kernel_rfl) _ _).2 hHeld
      refine heldL_free (i := 14) (v := ?_) rfl (by kernel_rfl) (by kernel_rfl) (by kernel_rfl) (by kernel_rfl) (by kernel_rfl) (fun _ _ _ h => h) rfl (fun w => ?_) hHeld ?_
      rotate_left
      · go_simp; (try with_reducible rfl)
      try simp only [Act.put, List.setIfInBounds_toArray, List.set_cons_zero, List.set_cons_succ]
      replace hHeld := (ST_set (T := [18]) (i := 14) (by kernel_rfl) _ _).2 hHeld
      refine heldL_take (i := 15) (v := ?_) rfl (by kernel_rfl) (by kernel_rfl) (by kernel_rfl) (by kernel_rfl) (by kernel_rfl) (fun _ _ _ h => h) rfl (fun w hSw => ?_) hHeld ?_
      rotate_left
      · (have hEs : Ext No wl _ := hSw); (have x0 := cellOf (hEs.blk HIL.out no_no)); go_simp; (try with_reducible rfl)
      try simp only [Act.put, List.setIfInBounds_toArray, List.set_cons_zero, List.set_cons_succ]
      replace hHeld := (ST_set (T := [18]) (i := 15) (by kernel_rfl) _ _).2 hHeld
      refine heldL_next1 (i := 11) (by kernel_rfl) (NextL.mk rfl rfl (fun K hK => ?_))
      (go_simp; go_at_call 33; (refine (mclone_any e0.1.s _ _ ((HWL.out.extNo HEV.out).mono (fun _ _ x => x.elim)) (by omega)).mono ?_); (rintro q1 w1 ⟨ca, cc, rfl, hw1, hyA⟩); go_simp)
      refine hK.out _ _ ?_ (fun hNew => ?_)
      · intro _; exact HEV.out.transNo hyA
      clear hK K hHeld
      have hHeld := hNew
      clear hNew
      have HE1 := Lib.hid (HEV.out.transNo hyA)
      have HW1 := Lib.hid hw1.out
      clear hyA hw1
      try simp only [Act.put, List.setIfInBounds_toArray, List.set_cons_zero, List.set_cons_succ]
      refine heldL_free (i := 16) (v := ?_) rfl (by kernel_rfl) (by kernel_rfl) (by kernel_rfl) (by kernel_rfl) (by kernel_rfl) (fun _ _ _ h => h) rfl (fun w => ?_) hHeld ?_
      rotate_left
      · go_simp; (try with_reducible rfl)
      try simp only [Act.put, List.setIfInBounds_toArray, List.set_cons_zero, List.set_cons_succ]
      replace hHeld := (ST_set (T := [18]) (i := 16) (by kernel_rfl) _ _).2 hHeld
      refine heldL_next1 (i := 17) (by kernel_rfl) (NextL.mk rfl rfl (fun K hK => ?_))
      go_simp
      refine hK.out _ _ ?_ (fun hNew => ?_)
      · intro _; exact (HE1.out.transNo ((Ext.refl No w1).alloc _))
      clear hK K hHeld
      have hHeld := hNew
      clear hNew
      have HSB := Lib.hid (alloc_top (w := w1) (o := .cells #[.int .i64 e0.1.key.1, .int .i64 e0.1.key.2.1, .int .i64 e0.1.key.2.2, .int .i64 e0.1.s.width, .slice ca e0.1.s.words.length cc, .int .i64 e0.1.t] 42) rfl)
      have hya := (Ext.refl No w1).alloc (.cells #[.int .i64 e0.1.key.1, .int .i64 e0.1.key.2.1, .int .i64 e0.1.key.2.2, .int .i64 e0.1.s.width, .slice ca e0.1.s.words.length cc, .int .i64 e0.1.t] 42)
      have HE2 := Lib.hid (HE1.out.transNo hya)
      have HW2 := Lib.hid (HW1.out.extNo hya)
      have HLO2 := Lib.hid ((hO.out.extNo HRX.out).extNo HE2.out)
      have HO2 := Lib.hid (show World.ownsRow _ W.heap.size 42 6 u3 k (LL.flatMap kE.cells) from by have h9 := HLO2.out.own; rw [HLK2.out] at h9; exact h9)
      have HWS2 := Lib.hid (Nat.le_trans HXL.out.size HE2.out.size)
      clear hya
      generalize (w1.alloc (.cells #[.int .i64 e0.1.key.1, .int .i64 e0.1.key.2.1, .int .i64 e0.1.key.2.2, .int .i64 e0.1.s.width, .slice ca e0.1.s.words.length cc, .int .i64 e0.1.t] 42)) = w2 at *
      generalize w1.heap.size = sb at *
      try simp only [Act.put, List.setIfInBounds_toArray, List.set_cons_zero, List.set_cons_succ]
      refine heldL_next1 (i := 18) (by kernel_rfl) (NextL.mk rfl rfl (fun K hK => ?_))
      (refine wp_app _ (.tmp 22) (.tmp 39) 30 rfl W.heap.size 42 iE _ 6 64 Try.underlying30 hiE hE0 hE1 hE2 rfl (by omega) u3 k (LL.flatMap kE.cells) rfl HO2.out No (some ⟨sb, 0, none⟩) 1 1 (kE.cells (e0.1, .slice ca e0.1.s.words.length cc)) rfl (Row.block (cs := #[.int .i64 e0.1.key.1, .int .i64 e0.1.key.2.1, .int .i64 e0.1.key.2.2, .int .i64 e0.1.s.width, .slice ca e0.1.s.words.length cc, .int .i64 e0.1.t]) HSB.out rfl no_no (by omega)) (fun u hu => ents_one [(e0.1, .slice ca e0.1.s.words.length cc)] (fun p hp => by rw [List.mem_singleton.1 hp]; exact ⟨_, _, _, rfl⟩) u (by simpa using hu)) (by omega) (by omega) HWS2.out ?_); (intro v' w9 hown1 hg1 hv1)
      refine hK.out _ _ ?_ (fun hNew => ?_)
      · exact fun h => absurd h (by decide)
      clear hK K hHeld
      have hHeld := hNew
      clear hNew
      have hE9 : Ext (fun bq => u3.ownBlock = some bq) w2 w9 := (Ext.refl _ _).grown hg1 (fun bq hk _ => hk)
      have HO9 := Lib.hid (LOwn.app (p := (e0.1, .slice ca e0.1.s.words.length cc)) HLO2.out (show WordsAt (fun b => Lo W.heap.size b ∨ u3.ownBlock = some b) w2 _ _ from HW2.out.mono (fun i hi e => by
        have h1 := HXL.out.size
        have h4 := HEV.out.size
        rcases e with e | e
        · unfold Lo at e ⊢; omega
        · have h2 := (hO.out.lt i e).2
          have h3 := HRL.out
          unfold Lo; omega)) (by rw [HLK2.out]; exact hown1) hE9 (fun i e => e) (hv1.imp id (fun e k hk => by rw [e] at hk; exact Nat.le_of_eq (Option.some.inj hk))))
      have HX9 := Lib.hid (show Ext No W w9 from (HXL.out.transNo HE2.out).trans2 hE9 (fun i hi e => by have h2 := (hO.out.lt i e).1; omega))
      obtain ⟨a9, c9, hv9⟩ := HO9.out.slice
      rw [List.length_append, List.length_singleton, HLK2.out] at hv9
      subst hv9
      try simp only [Act.put, List.setIfInBounds_toArray, List.set_cons_zero, List.set_cons_succ]
      refine heldL_free (i := 19) (v := ?_) rfl (by kernel_rfl) (by kernel_rfl) (by kernel_rfl) (by kernel_rfl) (by kernel_rfl) (fun _ _ _ h => h) rfl (fun w => ?_) hHeld ?_
      rotate_left
      · go_simp; (try with_reducible rfl)
      try simp only [Act.put, List.setIfInBounds_toArray, List.set_cons_zero, List.set_cons_succ]
      replace hHeld := (ST_set (T := [18]) (i := 19) (by kernel_rfl) _ _).2 hHeld
      refine heldL_done (by kernel_rfl) ?_ _
      go_wp2_with fail
      go_roundw
      case rel => exact ⟨k + 1, LL ++ [(e0.1, .slice ca e0.1.s.words.length cc)], HKK.out, by omega, Lib.hid (by rw [List.map_append, hLL.out, List.take_succ_eq_append_getElem HKL0.out, List.map_append, HEQ.out]; rfl), HO9, HX9⟩
      case measure => simp [intOf]; omega
    · have hge : ¬ (k : Int) < (N : Int) := by omega
      go_wp2_with fail
      go_ret
      refine ⟨_, LL, rfl, hO, Lib.hid ?_, hX.out⟩
      rw [hLL.out, List.take_of_length_le (by have := HN.out; omega)]
end Go.Proofs.Ytfejidihocoboaa

/- Put of the memo table. -/
import Derived.Test.YtfejidihocoboaaN20
set_option linter.unusedVariables false
set_option linter.unusedSimpArgs false
namespace Go.Proofs.Ytfejidihocoboaa
open Go Go.RowKit
open Go.Maps (Keyed)
theorem fullE_sub (cap : Int) (es : List Ent) : (fullE cap es).Sublist es := by
  unfold fullE
  split
  · exact List.filter_sublist
  · exact List.Sublist.refl _
theorem box_apart {M : Nat → Prop} {w : World} {T bm b : Nat} {cap clk : Int} {vk : Value} {L : List PE} {cs : Array Value} {Ty : TypeId} (h : PTab M w T cap clk bm vk L) (hb : w.heap[b]? = some (.cells cs Ty (0, 0))) (h1 : Ty ≠ 65) (h2 : Ty ≠ 68) : ¬ (b = T ∨ b = bm ∨ vk.ownBlock = some b) := by
  rintro (e | e | e)
  · exact ne_type hb h.t.box h1 e
  · exact ne_map hb h.map e
  · obtain ⟨cur, hc⟩ := h.t.keyBlk e
    exact ne_type hb hc h2 rfl
theorem ins_es {x : Key3} {s : RawSet} {t : Int} {a : Nat} {L : List PE} (hn : x ∉ keysOf L) : putL x s t ((L.take (posK (keysOf L) x) ++ newP x a :: L.drop (posK (keysOf L) x)).map Prod.fst) = insE (L.map Prod.fst) ⟨x, s, t⟩ := by
  unfold insE
  rw [keysOf_fst, List.map_append, List.map_cons, List.map_take, List.map_drop]
  have h1 : ∀ C : List Ent, (∀ e ∈ C, e ∈ L.map Prod.fst) → x ∉ keysE C := fun C hC h => by
    obtain ⟨e, he, h2⟩ := List.mem_map.1 h
    obtain ⟨q, hq, h3⟩ := List.mem_map.1 (hC e he)
    exact hn (List.mem_map.2 ⟨q, hq, by rw [h3]; exact h2⟩)
  exact putL_ins (h1 _ (fun e he => List.mem_of_mem_take he)) (h1 _ (fun e he => List.mem_of_mem_drop he))
set_option maxRecDepth 100000 in
set_option maxHeartbeats 8000000 in
theorem mput_any {M : Nat → Prop} {W : World} {T bm : Nat} {cap clk : Int} {vk sl : Value} {L : List PE} (x : Key3) (s : RawSet) (hx : KeyOk x) (hs : WordsAt (POwn T bm vk L) W sl s.words) (hM : ∀ b, M b → b < W.heap.size) (h : PTab M W T cap clk bm vk L) (hS : (keysOf L).Pairwise ltK) (hn : L.length ≤ 19) :
    Calls Try.prog 16 #[ptrV T, .int .i64 x.1, .int .i64 x.2.1, .int .i64 x.2.2, .agg #[.int .i64 s.width, sl]] W (TabPost M T cap (POwn T bm vk L) (.int .i64 (putM cap clk (L.map Prod.fst) x s).err) (putM cap clk (L.map Prod.fst) x s).clk (putM cap clk (L.map Prod.fst) x s).es W) := by
  obtain ⟨sa, sc, rfl⟩ := hs.slice
  have hx0 : Ext No W (W.alloc (.cells #[.int .i64 s.width, .slice sa s.words.length sc] 40)) := (Ext.refl _ _).alloc _
  have HX0 := Lib.hid hx0
  have HB := Lib.hid (alloc_top (w := W) (o := .cells #[.int .i64 s.width, .slice sa s.words.length sc] 40) rfl)
  have H := Lib.hid (h.stepNo hx0)
  have HWO := Lib.hid hs
  have HW := Lib.hid ((hs.mono (M' := No) (fun _ _ x => x.elim)).extNo hx0)
  have HXO := Lib.hid hx
  have HMM := Lib.hid hM
  have HSO := Lib.hid hS
  have HOW := Lib.hid (fun b (hb : POwn T bm vk L b) => h.ownLt hb)
  clear h hs hx hM hS hx0
  unfold ptrV
  cases hv : validB s with
  | false =>
    have hp : putM cap clk (L.map Prod.fst) x s = ⟨1, clk, L.map Prod.fst⟩ := by unfold putM; rw [if_pos hv]
    rw [hp]
    clear hp
    go_enter Try.func16, Try.ntmps16
    go_upto_region 1 with (fail)
    generalize (W.alloc (.cells #[.int .i64 s.width, .slice sa s.words.length sc] 40)) = V at *
    have cB := cellOf HB.out
    go_wp2_with fail
    refine (valid_any _ s V ⟨_, rfl, HW.out⟩).mono ?_
    rintro e1 w1 ⟨rfl, hx1⟩
    rw [hv]
    go_wp2_with fail
    go_ret
    exact ⟨bm, vk, L, rfl, Lib.hid (H.out.stepNo hx1), Lib.hid rfl, (HX0.out.transNo hx1).ofNo, Lib.hid (fun b hb => .inl hb)⟩
  | true =>
  by_cases hbk : badK x
  · have hp : putM cap clk (L.map Prod.fst) x s = ⟨3, clk, L.map Prod.fst⟩ := by unfold putM; rw [if_neg (by rw [hv]; decide), if_pos hbk]
    rw [hp]
    clear hp
    unfold badK at hbk
    go_enter Try.func16, Try.ntmps16
    go_upto_region 1 with (fail)
    generalize (W.alloc (.cells #[.int .i64 s.width, .slice sa s.words.length sc] 40)) = V at *
    have cB := cellOf HB.out
    go_wp2_with fail
    refine (valid_any _ s V ⟨_, rfl, HW.out⟩).mono ?_
    rintro e1 w1 ⟨rfl, hx1⟩
    rw [hv]
    have hfin : ∀ w : World, Ext No w1 w → TabPost M T cap (POwn T bm vk L) (.int .i64 3) clk (L.map Prod.fst) W (.returned (.int .i64 3)) w := fun w hw => ⟨bm, vk, L, rfl, Lib.hid ((H.out.stepNo hx1).stepNo hw), Lib.hid rfl, ((HX0.out.transNo hx1).transNo hw).ofNo, Lib.hid (fun b hb => .inl hb)⟩
    have HFIN := Lib.hid hfin
    clear hfin cB
    by_cases b1 : x.1 < 0
    · go_wp2_with fail
      go_ret
      exact HFIN.out _ (Ext.refl _ _)
    · by_cases b2 : x.2.1 < 0
      · go_wp2_with fail
        go_ret
        exact HFIN.out _ (Ext.refl _ _)
      · have b3 : x.2.2 < 0 := by omega
        go_wp2_with fail
        go_ret
        exact HFIN.out _ (Ext.refl _ _)
  · have hnb : ¬ x.1 < 0 ∧ ¬ x.2.1 < 0 ∧ ¬ x.2.2 < 0 := by unfold badK at hbk; omega
    obtain ⟨b1, b2, b3⟩ := hnb
    by_cases hc0 : cap = 0
    · have hp : putM cap clk (L.map Prod.fst) x s = ⟨0, clk, L.map Prod.fst⟩ := by unfold putM; rw [if_neg (by rw [hv]; decide), if_neg hbk, if_pos hc0]
      rw [hp]
      clear hp hbk
      go_enter Try.func16, Try.ntmps16
      go_upto_region 1 with (fail)
      generalize (W.alloc (.cells #[.int .i64 s.width, .slice sa s.words.length sc] 40)) = V at *
      have cB := cellOf HB.out
      go_wp2_with fail
      refine (valid_any _ s V ⟨_, rfl, HW.out⟩).mono ?_
      rintro e1 w1 ⟨rfl, hx1⟩
      rw [hv]
      have cT := cellOf (hx1.blk H.out.t.box no_no)
      subst hc0
      go_wp2_with fail
      go_ret
      exact ⟨bm, vk, L, rfl, Lib.hid (H.out.stepNo hx1), Lib.hid rfl, (HX0.out.transNo hx1).ofNo, Lib.hid (fun b hb => .inl hb)⟩
    · obtain ⟨ES, hES, hp⟩ : ∃ ES, ES = (putM cap clk (L.map Prod.fst) x s).es ∧ putM cap clk (L.map Prod.fst) x s = ⟨0, addZ clk 1, ES⟩ := by
        refine ⟨_, rfl, ?_⟩
        unfold putM
        rw [if_neg (by rw [hv]; decide), if_neg hbk, if_neg hc0]
        by_cases hk : x ∈ keysE (L.map Prod.fst)
        · rw [if_pos hk]
        · rw [if_neg hk]
      have hES2 : ES = if x ∈ keysE (L.map Prod.fst) then putL x s (addZ clk 1) (L.map Prod.fst) else insE (fullE cap (L.map Prod.fst)) ⟨x, s, addZ clk 1⟩ := by
        rw [hES]
        unfold putM
        rw [if_neg (by rw [hv]; decide), if_neg hbk, if_neg hc0]
        by_cases hk : x ∈ keysE (L.map Prod.fst)
        · rw [if_pos hk, if_pos hk]
        · rw [if_neg hk, if_neg hk]
      have HES0 := Lib.hid hES2
      rw [hp]
      clear hp hES hES2 hbk
      have hcb : (cap == 0) = false := by rw [beq_eq_false_iff_ne]; exact hc0
      clear hc0
      go_enter Try.func16, Try.ntmps16
      go_upto_region 1 with (fail)
      generalize (W.alloc (.cells #[.int .i64 s.width, .slice sa s.words.length sc] 40)) = V at *
      have cB := cellOf HB.out
      go_wp2_with fail
      refine (valid_any _ s V ⟨_, rfl, HW.out⟩).mono ?_
      rintro e1 w1 ⟨rfl, hx1⟩
      rw [hv]
      have cT := cellOf (hx1.blk H.out.t.box no_no)
      go_upto_region 8 with (fail)
      have hx2 : Ext No w1 (w1.alloc (.cells #[.int .i64 x.1, .int .i64 x.2.1, .int .i64 x.2.2] 68)) := (Ext.refl _ _).alloc _
      have HX2 := Lib.hid ((HX0.out.transNo hx1).transNo hx2)
      have HP := Lib.hid ((H.out.stepNo hx1).stepNo hx2)
      have HKB := Lib.hid (alloc_top (w := w1) (o := .cells #[.int .i64 x.1, .int .i64 x.2.1, .int .i64 x.2.2] 68) rfl)
      have HVB := Lib.hid (hx2.blk (hx1.blk HB.out no_no) no_no)
      have HKL := Lib.hid (show W.heap.size ≤ w1.heap.size from Nat.le_trans HX0.out.size hx1.size)
      have HWV := Lib.hid ((HW.out.extNo hx1).extNo hx2)
      have HWS := Lib.hid (show ∀ w, Ext (POwn T bm vk L) W w → WordsAt No w (.slice sa s.words.length sc) s.words from fun w hw => (HWO.out.ext hw (fun i hi e => e)).mono (fun _ _ x => x.elim))
      clear cB cT hx2 hx1 H HX0 HB HW hcb b1 b2 b3
      generalize (w1.alloc (.cells #[.int .i64 x.1, .int .i64 x.2.1, .int .i64 x.2.2] 68)) = w2 at *
      generalize w1.heap.size = kb at *
      go_cut [12] (fun s12 wx => ((∃ e0 : PE, s12 = ptrV e0.2.1 ∧ e0 ∈ L ∧ e0.1.key = x) ∨ (s12 = .pointer none ∧ x ∉ keysOf L)) ∧ Hid (Ext No w2 wx))
      case first =>
        by_cases hk : x ∈ keysOf L
        · obtain ⟨e0, he0, rfl⟩ := List.mem_map.1 hk
          have HE0 := Lib.hid he0
          clear hk he0
          refine wp_region_held_drew (S := (fun w' => Ext No w2 w')) (by kernel_rfl) ?_ (fun hHeld => ?_)
          · exact (Ext.refl _ _).drew
          refine held_take (i := 0) (v := ?_) rfl (by kernel_rfl) (by kernel_rfl) (by kernel_rfl) (fun _ _ _ h => h) rfl (fun w hSw => ?_) hHeld ?_
          rotate_left
          · go_simp; (try with_reducible rfl)
          try simp only [Act.put, List.setIfInBounds_toArray, List.set_cons_zero, List.set_cons_succ]
          refine held_take (i := 1) (v := ?_) rfl (by kernel_rfl) (by kernel_rfl) (by kernel_rfl) (fun _ _ _ h => h) rfl (fun w hSw => ?_) hHeld ?_
          rotate_left
          · go_simp; (try with_reducible rfl)
          try simp only [Act.put, List.setIfInBounds_toArray, List.set_cons_zero, List.set_cons_succ]
          refine held_take (i := 2) (v := ?_) rfl (by kernel_rfl) (by kernel_rfl) (by kernel_rfl) (fun _ _ _ h => h) rfl (fun w hSw => ?_) hHeld ?_
          rotate_left
          · go_simp; (try with_reducible rfl)
          try simp only [Act.put, List.setIfInBounds_toArray, List.set_cons_zero, List.set_cons_succ]
          refine held_take (i := 3) (v := ?_) rfl (by kernel_rfl) (by kernel_rfl) (by kernel_rfl) (fun _ _ _ h => h) rfl (fun w hSw => ?_) hHeld ?_
          rotate_left
          · (have hEs : Ext No w2 _ := hSw); (have x0 := cellOf (hEs.blk HP.out.t.box no_no)); go_simp; (try with_reducible rfl)
          try simp only [Act.put, List.setIfInBounds_toArray, List.set_cons_zero, List.set_cons_succ]
          refine held_take (i := 4) (v := ?_) rfl (by kernel_rfl) (by kernel_rfl) (by kernel_rfl) (fun _ _ _ h => h) rfl (fun w hSw => ?_) hHeld ?_
          rotate_left
          · (have hEs : Ext No w2 _ := hSw); (have x0 := cellOf (hEs.blk HKB.out no_no)); go_simp; (try with_reducible rfl)
          try simp only [Act.put, List.setIfInBounds_toArray, List.set_cons_zero, List.set_cons_succ]
          refine held_take (i := 5) (v := ?_) rfl (by kernel_rfl) (by kernel_rfl) (by kernel_rfl) (fun _ _ _ h => h) rfl (fun w hSw => ?_) hHeld ?_
          rotate_left
          · (have hEs : Ext No w2 _ := hSw); (have hl := (HP.out.stepNo hEs).look HE0.out); (unfold keyV ptrV at hl); go_simp; (try with_reducible rfl)
          try simp only [Act.put, List.setIfInBounds_toArray, List.set_cons_zero, List.set_cons_succ]
          refine held_take (i := 6) (v := ?_) rfl (by kernel_rfl) (by kernel_rfl) (by kernel_rfl) (fun _ _ _ h => h) rfl (fun w hSw => ?_) hHeld ?_
          rotate_left
          · go_simp; (try with_reducible rfl)
          try simp only [Act.put, List.setIfInBounds_toArray, List.set_cons_zero, List.set_cons_succ]
          refine wpAnyH_done (by kernel_rfl) ?_ _
          have hE8 : Ext No w2 w2.drew := hHeld
          go_wp2_with fail
          go_meet
          exact ⟨.inl ⟨e0, rfl, HE0.out, rfl⟩, Lib.hid hE8⟩
        · have HNX := Lib.hid hk
          clear hk
          refine wp_region_held_drew (S := (fun w' => Ext No w2 w')) (by kernel_rfl) ?_ (fun hHeld => ?_)
          · exact (Ext.refl _ _).drew
          refine held_take (i := 0) (v := ?_) rfl (by kernel_rfl) (by kernel_rfl) (by kernel_rfl) (fun _ _ _ h => h) rfl (fun w hSw => ?_) hHeld ?_
          rotate_left
          · go_simp; (try with_reducible rfl)
          try simp only [Act.put, List.setIfInBounds_toArray, List.set_cons_zero, List.set_cons_succ]
          refine held_take (i := 1) (v := ?_) rfl (by kernel_rfl) (by kernel_rfl) (by kernel_rfl) (fun _ _ _ h => h) rfl (fun w hSw => ?_) hHeld ?_
          rotate_left
          · go_simp; (try with_reducible rfl)
          try simp only [Act.put, List.setIfInBounds_toArray, List.set_cons_zero, List.set_cons_succ]
          refine held_take (i := 2) (v := ?_) rfl (by kernel_rfl) (by kernel_rfl) (by kernel_rfl) (fun _ _ _ h => h) rfl (fun w hSw => ?_) hHeld ?_
          rotate_left
          · go_simp; (try with_reducible rfl)
          try simp only [Act.put, List.setIfInBounds_toArray, List.set_cons_zero, List.set_cons_succ]
          refine held_take (i := 3) (v := ?_) rfl (by kernel_rfl) (by kernel_rfl) (by kernel_rfl) (fun _ _ _ h => h) rfl (fun w hSw => ?_) hHeld ?_
          rotate_left
          · (have hEs : Ext No w2 _ := hSw); (have x0 := cellOf (hEs.blk HP.out.t.box no_no)); go_simp; (try with_reducible rfl)
          try simp only [Act.put, List.setIfInBounds_toArray, List.set_cons_zero, List.set_cons_succ]
          refine held_take (i := 4) (v := ?_) rfl (by kernel_rfl) (by kernel_rfl) (by kernel_rfl) (fun _ _ _ h => h) rfl (fun w hSw => ?_) hHeld ?_
          rotate_left
          · (have hEs : Ext No w2 _ := hSw); (have x0 := cellOf (hEs.blk HKB.out no_no)); go_simp; (try with_reducible rfl)
          try simp only [Act.put, List.setIfInBounds_toArray, List.set_cons_zero, List.set_cons_succ]
          refine held_take (i := 5) (v := ?_) rfl (by kernel_rfl) (by kernel_rfl) (by kernel_rfl) (fun _ _ _ h => h) rfl (fun w hSw => ?_) hHeld ?_
          rotate_left
          · (have hEs : Ext No w2 _ := hSw); (have hl := (HP.out.stepNo hEs).lookNo HXO.out HNX.out); (unfold keyV at hl); go_simp; (try with_reducible rfl)
          try simp only [Act.put, List.setIfInBounds_toArray, List.set_cons_zero, List.set_cons_succ]
          refine held_take (i := 6) (v := ?_) rfl (by kernel_rfl) (by kernel_rfl) (by kernel_rfl) (fun _ _ _ h => h) rfl (fun w hSw => ?_) hHeld ?_
          rotate_left
          · go_simp; (try with_reducible rfl)
          try simp only [Act.put, List.setIfInBounds_toArray, List.set_cons_zero, List.set_cons_succ]
          refine wpAnyH_done (by kernel_rfl) ?_ _
          have hE8 : Ext No w2 w2.drew := hHeld
          go_wp2_with fail
          go_meet
          exact ⟨.inr ⟨rfl, HNX.out⟩, Lib.hid hE8⟩
      case rest =>
      obtain ⟨hc12, hE8⟩ := hcut
      rename World => w3
      have HP3 := Lib.hid (HP.out.stepNo hE8.out)
      have HVB3 := Lib.hid (hE8.out.blk HVB.out no_no)
      have HKB3 := Lib.hid (hE8.out.blk HKB.out no_no)
      have HX3 := Lib.hid (HX2.out.transNo hE8.out)
      have HWV3 := Lib.hid (HWV.out.extNo hE8.out)
      clear HP HVB HKB HX2 HWV hE8
      apply_assumption
      go_step
      go_cut [12] (fun s12 wx => ∃ (bm1 : Nat) (vk1 : Value) (L1 : List PE) (e0 : PE), s12 = ptrV e0.2.1 ∧ Hid (e0 ∈ L1) ∧ Hid (e0.1.key = x) ∧ Hid (PTab M wx T cap clk bm1 vk1 L1) ∧ Hid (Ext (POwn T bm vk L) W wx) ∧ Hid (∀ b, POwn T bm1 vk1 L1 b → POwn T bm vk L b ∨ W.heap.size ≤ b) ∧ Hid (wx.heap[W.heap.size]? = some (.cells #[.int .i64 s.width, .slice sa s.words.length sc] 40 (0, 0))) ∧ Hid (putL x s (addZ clk 1) (L1.map Prod.fst) = ES))
      case first =>
        rcases hc12 with ⟨e0, rfl, he0, hk0⟩ | ⟨rfl, hnx⟩
        · have hin : x ∈ keysE (L.map Prod.fst) := by rw [keysOf_fst, ← hk0]; exact List.mem_map_of_mem he0
          have HESN := Lib.hid (show ES = putL x s (addZ clk 1) (L.map Prod.fst) from by rw [HES0.out, if_pos hin])
          have HE0 := Lib.hid he0
          have HK0 := Lib.hid hk0
          clear he0 hk0 hin
          unfold ptrV
          go_wp2_with fail
          go_meet
          exact ⟨bm, vk, L, e0, rfl, HE0, HK0, HP3, Lib.hid HX3.out.ofNo, Lib.hid (fun b hb => .inl hb), HVB3, Lib.hid HESN.out.symm⟩
        · have HESN := Lib.hid (show ES = insE (fullE cap (L.map Prod.fst)) ⟨x, s, addZ clk 1⟩ from by rw [HES0.out, if_neg (by rw [keysOf_fst]; exact hnx)])
          have HNX := Lib.hid hnx
          obtain ⟨kl, hkl⟩ := keyOfK HXO.out
          have HKLT := Lib.hid hkl
          obtain ⟨ak, ck, hak⟩ := HP3.out.t.keys.slice
          have hkl3 : (keysOf L).length = L.length := by simp [keysOf]
          rw [hkl3] at hak
          have HTB3 := Lib.hid (show w3.heap[T]? = some (.cells #[.int .i64 cap, .int .i64 clk, .map (some bm), .slice ak L.length ck] 65 (0, 0)) from by rw [← hak]; exact HP3.out.t.box)
          clear hnx hkl hak hkl3
          by_cases hf : (L.length : Int) = cap
          · have HFULL := Lib.hid hf
            have hfb : ((L.length : Int) == cap) = true := by rw [beq_iff_eq]; exact hf
            clear hf
            go_upto_region 10 with (fail)
            refine wp_region_held_drew (S := (fun w' => Ext No w3 w')) (by kernel_rfl) ?_ (fun hHeld => ?_)
            · exact (Ext.refl _ _).drew
            refine held_take (i := 0) (v := ?_) rfl (by kernel_rfl) (by kernel_rfl) (by kernel_rfl) (fun _ _ _ h => h) rfl (fun w hSw => ?_) hHeld ?_
            rotate_left
            · go_simp; (try with_reducible rfl)
            try simp only [Act.put, List.setIfInBounds_toArray, List.set_cons_zero, List.set_cons_succ]
            refine held_take (i := 1) (v := ?_) rfl (by kernel_rfl) (by kernel_rfl) (by kernel_rfl) (fun _ _ _ h => h) rfl (fun w hSw => ?_) hHeld ?_
            rotate_left
            · go_simp; (try with_reducible rfl)
            try simp only [Act.put, List.setIfInBounds_toArray, List.set_cons_zero, List.set_cons_succ]
            refine held_take (i := 2) (v := ?_) rfl (by kernel_rfl) (by kernel_rfl) (by kernel_rfl) (fun _ _ _ h => h) rfl (fun w hSw => ?_) hHeld ?_
            rotate_left
            · go_simp; (try with_reducible rfl)
            try simp only [Act.put, List.setIfInBounds_toArray, List.set_cons_zero, List.set_cons_succ]
            refine held_take (i := 3) (v := ?_) rfl (by kernel_rfl) (by kernel_rfl) (by kernel_rfl) (fun _ _ _ h => h) rfl (fun w hSw => ?_) hHeld ?_
            rotate_left
            · (have hEs : Ext No w3 _ := hSw); (have x0 := cellOf (hEs.blk HTB3.out no_no)); go_simp; (try with_reducible rfl)
            try simp only [Act.put, List.setIfInBounds_toArray, List.set_cons_zero, List.set_cons_succ]
            refine held_take (i := 4) (v := ?_) rfl (by kernel_rfl) (by kernel_rfl) (by kernel_rfl) (fun _ _ _ h => h) rfl (fun w hSw => ?_) hHeld ?_
            rotate_left
            · go_simp; (try with_reducible rfl)
            try simp only [Act.put, List.setIfInBounds_toArray, List.set_cons_zero, List.set_cons_succ]
            refine held_take (i := 5) (v := ?_) rfl (by kernel_rfl) (by kernel_rfl) (by kernel_rfl) (fun _ _ _ h => h) rfl (fun w hSw => ?_) hHeld ?_
            rotate_left
            · go_simp; (try with_reducible rfl)
            try simp only [Act.put, List.setIfInBounds_toArray, List.set_cons_zero, List.set_cons_succ]
            refine held_take (i := 6) (v := ?_) rfl (by kernel_rfl) (by kernel_rfl) (by kernel_rfl) (fun _ _ _ h => h) rfl (fun w hSw => ?_) hHeld ?_
            rotate_left
            · go_simp; (try with_reducible rfl)
            try simp only [Act.put, List.setIfInBounds_toArray, List.set_cons_zero, List.set_cons_succ]
            refine held_take (i := 7) (v := ?_) rfl (by kernel_rfl) (by kernel_rfl) (by kernel_rfl) (fun _ _ _ h => h) rfl (fun w hSw => ?_) hHeld ?_
            rotate_left
            · go_simp; (try with_reducible rfl)
            try simp only [Act.put, List.setIfInBounds_toArray, List.set_cons_zero, List.set_cons_succ]
            refine held_take (i := 8) (v := ?_) rfl (by kernel_rfl) (by kernel_rfl) (by kernel_rfl) (fun _ _ _ h => h) rfl (fun w hSw => ?_) hHeld ?_
            rotate_left
            · (have hEs : Ext No w3 _ := hSw); (have x0 := cellOf (hEs.blk HTB3.out no_no)); go_simp; (try with_reducible rfl)
            try simp only [Act.put, List.setIfInBounds_toArray, List.set_cons_zero, List.set_cons_succ]
            refine held_take (i := 9) (v := ?_) rfl (by kernel_rfl) (by kernel_rfl) (by kernel_rfl) (fun _ _ _ h => h) rfl (fun w hSw => ?_) hHeld ?_
            rotate_left
            · go_simp; (try with_reducible rfl)
            try simp only [Act.put, List.setIfInBounds_toArray, List.set_cons_zero, List.set_cons_succ]
            refine wpAnyH_done (by kernel_rfl) ?_ _
            have hE10 : Ext No w3 w3.drew := hHeld
            clear hHeld
            go_wp2_with fail
            refine (mevict_any 1 (HP3.out.stepNo hE10) HSO.out hn).mono ?_
            rintro e5 wq ⟨bm1, vk1, L1, rfl, HPq, hLq, hXq, HOq0⟩
            have HXq := Lib.hid ((HX3.out.transNo hE10).ofNo.trans hXq)
            have HVBq := Lib.hid (hXq.blk (hE10.blk HVB3.out no_no) (fun e => by have := HOW.out _ e; omega))
            have HKBq := Lib.hid (hXq.blk (hE10.blk HKB3.out no_no) (fun e => by have := HOW.out _ e; have := HKL.out; omega))
            have HESq := Lib.hid (show L1.map Prod.fst = fullE cap (L.map Prod.fst) from by rw [hLq.out]; unfold fullE; rw [if_pos (by rw [List.length_map]; exact HFULL.out)]; rfl)
            have HOq := Lib.hid (fun b hb => (HOq0.out b hb).imp id (fun h => Nat.le_trans (HX3.out.transNo hE10).size h))
            clear hE10 hLq hXq HOq0 HP3 HVB3 HKB3 HX3 HTB3
            have HNXq := Lib.hid (show x ∉ keysOf L1 from fun h => HNX.out (by rw [← keysOf_fst] at h ⊢; rw [HESq.out] at h; exact ((fullE_sub cap _).map _).subset h))
            have HSQ := Lib.hid (show (keysOf L1).Pairwise ltK from by rw [← keysOf_fst, HESq.out]; exact (by rw [keysOf_fst]; exact HSO.out : (keysE (L.map Prod.fst)).Pairwise ltK).sublist ((fullE_sub cap _).map _))
            have hLq : (keysOf L1).length ≤ 19 := by
              have h1 := ((fullE_sub cap (L.map Prod.fst)).map (fun e : Ent => e.key)).length_le
              rw [← HESq.out] at h1
              simp only [List.length_map] at h1
              simp only [keysOf, List.length_map]
              omega
            go_upto_region 13 with (fail)
            have hxa : Ext No wq (wq.alloc (.cells #[.int .i64 0, .slice none 0 0, .int .i64 0] 71)) := (Ext.refl _ _).alloc _
            have HXA := Lib.hid hxa
            have HIAa := Lib.hid (alloc_top (w := wq) (o := .cells #[.int .i64 0, .slice none 0 0, .int .i64 0] 71) rfl)
            have HPa := Lib.hid (HPq.out.stepNo hxa)
            have HTBa := Lib.hid HPa.out.t.box
            have HKBa := Lib.hid (hxa.blk HKBq.out no_no)
            have HDUM := Lib.hid trivial
            have HAK := Lib.hid (show ∀ g, vk1.ownBlock = some g → g ≠ wq.heap.size from fun g hg e => by have := (HPq.out.t.keys.lt g hg).2; omega)
            have HAT := Lib.hid (show wq.heap.size ≠ T from fun e => by have := lt_of_block HPq.out.t.box; omega)
            clear hxa
            generalize hwa : (wq.alloc (.cells #[.int .i64 0, .slice none 0 0, .int .i64 0] 71)) = wa at *
            clear hwa
            have HAG2 : ∃ a, a = wq.heap.size := ⟨_, rfl⟩
            obtain ⟨a, ha⟩ := HAG2
            rw [← ha] at HIAa HAK HAT ⊢
            have HAG := Lib.hid (show wq.heap.size ≤ a from by omega)
            clear ha
            refine wp_region_heldL [6] (fun w' => Ext No wa w') (by kernel_rfl) ?_ (fun hHeld => ?_)
            · exact (Ext.refl _ _).drew
            have HEA := Lib.hid (show Ext No wa wa.drew from (Ext.refl _ _).drew)
            generalize wa.drew = v0 at *
            refine heldL_free (i := 0) (v := ?_) rfl (by kernel_rfl) (by kernel_rfl) (by kernel_rfl) (by kernel_rfl) (by kernel_rfl) (fun _ _ _ h => h) rfl (fun w => ?_) hHeld ?_
            rotate_left
            · go_simp; (try with_reducible rfl)
            try simp only [Act.put, List.setIfInBounds_toArray, List.set_cons_zero, List.set_cons_succ]
            replace hHeld := (ST_set (T := [6]) (i := 0) (by kernel_rfl) _ _).2 hHeld
            refine heldL_free (i := 1) (v := ?_) rfl (by kernel_rfl) (by kernel_rfl) (by kernel_rfl) (by kernel_rfl) (by kernel_rfl) (fun _ _ _ h => h) rfl (fun w => ?_) hHeld ?_
            rotate_left
            · go_simp; (try with_reducible rfl)
            try simp only [Act.put, List.setIfInBounds_toArray, List.set_cons_zero, List.set_cons_succ]
            replace hHeld := (ST_set (T := [6]) (i := 1) (by kernel_rfl) _ _).2 hHeld
            refine heldL_free (i := 2) (v := ?_) rfl (by kernel_rfl) (by kernel_rfl) (by kernel_rfl) (by kernel_rfl) (by kernel_rfl) (fun _ _ _ h => h) rfl (fun w => ?_) hHeld ?_
            rotate_left
            · go_simp; (try with_reducible rfl)
            try simp only [Act.put, List.setIfInBounds_toArray, List.set_cons_zero, List.set_cons_succ]
            replace hHeld := (ST_set (T := [6]) (i := 2) (by kernel_rfl) _ _).2 hHeld
            refine heldL_take (i := 3) (v := ?_) rfl (by kernel_rfl) (by kernel_rfl) (by kernel_rfl) (by kernel_rfl) (by kernel_rfl) (fun _ _ _ h => h) rfl (fun w hSw => ?_) hHeld ?_
            rotate_left
            · (have hEs : Ext No wa _ := hSw); (have x0 := cellOf (hEs.blk HTBa.out no_no)); go_simp; (try with_reducible rfl)
            try simp only [Act.put, List.setIfInBounds_toArray, List.set_cons_zero, List.set_cons_succ]
            replace hHeld := (ST_set (T := [6]) (i := 3) (by kernel_rfl) _ _).2 hHeld
            refine heldL_take (i := 4) (v := ?_) rfl (by kernel_rfl) (by kernel_rfl) (by kernel_rfl) (by kernel_rfl) (by kernel_rfl) (fun _ _ _ h => h) rfl (fun w hSw => ?_) hHeld ?_
            rotate_left
            · (have hEs : Ext No wa _ := hSw); (have x0 := cellOf (hEs.blk HKBa.out no_no)); go_simp; (try with_reducible rfl)
            try simp only [Act.put, List.setIfInBounds_toArray, List.set_cons_zero, List.set_cons_succ]
            replace hHeld := (ST_set (T := [6]) (i := 4) (by kernel_rfl) _ _).2 hHeld
            refine heldL_free (i := 5) (v := ?_) rfl (by kernel_rfl) (by kernel_rfl) (by kernel_rfl) (by kernel_rfl) (by kernel_rfl) (fun _ _ _ h => h) rfl (fun w => ?_) hHeld ?_
            rotate_left
            · go_simp; (try with_reducible rfl)
            try simp only [Act.put, List.setIfInBounds_toArray, List.set_cons_zero, List.set_cons_succ]
            replace hHeld := (ST_set (T := [6]) (i := 5) (by kernel_rfl) _ _).2 hHeld
            refine heldL_next1 (i := 6) (by kernel_rfl) (NextL.mk rfl rfl (fun K hK => ?_))
            ((obtain ⟨wb, hrun, hRb, hEb, hsb⟩ := (HPa.out.map.ext HEA.out no_no).store lawK undMap HKLT.out (ptrV a)); (unfold keyV ptrV at hrun); go_simp)
            refine hK.out _ _ ?_ (fun hNew => ?_)
            · exact fun h => absurd h (by decide)
            clear hK K hHeld
            have hHeld := hNew
            clear hNew
            have HEB := Lib.hid (HEA.out.ofNo.trans hEb)
            have HRB := Lib.hid hRb
            clear hRb hEb hsb hrun
            try simp only [Act.put, List.setIfInBounds_toArray, List.set_cons_zero, List.set_cons_succ]
            refine heldL_done (by kernel_rfl) ?_ _
            clear hHeld
            have HTBb := Lib.hid (HEB.out.blk HTBa.out (fun e => ne_map HTBa.out HPa.out.map e))
            have HKBb := Lib.hid (HEB.out.blk HKBa.out (fun e => ne_map HKBa.out HPa.out.map e))
            have HIAb := Lib.hid (HEB.out.blk HIAa.out (fun e => ne_map HIAa.out HPa.out.map e))
            have HKRb := Lib.hid (KOwn.ext HPa.out.t.keys HEB.out (fun b hb e => HPa.out.neKM hb e))
            go_upto_region 14 with (fail)
            refine wp_region_held_drew (S := (fun w' => Ext No wb w')) (by kernel_rfl) ?_ (fun hHeld => ?_)
            · exact (Ext.refl _ _).drew
            refine held_take (i := 0) (v := ?_) rfl (by kernel_rfl) (by kernel_rfl) (by kernel_rfl) (fun _ _ _ h => h) rfl (fun w hSw => ?_) hHeld ?_
            rotate_left
            · go_simp; (try with_reducible rfl)
            try simp only [Act.put, List.setIfInBounds_toArray, List.set_cons_zero, List.set_cons_succ]
            refine held_take (i := 1) (v := ?_) rfl (by kernel_rfl) (by kernel_rfl) (by kernel_rfl) (fun _ _ _ h => h) rfl (fun w hSw => ?_) hHeld ?_
            rotate_left
            · go_simp; (try with_reducible rfl)
            try simp only [Act.put, List.setIfInBounds_toArray, List.set_cons_zero, List.set_cons_succ]
            refine held_take (i := 2) (v := ?_) rfl (by kernel_rfl) (by kernel_rfl) (by kernel_rfl) (fun _ _ _ h => h) rfl (fun w hSw => ?_) hHeld ?_
            rotate_left
            · go_simp; (try with_reducible rfl)
            try simp only [Act.put, List.setIfInBounds_toArray, List.set_cons_zero, List.set_cons_succ]
            refine held_take (i := 3) (v := ?_) rfl (by kernel_rfl) (by kernel_rfl) (by kernel_rfl) (fun _ _ _ h => h) rfl (fun w hSw => ?_) hHeld ?_
            rotate_left
            · (have hEs : Ext No wb _ := hSw); (have x0 := cellOf (hEs.blk HTBb.out no_no)); go_simp; (try with_reducible rfl)
            try simp only [Act.put, List.setIfInBounds_toArray, List.set_cons_zero, List.set_cons_succ]
            refine held_take (i := 4) (v := ?_) rfl (by kernel_rfl) (by kernel_rfl) (by kernel_rfl) (fun _ _ _ h => h) rfl (fun w hSw => ?_) hHeld ?_
            rotate_left
            · (have hEs : Ext No wb _ := hSw); (have x0 := cellOf (hEs.blk HKBb.out no_no)); go_simp; (try with_reducible rfl)
            try simp only [Act.put, List.setIfInBounds_toArray, List.set_cons_zero, List.set_cons_succ]
            refine held_call (i := 5) rfl (by kernel_rfl) rfl (fun K hK => ?_)
            (go_simp; go_at_call 45; (refine (kbsearch_any x vk1 (keysOf L1) _ HSQ.out (KOwn.list (KOwn.ext HKRb.out (show Ext No wb _ from hHeld) no_no2) no_no2) (by omega)).mono ?_); (rintro q1 wc ⟨fb, rfl, hyA⟩); go_simp)
            refine hK.out _ _ ?_ (fun hNew => ?_)
            · exact Ext.transNo (show Ext No wb _ from hHeld) hyA
            clear hK K hHeld
            have hHeld := hNew
            clear hNew
            clear hyA
            try simp only [Act.put, List.setIfInBounds_toArray, List.set_cons_zero, List.set_cons_succ]
            refine held_take (i := 6) (v := ?_) rfl (by kernel_rfl) (by kernel_rfl) (by kernel_rfl) (fun _ _ _ h => h) rfl (fun w hSw => ?_) hHeld ?_
            rotate_left
            · go_simp; (try with_reducible rfl)
            try simp only [Act.put, List.setIfInBounds_toArray, List.set_cons_zero, List.set_cons_succ]
            refine held_take (i := 7) (v := ?_) rfl (by kernel_rfl) (by kernel_rfl) (by kernel_rfl) (fun _ _ _ h => h) rfl (fun w hSw => ?_) hHeld ?_
            rotate_left
            · go_simp; (try with_reducible rfl)
            try simp only [Act.put, List.setIfInBounds_toArray, List.set_cons_zero, List.set_cons_succ]
            refine held_take (i := 8) (v := ?_) rfl (by kernel_rfl) (by kernel_rfl) (by kernel_rfl) (fun _ _ _ h => h) rfl (fun w hSw => ?_) hHeld ?_
            rotate_left
            · go_simp; (try with_reducible rfl)
            try simp only [Act.put, List.setIfInBounds_toArray, List.set_cons_zero, List.set_cons_succ]
            refine held_take (i := 9) (v := ?_) rfl (by kernel_rfl) (by kernel_rfl) (by kernel_rfl) (fun _ _ _ h => h) rfl (fun w hSw => ?_) hHeld ?_
            rotate_left
            · go_simp; (try with_reducible rfl)
            try simp only [Act.put, List.setIfInBounds_toArray, List.set_cons_zero, List.set_cons_succ]
            refine held_take (i := 10) (v := ?_) rfl (by kernel_rfl) (by kernel_rfl) (by kernel_rfl) (fun _ _ _ h => h) rfl (fun w hSw => ?_) hHeld ?_
            rotate_left
            · go_simp; (try with_reducible rfl)
            try simp only [Act.put, List.setIfInBounds_toArray, List.set_cons_zero, List.set_cons_succ]
            refine wpAnyH_done (by kernel_rfl) ?_ _
            have HEC := Lib.hid (show Ext No wb wc from hHeld)
            clear hHeld
            have HTBc := Lib.hid (HEC.out.blk HTBb.out no_no)
            have HKBc := Lib.hid (HEC.out.blk HKBb.out no_no)
            go_upto_region 15 with (fail)
            refine wp_region_heldL [8, 11] (fun w' => Ext No wc w') (by kernel_rfl) ?_ (fun hHeld => ?_)
            · exact (Ext.refl _ _).drew
            have HEV := Lib.hid (show Ext No wc wc.drew from (Ext.refl _ _).drew)
            generalize wc.drew = v0 at *
            refine heldL_free (i := 0) (v := ?_) rfl (by kernel_rfl) (by kernel_rfl) (by kernel_rfl) (by kernel_rfl) (by kernel_rfl) (fun _ _ _ h => h) rfl (fun w => ?_) hHeld ?_
            rotate_left
            · go_simp; (try with_reducible rfl)
            try simp only [Act.put, List.setIfInBounds_toArray, List.set_cons_zero, List.set_cons_succ]
            replace hHeld := (ST_set (T := [8, 11]) (i := 0) (by kernel_rfl) _ _).2 hHeld
            refine heldL_free (i := 1) (v := ?_) rfl (by kernel_rfl) (by kernel_rfl) (by kernel_rfl) (by kernel_rfl) (by kernel_rfl) (fun _ _ _ h => h) rfl (fun w => ?_) hHeld ?_
            rotate_left
            · go_simp; (try with_reducible rfl)
            try simp only [Act.put, List.setIfInBounds_toArray, List.set_cons_zero, List.set_cons_succ]
            replace hHeld := (ST_set (T := [8, 11]) (i := 1) (by kernel_rfl) _ _).2 hHeld
            refine heldL_free (i := 2) (v := ?_) rfl (by kernel_rfl) (by kernel_rfl) (by kernel_rfl) (by kernel_rfl) (by kernel_rfl) (fun _ _ _ h => h) rfl (fun w => ?_) hHeld ?_
            rotate_left
            · go_simp; (try with_reducible rfl)
            try simp only [Act.put, List.setIfInBounds_toArray, List.set_cons_zero, List.set_cons_succ]
            replace hHeld := (ST_set (T := [8, 11]) (i := 2) (by kernel_rfl) _ _).2 hHeld
            refine heldL_free (i := 3) (v := ?_) rfl (by kernel_rfl) (by kernel_rfl) (by kernel_rfl) (by kernel_rfl) (by kernel_rfl) (fun _ _ _ h => h) rfl (fun w => ?_) hHeld ?_
            rotate_left
            · go_simp; (try with_reducible rfl)
            try simp only [Act.put, List.setIfInBounds_toArray, List.set_cons_zero, List.set_cons_succ]
            replace hHeld := (ST_set (T := [8, 11]) (i := 3) (by kernel_rfl) _ _).2 hHeld
            refine heldL_take (i := 4) (v := ?_) rfl (by kernel_rfl) (by kernel_rfl) (by kernel_rfl) (by kernel_rfl) (by kernel_rfl) (fun _ _ _ h => h) rfl (fun w hSw => ?_) hHeld ?_
            rotate_left
            · (have hEs : Ext No wc _ := hSw); (have x0 := cellOf (hEs.blk HTBc.out no_no)); go_simp; (try with_reducible rfl)
            try simp only [Act.put, List.setIfInBounds_toArray, List.set_cons_zero, List.set_cons_succ]
            replace hHeld := (ST_set (T := [8, 11]) (i := 4) (by kernel_rfl) _ _).2 hHeld
            refine heldL_free (i := 5) (v := ?_) rfl (by kernel_rfl) (by kernel_rfl) (by kernel_rfl) (by kernel_rfl) (by kernel_rfl) (fun _ _ _ h => h) rfl (fun w => ?_) hHeld ?_
            rotate_left
            · go_simp; (try with_reducible rfl)
            try simp only [Act.put, List.setIfInBounds_toArray, List.set_cons_zero, List.set_cons_succ]
            replace hHeld := (ST_set (T := [8, 11]) (i := 5) (by kernel_rfl) _ _).2 hHeld
            refine heldL_take (i := 6) (v := ?_) rfl (by kernel_rfl) (by kernel_rfl) (by kernel_rfl) (by kernel_rfl) (by kernel_rfl) (fun _ _ _ h => h) rfl (fun w hSw => ?_) hHeld ?_
            rotate_left
            · (have hEs : Ext No wc _ := hSw); (have x0 := cellOf (hEs.blk HKBc.out no_no)); go_simp; (try with_reducible rfl)
            try simp only [Act.put, List.setIfInBounds_toArray, List.set_cons_zero, List.set_cons_succ]
            replace hHeld := (ST_set (T := [8, 11]) (i := 6) (by kernel_rfl) _ _).2 hHeld
            refine heldL_next1 (i := 7) (by kernel_rfl) (NextL.mk rfl rfl (fun K hK => ?_))
            go_simp
            refine hK.out _ _ ?_ (fun hNew => ?_)
            · intro _; exact (HEV.out.transNo ((Ext.refl No v0).alloc _))
            clear hK K hHeld
            have hHeld := hNew
            clear hNew
            have HSB := Lib.hid (alloc_top (w := v0) (o := .cells #[.int .i64 x.1, .int .i64 x.2.1, .int .i64 x.2.2] 68) rfl)
            have HED := Lib.hid (HEV.out.transNo ((Ext.refl No v0).alloc (.cells #[.int .i64 x.1, .int .i64 x.2.1, .int .i64 x.2.2] 68)))
            have HSG := Lib.hid (show wc.heap.size ≤ v0.heap.size from HEV.out.size)
            generalize (v0.alloc (.cells #[.int .i64 x.1, .int .i64 x.2.1, .int .i64 x.2.2] 68)) = v1 at *
            generalize v0.heap.size = sb at *
            try simp only [Act.put, List.setIfInBounds_toArray, List.set_cons_zero, List.set_cons_succ]
            refine heldL_next1 (i := 8) (by kernel_rfl) (NextL.mk rfl rfl (fun K hK => ?_))
            (go_simp; go_at_call 47; (refine (kinsert_any 0 (keysOf L1).length (posK (keysOf L1) x) sb vk1 ((keysOf L1).flatMap keyC) (keyC x) _ (KOwn.ext HKRb.out (HEC.out.transNo HED.out) no_no2).own (Nat.zero_le _) (posK_le _ _) (by omega) (keys_one _) HSB.out rfl (fun u hu => keys_one [x] u (by simpa using hu)) (fun e => by have h1 := (HKRb.out.lt _ e).2; have h2 := HEC.out.size; have h3 := HSG.out; omega)).mono ?_); (rintro q2 wd ⟨gg, cc, rfl, hOW2, hXD, hOG⟩); go_simp)
            refine hK.out _ _ ?_ (fun hNew => ?_)
            · exact fun h => absurd h (by decide)
            clear hK K hHeld
            have hHeld := hNew
            clear hNew
            have HRO := Lib.hid hOW2.out
            have HXD := Lib.hid hXD.out
            have HOG := Lib.hid hOG
            clear hOW2 hXD hOG
            have HTBd := Lib.hid (HXD.out.blk (HED.out.blk HTBc.out no_no) (fun e => HPa.out.t.neTK e rfl))
            try simp only [Act.put, List.setIfInBounds_toArray, List.set_cons_zero, List.set_cons_succ]
            refine heldL_free (i := 9) (v := ?_) rfl (by kernel_rfl) (by kernel_rfl) (by kernel_rfl) (by kernel_rfl) (by kernel_rfl) (fun _ _ _ h => h) rfl (fun w => ?_) hHeld ?_
            rotate_left
            · go_simp; (try with_reducible rfl)
            try simp only [Act.put, List.setIfInBounds_toArray, List.set_cons_zero, List.set_cons_succ]
            replace hHeld := (ST_set (T := [8, 11]) (i := 9) (by kernel_rfl) _ _).2 hHeld
            refine heldL_free (i := 10) (v := ?_) rfl (by kernel_rfl) (by kernel_rfl) (by kernel_rfl) (by kernel_rfl) (by kernel_rfl) (fun _ _ _ h => h) rfl (fun w => ?_) hHeld ?_
            rotate_left
            · go_simp; (try with_reducible rfl)
            try simp only [Act.put, List.setIfInBounds_toArray, List.set_cons_zero, List.set_cons_succ]
            replace hHeld := (ST_set (T := [8, 11]) (i := 10) (by kernel_rfl) _ _).2 hHeld
            refine heldL_next1 (i := 11) (by kernel_rfl) (NextL.mk rfl rfl (fun K hK => ?_))
            ((have cS := cellOf HTBd.out); (have fS := freeOf HTBd.out); go_simp; (clear cS fS))
            refine hK.out _ _ ?_ (fun hNew => ?_)
            · exact fun h => absurd h (by decide)
            clear hK K hHeld
            have hHeld := hNew
            clear hNew
            try simp only [Act.put, List.setIfInBounds_toArray, List.set_cons_zero, List.set_cons_succ]
            refine heldL_done (by kernel_rfl) ?_ _
            clear hHeld
            have HXE := Lib.hid ((Ext.refl (At T) wd).setAt 3 (.slice (some ⟨gg, 0, none⟩) ((keysOf L1).length + 1) cc))
            have HTE := Lib.hid ((set_same (j := 3) (u := .slice (some ⟨gg, 0, none⟩) ((keysOf L1).length + 1) cc) HTBd.out).trans rfl)
            go_wp2_with fail
            go_meet
            generalize (wd.setCell ⟨T, 3, none⟩ (.slice (some ⟨gg, 0, none⟩) ((keysOf L1).length + 1) cc)) = we at *
            have hEall : Ext (fun b => b = T ∨ b = bm1 ∨ vk1.ownBlock = some b) wq we := (((HXA.out.ofNo.trans (HEB.out.mono (fun i _ e => .inr (.inl e)))).trans ((HEC.out.transNo HED.out).ofNo)).trans (HXD.out.mono (fun i _ e => .inr (.inr e)))).trans (HXE.out.mono (fun i _ e => .inl e))
            have hGN : ∀ g, (Value.slice (some ⟨gg, 0, none⟩) ((keysOf L1).length + 1) cc).ownBlock = some g → vk1.ownBlock = some g ∨ wq.heap.size ≤ g := fun g hg => by
              have e : gg = g := Option.some.inj hg
              subst e
              rcases HOG.out with h1 | h1
              · exact .inl h1
              · have h2 := HXA.out.size; have h3 := HEB.out.size; have h4 := HEC.out.size; have h5 := HED.out.size; exact .inr (by omega)
            have hKE : LOwn kK No we 0 (.slice (some ⟨gg, 0, none⟩) ((keysOf L1).length + 1) cc) ((keysOf L1).take (posK (keysOf L1) x) ++ x :: (keysOf L1).drop (posK (keysOf L1) x)) := by
              have h1 := row_keep2 HRO.out HXE.out (fun g hg e => by
                have e1 : gg = g := Option.some.inj hg
                have e2 : g = T := e
                rcases HOG.out with h1 | h1
                · exact HPa.out.t.neTK h1 (by omega)
                · have h2 := lt_of_block HTBa.out; have h3 := HEB.out.size; have h4 := HEC.out.size; have h5 := HED.out.size; omega)
              have e1 : ((keysOf L1).flatMap keyC).take (posK (keysOf L1) x * 3) ++ keyC x ++ ((keysOf L1).flatMap keyC).drop (posK (keysOf L1) x * 3) = ((keysOf L1).take (posK (keysOf L1) x) ++ x :: (keysOf L1).drop (posK (keysOf L1) x)).flatMap keyC := by
                have f1 : ((keysOf L1).flatMap keyC).take (posK (keysOf L1) x * 3) = ((keysOf L1).take (posK (keysOf L1) x)).flatMap keyC := flat_take kK (keysOf L1) (posK (keysOf L1) x)
                have f2 : ((keysOf L1).flatMap keyC).drop (posK (keysOf L1) x * 3) = ((keysOf L1).drop (posK (keysOf L1) x)).flatMap keyC := flat_drop kK (keysOf L1) (posK (keysOf L1) x)
                rw [f1, f2, List.flatMap_append, List.flatMap_cons, List.append_assoc]
              have e2 : ((keysOf L1).take (posK (keysOf L1) x) ++ x :: (keysOf L1).drop (posK (keysOf L1) x)).length = (keysOf L1).length + 1 := by
                have := posK_le (keysOf L1) x
                simp only [List.length_append, List.length_cons, List.length_take, List.length_drop]
                omega
              rw [e1] at h1
              exact ⟨by rw [e2]; exact h1, fun _ _ => trivial⟩
            have hIE := HXE.out.blk (HXD.out.blk (HED.out.blk (HEC.out.blk HIAb.out no_no) no_no) (fun e => HAK.out _ e rfl)) (fun e => HAT.out e)
            have hME := ((HRB.out.ext (HEC.out.transNo HED.out) no_no).ext HXD.out (fun e => HPa.out.neKM e rfl)).ext HXE.out (fun e => HPa.out.neTM (show bm1 = T from e).symm)
            obtain ⟨hT1, hT2⟩ := tab_insert (i := posK (keysOf L1) x) HPq.out HXO.out HNXq.out (fun b hb => Nat.lt_of_lt_of_le (HMM.out b hb) HXq.out.size) HAG.out hIE hEall HTE.out hKE hME hGN
            refine ⟨bm1, _, _, newP x a, rfl, Lib.hid (by simp), Lib.hid rfl, Lib.hid hT1, Lib.hid (HXq.out.trans2 hEall (fun i hi e => ?_)), Lib.hid (fun b hb => ?_), Lib.hid (hEall.blk HVBq.out (box_apart HPq.out HVBq.out (by decide) (by decide))), Lib.hid (by rw [ins_es HNXq.out, HESq.out, HESN.out])⟩
            · have h1 : POwn T bm1 vk1 L1 i := e.imp id (fun e => e.imp id .inl)
              rcases HOq.out i h1 with h2 | h2
              · exact h2
              · omega
            · rcases hT2 b hb with h1 | h1
              · exact HOq.out b h1
              · exact .inr (Nat.le_trans HXq.out.size h1)
          · have HFULL := Lib.hid hf
            have hfb : ((L.length : Int) == cap) = false := by rw [beq_eq_false_iff_ne]; exact hf
            clear hf
            go_upto_region 10 with (fail)
            refine wp_region_held_drew (S := (fun w' => Ext No w3 w')) (by kernel_rfl) ?_ (fun hHeld => ?_)
            · exact (Ext.refl _ _).drew
            refine held_take (i := 0) (v := ?_) rfl (by kernel_rfl) (by kernel_rfl) (by kernel_rfl) (fun _ _ _ h => h) rfl (fun w hSw => ?_) hHeld ?_
            rotate_left
            · go_simp; (try with_reducible rfl)
            try simp only [Act.put, List.setIfInBounds_toArray, List.set_cons_zero, List.set_cons_succ]
            refine held_take (i := 1) (v := ?_) rfl (by kernel_rfl) (by kernel_rfl) (by kernel_rfl) (fun _ _ _ h => h) rfl (fun w hSw => ?_) hHeld ?_
            rotate_left
            · go_simp; (try with_reducible rfl)
            try simp only [Act.put, List.setIfInBounds_toArray, List.set_cons_zero, List.set_cons_succ]
            refine held_take (i := 2) (v := ?_) rfl (by kernel_rfl) (by kernel_rfl) (by kernel_rfl) (fun _ _ _ h => h) rfl (fun w hSw => ?_) hHeld ?_
            rotate_left
            · go_simp; (try with_reducible rfl)
            try simp only [Act.put, List.setIfInBounds_toArray, List.set_cons_zero, List.set_cons_succ]
            refine held_take (i := 3) (v := ?_) rfl (by kernel_rfl) (by kernel_rfl) (by kernel_rfl) (fun _ _ _ h => h) rfl (fun w hSw => ?_) hHeld ?_
            rotate_left
            · (have hEs : Ext No w3 _ := hSw); (have x0 := cellOf (hEs.blk HTB3.out no_no)); go_simp; (try with_reducible rfl)
            try simp only [Act.put, List.setIfInBounds_toArray, List.set_cons_zero, List.set_cons_succ]
            refine held_take (i := 4) (v := ?_) rfl (by kernel_rfl) (by kernel_rfl) (by kernel_rfl) (fun _ _ _ h => h) rfl (fun w hSw => ?_) hHeld ?_
            rotate_left
            · go_simp; (try with_reducible rfl)
            try simp only [Act.put, List.setIfInBounds_toArray, List.set_cons_zero, List.set_cons_succ]
            refine held_take (i := 5) (v := ?_) rfl (by kernel_rfl) (by kernel_rfl) (by kernel_rfl) (fun _ _ _ h => h) rfl (fun w hSw => ?_) hHeld ?_
            rotate_left
            · go_simp; (try with_reducible rfl)
            try simp only [Act.put, List.setIfInBounds_toArray, List.set_cons_zero, List.set_cons_succ]
            refine held_take (i := 6) (v := ?_) rfl (by kernel_rfl) (by kernel_rfl) (by kernel_rfl) (fun _ _ _ h => h) rfl (fun w hSw => ?_) hHeld ?_
            rotate_left
            · go_simp; (try with_reducible rfl)
            try simp only [Act.put, List.setIfInBounds_toArray, List.set_cons_zero, List.set_cons_succ]
            refine held_take (i := 7) (v := ?_) rfl (by kernel_rfl) (by kernel_rfl) (by kernel_rfl) (fun _ _ _ h => h) rfl (fun w hSw => ?_) hHeld ?_
            rotate_left
            · go_simp; (try with_reducible rfl)
            try simp only [Act.put, List.setIfInBounds_toArray, List.set_cons_zero, List.set_cons_succ]
            refine held_take (i := 8) (v := ?_) rfl (by kernel_rfl) (by kernel_rfl) (by kernel_rfl) (fun _ _ _ h => h) rfl (fun w hSw => ?_) hHeld ?_
            rotate_left
            · (have hEs : Ext No w3 _ := hSw); (have x0 := cellOf (hEs.blk HTB3.out no_no)); go_simp; (try with_reducible rfl)
            try simp only [Act.put, List.setIfInBounds_toArray, List.set_cons_zero, List.set_cons_succ]
            refine held_take (i := 9) (v := ?_) rfl (by kernel_rfl) (by kernel_rfl) (by kernel_rfl) (fun _ _ _ h => h) rfl (fun w hSw => ?_) hHeld ?_
            rotate_left
            · go_simp; (try with_reducible rfl)
            try simp only [Act.put, List.setIfInBounds_toArray, List.set_cons_zero, List.set_cons_succ]
            refine wpAnyH_done (by kernel_rfl) ?_ _
            have hE10 : Ext No w3 w3.drew := hHeld
            clear hHeld
            generalize w3.drew = wq at *
            go_upto_region 12 with (fail)
            obtain ⟨bm1, hbm1⟩ : ∃ q, q = bm := ⟨_, rfl⟩
            obtain ⟨vk1, hvk1⟩ : ∃ q, q = vk := ⟨_, rfl⟩
            obtain ⟨L1, hL1⟩ : ∃ q, q = L := ⟨_, rfl⟩
            have HPq := Lib.hid (show PTab M wq T cap clk bm1 vk1 L1 from by rw [hbm1, hvk1, hL1]; exact HP3.out.stepNo hE10)
            have HXq := Lib.hid (show Ext (POwn T bm vk L) W wq from (HX3.out.transNo hE10).ofNo)
            have HVBq := Lib.hid (hE10.blk HVB3.out no_no)
            have HKBq := Lib.hid (hE10.blk HKB3.out no_no)
            have HESq := Lib.hid (show L1.map Prod.fst = fullE cap (L.map Prod.fst) from by rw [hL1]; unfold fullE; rw [if_neg (by rw [List.length_map]; exact HFULL.out)])
            have HOq := Lib.hid (show ∀ b, POwn T bm1 vk1 L1 b → POwn T bm vk L b ∨ W.heap.size ≤ b from fun b hb => .inl (by rw [hbm1, hvk1, hL1] at hb; exact hb))
            clear hE10 hbm1 hvk1 hL1 HP3 HVB3 HKB3 HX3 HTB3
            have HNXq := Lib.hid (show x ∉ keysOf L1 from fun h => HNX.out (by rw [← keysOf_fst] at h ⊢; rw [HESq.out] at h; exact ((fullE_sub cap _).map _).subset h))
            have HSQ := Lib.hid (show (keysOf L1).Pairwise ltK from by rw [← keysOf_fst, HESq.out]; exact (by rw [keysOf_fst]; exact HSO.out : (keysE (L.map Prod.fst)).Pairwise ltK).sublist ((fullE_sub cap _).map _))
            have hLq : (keysOf L1).length ≤ 19 := by
              have h1 := ((fullE_sub cap (L.map Prod.fst)).map (fun e : Ent => e.key)).length_le
              rw [← HESq.out] at h1
              simp only [List.length_map] at h1
              simp only [keysOf, List.length_map]
              omega
            go_upto_region 13 with (fail)
            have hxa : Ext No wq (wq.alloc (.cells #[.int .i64 0, .slice none 0 0, .int .i64 0] 71)) := (Ext.refl _ _).alloc _
            have HXA := Lib.hid hxa
            have HIAa := Lib.hid (alloc_top (w := wq) (o := .cells #[.int .i64 0, .slice none 0 0, .int .i64 0] 71) rfl)
            have HPa := Lib.hid (HPq.out.stepNo hxa)
            have HTBa := Lib.hid HPa.out.t.box
            have HKBa := Lib.hid (hxa.blk HKBq.out no_no)
            have HDUM := Lib.hid trivial
            have HAK := Lib.hid (show ∀ g, vk1.ownBlock = some g → g ≠ wq.heap.size from fun g hg e => by have := (HPq.out.t.keys.lt g hg).2; omega)
            have HAT := Lib.hid (show wq.heap.size ≠ T from fun e => by have := lt_of_block HPq.out.t.box; omega)
            clear hxa
            generalize hwa : (wq.alloc (.cells #[.int .i64 0, .slice none 0 0, .int .i64 0] 71)) = wa at *
            clear hwa
            have HAG2 : ∃ a, a = wq.heap.size := ⟨_, rfl⟩
            obtain ⟨a, ha⟩ := HAG2
            rw [← ha] at HIAa HAK HAT ⊢
            have HAG := Lib.hid (show wq.heap.size ≤ a from by omega)
            clear ha
            refine wp_region_heldL [6] (fun w' => Ext No wa w') (by kernel_rfl) ?_ (fun hHeld => ?_)
            · exact (Ext.refl _ _).drew
            have HEA := Lib.hid (show Ext No wa wa.drew from (Ext.refl _ _).drew)
            generalize wa.drew = v0 at *
            refine heldL_free (i := 0) (v := ?_) rfl (by kernel_rfl) (by kernel_rfl) (by kernel_rfl) (by kernel_rfl) (by kernel_rfl) (fun _ _ _ h => h) rfl (fun w => ?_) hHeld ?_
            rotate_left
            · go_simp; (try with_reducible rfl)
            try simp only [Act.put, List.setIfInBounds_toArray, List.set_cons_zero, List.set_cons_succ]
            replace hHeld := (ST_set (T := [6]) (i := 0) (by kernel_rfl) _ _).2 hHeld
            refine heldL_free (i := 1) (v := ?_) rfl (by kernel_rfl) (by kernel_rfl) (by kernel_rfl) (by kernel_rfl) (by kernel_rfl) (fun _ _ _ h => h) rfl (fun w => ?_) hHeld ?_
            rotate_left
            · go_simp; (try with_reducible rfl)
            try simp only [Act.put, List.setIfInBounds_toArray, List.set_cons_zero, List.set_cons_succ]
            replace hHeld := (ST_set (T := [6]) (i := 1) (by kernel_rfl) _ _).2 hHeld
            refine heldL_free (i := 2) (v := ?_) rfl (by kernel_rfl) (by kernel_rfl) (by kernel_rfl) (by kernel_rfl) (by kernel_rfl) (fun _ _ _ h => h) rfl (fun w => ?_) hHeld ?_
            rotate_left
            · go_simp; (try with_reducible rfl)
            try simp only [Act.put, List.setIfInBounds_toArray, List.set_cons_zero, List.set_cons_succ]
            replace hHeld := (ST_set (T := [6]) (i := 2) (by kernel_rfl) _ _).2 hHeld
            refine heldL_take (i := 3) (v := ?_) rfl (by kernel_rfl) (by kernel_rfl) (by kernel_rfl) (by kernel_rfl) (by kernel_rfl) (fun _ _ _ h => h) rfl (fun w hSw => ?_) hHeld ?_
            rotate_left
            · (have hEs : Ext No wa _ := hSw); (have x0 := cellOf (hEs.blk HTBa.out no_no)); go_simp; (try with_reducible rfl)
            try simp only [Act.put, List.setIfInBounds_toArray, List.set_cons_zero, List.set_cons_succ]
            replace hHeld := (ST_set (T := [6]) (i := 3) (by kernel_rfl) _ _).2 hHeld
            refine heldL_take (i := 4) (v := ?_) rfl (by kernel_rfl) (by kernel_rfl) (by kernel_rfl) (by kernel_rfl) (by kernel_rfl) (fun _ _ _ h => h) rfl (fun w hSw => ?_) hHeld ?_
            rotate_left
            · (have hEs : Ext No wa _ := hSw); (have x0 := cellOf (hEs.blk HKBa.out no_no)); go_simp; (try with_reducible rfl)
            try simp only [Act.put, List.setIfInBounds_toArray, List.set_cons_zero, List.set_cons_succ]
            replace hHeld := (ST_set (T := [6]) (i := 4) (by kernel_rfl) _ _).2 hHeld
            refine heldL_free (i := 5) (v := ?_) rfl (by kernel_rfl) (by kernel_rfl) (by kernel_rfl) (by kernel_rfl) (by kernel_rfl) (fun _ _ _ h => h) rfl (fun w => ?_) hHeld ?_
            rotate_left
            · go_simp; (try with_reducible rfl)
            try simp only [Act.put, List.setIfInBounds_toArray, List.set_cons_zero, List.set_cons_succ]
            replace hHeld := (ST_set (T := [6]) (i := 5) (by kernel_rfl) _ _).2 hHeld
            refine heldL_next1 (i := 6) (by kernel_rfl) (NextL.mk rfl rfl (fun K hK => ?_))
            ((obtain ⟨wb, hrun, hRb, hEb, hsb⟩ := (HPa.out.map.ext HEA.out no_no).store lawK undMap HKLT.out (ptrV a)); (unfold keyV ptrV at hrun); go_simp)
            refine hK.out _ _ ?_ (fun hNew => ?_)
            · exact fun h => absurd h (by decide)
            clear hK K hHeld
            have hHeld := hNew
            clear hNew
            have HEB := Lib.hid (HEA.out.ofNo.trans hEb)
            have HRB := Lib.hid hRb
            clear hRb hEb hsb hrun
            try simp only [Act.put, List.setIfInBounds_toArray, List.set_cons_zero, List.set_cons_succ]
            refine heldL_done (by kernel_rfl) ?_ _
            clear hHeld
            have HTBb := Lib.hid (HEB.out.blk HTBa.out (fun e => ne_map HTBa.out HPa.out.map e))
            have HKBb := Lib.hid (HEB.out.blk HKBa.out (fun e => ne_map HKBa.out HPa.out.map e))
            have HIAb := Lib.hid (HEB.out.blk HIAa.out (fun e => ne_map HIAa.out HPa.out.map e))
            have HKRb := Lib.hid (KOwn.ext HPa.out.t.keys HEB.out (fun b hb e => HPa.out.neKM hb e))
            go_upto_region 14 with (fail)
            refine wp_region_held_drew (S := (fun w' => Ext No wb w')) (by kernel_rfl) ?_ (fun hHeld => ?_)
            · exact (Ext.refl _ _).drew
            refine held_take (i := 0) (v := ?_) rfl (by kernel_rfl) (by kernel_rfl) (by kernel_rfl) (fun _ _ _ h => h) rfl (fun w hSw => ?_) hHeld ?_
            rotate_left
            · go_simp; (try with_reducible rfl)
            try simp only [Act.put, List.setIfInBounds_toArray, List.set_cons_zero, List.set_cons_succ]
            refine held_take (i := 1) (v := ?_) rfl (by kernel_rfl) (by kernel_rfl) (by kernel_rfl) (fun _ _ _ h => h) rfl (fun w hSw => ?_) hHeld ?_
            rotate_left
            · go_simp; (try with_reducible rfl)
            try simp only [Act.put, List.setIfInBounds_toArray, List.set_cons_zero, List.set_cons_succ]
            refine held_take (i := 2) (v := ?_) rfl (by kernel_rfl) (by kernel_rfl) (by kernel_rfl) (fun _ _ _ h => h) rfl (fun w hSw => ?_) hHeld ?_
            rotate_left
            · go_simp; (try with_reducible rfl)
            try simp only [Act.put, List.setIfInBounds_toArray, List.set_cons_zero, List.set_cons_succ]
            refine held_take (i := 3) (v := ?_) rfl (by kernel_rfl) (by kernel_rfl) (by kernel_rfl) (fun _ _ _ h => h) rfl (fun w hSw => ?_) hHeld ?_
            rotate_left
            · (have hEs : Ext No wb _ := hSw); (have x0 := cellOf (hEs.blk HTBb.out no_no)); go_simp; (try with_reducible rfl)
            try simp only [Act.put, List.setIfInBounds_toArray, List.set_cons_zero, List.set_cons_succ]
            refine held_take (i := 4) (v := ?_) rfl (by kernel_rfl) (by kernel_rfl) (by kernel_rfl) (fun _ _ _ h => h) rfl (fun w hSw => ?_) hHeld ?_
            rotate_left
            · (have hEs : Ext No wb _ := hSw); (have x0 := cellOf (hEs.blk HKBb.out no_no)); go_simp; (try with_reducible rfl)
            try simp only [Act.put, List.setIfInBounds_toArray, List.set_cons_zero, List.set_cons_succ]
            refine held_call (i := 5) rfl (by kernel_rfl) rfl (fun K hK => ?_)
            (go_simp; go_at_call 45; (refine (kbsearch_any x vk1 (keysOf L1) _ HSQ.out (KOwn.list (KOwn.ext HKRb.out (show Ext No wb _ from hHeld) no_no2) no_no2) (by omega)).mono ?_); (rintro q1 wc ⟨fb, rfl, hyA⟩); go_simp)
            refine hK.out _ _ ?_ (fun hNew => ?_)
            · exact Ext.transNo (show Ext No wb _ from hHeld) hyA
            clear hK K hHeld
            have hHeld := hNew
            clear hNew
            clear hyA
            try simp only [Act.put, List.setIfInBounds_toArray, List.set_cons_zero, List.set_cons_succ]
            refine held_take (i := 6) (v := ?_) rfl (by kernel_rfl) (by kernel_rfl) (by kernel_rfl) (fun _ _ _ h => h) rfl (fun w hSw => ?_) hHeld ?_
            rotate_left
            · go_simp; (try with_reducible rfl)
            try simp only [Act.put, List.setIfInBounds_toArray, List.set_cons_zero, List.set_cons_succ]
            refine held_take (i := 7) (v := ?_) rfl (by kernel_rfl) (by kernel_rfl) (by kernel_rfl) (fun _ _ _ h => h) rfl (fun w hSw => ?_) hHeld ?_
            rotate_left
            · go_simp; (try with_reducible rfl)
            try simp only [Act.put, List.setIfInBounds_toArray, List.set_cons_zero, List.set_cons_succ]
            refine held_take (i := 8) (v := ?_) rfl (by kernel_rfl) (by kernel_rfl) (by kernel_rfl) (fun _ _ _ h => h) rfl (fun w hSw => ?_) hHeld ?_
            rotate_left
            · go_simp; (try with_reducible rfl)
            try simp only [Act.put, List.setIfInBounds_toArray, List.set_cons_zero, List.set_cons_succ]
            refine held_take (i := 9) (v := ?_) rfl (by kernel_rfl) (by kernel_rfl) (by kernel_rfl) (fun _ _ _ h => h) rfl (fun w hSw => ?_) hHeld ?_
            rotate_left
            · go_simp; (try with_reducible rfl)
            try simp only [Act.put, List.setIfInBounds_toArray, List.set_cons_zero, List.set_cons_succ]
            refine held_take (i := 10) (v := ?_) rfl (by kernel_rfl) (by kernel_rfl) (by kernel_rfl) (fun _ _ _ h => h) rfl (fun w hSw => ?_) hHeld ?_
            rotate_left
            · go_simp; (try with_reducible rfl)
            try simp only [Act.put, List.setIfInBounds_toArray, List.set_cons_zero, List.set_cons_succ]
            refine wpAnyH_done (by kernel_rfl) ?_ _
            have HEC := Lib.hid (show Ext No wb wc from hHeld)
            clear hHeld
            have HTBc := Lib.hid (HEC.out.blk HTBb.out no_no)
            have HKBc := Lib.hid (HEC.out.blk HKBb.out no_no)
            go_upto_region 15 with (fail)
            refine wp_region_heldL [8, 11] (fun w' => Ext No wc w') (by kernel_rfl) ?_ (fun hHeld => ?_)
            · exact (Ext.refl _ _).drew
            have HEV := Lib.hid (show Ext No wc wc.drew from (Ext.refl _ _).drew)
            generalize wc.drew = v0 at *
            refine heldL_free (i := 0) (v := ?_) rfl (by kernel_rfl) (by kernel_rfl) (by kernel_rfl) (by kernel_rfl) (by kernel_rfl) (fun _ _ _ h => h) rfl (fun w => ?_) hHeld ?_
            rotate_left
            · go_simp; (try with_reducible rfl)
            try simp only [Act.put, List.setIfInBounds_toArray, List.set_cons_zero, List.set_cons_succ]
            replace hHeld := (ST_set (T := [8, 11]) (i := 0) (by kernel_rfl) _ _).2 hHeld
            refine heldL_free (i := 1) (v := ?_) rfl (by kernel_rfl) (by kernel_rfl) (by kernel_rfl) (by kernel_rfl) (by kernel_rfl) (fun _ _ _ h => h) rfl (fun w => ?_) hHeld ?_
            rotate_left
            · go_simp; (try with_reducible rfl)
            try simp only [Act.put, List.setIfInBounds_toArray, List.set_cons_zero, List.set_cons_succ]
            replace hHeld := (ST_set (T := [8, 11]) (i := 1) (by kernel_rfl) _ _).2 hHeld
            refine heldL_free (i := 2) (v := ?_) rfl (by kernel_rfl) (by kernel_rfl) (by kernel_rfl) (by kernel_rfl) (by kernel_rfl) (fun _ _ _ h => h) rfl (fun w => ?_) hHeld ?_
            rotate_left
            · go_simp; (try with_reducible rfl)
            try simp only [Act.put, List.setIfInBounds_toArray, List.set_cons_zero, List.set_cons_succ]
            replace hHeld := (ST_set (T := [8, 11]) (i := 2) (by kernel_rfl) _ _).2 hHeld
            refine heldL_free (i := 3) (v := ?_) rfl (by kernel_rfl) (by kernel_rfl) (by kernel_rfl) (by kernel_rfl) (by kernel_rfl) (fun _ _ _ h => h) rfl (fun w => ?_) hHeld ?_
            rotate_left
            · go_simp; (try with_reducible rfl)
            try simp only [Act.put, List.setIfInBounds_toArray, List.set_cons_zero, List.set_cons_succ]
            replace hHeld := (ST_set (T := [8, 11]) (i := 3) (by kernel_rfl) _ _).2 hHeld
            refine heldL_take (i := 4) (v := ?_) rfl (by kernel_rfl) (by kernel_rfl) (by kernel_rfl) (by kernel_rfl) (by kernel_rfl) (fun _ _ _ h => h) rfl (fun w hSw => ?_) hHeld ?_
            rotate_left
            · (have hEs : Ext No wc _ := hSw); (have x0 := cellOf (hEs.blk HTBc.out no_no)); go_simp; (try with_reducible rfl)
            try simp only [Act.put, List.setIfInBounds_toArray, List.set_cons_zero, List.set_cons_succ]
            replace hHeld := (ST_set (T := [8, 11]) (i := 4) (by kernel_rfl) _ _).2 hHeld
            refine heldL_free (i := 5) (v := ?_) rfl (by kernel_rfl) (by kernel_rfl) (by kernel_rfl) (by kernel_rfl) (by kernel_rfl) (fun _ _ _ h => h) rfl (fun w => ?_) hHeld ?_
            rotate_left
            · go_simp; (try with_reducible rfl)
            try simp only [Act.put, List.setIfInBounds_toArray, List.set_cons_zero, List.set_cons_succ]
            replace hHeld := (ST_set (T := [8, 11]) (i := 5) (by kernel_rfl) _ _).2 hHeld
            refine heldL_take (i := 6) (v := ?_) rfl (by kernel_rfl) (by kernel_rfl) (by kernel_rfl) (by kernel_rfl) (by kernel_rfl) (fun _ _ _ h => h) rfl (fun w hSw => ?_) hHeld ?_
            rotate_left
            · (have hEs : Ext No wc _ := hSw); (have x0 := cellOf (hEs.blk HKBc.out no_no)); go_simp; (try with_reducible rfl)
            try simp only [Act.put, List.setIfInBounds_toArray, List.set_cons_zero, List.set_cons_succ]
            replace hHeld := (ST_set (T := [8, 11]) (i := 6) (by kernel_rfl) _ _).2 hHeld
            refine heldL_next1 (i := 7) (by kernel_rfl) (NextL.mk rfl rfl (fun K hK => ?_))
            go_simp
            refine hK.out _ _ ?_ (fun hNew => ?_)
            · intro _; exact (HEV.out.transNo ((Ext.refl No v0).alloc _))
            clear hK K hHeld
            have hHeld := hNew
            clear hNew
            have HSB := Lib.hid (alloc_top (w := v0) (o := .cells #[.int .i64 x.1, .int .i64 x.2.1, .int .i64 x.2.2] 68) rfl)
            have HED := Lib.hid (HEV.out.transNo ((Ext.refl No v0).alloc (.cells #[.int .i64 x.1, .int .i64 x.2.1, .int .i64 x.2.2] 68)))
            have HSG := Lib.hid (show wc.heap.size ≤ v0.heap.size from HEV.out.size)
            generalize (v0.alloc (.cells #[.int .i64 x.1, .int .i64 x.2.1, .int .i64 x.2.2] 68)) = v1 at *
            generalize v0.heap.size = sb at *
            try simp only [Act.put, List.setIfInBounds_toArray, List.set_cons_zero, List.set_cons_succ]
            refine heldL_next1 (i := 8) (by kernel_rfl) (NextL.mk rfl rfl (fun K hK => ?_))
            (go_simp; go_at_call 47; (refine (kinsert_any 0 (keysOf L1).length (posK (keysOf L1) x) sb vk1 ((keysOf L1).flatMap keyC) (keyC x) _ (KOwn.ext HKRb.out (HEC.out.transNo HED.out) no_no2).own (Nat.zero_le _) (posK_le _ _) (by omega) (keys_one _) HSB.out rfl (fun u hu => keys_one [x] u (by simpa using hu)) (fun e => by have h1 := (HKRb.out.lt _ e).2; have h2 := HEC.out.size; have h3 := HSG.out; omega)).mono ?_); (rintro q2 wd ⟨gg, cc, rfl, hOW2, hXD, hOG⟩); go_simp)
            refine hK.out _ _ ?_ (fun hNew => ?_)
            · exact fun h => absurd h (by decide)
            clear hK K hHeld
            have hHeld := hNew
            clear hNew
            have HRO := Lib.hid hOW2.out
            have HXD := Lib.hid hXD.out
            have HOG := Lib.hid hOG
            clear hOW2 hXD hOG
            have HTBd := Lib.hid (HXD.out.blk (HED.out.blk HTBc.out no_no) (fun e => HPa.out.t.neTK e rfl))
            try simp only [Act.put, List.setIfInBounds_toArray, List.set_cons_zero, List.set_cons_succ]
            refine heldL_free (i := 9) (v := ?_) rfl (by kernel_rfl) (by kernel_rfl) (by kernel_rfl) (by kernel_rfl) (by kernel_rfl) (fun _ _ _ h => h) rfl (fun w => ?_) hHeld ?_
            rotate_left
            · go_simp; (try with_reducible rfl)
            try simp only [Act.put, List.setIfInBounds_toArray, List.set_cons_zero, List.set_cons_succ]
            replace hHeld := (ST_set (T := [8, 11]) (i := 9) (by kernel_rfl) _ _).2 hHeld
            refine heldL_free (i := 10) (v := ?_) rfl (by kernel_rfl) (by kernel_rfl) (by kernel_rfl) (by kernel_rfl) (by kernel_rfl) (fun _ _ _ h => h) rfl (fun w => ?_) hHeld ?_
            rotate_left
            · go_simp; (try with_reducible rfl)
            try simp only [Act.put, List.setIfInBounds_toArray, List.set_cons_zero, List.set_cons_succ]
            replace hHeld := (ST_set (T := [8, 11]) (i := 10) (by kernel_rfl) _ _).2 hHeld
            refine heldL_next1 (i := 11) (by kernel_rfl) (NextL.mk rfl rfl (fun K hK => ?_))
            ((have cS := cellOf HTBd.out); (have fS := freeOf HTBd.out); go_simp; (clear cS fS))
            refine hK.out _ _ ?_ (fun hNew => ?_)
            · exact fun h => absurd h (by decide)
            clear hK K hHeld
            have hHeld := hNew
            clear hNew
            try simp only [Act.put, List.setIfInBounds_toArray, List.set_cons_zero, List.set_cons_succ]
            refine heldL_done (by kernel_rfl) ?_ _
            clear hHeld
            have HXE := Lib.hid ((Ext.refl (At T) wd).setAt 3 (.slice (some ⟨gg, 0, none⟩) ((keysOf L1).length + 1) cc))
            have HTE := Lib.hid ((set_same (j := 3) (u := .slice (some ⟨gg, 0, none⟩) ((keysOf L1).length + 1) cc) HTBd.out).trans rfl)
            go_wp2_with fail
            go_meet
            generalize (wd.setCell ⟨T, 3, none⟩ (.slice (some ⟨gg, 0, none⟩) ((keysOf L1).length + 1) cc)) = we at *
            have hEall : Ext (fun b => b = T ∨ b = bm1 ∨ vk1.ownBlock = some b) wq we := (((HXA.out.ofNo.trans (HEB.out.mono (fun i _ e => .inr (.inl e)))).trans ((HEC.out.transNo HED.out).ofNo)).trans (HXD.out.mono (fun i _ e => .inr (.inr e)))).trans (HXE.out.mono (fun i _ e => .inl e))
            have hGN : ∀ g, (Value.slice (some ⟨gg, 0, none⟩) ((keysOf L1).length + 1) cc).ownBlock = some g → vk1.ownBlock = some g ∨ wq.heap.size ≤ g := fun g hg => by
              have e : gg = g := Option.some.inj hg
              subst e
              rcases HOG.out with h1 | h1
              · exact .inl h1
              · have h2 := HXA.out.size; have h3 := HEB.out.size; have h4 := HEC.out.size; have h5 := HED.out.size; exact .inr (by omega)
            have hKE : LOwn kK No we 0 (.slice (some ⟨gg, 0, none⟩) ((keysOf L1).length + 1) cc) ((keysOf L1).take (posK (keysOf L1) x) ++ x :: (keysOf L1).drop (posK (keysOf L1) x)) := by
              have h1 := row_keep2 HRO.out HXE.out (fun g hg e => by
                have e1 : gg = g := Option.some.inj hg
                have e2 : g = T := e
                rcases HOG.out with h1 | h1
                · exact HPa.out.t.neTK h1 (by omega)
                · have h2 := lt_of_block HTBa.out; have h3 := HEB.out.size; have h4 := HEC.out.size; have h5 := HED.out.size; omega)
              have e1 : ((keysOf L1).flatMap keyC).take (posK (keysOf L1) x * 3) ++ keyC x ++ ((keysOf L1).flatMap keyC).drop (posK (keysOf L1) x * 3) = ((keysOf L1).take (posK (keysOf L1) x) ++ x :: (keysOf L1).drop (posK (keysOf L1) x)).flatMap keyC := by
                have f1 : ((keysOf L1).flatMap keyC).take (posK (keysOf L1) x * 3) = ((keysOf L1).take (posK (keysOf L1) x)).flatMap keyC := flat_take kK (keysOf L1) (posK (keysOf L1) x)
                have f2 : ((keysOf L1).flatMap keyC).drop (posK (keysOf L1) x * 3) = ((keysOf L1).drop (posK (keysOf L1) x)).flatMap keyC := flat_drop kK (keysOf L1) (posK (keysOf L1) x)
                rw [f1, f2, List.flatMap_append, List.flatMap_cons, List.append_assoc]
              have e2 : ((keysOf L1).take (posK (keysOf L1) x) ++ x :: (keysOf L1).drop (posK (keysOf L1) x)).length = (keysOf L1).length + 1 := by
                have := posK_le (keysOf L1) x
                simp only [List.length_append, List.length_cons, List.length_take, List.length_drop]
                omega
              rw [e1] at h1
              exact ⟨by rw [e2]; exact h1, fun _ _ => trivial⟩
            have hIE := HXE.out.blk (HXD.out.blk (HED.out.blk (HEC.out.blk HIAb.out no_no) no_no) (fun e => HAK.out _ e rfl)) (fun e => HAT.out e)
            have hME := ((HRB.out.ext (HEC.out.transNo HED.out) no_no).ext HXD.out (fun e => HPa.out.neKM e rfl)).ext HXE.out (fun e => HPa.out.neTM (show bm1 = T from e).symm)
            obtain ⟨hT1, hT2⟩ := tab_insert (i := posK (keysOf L1) x) HPq.out HXO.out HNXq.out (fun b hb => Nat.lt_of_lt_of_le (HMM.out b hb) HXq.out.size) HAG.out hIE hEall HTE.out hKE hME hGN
            refine ⟨bm1, _, _, newP x a, rfl, Lib.hid (by simp), Lib.hid rfl, Lib.hid hT1, Lib.hid (HXq.out.trans2 hEall (fun i hi e => ?_)), Lib.hid (fun b hb => ?_), Lib.hid (hEall.blk HVBq.out (box_apart HPq.out HVBq.out (by decide) (by decide))), Lib.hid (by rw [ins_es HNXq.out, HESq.out, HESN.out])⟩
            · have h1 : POwn T bm1 vk1 L1 i := e.imp id (fun e => e.imp id .inl)
              rcases HOq.out i h1 with h2 | h2
              · exact h2
              · omega
            · rcases hT2 b hb with h1 | h1
              · exact HOq.out b h1
              · exact .inr (Nat.le_trans HXq.out.size h1)
      case rest =>
      clear hc12 HP3 HVB3 HKB3 HX3 HWV3
      obtain ⟨bm1, vk1, L1, e9, rfl, he9, hk9, hP9, hX9, hO9, hV9, hE9⟩ := hcut
      rename World => w9
      have hl4 := valid_len hv
      have cV := cellOf hV9.out
      unfold ptrV
      apply_assumption
      go_wp2_with fail
      refine (mclone_any s _ w9 (HWS.out w9 hX9.out) (by omega)).mono ?_
      rintro e10 w10 ⟨a2, c2, rfl, hw2, hx10⟩
      have hP10 := hP9.out.stepNo hx10
      have hI := hP10.t.it e9 he9.out
      unfold itemC at hI
      have hE11 := ext_two (u0 := .int .i64 s.width) (u1 := .slice a2 s.words.length c2) (Ext.refl No w10) e9.2.1
      have hI11 := (set_same (j := 1) (u := .slice a2 s.words.length c2) (set_same (j := 0) (u := .int .i64 s.width) hI)).trans rfl
      have hw3 : WordsAt (fun b => M b ∨ POwn T bm1 vk1 L1 b) w10 (.slice a2 s.words.length c2) s.words := hw2.out.mono (fun i hi e => by
        unfold Lo
        rcases e with e | e
        · have := HMM.out i e; have := hX9.out.size; omega
        · exact hP9.out.ownLt e)
      have hP11 := Lib.hid (hP10.setI he9.out hE11 (s' := s) (t' := e9.1.t) (sl' := .slice a2 s.words.length c2) hI11 hw3)
      have hX11 := Lib.hid ((hX9.out.transNo hx10).trans2 hE11 (fun i hi e => (hO9.out i (.inr (.inr (.inr ⟨e9, he9.out, (show i = _ from e).symm⟩)))).elim id (fun h => by omega)))
      have cI := cellOf hI
      have fI := freeOf hI
      clear hP10 hI hI11 hw3 hw2 cV
      go_wp2_with fail
      clear cI fI
      generalize ((w10.setCell ⟨e9.2.1, 0, none⟩ (.int .i64 s.width)).setCell ⟨e9.2.1, 1, none⟩ (.slice a2 s.words.length c2)) = w11 at *
      have hm11 : ((⟨x, s, e9.1.t⟩, e9.2.1, .slice a2 s.words.length c2) : PE) ∈ updL e9.1.key s e9.1.t (.slice a2 s.words.length c2) L1 := List.mem_map.2 ⟨e9, he9.out, by rw [if_pos rfl, hk9.out]⟩
      refine (muse_any hP11.out hm11).mono ?_
      rintro e12 w12 ⟨rfl, hP12, hX12, hS12⟩
      go_wp2_with fail
      go_ret
      refine ⟨bm1, vk1, _, rfl, hP12, Lib.hid ?_, hX11.out.trans2 hX12 (fun i hi e => ?_), Lib.hid (fun b hb => hO9.out b ((updL_own _ _ _ _ b).1 ((updL_own _ _ _ _ b).1 hb)))⟩
      · rw [updL_fst, updL_fst, hk9.out, putL_twice]
        exact hE9.out
      · rcases e with e | e
        · exact (hO9.out i (.inl e)).elim id (fun h => by omega)
        · exact (hO9.out i (.inr (.inr (.inr ⟨e9, he9.out, e.symm⟩)))).elim id (fun h => by omega)
end Go.Proofs.Ytfejidihocoboaa

/- bitset: merge, Diff, Union. -/
import Derived.Test.YtgakojgkkdmabaaSet6
namespace Go.Proofs.Ytgakojgkkdmabaa
open Go Go.RowKit

def orN (a b : Nat) : Nat := a ||| b
theorem wordN_orN (a b i : Nat) : wordN (orN a b) i = orN (wordN a i) (wordN b i) := wordN_or a b i
theorem orN_lt' {a b w : Nat} (h : a < 2 ^ w) (h2 : b < 2 ^ w) : orN a b < 2 ^ w := Nat.or_lt_two_pow h h2
set_option maxRecDepth 100000 in
set_option maxHeartbeats 2000000 in
theorem merge_diff (M : Nat → Prop)
    (w m k : Nat) (s1 s2 : Value) (W : World) (hM : ∀ b, M b → b < W.heap.size) (h1 : SetAt No W s1 w m) (h2 : SetAt No W s2 w k) :
    Calls Try.prog 34 #[.agg #[.int .i64 (w : Int), s1], .agg #[.int .i64 (w : Int), s2], .func (.func 35) #[] #[]] W (SetEPost M w ((diffN m k)) W) := by
  have H1 := Lib.hid h1
  have H2 := Lib.hid h2
  obtain ⟨a1, c1, rfl⟩ := h1.slice
  obtain ⟨a2, c2, rfl⟩ := h2.slice
  have hv1 := validB_set h1.hw h1.hm
  have hv2 := validB_set h2.hw h2.hm
  have hw := h1.hw
  have hm2 := Lib.hid (diffN_lt (b := k) h1.hm)
  have HM := Lib.hid hM
  clear h1 h2 hM
  go_enter Try.func34, Try.ntmps34
  go_wp2_with fail
  refine (valid_any _ (setN w m) _ (H1.out.raw.extNo ((((Ext.refl _ _).alloc _).alloc _).alloc _))).mono ?_
  rintro e1 w1 ⟨rfl, hx1⟩
  rw [hv1]
  have hA := hx1.blk (alloc_under (alloc_under (alloc_top (w := W) rfl))) no_no
  have hB := hx1.blk (n := W.heap.size + 1) (alloc_under (alloc_top (by simp))) no_no
  have hC := hx1.blk (n := W.heap.size + 2) (alloc_top (by simp)) no_no
  have hxa : Ext No W w1 := ((((Ext.refl _ _).alloc _).alloc _).alloc _).transNo hx1
  have cB := cellOf hB
  clear hx1
  go_wp2_with fail
  refine (valid_any _ (setN w k) _ (H2.out.raw.extNo hxa)).mono ?_
  rintro e2 w2 ⟨rfl, hx2⟩
  rw [hv2]
  replace hA := hx2.blk hA no_no
  replace hB := hx2.blk hB no_no
  replace hC := hx2.blk hC no_no
  replace hxa := hxa.transNo hx2
  clear hx2 cB
  have cA := cellOf hA
  have cB := cellOf hB
  have hszC := lt_of_block hC
  have hltA : W.heap.size < w2.heap.size := by omega
  have hltB : W.heap.size + 1 < w2.heap.size := by omega
  have hmk := mk_words (nw w) (by unfold nw; omega)
  go_wp2_with fail
  go_cut [8] (fun s8 wx => ∃ D g, s8 = .pointer (some ⟨D, 0, none⟩) ∧ MergeMem W (diffN) w m k D g 0 (.slice a1 (nw w) c1) (.slice a2 (nw w) c2) wx)
  case first =>
    go_region
    all_goals
      go_wp2_with fail
      go_meet
      first
      | exact MergeMem.mk1 (diffN) m k hxa hA hB hC hw
      | exact MergeMem.mk2 (diffN) m k hxa hA hB hC hw
  case rest =>
    obtain ⟨D, g, rfl, hm⟩ := hcut
    clear hA hB hC hxa cA cB hszC hltA hltB hmk
    have HMM := Lib.hid hm
    have cD := cellOf hm.boxD
    clear hm
    go_wp2_with fail
    go_loopw [37] (fun i wr => ∃ j : Nat, j ≤ nw w ∧ i = .int .i64 j ∧ Hid (MergeMem W (diffN) w m k D g j (.slice a1 (nw w) c1) (.slice a2 (nw w) c2) wr)) (fun i _ => nw w - (intOf i).toNat)
    case atStart => exact ⟨0, Nat.zero_le _, rfl, HMM⟩
    case round =>
      clear HMM cD
      obtain ⟨j, hj, rfl, hm⟩ := hrel
      have cA := cellOf hm.out.boxA
      have cB := cellOf hm.out.boxB
      have cD := cellOf hm.out.boxD
      by_cases hlt : j < nw w
      · obtain ⟨b1, o1, p1, hsl, _, _, hc1⟩ := H1.out.at (by omega)
        simp only [Value.slice.injEq] at hsl
        obtain ⟨rfl, _, rfl⟩ := hsl
        obtain ⟨b2, o2, p2, hsl, _, _, hc2⟩ := H2.out.at (by omega)
        simp only [Value.slice.injEq] at hsl
        obtain ⟨rfl, _, rfl⟩ := hsl
        have hx1 := hm.out.ext.keep (hc1 j hlt)
        have hx2 := hm.out.ext.keep (hc2 j hlt)
        have hf := hm.out.free j
        have hcg := hm.out.cellG hlt
        have HS := Lib.hid (hm.out.store hlt (diffN_lt (wordN_lt m j)))
        clear hc1 hc2
        have hnw : nw w ≤ 5 := by unfold nw; omega
        have hj0 : (0 : Int) ≤ (j : Int) := by omega
        have hj1 : (j : Int) < (nw w : Int) := by omega
        go_wp2_with fail
        go_still_tail 16, (by kernel_rfl)
        still_call ((diff1_any _ _ (wordN_lt m j) (wordN_lt k j) _).mono (fun _ _ h => ⟨h.1, h.2.symm⟩))
        repeat still_step
        try refine wpStill_nil ?_
        obtain ⟨ug, hug⟩ := hcg
        go_wp2_with fail
        go_roundw
        case rel => exact ⟨j + 1, by omega, by go_num, Lib.hid (HS.out.drewN _)⟩
        case measure => simp [intOf]; omega
      · obtain rfl : j = nw w := by omega
        have cC := cellOf hm.out.boxC
        have fC := freeOf hm.out.boxC
        have ho := hm.out.own
        rw [partW_all wordN_diff] at ho
        have HO := Lib.hid ho
        clear ho
        go_wp2_with fail
        refine ret_ex rfl ?_
        simp [results, Try.results34, go_sem, cC]
        refine ⟨_, _, rfl, Lib.hid (HO.out.fin (W0 := W) (by omega) HM.out ?_ hw hm2.out), ?_⟩
        · exact ((Ext.refl (Lo (W.heap.size + 3)) _).setCell (p := ⟨W.heap.size + 2, 0, none⟩) (fun _ => Nat.lt_succ_self _) _).setCell (p := ⟨W.heap.size + 2, 1, none⟩) (fun _ => Nat.lt_succ_self _) _
        · exact ext2 hm.out.ext (by omega)
set_option maxRecDepth 100000 in
set_option maxHeartbeats 2000000 in
theorem merge_union (M : Nat → Prop)
    (w m k : Nat) (s1 s2 : Value) (W : World) (hM : ∀ b, M b → b < W.heap.size) (h1 : SetAt No W s1 w m) (h2 : SetAt No W s2 w k) :
    Calls Try.prog 34 #[.agg #[.int .i64 (w : Int), s1], .agg #[.int .i64 (w : Int), s2], .func (.func 36) #[] #[]] W (SetEPost M w ((orN m k)) W) := by
  have H1 := Lib.hid h1
  have H2 := Lib.hid h2
  obtain ⟨a1, c1, rfl⟩ := h1.slice
  obtain ⟨a2, c2, rfl⟩ := h2.slice
  have hv1 := validB_set h1.hw h1.hm
  have hv2 := validB_set h2.hw h2.hm
  have hw := h1.hw
  have hm2 := Lib.hid (orN_lt' h1.hm h2.hm)
  have HM := Lib.hid hM
  clear h1 h2 hM
  go_enter Try.func34, Try.ntmps34
  go_wp2_with fail
  refine (valid_any _ (setN w m) _ (H1.out.raw.extNo ((((Ext.refl _ _).alloc _).alloc _).alloc _))).mono ?_
  rintro e1 w1 ⟨rfl, hx1⟩
  rw [hv1]
  have hA := hx1.blk (alloc_under (alloc_under (alloc_top (w := W) rfl))) no_no
  have hB := hx1.blk (n := W.heap.size + 1) (alloc_under (alloc_top (by simp))) no_no
  have hC := hx1.blk (n := W.heap.size + 2) (alloc_top (by simp)) no_no
  have hxa : Ext No W w1 := ((((Ext.refl _ _).alloc _).alloc _).alloc _).transNo hx1
  have cB := cellOf hB
  clear hx1
  go_wp2_with fail
  refine (valid_any _ (setN w k) _ (H2.out.raw.extNo hxa)).mono ?_
  rintro e2 w2 ⟨rfl, hx2⟩
  rw [hv2]
  replace hA := hx2.blk hA no_no
  replace hB := hx2.blk hB no_no
  replace hC := hx2.blk hC no_no
  replace hxa := hxa.transNo hx2
  clear hx2 cB
  have cA := cellOf hA
  have cB := cellOf hB
  have hszC := lt_of_block hC
  have hltA : W.heap.size < w2.heap.size := by omega
  have hltB : W.heap.size + 1 < w2.heap.size := by omega
  have hmk := mk_words (nw w) (by unfold nw; omega)
  go_wp2_with fail
  go_cut [8] (fun s8 wx => ∃ D g, s8 = .pointer (some ⟨D, 0, none⟩) ∧ MergeMem W (orN) w m k D g 0 (.slice a1 (nw w) c1) (.slice a2 (nw w) c2) wx)
  case first =>
    go_region
    all_goals
      go_wp2_with fail
      go_meet
      first
      | exact MergeMem.mk1 (orN) m k hxa hA hB hC hw
      | exact MergeMem.mk2 (orN) m k hxa hA hB hC hw
  case rest =>
    obtain ⟨D, g, rfl, hm⟩ := hcut
    clear hA hB hC hxa cA cB hszC hltA hltB hmk
    have HMM := Lib.hid hm
    have cD := cellOf hm.boxD
    clear hm
    go_wp2_with fail
    go_loopw [37] (fun i wr => ∃ j : Nat, j ≤ nw w ∧ i = .int .i64 j ∧ Hid (MergeMem W (orN) w m k D g j (.slice a1 (nw w) c1) (.slice a2 (nw w) c2) wr)) (fun i _ => nw w - (intOf i).toNat)
    case atStart => exact ⟨0, Nat.zero_le _, rfl, HMM⟩
    case round =>
      clear HMM cD
      obtain ⟨j, hj, rfl, hm⟩ := hrel
      have cA := cellOf hm.out.boxA
      have cB := cellOf hm.out.boxB
      have cD := cellOf hm.out.boxD
      by_cases hlt : j < nw w
      · obtain ⟨b1, o1, p1, hsl, _, _, hc1⟩ := H1.out.at (by omega)
        simp only [Value.slice.injEq] at hsl
        obtain ⟨rfl, _, rfl⟩ := hsl
        obtain ⟨b2, o2, p2, hsl, _, _, hc2⟩ := H2.out.at (by omega)
        simp only [Value.slice.injEq] at hsl
        obtain ⟨rfl, _, rfl⟩ := hsl
        have hx1 := hm.out.ext.keep (hc1 j hlt)
        have hx2 := hm.out.ext.keep (hc2 j hlt)
        have hf := hm.out.free j
        have hcg := hm.out.cellG hlt
        have HS := Lib.hid (hm.out.store hlt (orN_lt' (wordN_lt m j) (wordN_lt k j)))
        clear hc1 hc2
        have hnw : nw w ≤ 5 := by unfold nw; omega
        have hj0 : (0 : Int) ≤ (j : Int) := by omega
        have hj1 : (j : Int) < (nw w : Int) := by omega
        go_wp2_with fail
        go_still_tail 16, (by kernel_rfl)
        still_call ((union1_any _ _ (wordN_lt m j) (wordN_lt k j) _).mono (fun _ _ h => ⟨h.1, h.2.symm⟩))
        repeat still_step
        try refine wpStill_nil ?_
        obtain ⟨ug, hug⟩ := hcg
        go_wp2_with fail
        go_roundw
        case rel => exact ⟨j + 1, by omega, by go_num, Lib.hid (HS.out.drewN _)⟩
        case measure => simp [intOf]; omega
      · obtain rfl : j = nw w := by omega
        have cC := cellOf hm.out.boxC
        have fC := freeOf hm.out.boxC
        have ho := hm.out.own
        rw [partW_all wordN_orN] at ho
        have HO := Lib.hid ho
        clear ho
        go_wp2_with fail
        refine ret_ex rfl ?_
        simp [results, Try.results34, go_sem, cC]
        refine ⟨_, _, rfl, Lib.hid (HO.out.fin (W0 := W) (by omega) HM.out ?_ hw hm2.out), ?_⟩
        · exact ((Ext.refl (Lo (W.heap.size + 3)) _).setCell (p := ⟨W.heap.size + 2, 0, none⟩) (fun _ => Nat.lt_succ_self _) _).setCell (p := ⟨W.heap.size + 2, 1, none⟩) (fun _ => Nat.lt_succ_self _) _
        · exact ext2 hm.out.ext (by omega)

set_option maxRecDepth 100000 in
set_option maxHeartbeats 1000000 in
theorem diff_any (M : Nat → Prop) (w m k : Nat) (s1 s2 : Value) (W : World) (hM : ∀ b, M b → b < W.heap.size) (h1 : SetAt No W s1 w m) (h2 : SetAt No W s2 w k) :
    Calls Try.prog 28 #[.agg #[.int .i64 (w : Int), s1], .agg #[.int .i64 (w : Int), s2]] W (SetEPost M w (diffN m k) W) := by
  have H1 := Lib.hid h1
  have H2 := Lib.hid h2
  obtain ⟨a1, c1, rfl⟩ := h1.slice
  obtain ⟨a2, c2, rfl⟩ := h2.slice
  clear h1 h2
  go_enter Try.func28, Try.ntmps28
  go_wp2_with fail
  have hx0 : Ext No W (((W.alloc (.cells #[.int .i64 (w : Int), .slice a1 (nw w) c1] 28)).alloc (.cells #[.int .i64 (w : Int), .slice a2 (nw w) c2] 28)).alloc (.cells #[.int .i64 0, .slice none 0 0] 28)) := (((Ext.refl _ _).alloc _).alloc _).alloc _
  refine (merge_diff (fun b => M b ∨ b = W.heap.size + 2) w m k _ _ _ (fun b hb => ?_) (H1.out.extNo hx0) (H2.out.extNo hx0)).mono ?_
  · simp
    rcases hb with hb | hb
    · have := hM b hb; omega
    · omega
  rintro e1 w1 ⟨a3, c3, rfl, hs3, hx1⟩
  have hC := hx1.blk (n := W.heap.size + 2) (alloc_top (by simp)) no_no
  have hxa : Ext No W w1 := hx0.transNo hx1
  have cC := cellOf hC
  have fC := freeOf hC
  clear hx1 hx0
  go_wp2_with fail
  refine ret_ex rfl ?_
  simp [results, Try.results28, go_sem, cC]
  exact ⟨_, _, rfl, Lib.hid ((hs3.out.ext (ext_two hxa (W.heap.size + 2)) (fun i _ e => .inr e)).mono (fun i _ e => .inl e)), ext2 hxa (by omega)⟩

set_option maxRecDepth 100000 in
set_option maxHeartbeats 1000000 in
theorem union_any (M : Nat → Prop) (w m k : Nat) (s1 s2 : Value) (W : World) (hM : ∀ b, M b → b < W.heap.size) (h1 : SetAt No W s1 w m) (h2 : SetAt No W s2 w k) :
    Calls Try.prog 29 #[.agg #[.int .i64 (w : Int), s1], .agg #[.int .i64 (w : Int), s2]] W (SetEPost M w (orN m k) W) := by
  have H1 := Lib.hid h1
  have H2 := Lib.hid h2
  obtain ⟨a1, c1, rfl⟩ := h1.slice
  obtain ⟨a2, c2, rfl⟩ := h2.slice
  clear h1 h2
  go_enter Try.func29, Try.ntmps29
  go_wp2_with fail
  have hx0 : Ext No W (((W.alloc (.cells #[.int .i64 (w : Int), .slice a1 (nw w) c1] 28)).alloc (.cells #[.int .i64 (w : Int), .slice a2 (nw w) c2] 28)).alloc (.cells #[.int .i64 0, .slice none 0 0] 28)) := (((Ext.refl _ _).alloc _).alloc _).alloc _
  refine (merge_union (fun b => M b ∨ b = W.heap.size + 2) w m k _ _ _ (fun b hb => ?_) (H1.out.extNo hx0) (H2.out.extNo hx0)).mono ?_
  · simp
    rcases hb with hb | hb
    · have := hM b hb; omega
    · omega
  rintro e1 w1 ⟨a3, c3, rfl, hs3, hx1⟩
  have hC := hx1.blk (n := W.heap.size + 2) (alloc_top (by simp)) no_no
  have hxa : Ext No W w1 := hx0.transNo hx1
  have cC := cellOf hC
  have fC := freeOf hC
  clear hx1 hx0
  go_wp2_with fail
  refine ret_ex rfl ?_
  simp [results, Try.results29, go_sem, cC]
  exact ⟨_, _, rfl, Lib.hid ((hs3.out.ext (ext_two hxa (W.heap.size + 2)) (fun i _ e => .inr e)).mono (fun i _ e => .inl e)), ext2 hxa (by omega)⟩
end Go.Proofs.Ytgakojgkkdmabaa

/- Binary search of a key. -/
import Derived.Test.YtfejidihocoboaaN17
set_option linter.unusedVariables false
set_option linter.unusedSimpArgs false
namespace Go.Proofs.Ytfejidihocoboaa
open Go Go.RowKit
open Go.Maps (Keyed)
def posK (K : List Key3) (x : Key3) : Nat := (K.takeWhile (fun y => decide (ltK y x))).length
theorem posK_le (K : List Key3) (x : Key3) : posK K x ≤ K.length := (List.takeWhile_sublist _).length_le
theorem posK_iff : ∀ {K : List Key3} {x : Key3}, K.Pairwise ltK → ∀ {k : Nat} (hk : k < K.length), ltK K[k] x ↔ k < posK K x
  | a :: K, x, h, k, hk => by
    obtain ⟨h1, h2⟩ := List.pairwise_cons.1 h
    unfold posK
    rw [List.takeWhile_cons]
    by_cases ha : ltK a x
    · rw [if_pos (decide_eq_true ha), List.length_cons]
      cases k with
      | zero => exact ⟨fun _ => by omega, fun _ => ha⟩
      | succ k =>
        have ih := posK_iff (x := x) h2 (k := k) (by simpa using hk)
        unfold posK at ih
        rw [List.getElem_cons_succ, ih]
        omega
    · rw [if_neg (by rw [decide_eq_false ha]; decide), List.length_nil]
      refine ⟨fun h3 => absurd ?_ ha, fun h3 => by omega⟩
      cases k with
      | zero => exact h3
      | succ k => exact ltK_trans (h1 _ (List.getElem_mem (by simpa using hk))) h3
def BsPostK (K : List Key3) (x : Key3) (W : World) (e : Ending) (w' : World) : Prop := ∃ b : Bool, e = .returned (.tuple #[.int .i64 (posK K x : Int), .bool b]) ∧ Ext No W w'
set_option maxRecDepth 100000 in
set_option maxHeartbeats 4000000 in
theorem kbsearch_any (x : Key3) (sl : Value) (K : List Key3) (W : World) (hasc : K.Pairwise ltK) (h : LAt kK No W sl K) (hl : K.length ≤ 1024) :
    Calls Try.prog 45 #[sl, keyV x, .func (.func 46) #[] #[]] W (BsPostK K x W) := by
  have HA := Lib.hid hasc
  obtain ⟨a, cap, rfl⟩ := h.slice
  have hpos := posK_le K x
  obtain ⟨N, hN⟩ : ∃ N, N = K.length := ⟨_, rfl⟩
  have hx0 : Ext No W (W.alloc (.cells #[.int .i64 x.1, .int .i64 x.2.1, .int .i64 x.2.2] 68)) := (Ext.refl _ _).alloc _
  have H := Lib.hid (h.extNo hx0)
  have HX := Lib.hid hx0
  have HB := Lib.hid (alloc_top (w := W) (o := .cells #[.int .i64 x.1, .int .i64 x.2.1, .int .i64 x.2.2] 68) rfl)
  rw [← hN] at H hl hpos ⊢
  have HNN := Lib.hid hN
  clear h hasc hN hx0
  obtain ⟨P, hP⟩ : ∃ P, P = posK K x := ⟨_, rfl⟩
  rw [← hP] at hpos
  have HP := Lib.hid hP
  clear hP
  unfold keyV
  go_enter Try.func45, Try.ntmps45
  go_upto_region 1 with (fail)
  generalize (W.alloc (.cells #[.int .i64 x.1, .int .i64 x.2.1, .int .i64 x.2.2] 68)) = V at *
  go_wp2_with fail
  go_loopw [9, 10, 11] (fun s9 s10 _ wr => ∃ i j : Nat, s9 = .int .i64 (i : Int) ∧ s10 = .int .i64 (j : Int) ∧ i ≤ P ∧ P ≤ j ∧ j ≤ N ∧ Hid (Ext No V wr)) (fun s9 s10 _ _ => (intOf s10).toNat - (intOf s9).toNat)
  case atStart => exact ⟨0, N, rfl, rfl, Nat.zero_le _, hpos, Nat.le_refl _, Lib.hid (Ext.refl _ _)⟩
  case round =>
    obtain ⟨i, j, rfl, rfl, hi, hj, hjn, hx⟩ := hrel
    rename World => wr
    by_cases hlt : i < j
    · have hlz : (i : Int) < (j : Int) := by omega
      obtain ⟨q, hq⟩ : ∃ q : Nat, q = (i + j) / 2 := ⟨_, rfl⟩
      have hqi : i ≤ q := by omega
      have hqj : q < j := by omega
      have HQZ := Lib.hid (show ((i : Int) + (j : Int)) / 2 = (q : Int) from by omega)
      clear hq
      have hqN : q < N := by omega
      have hqz : (q : Int) < (N : Int) := by omega
      have hqz0 : (0 : Int) ≤ (q : Int) := by omega
      have hql : q < K.length := by rw [← HNN.out]; exact hqN
      have HQL := Lib.hid hql
      obtain ⟨b, off, cap', hsl, -, -, hc⟩ := H.out.atK hql
      rw [← HNN.out] at hsl
      simp only [Value.slice.injEq] at hsl
      obtain ⟨rfl, -, rfl⟩ := hsl
      obtain ⟨c0, c1, c2⟩ := hc q hql
      have HQ := Lib.hid (And.intro (hx.out.keep c0) (And.intro (hx.out.keep c1) (hx.out.keep c2)))
      obtain ⟨y, hy⟩ : ∃ y, y = K[q]'HQL.out := ⟨_, rfl⟩
      rw [← hy] at HQ
      have HMP := Lib.hid (show ltK y x ↔ q < P from by rw [HP.out, ← posK_iff HA.out HQL.out, ← hy])
      have HQ1 : Hid (Value.int .i64 ((q : Int) + 1) = .int .i64 ((q + 1 : Nat) : Int)) := Lib.hid (by rw [show ((q + 1 : Nat) : Int) = (q : Int) + 1 from by omega])
      clear hy hql hc c0 c1 c2
      go_upto_region 5 with (fail)
      rw [HQZ.out]
      refine wp_region_held_drew (S := (fun w' => Ext No wr w')) (by kernel_rfl) ?_ (fun hHeld => ?_)
      · exact (Ext.refl _ _).drew
      refine held_take (i := 0) (v := ?_) rfl (by kernel_rfl) (by kernel_rfl) (by kernel_rfl) (fun _ _ _ h => h) rfl (fun w hSw => ?_) hHeld ?_
      rotate_left
      · go_simp; (try with_reducible rfl)
      try simp only [Act.put, List.setIfInBounds_toArray, List.set_cons_zero, List.set_cons_succ]
      refine held_take (i := 1) (v := ?_) rfl (by kernel_rfl) (by kernel_rfl) (by kernel_rfl) (fun _ _ _ h => h) rfl (fun w hSw => ?_) hHeld ?_
      rotate_left
      · go_simp; (try with_reducible rfl)
      try simp only [Act.put, List.setIfInBounds_toArray, List.set_cons_zero, List.set_cons_succ]
      refine held_take (i := 2) (v := ?_) rfl (by kernel_rfl) (by kernel_rfl) (by kernel_rfl) (fun _ _ _ h => h) rfl (fun w hSw => ?_) hHeld ?_
      rotate_left
      · go_simp; (try with_reducible rfl)
      try simp only [Act.put, List.setIfInBounds_toArray, List.set_cons_zero, List.set_cons_succ]
      refine held_take (i := 3) (v := ?_) rfl (by kernel_rfl) (by kernel_rfl) (by kernel_rfl) (fun _ _ _ h => h) rfl (fun w hSw => ?_) hHeld ?_
      rotate_left
      · go_simp; (try with_reducible rfl)
      try simp only [Act.put, List.setIfInBounds_toArray, List.set_cons_zero, List.set_cons_succ]
      refine held_take (i := 4) (v := ?_) rfl (by kernel_rfl) (by kernel_rfl) (by kernel_rfl) (fun _ _ _ h => h) rfl (fun w hSw => ?_) hHeld ?_
      rotate_left
      · (have hEs : Ext No wr _ := hSw); (have x0 := hEs.keep HQ.out.1); (have x1 := hEs.keep HQ.out.2.1); (have x2 := hEs.keep HQ.out.2.2); go_simp; (try with_reducible rfl)
      try simp only [Act.put, List.setIfInBounds_toArray, List.set_cons_zero, List.set_cons_succ]
      refine held_take (i := 5) (v := ?_) rfl (by kernel_rfl) (by kernel_rfl) (by kernel_rfl) (fun _ _ _ h => h) rfl (fun w hSw => ?_) hHeld ?_
      rotate_left
      · (have hEs : Ext No wr _ := hSw); (have x0 := cellOf (hEs.blk (hx.out.blk HB.out no_no) no_no)); go_simp; (try with_reducible rfl)
      try simp only [Act.put, List.setIfInBounds_toArray, List.set_cons_zero, List.set_cons_succ]
      refine held_call (i := 6) rfl (by kernel_rfl) rfl (fun K hK => ?_)
      (go_simp; go_at_call 46; (refine (compare_any y x _).mono ?_); (rintro q1 w1 ⟨rfl, hyA⟩); go_simp)
      refine hK.out _ _ ?_ (fun hNew => ?_)
      · exact Ext.transNo (show Ext No wr _ from hHeld) hyA
      clear hK K hHeld
      have hHeld := hNew
      clear hNew
      clear hyA
      try simp only [Act.put, List.setIfInBounds_toArray, List.set_cons_zero, List.set_cons_succ]
      refine held_take (i := 7) (v := ?_) rfl (by kernel_rfl) (by kernel_rfl) (by kernel_rfl) (fun _ _ _ h => h) rfl (fun w hSw => ?_) hHeld ?_
      rotate_left
      · go_simp; (try with_reducible rfl)
      try simp only [Act.put, List.setIfInBounds_toArray, List.set_cons_zero, List.set_cons_succ]
      refine wpAnyH_done (by kernel_rfl) ?_ _
      have HE1 := Lib.hid (show Ext No wr w1 from hHeld)
      clear hHeld
      by_cases hc : cmpK y x < 0
      · have hqP := HMP.out.1 ((cmpK_lt _ _).1 hc)
        go_wp2_with fail
        go_roundw
        case rel => exact ⟨q + 1, j, HQ1.out, rfl, by omega, hj, hjn, Lib.hid (hx.out.transNo HE1.out)⟩
        case measure => simp [intOf]; omega
      · have hqP : ¬ q < P := fun h => hc ((cmpK_lt _ _).2 (HMP.out.2 h))
        go_wp2_with fail
        go_roundw
        case rel => exact ⟨i, q, rfl, rfl, hi, by omega, by omega, Lib.hid (hx.out.transNo HE1.out)⟩
        case measure => simp [intOf]; omega
    · have hge : ¬ (i : Int) < (j : Int) := by omega
      have hiP : i = P := by omega
      subst hiP
      have HP2 := Lib.hid (show posK K x = i from HP.out.symm)
      by_cases hlt2 : i < N
      · have hlz : (i : Int) < (N : Int) := by omega
        have hlz0 : (0 : Int) ≤ (i : Int) := by omega
        have hql : i < K.length := by rw [← HNN.out]; exact hlt2
        have HQL := Lib.hid hql
        obtain ⟨b, off, cap', hsl, -, -, hc⟩ := H.out.atK hql
        rw [← HNN.out] at hsl
        simp only [Value.slice.injEq] at hsl
        obtain ⟨rfl, -, rfl⟩ := hsl
        obtain ⟨c0, c1, c2⟩ := hc i hql
        have HQ := Lib.hid (And.intro (hx.out.keep c0) (And.intro (hx.out.keep c1) (hx.out.keep c2)))
        obtain ⟨y, hy⟩ : ∃ y, y = K[i]'HQL.out := ⟨_, rfl⟩
        rw [← hy] at HQ
        clear hy hql hc c0 c1 c2
        go_upto_region 8 with (fail)
        refine wp_region_held_drew (S := (fun w' => Ext No wr w')) (by kernel_rfl) ?_ (fun hHeld => ?_)
        · exact (Ext.refl _ _).drew
        refine held_take (i := 0) (v := ?_) rfl (by kernel_rfl) (by kernel_rfl) (by kernel_rfl) (fun _ _ _ h => h) rfl (fun w hSw => ?_) hHeld ?_
        rotate_left
        · go_simp; (try with_reducible rfl)
        try simp only [Act.put, List.setIfInBounds_toArray, List.set_cons_zero, List.set_cons_succ]
        refine held_take (i := 1) (v := ?_) rfl (by kernel_rfl) (by kernel_rfl) (by kernel_rfl) (fun _ _ _ h => h) rfl (fun w hSw => ?_) hHeld ?_
        rotate_left
        · go_simp; (try with_reducible rfl)
        try simp only [Act.put, List.setIfInBounds_toArray, List.set_cons_zero, List.set_cons_succ]
        refine held_take (i := 2) (v := ?_) rfl (by kernel_rfl) (by kernel_rfl) (by kernel_rfl) (fun _ _ _ h => h) rfl (fun w hSw => ?_) hHeld ?_
        rotate_left
        · go_simp; (try with_reducible rfl)
        try simp only [Act.put, List.setIfInBounds_toArray, List.set_cons_zero, List.set_cons_succ]
        refine held_take (i := 3) (v := ?_) rfl (by kernel_rfl) (by kernel_rfl) (by kernel_rfl) (fun _ _ _ h => h) rfl (fun w hSw => ?_) hHeld ?_
        rotate_left
        · go_simp; (try with_reducible rfl)
        try simp only [Act.put, List.setIfInBounds_toArray, List.set_cons_zero, List.set_cons_succ]
        refine held_take (i := 4) (v := ?_) rfl (by kernel_rfl) (by kernel_rfl) (by kernel_rfl) (fun _ _ _ h => h) rfl (fun w hSw => ?_) hHeld ?_
        rotate_left
        · go_simp; (try with_reducible rfl)
        try simp only [Act.put, List.setIfInBounds_toArray, List.set_cons_zero, List.set_cons_succ]
        refine held_take (i := 5) (v := ?_) rfl (by kernel_rfl) (by kernel_rfl) (by kernel_rfl) (fun _ _ _ h => h) rfl (fun w hSw => ?_) hHeld ?_
        rotate_left
        · go_simp; (try with_reducible rfl)
        try simp only [Act.put, List.setIfInBounds_toArray, List.set_cons_zero, List.set_cons_succ]
        refine held_take (i := 6) (v := ?_) rfl (by kernel_rfl) (by kernel_rfl) (by kernel_rfl) (fun _ _ _ h => h) rfl (fun w hSw => ?_) hHeld ?_
        rotate_left
        · go_simp; (try with_reducible rfl)
        try simp only [Act.put, List.setIfInBounds_toArray, List.set_cons_zero, List.set_cons_succ]
        refine held_take (i := 7) (v := ?_) rfl (by kernel_rfl) (by kernel_rfl) (by kernel_rfl) (fun _ _ _ h => h) rfl (fun w hSw => ?_) hHeld ?_
        rotate_left
        · go_simp; (try with_reducible rfl)
        try simp only [Act.put, List.setIfInBounds_toArray, List.set_cons_zero, List.set_cons_succ]
        refine held_take (i := 8) (v := ?_) rfl (by kernel_rfl) (by kernel_rfl) (by kernel_rfl) (fun _ _ _ h => h) rfl (fun w hSw => ?_) hHeld ?_
        rotate_left
        · go_simp; (try with_reducible rfl)
        try simp only [Act.put, List.setIfInBounds_toArray, List.set_cons_zero, List.set_cons_succ]
        refine held_take (i := 9) (v := ?_) rfl (by kernel_rfl) (by kernel_rfl) (by kernel_rfl) (fun _ _ _ h => h) rfl (fun w hSw => ?_) hHeld ?_
        rotate_left
        · (have hEs : Ext No wr _ := hSw); (have x0 := hEs.keep HQ.out.1); (have x1 := hEs.keep HQ.out.2.1); (have x2 := hEs.keep HQ.out.2.2); go_simp; (try with_reducible rfl)
        try simp only [Act.put, List.setIfInBounds_toArray, List.set_cons_zero, List.set_cons_succ]
        refine held_take (i := 10) (v := ?_) rfl (by kernel_rfl) (by kernel_rfl) (by kernel_rfl) (fun _ _ _ h => h) rfl (fun w hSw => ?_) hHeld ?_
        rotate_left
        · (have hEs : Ext No wr _ := hSw); (have x0 := cellOf (hEs.blk (hx.out.blk HB.out no_no) no_no)); go_simp; (try with_reducible rfl)
        try simp only [Act.put, List.setIfInBounds_toArray, List.set_cons_zero, List.set_cons_succ]
        refine held_call (i := 11) rfl (by kernel_rfl) rfl (fun K hK => ?_)
        (go_simp; go_at_call 46; (refine (compare_any y x _).mono ?_); (rintro q1 w1 ⟨rfl, hyA⟩); go_simp)
        refine hK.out _ _ ?_ (fun hNew => ?_)
        · exact Ext.transNo (show Ext No wr _ from hHeld) hyA
        clear hK K hHeld
        have hHeld := hNew
        clear hNew
        clear hyA
        try simp only [Act.put, List.setIfInBounds_toArray, List.set_cons_zero, List.set_cons_succ]
        refine held_take (i := 12) (v := ?_) rfl (by kernel_rfl) (by kernel_rfl) (by kernel_rfl) (fun _ _ _ h => h) rfl (fun w hSw => ?_) hHeld ?_
        rotate_left
        · go_simp; (try with_reducible rfl)
        try simp only [Act.put, List.setIfInBounds_toArray, List.set_cons_zero, List.set_cons_succ]
        refine held_take (i := 13) (v := ?_) rfl (by kernel_rfl) (by kernel_rfl) (by kernel_rfl) (fun _ _ _ h => h) rfl (fun w hSw => ?_) hHeld ?_
        rotate_left
        · go_simp; (try with_reducible rfl)
        try simp only [Act.put, List.setIfInBounds_toArray, List.set_cons_zero, List.set_cons_succ]
        refine held_take (i := 14) (v := ?_) rfl (by kernel_rfl) (by kernel_rfl) (by kernel_rfl) (fun _ _ _ h => h) rfl (fun w hSw => ?_) hHeld ?_
        rotate_left
        · go_simp; (try with_reducible rfl)
        try simp only [Act.put, List.setIfInBounds_toArray, List.set_cons_zero, List.set_cons_succ]
        refine held_take (i := 15) (v := ?_) rfl (by kernel_rfl) (by kernel_rfl) (by kernel_rfl) (fun _ _ _ h => h) rfl (fun w hSw => ?_) hHeld ?_
        rotate_left
        · go_simp; (try with_reducible rfl)
        try simp only [Act.put, List.setIfInBounds_toArray, List.set_cons_zero, List.set_cons_succ]
        refine wpAnyH_done (by kernel_rfl) ?_ _
        have hEnd : Ext No wr w1 := hHeld
        go_wp2_with fail
        refine ret_ex rfl ?_
        simp [results, Try.results45, go_sem]
        exact ⟨_, by rw [HP2.out], HX.out.transNo (hx.out.transNo hEnd)⟩
      · have hlz : ¬ (i : Int) < (N : Int) := by omega
        go_upto_region 8 with (fail)
        refine wp_region_held_drew (S := (fun w' => Ext No wr w')) (by kernel_rfl) ?_ (fun hHeld => ?_)
        · exact (Ext.refl _ _).drew
        refine held_take (i := 0) (v := ?_) rfl (by kernel_rfl) (by kernel_rfl) (by kernel_rfl) (fun _ _ _ h => h) rfl (fun w hSw => ?_) hHeld ?_
        rotate_left
        · go_simp; (try with_reducible rfl)
        try simp only [Act.put, List.setIfInBounds_toArray, List.set_cons_zero, List.set_cons_succ]
        refine held_take (i := 1) (v := ?_) rfl (by kernel_rfl) (by kernel_rfl) (by kernel_rfl) (fun _ _ _ h => h) rfl (fun w hSw => ?_) hHeld ?_
        rotate_left
        · go_simp; (try with_reducible rfl)
        try simp only [Act.put, List.setIfInBounds_toArray, List.set_cons_zero, List.set_cons_succ]
        refine held_take (i := 2) (v := ?_) rfl (by kernel_rfl) (by kernel_rfl) (by kernel_rfl) (fun _ _ _ h => h) rfl (fun w hSw => ?_) hHeld ?_
        rotate_left
        · go_simp; (try with_reducible rfl)
        try simp only [Act.put, List.setIfInBounds_toArray, List.set_cons_zero, List.set_cons_succ]
        refine held_take (i := 3) (v := ?_) rfl (by kernel_rfl) (by kernel_rfl) (by kernel_rfl) (fun _ _ _ h => h) rfl (fun w hSw => ?_) hHeld ?_
        rotate_left
        · go_simp; (try with_reducible rfl)
        try simp only [Act.put, List.setIfInBounds_toArray, List.set_cons_zero, List.set_cons_succ]
        refine held_take (i := 4) (v := ?_) rfl (by kernel_rfl) (by kernel_rfl) (by kernel_rfl) (fun _ _ _ h => h) rfl (fun w hSw => ?_) hHeld ?_
        rotate_left
        · go_simp; (try with_reducible rfl)
        try simp only [Act.put, List.setIfInBounds_toArray, List.set_cons_zero, List.set_cons_succ]
        refine held_skip (i := 5) rfl (by kernel_rfl) (by kernel_rfl) (by kernel_rfl) (fun _ _ _ h => h) rfl hHeld ?_
        try simp only [Act.put, List.setIfInBounds_toArray, List.set_cons_zero, List.set_cons_succ]
        refine held_skip (i := 6) rfl (by kernel_rfl) (by kernel_rfl) (by kernel_rfl) (fun _ _ _ h => h) rfl hHeld ?_
        try simp only [Act.put, List.setIfInBounds_toArray, List.set_cons_zero, List.set_cons_succ]
        refine held_skip (i := 7) rfl (by kernel_rfl) (by kernel_rfl) (by kernel_rfl) (fun _ _ _ h => h) rfl hHeld ?_
        try simp only [Act.put, List.setIfInBounds_toArray, List.set_cons_zero, List.set_cons_succ]
        refine held_skip (i := 8) rfl (by kernel_rfl) (by kernel_rfl) (by kernel_rfl) (fun _ _ _ h => h) rfl hHeld ?_
        try simp only [Act.put, List.setIfInBounds_toArray, List.set_cons_zero, List.set_cons_succ]
        refine held_skip (i := 9) rfl (by kernel_rfl) (by kernel_rfl) (by kernel_rfl) (fun _ _ _ h => h) rfl hHeld ?_
        try simp only [Act.put, List.setIfInBounds_toArray, List.set_cons_zero, List.set_cons_succ]
        refine held_skip (i := 10) rfl (by kernel_rfl) (by kernel_rfl) (by kernel_rfl) (fun _ _ _ h => h) rfl hHeld ?_
        try simp only [Act.put, List.setIfInBounds_toArray, List.set_cons_zero, List.set_cons_succ]
        refine held_skip (i := 11) rfl (by kernel_rfl) (by kernel_rfl) (by kernel_rfl) (fun _ _ _ h => h) rfl hHeld ?_
        try simp only [Act.put, List.setIfInBounds_toArray, List.set_cons_zero, List.set_cons_succ]
        refine held_skip (i := 12) rfl (by kernel_rfl) (by kernel_rfl) (by kernel_rfl) (fun _ _ _ h => h) rfl hHeld ?_
        try simp only [Act.put, List.setIfInBounds_toArray, List.set_cons_zero, List.set_cons_succ]
        refine held_take (i := 13) (v := ?_) rfl (by kernel_rfl) (by kernel_rfl) (by kernel_rfl) (fun _ _ _ h => h) rfl (fun w hSw => ?_) hHeld ?_
        rotate_left
        · go_simp; (try with_reducible rfl)
        try simp only [Act.put, List.setIfInBounds_toArray, List.set_cons_zero, List.set_cons_succ]
        refine held_take (i := 14) (v := ?_) rfl (by kernel_rfl) (by kernel_rfl) (by kernel_rfl) (fun _ _ _ h => h) rfl (fun w hSw => ?_) hHeld ?_
        rotate_left
        · go_simp; (try with_reducible rfl)
        try simp only [Act.put, List.setIfInBounds_toArray, List.set_cons_zero, List.set_cons_succ]
        refine held_take (i := 15) (v := ?_) rfl (by kernel_rfl) (by kernel_rfl) (by kernel_rfl) (fun _ _ _ h => h) rfl (fun w hSw => ?_) hHeld ?_
        rotate_left
        · go_simp; (try with_reducible rfl)
        try simp only [Act.put, List.setIfInBounds_toArray, List.set_cons_zero, List.set_cons_succ]
        refine wpAnyH_done (by kernel_rfl) ?_ _
        have hEnd : Ext No wr wr.drew := hHeld
        go_wp2_with fail
        refine ret_ex rfl ?_
        simp [results, Try.results45, go_sem]
        exact ⟨_, by rw [HP2.out], HX.out.transNo (hx.out.transNo hEnd)⟩
end Go.Proofs.Ytfejidihocoboaa

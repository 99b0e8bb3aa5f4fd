
import Derived.Test.YtjeohlooaiociaaGreatDoorP47
set_option linter.unusedVariables false
set_option linter.unusedSimpArgs false
namespace Go.Proofs.YtjeohlooaiociaaGreatDoor
open Go Go.RowKit
def GenB (tb n : Nat) (W : World) (e : Ending) (w' : World) : Prop :=
 ∃ (sl : Value) (l : List Nat), e = .returned sl ∧ Hid (Ints No w' .u8 sl (natsZ l)) ∧ (∀ x ∈ l, x < 256) ∧ l.length ≤ n + 1 ∧ TapeOk w' tb ∧ Ext (At tb) W w'
theorem xor_u8 (a b : Int) : ∃ y : Nat, y < 256 ∧ bits .xor .u8 a b = (y : Int) := by
 have h : ∀ z : Int, ∃ y : Nat, y < 256 ∧ IntKind.u8.wrap z = (y : Int) := fun z => ⟨(IntKind.u8.wrap z).toNat, by rw [IntKind.wrap_u8]; omega, by rw [IntKind.wrap_u8]; omega⟩
 unfold bits
 exact h _
theorem ownB_cut {w : World} {base g n cap i : Nat} {l : List Nat} (h : w.ownsRow base 5 1 (.slice (some ⟨g, 0, none⟩) n cap) n (bytesV l)) (hi : i ≤ n) : w.ownsRow base 5 1 (.slice (some ⟨g, 0, none⟩) i cap) i (bytesV (l.take i)) := by
 obtain ⟨h1, h2⟩ := h
 rcases h2 with ⟨h3, _⟩ | ⟨g', cap', cur, h3, hb, hg, hnc, hcm, hcs, htake⟩
 ·simp at h3
 simp only [Value.slice.injEq, Option.some.injEq, Addr.mk.injEq, and_true, true_and] at h3
 obtain ⟨rfl, rfl⟩ := h3
 have hl : l.length = n := by simpa [bytesV, natsZ] using h1
 refine ⟨by simp [bytesV, natsZ]; omega, .inr ⟨g, cap, cur, rfl, hb, hg, by omega, hcm, hcs, ?_⟩⟩
 have : bytesV (l.take i) = (bytesV l).take i := by simp [bytesV, natsZ, List.map_take]
 rw [this, ← htake, List.take_take]
 congr 1
 omega
theorem bytesV_drop (l : List Nat) (i : Nat) : bytesV (l.drop i) = (bytesV l).drop i := by simp [bytesV, natsZ, List.map_drop]
set_option maxRecDepth 100000 in
set_option maxHeartbeats 8000000 in
theorem gbytes_any (tb : Nat) (sl : Value) (l : List Nat) (W : World) (h : Ints No W .u8 sl (natsZ l)) (hb : ∀ x ∈ l, x < 256) (hl : l.length ≤ 1099511627776) (ht : TapeOk W tb) :
  Calls Tryz.prog 26 #[.pointer (some ⟨tb, 0, none⟩), sl] W (GenB tb l.length W) := by
 obtain ⟨iB, hiB, hB0, hB1, hB2⟩ := info_parts infoB31
 have hz : (natsZ l).length = l.length := by simp [natsZ]
 have h' := h
 unfold Ints at h'
 rw [hz] at h'
 have H := Lib.hid h'
 have HB := Lib.hid hb
 have htw := ht.lt
 have HT := Lib.hid ht
 obtain ⟨aw, cw, rfl⟩ := Row.slice h'
 obtain ⟨n, hn⟩ : ∃ n, n = l.length := ⟨_, rfl⟩
 rw [← hn] at H hl ⊢
 have HN := Lib.hid hn
 clear h h' hz hb ht hn
 go_enter Tryz.func26, Tryz.ntmps26
 go_upto_region 2 with (at_builtin; (refine wpList_app _ rfl (.tmp 7) (.tmp 8) 53 rfl W.heap.size 5 iB _ 1 1 Tryz.underlying53 hiB hB0 hB1 hB2 rfl (by omega) _ 0 [] rfl (World.ownsRow_made W #[] 0 (Nat.le_refl _) (Nat.zero_le _) rfl) No aw n cw ((natsZ l).map (.int .u8)) rfl (Row.extNo H.out ((Ext.refl _ _).alloc _)) (bytes_one l) (by omega) (by omega) (by simp) ?_); (intro v1 w1 hown hg hat))
 have hE1 : Ext No W w1 := ((Ext.refl _ _).alloc _).grown hg (fun k hk hlt => by cases hk; exact absurd hlt (Nat.lt_irrefl _))
 simp only [Nat.zero_add, List.nil_append] at hown
 have HO1 := Lib.hid (show w1.ownsRow W.heap.size 5 1 v1 n (bytesV l) from hown)
 obtain ⟨a1, c1, hs1⟩ := (Row.ofOwns (M := No) hown (fun _ _ x => x)).slice
 subst hs1
 have HE1 := Lib.hid hE1
 clear hown hg hat hE1 H
 go_wp2_with fail
 refine (next_any tb (n : Int) (by omega) _ (HT.out.ext HE1.out)).mono ?_
 rintro e2 w2 ⟨i, rfl, hi, ht2, hx2, -⟩
 have hin : i ≤ n := by omega
 have HO2 := Lib.hid (row_keep2 HO1.out hx2 (fun k hk e => by have := (World.ownsRow.lt HO1.out k hk).1; unfold At at e; omega))
 have HE2 := Lib.hid (HE1.out.ofNo.trans hx2)
 have HT2 := Lib.hid ht2
 clear HO1 HE1 ht2 hx2 HT
 go_wp2_with fail
 refine (next_lt tb 4 (by decide) (by decide) _ HT2.out).mono ?_
 rintro e3 w3 ⟨r, rfl, hr, ht3, hx3, -⟩
 have HO3 := Lib.hid (row_keep2 HO2.out hx3 (fun k hk e => by have := (World.ownsRow.lt HO2.out k hk).1; unfold At at e; omega))
 have HE3 := Lib.hid (HE2.out.trans hx3)
 have HT3 := Lib.hid ht3
 have hw3 := HE3.out.size
 have hcaps : n ≤ c1 ∧ c1 ≤ 9223372036854775807 := by
  have := (Row.ofOwns (M := No) HO3.out (fun _ _ x => x)).caps
  exact this
 clear HO2 HE2 ht3 hx3 HT2
 by_cases h0 : r = 0
 ·have h0z : ((r : Int) == 0) = true := by simp [h0]
  by_cases hn0 : n = 0
  ·have hnz : ¬ (0 : Int) < (n : Int) := by omega
   clear hn0
   go_wp2_with fail
   go_ret
   exact ⟨_, l, rfl, Lib.hid (OwnB.ints (show OwnB w3 W.heap.size _ l from by unfold OwnB; rw [← HN.out]; exact HO3.out) (fun _ _ x => x)), HB.out, by rw [← HN.out]; omega, HT3.out, HE3.out⟩
  have hnz : (0 : Int) < (n : Int) := by omega
  have hilt : i < n := by omega
  have hiz : (i : Int) < (n : Int) := by omega
  obtain ⟨g, cap, hse, hgb, hgl⟩ := own_shape20 HO3.out hn0
  simp only [Value.slice.injEq] at hse
  obtain ⟨rfl, -, rfl⟩ := hse
  go_upto_region 8 with (fail)
  refine wp_region_heldL [10] (fun w' => Ext (At tb) w3 w' ∧ TapeOk w' tb) (by kernel_rfl) ?_ (fun hHeld => ?_)
  ·exact ⟨(Ext.refl _ _).drew, HT3.out.ext (Ext.refl _ _).drew⟩
  have HE := Lib.hid (show Ext (At tb) w3 w3.drew ∧ TapeOk w3.drew tb from ⟨(Ext.refl _ _).drew, HT3.out.ext (Ext.refl _ _).drew⟩)
  generalize w3.drew = v0 at *
  have HCL := Lib.hid (show ∀ w', Ext (At tb) w3 w' → w'.ownsRow W.heap.size 5 1 (.slice (some ⟨g, 0, none⟩) n c1) n (bytesV l) from fun w' hx => row_keep2 HO3.out hx (fun k hk e => by have := (World.ownsRow.lt HO3.out k hk).1; unfold At at e; omega))
  have hil : i < l.length := by rw [← HN.out]; exact hilt
  obtain ⟨x, hx⟩ : ∃ x, x = l[i]'hil := ⟨_, rfl⟩
  have HXE := Lib.hid (show (bytesV l)[i]? = some (.int .u8 (x : Int)) from by rw [hx]; simp [bytesV, natsZ, hil])
  clear hx
  refine heldL_free (i := 0) (v := ?_) rfl (by kernel_rfl) (by kernel_rfl) (by kernel_rfl) (by kernel_rfl) (by kernel_rfl) (fun _ _ _ h => h) rfl (fun w => ?_) hHeld ?_
  rotate_left
  ·go_simp; (try with_reducible rfl)
  try simp only [Act.put, List.setIfInBounds_toArray, List.set_cons_zero, List.set_cons_succ]
  replace hHeld := (ST_set (T := [10]) (i := 0) (by kernel_rfl) _ _).2 hHeld
  refine heldL_free (i := 1) (v := ?_) rfl (by kernel_rfl) (by kernel_rfl) (by kernel_rfl) (by kernel_rfl) (by kernel_rfl) (fun _ _ _ h => h) rfl (fun w => ?_) hHeld ?_
  rotate_left
  ·go_simp; (try with_reducible rfl)
  try simp only [Act.put, List.setIfInBounds_toArray, List.set_cons_zero, List.set_cons_succ]
  replace hHeld := (ST_set (T := [10]) (i := 1) (by kernel_rfl) _ _).2 hHeld
  refine heldL_free (i := 2) (v := ?_) rfl (by kernel_rfl) (by kernel_rfl) (by kernel_rfl) (by kernel_rfl) (by kernel_rfl) (fun _ _ _ h => h) rfl (fun w => ?_) hHeld ?_
  rotate_left
  ·go_simp; (try with_reducible rfl)
  try simp only [Act.put, List.setIfInBounds_toArray, List.set_cons_zero, List.set_cons_succ]
  replace hHeld := (ST_set (T := [10]) (i := 2) (by kernel_rfl) _ _).2 hHeld
  refine heldL_take (i := 3) (v := ?_) rfl (by kernel_rfl) (by kernel_rfl) (by kernel_rfl) (by kernel_rfl) (by kernel_rfl) (fun _ _ _ h => h) rfl (fun w hSw => ?_) hHeld ?_
  rotate_left
  ·(have x0 := World.ownsRow.cellAt (HCL.out _ hSw.1) i (by omega)); rw [HXE.out] at x0; go_simp; (try with_reducible rfl)
  try simp only [Act.put, List.setIfInBounds_toArray, List.set_cons_zero, List.set_cons_succ]
  replace hHeld := (ST_set (T := [10]) (i := 3) (by kernel_rfl) _ _).2 hHeld
  refine heldL_free (i := 4) (v := ?_) rfl (by kernel_rfl) (by kernel_rfl) (by kernel_rfl) (by kernel_rfl) (by kernel_rfl) (fun _ _ _ h => h) rfl (fun w => ?_) hHeld ?_
  rotate_left
  ·go_simp; (try with_reducible rfl)
  try simp only [Act.put, List.setIfInBounds_toArray, List.set_cons_zero, List.set_cons_succ]
  replace hHeld := (ST_set (T := [10]) (i := 4) (by kernel_rfl) _ _).2 hHeld
  refine heldL_next1 (i := 5) (by kernel_rfl) (NextL.mk rfl rfl (fun K hK => ?_))
  (go_simp; (go_at_call 23); (refine (next_lt tb 255 (by decide) (by decide) _ HE.out.2).mono ?_); (rintro e5 v1 ⟨q, rfl, hq, htA, hyA, -⟩); go_simp)
  refine hK.out _ _ ?_ (fun hNew => ?_)
  ·intro _; exact ⟨HE.out.1.trans hyA, htA⟩
  clear hK K hHeld
  have hHeld := hNew
  clear hNew
  replace HE := Lib.hid (show Ext (At tb) w3 v1 ∧ TapeOk v1 tb from ⟨HE.out.1.trans hyA, htA⟩)
  clear hyA htA
  try simp only [Act.put, List.setIfInBounds_toArray, List.set_cons_zero, List.set_cons_succ]
  refine heldL_free (i := 6) (v := ?_) rfl (by kernel_rfl) (by kernel_rfl) (by kernel_rfl) (by kernel_rfl) (by kernel_rfl) (fun _ _ _ h => h) rfl (fun w => ?_) hHeld ?_
  rotate_left
  ·go_simp; (try with_reducible rfl)
  try simp only [Act.put, List.setIfInBounds_toArray, List.set_cons_zero, List.set_cons_succ]
  replace hHeld := (ST_set (T := [10]) (i := 6) (by kernel_rfl) _ _).2 hHeld
  refine heldL_free (i := 7) (v := ?_) rfl (by kernel_rfl) (by kernel_rfl) (by kernel_rfl) (by kernel_rfl) (by kernel_rfl) (fun _ _ _ h => h) rfl (fun w => ?_) hHeld ?_
  rotate_left
  ·go_simp; (try with_reducible rfl)
  try simp only [Act.put, List.setIfInBounds_toArray, List.set_cons_zero, List.set_cons_succ]
  replace hHeld := (ST_set (T := [10]) (i := 7) (by kernel_rfl) _ _).2 hHeld
  refine heldL_free (i := 8) (v := ?_) rfl (by kernel_rfl) (by kernel_rfl) (by kernel_rfl) (by kernel_rfl) (by kernel_rfl) (fun _ _ _ h => h) rfl (fun w => ?_) hHeld ?_
  rotate_left
  ·go_simp; (try with_reducible rfl)
  try simp only [Act.put, List.setIfInBounds_toArray, List.set_cons_zero, List.set_cons_succ]
  replace hHeld := (ST_set (T := [10]) (i := 8) (by kernel_rfl) _ _).2 hHeld
  refine heldL_free (i := 9) (v := ?_) rfl (by kernel_rfl) (by kernel_rfl) (by kernel_rfl) (by kernel_rfl) (by kernel_rfl) (fun _ _ _ h => h) rfl (fun w => ?_) hHeld ?_
  rotate_left
  ·go_simp; (try with_reducible rfl)
  try simp only [Act.put, List.setIfInBounds_toArray, List.set_cons_zero, List.set_cons_succ]
  replace hHeld := (ST_set (T := [10]) (i := 9) (by kernel_rfl) _ _).2 hHeld
  obtain ⟨y, hy, hye⟩ := xor_u8 (x : Int) (IntKind.u8.wrap (IntKind.i64.wrap (1 + (q : Int))))
  rw [hye]
  have HO5 := Lib.hid (HCL.out _ HE.out.1)
  have HST := World.ownsRow.stored (w := v1) HO5.out i (.int .u8 (y : Int))
  have HO6 := Lib.hid (show OwnB (v1.setCell ⟨g, i, none⟩ (.int .u8 (y : Int))) W.heap.size (.slice (some ⟨g, 0, none⟩) n c1) (l.set i y) from by
   unfold OwnB
   rw [List.length_set, ← HN.out, show bytesV (l.set i y) = (bytesV l).set i (.int .u8 (y : Int)) by simp [bytesV, natsZ, List.map_set]]
   exact HST.1)
  have HE6 := Lib.hid (show Ext (At tb) W (v1.setCell ⟨g, i, none⟩ (.int .u8 (y : Int))) from (HE3.out.trans HE.out.1).trans2 ((Ext.refl (At g) v1).setAt _ _) (fun b hb e => by unfold At at e; omega))
  have HT6 := Lib.hid (HE.out.2.extAbove ((Ext.refl (At g) v1).setAt i (.int .u8 (y : Int))) (fun b hb e => by unfold At at e; omega))
  clear HST
  refine heldL_next1 (i := 10) (by kernel_rfl) (NextL.mk rfl rfl (fun K hK => ?_))
  ((have x1 := World.ownsRow.cellAt HO5.out i (by omega)); rw [HXE.out] at x1; (have f1 := World.ownsRow.frozenAt HO5.out i); go_simp; (clear x1 f1))
  refine hK.out _ _ ?_ (fun hNew => ?_)
  ·exact fun h => absurd h (by decide)
  clear hK K hHeld
  have hHeld := hNew
  clear hNew
  try simp only [Act.put, List.setIfInBounds_toArray, List.set_cons_zero, List.set_cons_succ]
  refine heldL_done (by kernel_rfl) ?_ _
  go_wp2_with fail
  go_ret
  exact ⟨_, l.set i y, rfl, Lib.hid (HO6.out.ints (fun _ _ x => x)), fun z hz => by
   rcases List.mem_or_eq_of_mem_set hz with h | h
   ·exact HB.out z h
   omega, by rw [List.length_set, ← HN.out]; omega, HT6.out, HE6.out⟩
 have h0z : ((r : Int) == 0) = false := by simp; omega
 by_cases h1 : r = 1
 ·have h1z : ((r : Int) == 1) = true := by simp [h1]
  have hic : (i : Int) ≤ (c1 : Int) := by omega
  have hi0 : (0 : Int) ≤ (i : Int) := by omega
  go_wp2_with fail
  go_ret
  have hr := Row.cutK (k := i) (Row.ofOwns (M := No) HO3.out (fun _ _ x => x)) hcaps.2 hcaps.1 hin
  rw [Nat.mul_one] at hr
  exact ⟨_, l.take i, rfl, Lib.hid (by unfold Ints; rw [show (natsZ (l.take i)).length = i by have := HN.out; simp [natsZ]; omega, show (natsZ (l.take i)).map (Value.int .u8) = (bytesV l).take i by simp [bytesV, natsZ, List.map_take]]; exact hr), fun z hz => HB.out z (List.mem_of_mem_take hz), by rw [List.length_take, ← HN.out]; omega, HT3.out, HE3.out⟩
 have h1z : ((r : Int) == 1) = false := by simp; omega
 by_cases h2 : r = 2
 ·have h2z : ((r : Int) == 2) = true := by simp [h2]
  go_wp2_with fail
  refine (next_lt tb 256 (by decide) (by decide) _ HT3.out).mono ?_
  rintro e4 w4 ⟨q, rfl, hq, ht4, hx4, -⟩
  have HO4 := Lib.hid (row_keep2 HO3.out hx4 (fun k hk e => by have := (World.ownsRow.lt HO3.out k hk).1; unfold At at e; omega))
  have HE4 := Lib.hid (HE3.out.trans hx4)
  have HT4 := Lib.hid ht4
  have hw4 := HE4.out.size
  clear ht4 hx4
  have hqw : IntKind.u8.wrap (q : Int) = (q : Int) := IntWalk.u8_in _ (by omega)
  go_wp2_with (at_builtin; (refine wpList_app _ rfl (.tmp 49) (.tmp 53) 53 rfl W.heap.size 5 iB _ 1 1 Tryz.underlying53 hiB hB0 hB1 hB2 rfl (by omega) (.slice a1 n c1) n (bytesV l) rfl (row_keep HO4.out ((Ext.refl No _).alloc _) (fun _ _ x => x)) No (some ⟨w4.heap.size, 0, none⟩) 1 1 [.int .u8 (q : Int)] rfl (Row.block (alloc_top rfl) rfl no_no (by omega)) (by simp [Value.oneCell']) (by omega) (by omega) (by simp; omega) ?_); (intro v5 w5 hown hg hat))
  go_ret
  have hx5 : Ext (fun k => Value.ownBlock (.slice a1 n c1) = some k) w4 w5 := ((Ext.refl _ w4).alloc _).grown hg (fun k hk _ => hk)
  have hge : ∀ k, Value.ownBlock (.slice a1 n c1) = some k → W.heap.size ≤ k := fun k hk => (World.ownsRow.lt HO4.out k hk).1
  exact ⟨_, l ++ [q], rfl, Lib.hid (OwnB.ints (show OwnB w5 W.heap.size _ (l ++ [q]) from by
   unfold OwnB
   rw [List.length_append, ← HN.out, show bytesV (l ++ [q]) = bytesV l ++ [.int .u8 (q : Int)] by simp [bytesV, natsZ]]
   exact hown) (fun _ _ x => x)), fun z hz => by
   rcases List.mem_append.1 hz with h | h
   ·exact HB.out z h
   rw [List.mem_singleton.1 h]; omega, by rw [List.length_append, ← HN.out]; exact Nat.le_refl _, HT4.out.extAbove hx5 (fun b hb e => by have := hge b e; omega), HE4.out.trans2 hx5 (fun b hb e => by have := hge b e; omega)⟩
 have h2z : ((r : Int) == 2) = false := by simp; omega
 by_cases hn0 : n = 0
 ·have hnz : ¬ (0 : Int) < (n : Int) := by omega
  clear hn0
  go_wp2_with fail
  go_ret
  exact ⟨_, l, rfl, Lib.hid (OwnB.ints (show OwnB w3 W.heap.size _ l from by unfold OwnB; rw [← HN.out]; exact HO3.out) (fun _ _ x => x)), HB.out, by rw [← HN.out]; omega, HT3.out, HE3.out⟩
 have hnz : (0 : Int) < (n : Int) := by omega
 have hilt : i < n := by omega
 obtain ⟨g, cap, hse, hgb, hgl⟩ := own_shape20 HO3.out hn0
 simp only [Value.slice.injEq] at hse
 obtain ⟨rfl, -, rfl⟩ := hse
 have hic : (i : Int) ≤ (c1 : Int) := by omega
 have hi0 : (0 : Int) ≤ (i : Int) := by omega
 have hi1 : (i : Int) + 1 ≤ (n : Int) := by omega
 have hi2 : (0 : Int) ≤ (i : Int) + 1 := by omega
 have hi3 : (i : Int) + 1 ≤ (c1 : Int) := by omega
 have hiw : IntKind.i64.wrap ((i : Int) + 1) = ((i + 1 : Nat) : Int) := by rw [IntWalk.i64_in _ (by omega)]; omega
 have hr := Row.drop (k := i + 1) (show Row No w3 1 (.slice (some ⟨g, 0, none⟩) n c1) n (bytesV l) from Row.ofOwns (M := No) HO3.out (fun _ _ x => x)) hilt
 rw [Nat.mul_one, Nat.zero_add, ← bytesV_drop] at hr
 obtain ⟨A, hA⟩ : ∃ A, A = (if c1 = i + 1 then some (⟨g, 0, none⟩ : Addr) else some ⟨g, i + 1, none⟩) := ⟨_, rfl⟩
 have hr2 : Row No w3 1 (.slice A (n - (i + 1)) (c1 - (i + 1))) (n - (i + 1)) (bytesV (l.drop (i + 1))) := by
  by_cases hci : c1 = i + 1
  ·have hni : n = i + 1 := by omega
   rw [show l.drop (i + 1) = [] from List.drop_of_length_le (by rw [← HN.out]; omega), hci, hni, Nat.sub_self]
   exact Row.nil _ _ _ _ _ (by omega)
  rw [hA, if_neg hci]; exact hr
 have HR := Lib.hid (show Row No w3.drew 1 (.slice A (n - (i + 1)) (c1 - (i + 1))) (n - (i + 1)) (bytesV (l.drop (i + 1))) from Row.extNo hr2 (Ext.refl No w3).drew)
 clear hr2
 have HC := Lib.hid (show w3.drew.ownsRow W.heap.size 5 1 (.slice (some ⟨g, 0, none⟩) i c1) i (bytesV (l.take i)) from ownB_cut (row_keep2 HO3.out (Ext.refl No w3).drew (fun _ _ x => x)) hin)
 have HED := Lib.hid (show Ext (At tb) W w3.drew from HE3.out.trans (Ext.refl _ w3).drew)
 have HTD := Lib.hid (HT3.out.ext (Ext.refl No w3).drew)
 have hw5 : W.heap.size ≤ w3.drew.heap.size := HED.out.size
 clear hr
 go_upto_region 5 with (fail)
 refine wp_region_held_drew (S := (fun _ => True)) (by kernel_rfl) ?_ (fun hHeld => ?_)
 ·trivial
 generalize w3.drew = v0 at *
 refine held_take (i := 0) (v := ?_) rfl (by kernel_rfl) (by kernel_rfl) (by kernel_rfl) (fun _ _ _ h => h) rfl (fun w hSw => ?_) hHeld ?_
 rotate_left
 ·go_simp; (try with_reducible rfl)
 try simp only [Act.put, List.setIfInBounds_toArray, List.set_cons_zero, List.set_cons_succ]
 refine held_take (i := 1) (v := ?_) rfl (by kernel_rfl) (by kernel_rfl) (by kernel_rfl) (fun _ _ _ h => h) rfl (fun w hSw => ?_) hHeld ?_
 rotate_left
 ·go_simp; (try with_reducible rfl)
 try simp only [Act.put, List.setIfInBounds_toArray, List.set_cons_zero, List.set_cons_succ]
 refine held_take (i := 2) (v := ?_) rfl (by kernel_rfl) (by kernel_rfl) (by kernel_rfl) (fun _ _ _ h => h) rfl (fun w hSw => ?_) hHeld ?_
 rotate_left
 ·go_simp; (try with_reducible rfl)
 try simp only [Act.put, List.setIfInBounds_toArray, List.set_cons_zero, List.set_cons_succ]
 refine held_take (i := 3) (v := ?_) rfl (by kernel_rfl) (by kernel_rfl) (by kernel_rfl) (fun _ _ _ h => h) rfl (fun w hSw => ?_) hHeld ?_
 rotate_left
 ·go_simp; (try with_reducible rfl)
 try simp only [Act.put, List.setIfInBounds_toArray, List.set_cons_zero, List.set_cons_succ]
 refine held_take (i := 4) (v := ?_) rfl (by kernel_rfl) (by kernel_rfl) (by kernel_rfl) (fun _ _ _ h => h) rfl (fun w hSw => ?_) hHeld ?_
 rotate_left
 ·go_simp; (try with_reducible rfl)
 try simp only [Act.put, List.setIfInBounds_toArray, List.set_cons_zero, List.set_cons_succ]
 refine held_take (i := 5) (v := ?_) rfl (by kernel_rfl) (by kernel_rfl) (by kernel_rfl) (fun _ _ _ h => h) rfl (fun w hSw => ?_) hHeld ?_
 rotate_left
 ·go_simp; (try with_reducible rfl)
 try simp only [Act.put, List.setIfInBounds_toArray, List.set_cons_zero, List.set_cons_succ]
 refine held_take (i := 6) (v := ?_) rfl (by kernel_rfl) (by kernel_rfl) (by kernel_rfl) (fun _ _ _ h => h) rfl (fun w hSw => ?_) hHeld ?_
 rotate_left
 ·go_simp; (try with_reducible rfl)
 try simp only [Act.put, List.setIfInBounds_toArray, List.set_cons_zero, List.set_cons_succ]
 rw [← hA]
 refine held_call (i := 7) rfl (by kernel_rfl) rfl (fun K hK => ?_)
 (refine wp_app _ (.tmp 21) (.tmp 25) 53 rfl W.heap.size 5 iB _ 1 1 Tryz.underlying53 hiB hB0 hB1 hB2 rfl (by omega) (.slice (some ⟨g, 0, none⟩) i c1) i (bytesV (l.take i)) rfl HC.out No A (n - (i + 1)) (c1 - (i + 1)) (bytesV (l.drop (i + 1))) rfl HR.out (bytes_one _) (by omega) (by omega) (by omega) ?_); (intro v5 w5 hown hg hat)
 refine hK.out _ _ ?_ (fun hNew => ?_)
 ·trivial
 clear hK K hHeld
 have hHeld := hNew
 clear hNew
 try simp only [Act.put, List.setIfInBounds_toArray, List.set_cons_zero, List.set_cons_succ]
 refine held_take (i := 8) (v := ?_) rfl (by kernel_rfl) (by kernel_rfl) (by kernel_rfl) (fun _ _ _ h => h) rfl (fun w hSw => ?_) hHeld ?_
 rotate_left
 ·go_simp; (try with_reducible rfl)
 try simp only [Act.put, List.setIfInBounds_toArray, List.set_cons_zero, List.set_cons_succ]
 refine wpAnyH_done (by kernel_rfl) ?_ _
 go_wp2_with fail
 go_ret
 have hx5 : Ext (fun k => k = g) v0 w5 := (Ext.refl _ v0).grown hg (fun k hk _ => by simpa [Value.ownBlock] using hk.symm)
 exact ⟨_, l.take i ++ l.drop (i + 1), rfl, Lib.hid (OwnB.ints (show OwnB w5 W.heap.size _ (l.take i ++ l.drop (i + 1)) from by
  unfold OwnB
  rw [List.length_append, List.length_take, List.length_drop, ← HN.out, show bytesV (l.take i ++ l.drop (i + 1)) = bytesV (l.take i) ++ bytesV (l.drop (i + 1)) by simp [bytesV, natsZ], Nat.min_eq_left hin]
  exact hown) (fun _ _ x => x)), fun z hz => by
  rcases List.mem_append.1 hz with h | h
  ·exact HB.out z (List.mem_of_mem_take h)
  exact HB.out z (List.mem_of_mem_drop h), by rw [List.length_append, List.length_take, List.length_drop, ← HN.out]; omega, HTD.out.extAbove hx5 (fun b hb e => by omega), HED.out.trans2 hx5 (fun b hb e => by omega)⟩

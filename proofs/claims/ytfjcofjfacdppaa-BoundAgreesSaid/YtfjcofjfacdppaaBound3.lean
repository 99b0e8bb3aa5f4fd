/- The laws of the bounds. -/
import Derived.Test.YtfjcofjfacdppaaBound2
import Derived.Test.YtfjcofjfacdppaaAge
namespace Go.Proofs.Ytfjcofjfacdppaa
open Go Go.RowKit

theorem b1 : stepsZ 3 2 4 = 20 := by decide
theorem b2 : costZ 3 2 4 = 160 := by decide
theorem b3 : queryZ 0 0 0 0 0 0 0 1 1 1 = 1073741824 := by decide
theorem sane22_any (w : World) : Calls Try.prog 34 #[] w fun e w' => e = .returned (.bool true) ∧ Ext No w w' := by
  have b1 := b1
  have b2 := b2
  have b3 := b3
  go_enter Try.func34, Try.ntmps34
  go_wp2_with (first | (go_at_call 32; refine (steps_any _ _ _ _).mono ?_; rintro e' w3 ⟨rfl, rfl⟩) | (go_at_call 33; refine (cost_any _ _ _ _).mono ?_; rintro e' w3 ⟨rfl, rfl⟩) | (go_at_call 31; refine (query_any 0 0 0 0 0 0 0 _ _ _ _).mono ?_; rintro e' w3 ⟨rfl, hx⟩))
  go_ret
  exact ⟨rfl, by assumption⟩

theorem mulZ_mono (a b c : Int) (h : clampZ a ≤ clampZ b) : mulZ a c ≤ mulZ b c := clampZ_mono _ _ (Int.mul_le_mul_of_nonneg_right h (clampZ_bd c).1)
theorem clampZ_cl {a b : Int} (h : a ≤ b) : clampZ a ≤ clampZ b := clampZ_mono _ _ h
theorem addZ_mono2 (a b c d : Int) (h : clampZ a ≤ clampZ b) (h2 : clampZ c ≤ clampZ d) : addZ a c ≤ addZ b d := by
  refine Int.le_trans (addZ_mono a b c h) ?_
  rw [addZ_comm' b c, addZ_comm' b d]
  exact addZ_mono _ _ _ h2
theorem mulZ_mono2 (a b c d : Int) (h : clampZ a ≤ clampZ b) (h2 : clampZ c ≤ clampZ d) : mulZ a c ≤ mulZ b d := by
  refine Int.le_trans (mulZ_mono a b c h) ?_
  rw [mulZ_comm b c, mulZ_comm b d]
  exact mulZ_mono _ _ _ h2
theorem stepsZ_mono (n e t n' e' t' : Int) (h1 : clampZ n ≤ clampZ n') (h2 : clampZ e ≤ clampZ e') (h3 : clampZ t ≤ clampZ t') : stepsZ n e t ≤ stepsZ n' e' t' :=
  addZ_mono2 _ _ _ _ (clampZ_cl (addZ_mono2 _ _ _ _ h1 h2)) (clampZ_cl (mulZ_mono2 _ _ _ _ h1 (clampZ_cl (addZ_mono2 _ _ _ _ h3 (Int.le_refl _)))))
theorem queryZ_mono (a b c d e f g n m t n' m' t' : Int) (h1 : clampZ n ≤ clampZ n') (h2 : clampZ m ≤ clampZ m') (h3 : clampZ t ≤ clampZ t') : queryZ a b c d e f g n m t ≤ queryZ a b c d e f g n' m' t' := by
  by_cases hv : validB a b c d e f g = true
  · rw [queryZ_yes hv, queryZ_yes hv]
    refine mulZ_mono _ _ _ (clampZ_cl (addZ_mono _ _ _ (clampZ_cl (divZ_mono _ _ _ (clampZ_cl ?_)))))
    exact mulZ_mono2 _ _ _ _ (Int.le_refl _) (clampZ_cl (stepsZ_mono _ _ _ _ _ _ h1 h2 h3))
  · have hv' : validB a b c d e f g = false := by simpa using hv
    rw [queryZ_no hv', queryZ_no hv']
    exact Int.le_refl _
theorem steps_cost (n e t : Int) : stepsZ n e t ≤ costZ n e t := by
  have h := clampZ_bd (addZ n e)
  have hb : 0 ≤ stepsZ n e t ∧ stepsZ n e t ≤ 1073741824 := clampZ_bd _
  unfold costZ mulZ
  rw [clampZ_of (stepsZ n e t) hb.1 hb.2]
  have h8 : clampZ 8 = 8 := by decide
  rw [h8]
  simp only [clampZ]
  repeat' split
  all_goals omega

set_option maxRecDepth 100000 in
set_option maxHeartbeats 1000000 in
theorem bgrows_walk (sl : Value) (zs : List Int) (n m t : Int) (w : World) (hs : Ints No w .i64 sl zs) : Calls Try.prog 10 #[sl, .int .i64 n, .int .i64 m, .int .i64 t] w fun e w' => e = .returned (.bool true) ∧ Ext No w w' := by
  have hs' := Lib.hid hs
  clear hs
  go_enter Try.func10, Try.ntmps10
  go_wp2_with fail
  refine (new_any _ zs _ hs'.out).mono ?_
  rintro e w1 ⟨rfl, ht, hx1, _⟩
  go_wp2_with fail
  refine (config_any _ _ ht).mono ?_
  rintro e w2 ⟨v, rfl, ⟨a, b, c, d, e1, f, g, rfl⟩, _, hx2⟩
  have hg1 := queryZ_mono a b c d e1 f g n m t (addZ n 1) m t (clamp_addZ n 1) (Int.le_refl _) (Int.le_refl _)
  have hg2 := queryZ_mono a b c d e1 f g n m t n (addZ m 1) t (Int.le_refl _) (clamp_addZ m 1) (Int.le_refl _)
  have hg3 := queryZ_mono a b c d e1 f g n m t n m (addZ t 1) (Int.le_refl _) (Int.le_refl _) (clamp_addZ t 1)
  have hg4 := steps_cost n m t
  have hy0 := ((((hx1.ofNo (M := At w.heap.size)).trans hx2).toNo (fun i hi x => by cases x; exact Nat.lt_irrefl _ hi)).alloc (.cells #[.int .i64 a, .int .i64 b, .int .i64 c, .int .i64 d, .int .i64 e1, .int .i64 f, .int .i64 g] 34))
  have hy := hy0
  have hB : (w2.alloc (.cells #[.int .i64 a, .int .i64 b, .int .i64 c, .int .i64 d, .int .i64 e1, .int .i64 f, .int .i64 g] 34)).heap[w2.heap.size]? = some _ := alloc_top rfl
  clear hy0 hx1 hx2 ht
  go_wp2_with (first | (go_at_call 32; refine (steps_any _ _ _ _).mono ?_; rintro e' w3 ⟨rfl, rfl⟩) | (go_at_call 33; refine (cost_any _ _ _ _).mono ?_; rintro e' w3 ⟨rfl, rfl⟩) | (go_at_call 31; refine (query_any _ _ _ _ _ _ _ _ _ _ _).mono ?_; rintro e' w3 ⟨rfl, hx⟩; replace hB := hx.blk hB (fun x => x.elim); have cB := cellOf hB; replace hy := hy.transNo hx; clear hx) | (go_at_call 17; refine (radd_any _ _ _).mono ?_; rintro e' w3 ⟨rfl, rfl⟩) | (go_at_call 34; refine (sane22_any _).mono ?_; rintro e' w3 ⟨rfl, hx⟩; replace hB := hx.blk hB (fun x => x.elim); have cB := cellOf hB; replace hy := hy.transNo hx; clear hx))
  go_ret
  exact ⟨rfl, hy⟩

set_option maxRecDepth 100000 in
set_option maxHeartbeats 1000000 in
theorem bagrees_walk (sl : Value) (zs : List Int) (a b c d e f g n m t : Int) (w : World) (hs : Ints No w .i64 sl zs) : Calls Try.prog 11 #[sl, cfg a b c d e f g, .int .i64 n, .int .i64 m, .int .i64 t] w fun e w' => e = .returned (.bool true) ∧ Ext No w w' := by
  have hs' := Lib.hid hs
  clear hs
  go_enter Try.func11, Try.ntmps11
  go_wp2_with fail
  refine (new_any _ zs _ (hs'.out.extNo ((Ext.refl _ _).alloc _))).mono ?_
  rintro e0 w1 ⟨rfl, ht, hx1, hz1⟩
  have hB := hx1.blk (alloc_top (w := w) rfl) (fun x => x.elim)
  have hy : Ext (At (w.heap.size + 1)) w w1 := ((Ext.refl _ _).alloc _).transNo hx1
  rw [World.size_alloc] at ht
  clear hx1 hz1
  go_wp2_with fail
  go_loopw [12] (fun i wr => ∃ k : Nat, k ≤ 5 ∧ i = .int .i64 k ∧ TapeOk wr (w.heap.size + 1) ∧ wr.heap[w.heap.size]? = some (.cells #[.int .i64 a, .int .i64 b, .int .i64 c, .int .i64 d, .int .i64 e, .int .i64 f, .int .i64 g] 34 (0, 0)) ∧ Ext (At (w.heap.size + 1)) w wr) (fun i _ => 5 - (intOf i).toNat)
  case atStart => exact ⟨0, by omega, rfl, ht, hB, hy⟩
  case round =>
    obtain ⟨k, hk, rfl, ht, hB, hy⟩ := hrel
    have cB := cellOf hB
    by_cases hlt : k < 5
    · go_wp2_with fail
      refine (config_any _ _ ht).mono ?_
      rintro e2 w2 ⟨v, rfl, ⟨a1, b1, c1, d1, e1, f1, g1, rfl⟩, ht2, hx2⟩
      have hB2 := hx2.blk hB (by unfold At; omega)
      have hy2 := hy.trans hx2
      clear hx2 hB hy cB ht
      go_wp2_with (go_at_call 36; refine (next_any _ _ (by omega) _ (by assumption)).mono ?_; rintro e3 w3 ⟨r3, rfl, _, ht2, hx3, _⟩; replace hB2 := hx3.blk hB2 (by unfold At; omega); replace hy2 := hy2.trans hx3; clear hx3)
      refine (agrees_any _ _ _ _ _ _ _ _ _ _ _).mono ?_
      rintro e4 w4 ⟨rfl, hx4⟩
      have ht4 := ht2.ext hx4
      have hB4 := hx4.blk hB2 (fun x => x.elim)
      have hy4 := hy2.transNo hx4
      clear hx4 hB2 hy2
      go_wp2_with fail
      refine (config_any _ _ ht4).mono ?_
      rintro e5 w5 ⟨v, rfl, ⟨a2, b2, c2, d2, e2, f2, g2, rfl⟩, ht5, hx5⟩
      have hB5 := hx5.blk hB4 (by unfold At; omega)
      have hy5 := hy4.trans hx5
      clear hx5 hB4 hy4 ht4
      go_wp2_with fail
      refine (agrees_any _ _ _ _ _ _ _ _ _ _ _).mono ?_
      rintro e6 w6 ⟨rfl, hx6⟩
      have ht6 := ht5.ext hx6
      have hB6 := hx6.blk hB5 (fun x => x.elim)
      have hy6 := hy5.transNo hx6
      clear hx6 hB5 hy5 ht5
      go_wp2
      go_roundw
      case rel => exact ⟨k + 1, by omega, by go_num, ht6, hB6, hy6⟩
      case measure => simp [intOf]; omega
    · go_wp2_with fail
      refine (agrees_any _ _ _ _ _ _ _ _ _ _ _).mono ?_
      rintro e6 w6 ⟨rfl, hx6⟩
      go_wp2_with (go_at_call 34; refine (sane22_any _).mono ?_; rintro e7 w7 ⟨rfl, hx7⟩)
      go_ret
      exact ⟨rfl, (hy.transNo (hx6.transNo hx7)).toNo (fun i hi x => by cases x; omega)⟩
end Go.Proofs.Ytfjcofjfacdppaa

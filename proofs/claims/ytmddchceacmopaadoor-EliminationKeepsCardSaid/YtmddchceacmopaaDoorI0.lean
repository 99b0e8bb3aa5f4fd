
import Derived.Test.YtmddchceacmopaaDoorF4
set_option linter.unusedVariables false
set_option linter.unusedSimpArgs false
namespace Go.Proofs.YtmddchceacmopaaDoor
open Go Go.RowKit
theorem tells_f {p : Prop} {b : Bool} (h : b = true ↔ p) (hp : ¬ p) : b = false := by
 cases b with
 | true => exact absurd (h.1 rfl) hp
 | false => rfl
theorem tells_t {p : Prop} {b : Bool} (h : b = true ↔ p) (hp : p) : b = true := h.2 hp
set_option maxRecDepth 100000 in
set_option maxHeartbeats 4000000 in
theorem rising_any (sl : Value) (l : List Int) (n : Int) (W : World) (h : Ints No W .i64 sl l) :
  Calls Tryd.prog 82 #[sl, .int .i64 n] W (Tells (AscL l n) W) := by
 have H := Lib.hid h
 obtain ⟨a, cap, rfl⟩ := Row.slice h
 have hlen := h.2.1
 clear h
 go_enter Tryd.func82, Tryd.ntmps82
 go_wp2_with fail
 go_loopw [5] (fun i wr => ∃ k : Nat, k ≤ l.length ∧ i = .int .i64 k ∧ Hid (Ext No W wr) ∧ Hid (∀ j (hj : j < l.length), j < k → 0 ≤ l[j] ∧ l[j] < n ∧ (0 < j → l[j - 1]'(by omega) < l[j]))) (fun i _ => l.length - (intOf i).toNat)
 case atStart => exact ⟨0, Nat.zero_le _, rfl, Lib.hid (Ext.refl _ _), Lib.hid (fun j _ hj => absurd hj (Nat.not_lt_zero _))⟩
 obtain ⟨k, hk, rfl, hx, hm⟩ := hrel
 rename World => wr
 by_cases hlt : k < l.length
 ·have hlz : (k : Int) < (l.length : Int) := by omega
  obtain ⟨b, off, cap', hsl, hb1, _, hcell⟩ := H.out.at hlt
  simp only [Value.slice.injEq] at hsl
  obtain ⟨rfl, _, rfl⟩ := hsl
  have q0 := hx.out.keep (hcell k hlt)
  have HK := Lib.hid hcell
  clear hcell
  obtain ⟨y, hy⟩ : ∃ y, y = l[k] := ⟨_, rfl⟩
  rw [← hy] at q0
  have HY := Lib.hid hy
  clear hy hb1
  by_cases h1 : y < 0
  ·go_upto_region 4 with (fail)
   refine wp_region_held_drew (S := (fun w' => Ext No wr w')) (by kernel_rfl) ?_ (fun hHeld => ?_)
   ·exact (Ext.refl _ _).drew
   refine hHs [0, 1, 2, 3, 4, 5] ?_
   iterate 6
    refine hTn ?_ hHeld (fun w hSw => ?_) ?_
    rotate_left
    ·(have hEs : Ext No wr _ := hSw); (have q0 := hEs.keep q0); go_simp; (try with_reducible rfl)
    simp only [Act.put, nzA, nzB, nzC]
   refine hHe ?_
   refine hHs [6, 7, 8, 9, 10, 11] ?_
   iterate 6
    refine hSn hHeld ?_
    simp only [Act.put, nzA, nzB, nzC]
   refine hHe ?_
   refine hHs [12, 13] ?_
   iterate 2
    refine hTn ?_ hHeld (fun w hSw => ?_) ?_
    rotate_left
    ·go_simp; (try with_reducible rfl)
    simp only [Act.put, nzA, nzB, nzC]
   refine hHe ?_
   refine hHs [14, 15, 16, 17, 18, 19, 20, 21, 22, 23, 24, 25, 26, 27] ?_
   iterate 14
    refine hSn hHeld ?_
    simp only [Act.put, nzA, nzB, nzC]
   refine hHe ?_
   refine hTk 28 ?_ hHeld (fun w hSw => ?_) ?_
   rotate_left
   ·go_simp; (try with_reducible rfl)
   simp only [Act.put, nzA, nzB, nzC]
   refine wpAnyH_done (by kernel_rfl) ?_ _
   have hEx : Ext No wr _ := hHeld
   go_wp2_with fail
   go_ret
   exact tells_false (fun e => by have := (e k hlt).1; rw [← HY.out] at this; omega) (hx.out.transNo hEx)
  by_cases h2 : n ≤ y
  ·go_upto_region 4 with (fail)
   refine wp_region_held_drew (S := (fun w' => Ext No wr w')) (by kernel_rfl) ?_ (fun hHeld => ?_)
   ·exact (Ext.refl _ _).drew
   refine hHs [0, 1, 2, 3, 4, 5, 6, 7, 8, 9, 10, 11, 12, 13] ?_
   iterate 14
    refine hTn ?_ hHeld (fun w hSw => ?_) ?_
    rotate_left
    ·(have hEs : Ext No wr _ := hSw); (have q0 := hEs.keep q0); go_simp; (try with_reducible rfl)
    simp only [Act.put, nzA, nzB, nzC]
   refine hHe ?_
   refine hHs [14, 15, 16, 17, 18, 19, 20, 21, 22, 23, 24, 25, 26, 27] ?_
   iterate 14
    refine hSn hHeld ?_
    simp only [Act.put, nzA, nzB, nzC]
   refine hHe ?_
   refine hTk 28 ?_ hHeld (fun w hSw => ?_) ?_
   rotate_left
   ·go_simp; (try with_reducible rfl)
   simp only [Act.put, nzA, nzB, nzC]
   refine wpAnyH_done (by kernel_rfl) ?_ _
   have hEx : Ext No wr _ := hHeld
   go_wp2_with fail
   go_ret
   exact tells_false (fun e => by have := (e k hlt).2.1; rw [← HY.out] at this; omega) (hx.out.transNo hEx)
  by_cases h3 : k = 0
  ·subst h3
   rw [Nat.add_zero] at q0
   go_upto_region 4 with (fail)
   refine wp_region_held_drew (S := (fun w' => Ext No wr w')) (by kernel_rfl) ?_ (fun hHeld => ?_)
   ·exact (Ext.refl _ _).drew
   refine hHs [0, 1, 2, 3, 4, 5, 6, 7, 8, 9, 10, 11, 12, 13, 14, 15, 16] ?_
   iterate 17
    refine hTn ?_ hHeld (fun w hSw => ?_) ?_
    rotate_left
    ·(have hEs : Ext No wr _ := hSw); (have q0 := hEs.keep q0); go_simp; (try with_reducible rfl)
    simp only [Act.put, nzA, nzB, nzC]
   refine hHe ?_
   refine hHs [17, 18, 19, 20, 21, 22, 23, 24, 25, 26] ?_
   iterate 10
    refine hSn hHeld ?_
    simp only [Act.put, nzA, nzB, nzC]
   refine hHe ?_
   refine hHs [27, 28] ?_
   iterate 2
    refine hTn ?_ hHeld (fun w hSw => ?_) ?_
    rotate_left
    ·go_simp; (try with_reducible rfl)
    simp only [Act.put, nzA, nzB, nzC]
   refine hHe ?_
   refine wpAnyH_done (by kernel_rfl) ?_ _
   have hEx : Ext No wr _ := hHeld
   go_wp2_with fail
   go_roundw
   case rel => exact ⟨1, by omega, by go_num, Lib.hid (hx.out.transNo hEx), Lib.hid (fun j hj hjk => by
    obtain rfl : j = 0 := by omega
    rw [← HY.out]
    exact ⟨by omega, by omega, fun e => absurd e (Nat.lt_irrefl _)⟩)⟩
   case measure => simp [intOf]; omega
  have hk1 : k - 1 < l.length := by omega
  have q1 := hx.out.keep (HK.out (k - 1) hk1)
  obtain ⟨z, hz⟩ : ∃ z, z = l[k - 1] := ⟨_, rfl⟩
  rw [← hz] at q1
  have HZ := Lib.hid hz
  clear hz
  have hpos : (0 : Int) < (k : Int) := by omega
  have hposn : 0 < k := by omega
  have hlm : IntKind.i64.wrap ((k : Int) - 1) = ((k - 1 : Nat) : Int) := by rw [IntWalk.i64_in _ (by omega)]; omega
  have hlp : 0 ≤ ((k - 1 : Nat) : Int) := by omega
  have hlq : ((k - 1 : Nat) : Int) < (l.length : Int) := by omega
  by_cases h4 : y ≤ z
  ·go_upto_region 4 with (fail)
   refine wp_region_held_drew (S := (fun w' => Ext No wr w')) (by kernel_rfl) ?_ (fun hHeld => ?_)
   ·exact (Ext.refl _ _).drew
   refine hHs [0, 1, 2, 3, 4, 5, 6, 7, 8, 9, 10, 11, 12, 13, 14, 15, 16, 17, 18, 19, 20] ?_
   iterate 21
    refine hTn ?_ hHeld (fun w hSw => ?_) ?_
    rotate_left
    ·(have hEs : Ext No wr _ := hSw); (have q0 := hEs.keep q0); go_simp; (try with_reducible rfl)
    simp only [Act.put, nzA, nzB, nzC]
   refine hHe ?_
   refine hHs [21, 22, 23, 24] ?_
   iterate 4
    refine hTn ?_ hHeld (fun w hSw => ?_) ?_
    rotate_left
    ·(have hEs : Ext No wr _ := hSw); (have q0 := hEs.keep q1); go_simp; (try with_reducible rfl)
    simp only [Act.put, nzA, nzB, nzC]
   refine hHe ?_
   refine hHs [25, 26, 27, 28] ?_
   iterate 4
    refine hTn ?_ hHeld (fun w hSw => ?_) ?_
    rotate_left
    ·(have hEs : Ext No wr _ := hSw); (have q0 := hEs.keep q0); go_simp; (try with_reducible rfl)
    simp only [Act.put, nzA, nzB, nzC]
   refine hHe ?_
   refine wpAnyH_done (by kernel_rfl) ?_ _
   have hEx : Ext No wr _ := hHeld
   go_wp2_with fail
   go_ret
   exact tells_false (fun e => by have := (e k hlt).2.2 (by omega); rw [← HY.out, ← HZ.out] at this; omega) (hx.out.transNo hEx)
  go_upto_region 4 with (fail)
  refine wp_region_held_drew (S := (fun w' => Ext No wr w')) (by kernel_rfl) ?_ (fun hHeld => ?_)
  ·exact (Ext.refl _ _).drew
  refine hHs [0, 1, 2, 3, 4, 5, 6, 7, 8, 9, 10, 11, 12, 13, 14, 15, 16, 17, 18, 19, 20] ?_
  iterate 21
   refine hTn ?_ hHeld (fun w hSw => ?_) ?_
   rotate_left
   ·(have hEs : Ext No wr _ := hSw); (have q0 := hEs.keep q0); go_simp; (try with_reducible rfl)
   simp only [Act.put, nzA, nzB, nzC]
  refine hHe ?_
  refine hHs [21, 22, 23, 24] ?_
  iterate 4
   refine hTn ?_ hHeld (fun w hSw => ?_) ?_
   rotate_left
   ·(have hEs : Ext No wr _ := hSw); (have q0 := hEs.keep q1); go_simp; (try with_reducible rfl)
   simp only [Act.put, nzA, nzB, nzC]
  refine hHe ?_
  refine hHs [25, 26, 27, 28] ?_
  iterate 4
   refine hTn ?_ hHeld (fun w hSw => ?_) ?_
   rotate_left
   ·(have hEs : Ext No wr _ := hSw); (have q0 := hEs.keep q0); go_simp; (try with_reducible rfl)
   simp only [Act.put, nzA, nzB, nzC]
  refine hHe ?_
  refine wpAnyH_done (by kernel_rfl) ?_ _
  have hEx : Ext No wr _ := hHeld
  go_wp2_with fail
  go_roundw
  case rel => exact ⟨k + 1, by omega, by go_num, Lib.hid (hx.out.transNo hEx), Lib.hid (fun j hj hjk => by
   by_cases e : j = k
   ·subst e
    rw [← HY.out, ← HZ.out]
    exact ⟨by omega, by omega, fun _ => by omega⟩
   exact hm.out j hj (by omega))⟩
  case measure => simp [intOf]; omega
 have hge : ¬ (k : Int) < (l.length : Int) := by omega
 go_wp2_with fail
 go_ret
 exact tells_true (fun j hj => hm.out j hj (by omega)) hx.out

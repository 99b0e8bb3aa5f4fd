/- Rising of the reference. -/
import Derived.Test.YtkdjdhflhlbelaaI13
import Derived.Test.YtkdjdhflhlbelaaRefB
import Derived.Test.YtkdjdhflhlbelaaTrF
set_option linter.unusedVariables false
set_option linter.unusedSimpArgs false
namespace Go.Proofs.Ytkdjdhflhlbelaa
open Go Go.RowKit
theorem tells_f {p : Prop} {b : Bool} (h : b = true ↔ p) (hp : ¬ p) : b = false := by
 cases b with
 | true => exact absurd (h.1 rfl) hp
 | false => rfl
theorem tells_t {p : Prop} {b : Bool} (h : b = true ↔ p) (hp : p) : b = true := h.2 hp
set_option maxRecDepth 100000 in
set_option maxHeartbeats 4000000 in
theorem rising_any (sl : Value) (l : List Int) (n : Int) (W : World) (h : Ints No W .i64 sl l) :
  Calls Try.prog 101 #[sl, .int .i64 n] W (Tells (AscL l n) W) := by
 have H := Lib.hid h
 obtain ⟨a, cap, rfl⟩ := Row.slice h
 have hlen := h.2.1
 clear h
 go_enter Try.func101, Try.ntmps101
 go_wp2_with fail
 go_loopw [5] (fun i wr => ∃ k : Nat, k ≤ l.length ∧ i = .int .i64 k ∧ Hid (Ext No W wr) ∧ Hid (∀ j (hj : j < l.length), j < k → 0 ≤ l[j] ∧ l[j] < n ∧ (0 < j → l[j - 1]'(by omega) < l[j]))) (fun i _ => l.length - (intOf i).toNat)
 case atStart => exact ⟨0, Nat.zero_le _, rfl, Lib.hid (Ext.refl _ _), Lib.hid (fun j _ hj => absurd hj (Nat.not_lt_zero _))⟩
 case round =>
  obtain ⟨k, hk, rfl, hx, hm⟩ := hrel
  rename World => wr
  by_cases hlt : k < l.length
  ·have hlz : (k : Int) < (l.length : Int) := by omega
   obtain ⟨b, off, cap', hsl, hb1, _, hcell⟩ := H.out.at hlt
   simp only [Value.slice.injEq] at hsl
   obtain ⟨rfl, _, rfl⟩ := hsl
   have q0 := hx.out.keep (hcell k hlt)
   have HK := Lib.hid hcell
   clear hcell
   obtain ⟨y, hy⟩ : ∃ y, y = l[k] := ⟨_, rfl⟩
   rw [← hy] at q0
   have HY := Lib.hid hy
   clear hy hb1
   by_cases h1 : y < 0
   ·go_upto_region 4 with (fail)
    refine wp_region_held_drew (S := (fun w' => Ext No wr w')) (by kernel_rfl) ?_ (fun hHeld => ?_)
    ·exact (Ext.refl _ _).drew
    refine hTk (i := 0) (v := ?_) hHeld (fun w hSw => ?_) ?_
    rotate_left
    ·go_simp; (try with_reducible rfl)
    try simp only [Act.put, nzA, nzB, nzC]
    refine hTk (i := 1) (v := ?_) hHeld (fun w hSw => ?_) ?_
    rotate_left
    ·go_simp; (try with_reducible rfl)
    try simp only [Act.put, nzA, nzB, nzC]
    refine hTk (i := 2) (v := ?_) hHeld (fun w hSw => ?_) ?_
    rotate_left
    ·go_simp; (try with_reducible rfl)
    try simp only [Act.put, nzA, nzB, nzC]
    refine hTk (i := 3) (v := ?_) hHeld (fun w hSw => ?_) ?_
    rotate_left
    ·(have hEs : Ext No wr _ := hSw); (have x0 := hEs.keep q0); go_simp; (try with_reducible rfl)
    try simp only [Act.put, nzA, nzB, nzC]
    refine hTk (i := 4) (v := ?_) hHeld (fun w hSw => ?_) ?_
    rotate_left
    ·go_simp; (try with_reducible rfl)
    try simp only [Act.put, nzA, nzB, nzC]
    refine hTk (i := 5) (v := ?_) hHeld (fun w hSw => ?_) ?_
    rotate_left
    ·go_simp; (try with_reducible rfl)
    try simp only [Act.put, nzA, nzB, nzC]
    refine hSk (i := 6) hHeld ?_
    try simp only [Act.put, nzA, nzB, nzC]
    refine hSk (i := 7) hHeld ?_
    try simp only [Act.put, nzA, nzB, nzC]
    refine hSk (i := 8) hHeld ?_
    try simp only [Act.put, nzA, nzB, nzC]
    refine hSk (i := 9) hHeld ?_
    try simp only [Act.put, nzA, nzB, nzC]
    refine hSk (i := 10) hHeld ?_
    try simp only [Act.put, nzA, nzB, nzC]
    refine hSk (i := 11) hHeld ?_
    try simp only [Act.put, nzA, nzB, nzC]
    refine hTk (i := 12) (v := ?_) hHeld (fun w hSw => ?_) ?_
    rotate_left
    ·go_simp; (try with_reducible rfl)
    try simp only [Act.put, nzA, nzB, nzC]
    refine hTk (i := 13) (v := ?_) hHeld (fun w hSw => ?_) ?_
    rotate_left
    ·go_simp; (try with_reducible rfl)
    try simp only [Act.put, nzA, nzB, nzC]
    refine hSk (i := 14) hHeld ?_
    try simp only [Act.put, nzA, nzB, nzC]
    refine hSk (i := 15) hHeld ?_
    try simp only [Act.put, nzA, nzB, nzC]
    refine hSk (i := 16) hHeld ?_
    try simp only [Act.put, nzA, nzB, nzC]
    refine hSk (i := 17) hHeld ?_
    try simp only [Act.put, nzA, nzB, nzC]
    refine hSk (i := 18) hHeld ?_
    try simp only [Act.put, nzA, nzB, nzC]
    refine hSk (i := 19) hHeld ?_
    try simp only [Act.put, nzA, nzB, nzC]
    refine hSk (i := 20) hHeld ?_
    try simp only [Act.put, nzA, nzB, nzC]
    refine hSk (i := 21) hHeld ?_
    try simp only [Act.put, nzA, nzB, nzC]
    refine hSk (i := 22) hHeld ?_
    try simp only [Act.put, nzA, nzB, nzC]
    refine hSk (i := 23) hHeld ?_
    try simp only [Act.put, nzA, nzB, nzC]
    refine hSk (i := 24) hHeld ?_
    try simp only [Act.put, nzA, nzB, nzC]
    refine hSk (i := 25) hHeld ?_
    try simp only [Act.put, nzA, nzB, nzC]
    refine hSk (i := 26) hHeld ?_
    try simp only [Act.put, nzA, nzB, nzC]
    refine hSk (i := 27) hHeld ?_
    try simp only [Act.put, nzA, nzB, nzC]
    refine hTk (i := 28) (v := ?_) hHeld (fun w hSw => ?_) ?_
    rotate_left
    ·go_simp; (try with_reducible rfl)
    try simp only [Act.put, nzA, nzB, nzC]
    refine wpAnyH_done (by kernel_rfl) ?_ _
    have hEx : Ext No wr _ := hHeld
    go_wp2_with fail
    go_ret
    exact tells_false (fun e => by have := (e k hlt).1; rw [← HY.out] at this; omega) (hx.out.transNo hEx)
   ·by_cases h2 : n ≤ y
    ·go_upto_region 4 with (fail)
     refine wp_region_held_drew (S := (fun w' => Ext No wr w')) (by kernel_rfl) ?_ (fun hHeld => ?_)
     ·exact (Ext.refl _ _).drew
     refine hTk (i := 0) (v := ?_) hHeld (fun w hSw => ?_) ?_
     rotate_left
     ·go_simp; (try with_reducible rfl)
     try simp only [Act.put, nzA, nzB, nzC]
     refine hTk (i := 1) (v := ?_) hHeld (fun w hSw => ?_) ?_
     rotate_left
     ·go_simp; (try with_reducible rfl)
     try simp only [Act.put, nzA, nzB, nzC]
     refine hTk (i := 2) (v := ?_) hHeld (fun w hSw => ?_) ?_
     rotate_left
     ·go_simp; (try with_reducible rfl)
     try simp only [Act.put, nzA, nzB, nzC]
     refine hTk (i := 3) (v := ?_) hHeld (fun w hSw => ?_) ?_
     rotate_left
     ·(have hEs : Ext No wr _ := hSw); (have x0 := hEs.keep q0); go_simp; (try with_reducible rfl)
     try simp only [Act.put, nzA, nzB, nzC]
     refine hTk (i := 4) (v := ?_) hHeld (fun w hSw => ?_) ?_
     rotate_left
     ·go_simp; (try with_reducible rfl)
     try simp only [Act.put, nzA, nzB, nzC]
     refine hTk (i := 5) (v := ?_) hHeld (fun w hSw => ?_) ?_
     rotate_left
     ·go_simp; (try with_reducible rfl)
     try simp only [Act.put, nzA, nzB, nzC]
     refine hTk (i := 6) (v := ?_) hHeld (fun w hSw => ?_) ?_
     rotate_left
     ·go_simp; (try with_reducible rfl)
     try simp only [Act.put, nzA, nzB, nzC]
     refine hTk (i := 7) (v := ?_) hHeld (fun w hSw => ?_) ?_
     rotate_left
     ·go_simp; (try with_reducible rfl)
     try simp only [Act.put, nzA, nzB, nzC]
     refine hTk (i := 8) (v := ?_) hHeld (fun w hSw => ?_) ?_
     rotate_left
     ·go_simp; (try with_reducible rfl)
     try simp only [Act.put, nzA, nzB, nzC]
     refine hTk (i := 9) (v := ?_) hHeld (fun w hSw => ?_) ?_
     rotate_left
     ·(have hEs : Ext No wr _ := hSw); (have x0 := hEs.keep q0); go_simp; (try with_reducible rfl)
     try simp only [Act.put, nzA, nzB, nzC]
     refine hTk (i := 10) (v := ?_) hHeld (fun w hSw => ?_) ?_
     rotate_left
     ·go_simp; (try with_reducible rfl)
     try simp only [Act.put, nzA, nzB, nzC]
     refine hTk (i := 11) (v := ?_) hHeld (fun w hSw => ?_) ?_
     rotate_left
     ·go_simp; (try with_reducible rfl)
     try simp only [Act.put, nzA, nzB, nzC]
     refine hTk (i := 12) (v := ?_) hHeld (fun w hSw => ?_) ?_
     rotate_left
     ·go_simp; (try with_reducible rfl)
     try simp only [Act.put, nzA, nzB, nzC]
     refine hTk (i := 13) (v := ?_) hHeld (fun w hSw => ?_) ?_
     rotate_left
     ·go_simp; (try with_reducible rfl)
     try simp only [Act.put, nzA, nzB, nzC]
     refine hSk (i := 14) hHeld ?_
     try simp only [Act.put, nzA, nzB, nzC]
     refine hSk (i := 15) hHeld ?_
     try simp only [Act.put, nzA, nzB, nzC]
     refine hSk (i := 16) hHeld ?_
     try simp only [Act.put, nzA, nzB, nzC]
     refine hSk (i := 17) hHeld ?_
     try simp only [Act.put, nzA, nzB, nzC]
     refine hSk (i := 18) hHeld ?_
     try simp only [Act.put, nzA, nzB, nzC]
     refine hSk (i := 19) hHeld ?_
     try simp only [Act.put, nzA, nzB, nzC]
     refine hSk (i := 20) hHeld ?_
     try simp only [Act.put, nzA, nzB, nzC]
     refine hSk (i := 21) hHeld ?_
     try simp only [Act.put, nzA, nzB, nzC]
     refine hSk (i := 22) hHeld ?_
     try simp only [Act.put, nzA, nzB, nzC]
     refine hSk (i := 23) hHeld ?_
     try simp only [Act.put, nzA, nzB, nzC]
     refine hSk (i := 24) hHeld ?_
     try simp only [Act.put, nzA, nzB, nzC]
     refine hSk (i := 25) hHeld ?_
     try simp only [Act.put, nzA, nzB, nzC]
     refine hSk (i := 26) hHeld ?_
     try simp only [Act.put, nzA, nzB, nzC]
     refine hSk (i := 27) hHeld ?_
     try simp only [Act.put, nzA, nzB, nzC]
     refine hTk (i := 28) (v := ?_) hHeld (fun w hSw => ?_) ?_
     rotate_left
     ·go_simp; (try with_reducible rfl)
     try simp only [Act.put, nzA, nzB, nzC]
     refine wpAnyH_done (by kernel_rfl) ?_ _
     have hEx : Ext No wr _ := hHeld
     go_wp2_with fail
     go_ret
     exact tells_false (fun e => by have := (e k hlt).2.1; rw [← HY.out] at this; omega) (hx.out.transNo hEx)
    ·by_cases h3 : k = 0
     ·subst h3
      rw [Nat.add_zero] at q0
      go_upto_region 4 with (fail)
      refine wp_region_held_drew (S := (fun w' => Ext No wr w')) (by kernel_rfl) ?_ (fun hHeld => ?_)
      ·exact (Ext.refl _ _).drew
      refine hTk (i := 0) (v := ?_) hHeld (fun w hSw => ?_) ?_
      rotate_left
      ·go_simp; (try with_reducible rfl)
      try simp only [Act.put, nzA, nzB, nzC]
      refine hTk (i := 1) (v := ?_) hHeld (fun w hSw => ?_) ?_
      rotate_left
      ·go_simp; (try with_reducible rfl)
      try simp only [Act.put, nzA, nzB, nzC]
      refine hTk (i := 2) (v := ?_) hHeld (fun w hSw => ?_) ?_
      rotate_left
      ·go_simp; (try with_reducible rfl)
      try simp only [Act.put, nzA, nzB, nzC]
      refine hTk (i := 3) (v := ?_) hHeld (fun w hSw => ?_) ?_
      rotate_left
      ·(have hEs : Ext No wr _ := hSw); (have x0 := hEs.keep q0); go_simp; (try with_reducible rfl)
      try simp only [Act.put, nzA, nzB, nzC]
      refine hTk (i := 4) (v := ?_) hHeld (fun w hSw => ?_) ?_
      rotate_left
      ·go_simp; (try with_reducible rfl)
      try simp only [Act.put, nzA, nzB, nzC]
      refine hTk (i := 5) (v := ?_) hHeld (fun w hSw => ?_) ?_
      rotate_left
      ·go_simp; (try with_reducible rfl)
      try simp only [Act.put, nzA, nzB, nzC]
      refine hTk (i := 6) (v := ?_) hHeld (fun w hSw => ?_) ?_
      rotate_left
      ·go_simp; (try with_reducible rfl)
      try simp only [Act.put, nzA, nzB, nzC]
      refine hTk (i := 7) (v := ?_) hHeld (fun w hSw => ?_) ?_
      rotate_left
      ·go_simp; (try with_reducible rfl)
      try simp only [Act.put, nzA, nzB, nzC]
      refine hTk (i := 8) (v := ?_) hHeld (fun w hSw => ?_) ?_
      rotate_left
      ·go_simp; (try with_reducible rfl)
      try simp only [Act.put, nzA, nzB, nzC]
      refine hTk (i := 9) (v := ?_) hHeld (fun w hSw => ?_) ?_
      rotate_left
      ·(have hEs : Ext No wr _ := hSw); (have x0 := hEs.keep q0); go_simp; (try with_reducible rfl)
      try simp only [Act.put, nzA, nzB, nzC]
      refine hTk (i := 10) (v := ?_) hHeld (fun w hSw => ?_) ?_
      rotate_left
      ·go_simp; (try with_reducible rfl)
      try simp only [Act.put, nzA, nzB, nzC]
      refine hTk (i := 11) (v := ?_) hHeld (fun w hSw => ?_) ?_
      rotate_left
      ·go_simp; (try with_reducible rfl)
      try simp only [Act.put, nzA, nzB, nzC]
      refine hTk (i := 12) (v := ?_) hHeld (fun w hSw => ?_) ?_
      rotate_left
      ·go_simp; (try with_reducible rfl)
      try simp only [Act.put, nzA, nzB, nzC]
      refine hTk (i := 13) (v := ?_) hHeld (fun w hSw => ?_) ?_
      rotate_left
      ·go_simp; (try with_reducible rfl)
      try simp only [Act.put, nzA, nzB, nzC]
      refine hTk (i := 14) (v := ?_) hHeld (fun w hSw => ?_) ?_
      rotate_left
      ·go_simp; (try with_reducible rfl)
      try simp only [Act.put, nzA, nzB, nzC]
      refine hTk (i := 15) (v := ?_) hHeld (fun w hSw => ?_) ?_
      rotate_left
      ·go_simp; (try with_reducible rfl)
      try simp only [Act.put, nzA, nzB, nzC]
      refine hTk (i := 16) (v := ?_) hHeld (fun w hSw => ?_) ?_
      rotate_left
      ·go_simp; (try with_reducible rfl)
      try simp only [Act.put, nzA, nzB, nzC]
      refine hSk (i := 17) hHeld ?_
      try simp only [Act.put, nzA, nzB, nzC]
      refine hSk (i := 18) hHeld ?_
      try simp only [Act.put, nzA, nzB, nzC]
      refine hSk (i := 19) hHeld ?_
      try simp only [Act.put, nzA, nzB, nzC]
      refine hSk (i := 20) hHeld ?_
      try simp only [Act.put, nzA, nzB, nzC]
      refine hSk (i := 21) hHeld ?_
      try simp only [Act.put, nzA, nzB, nzC]
      refine hSk (i := 22) hHeld ?_
      try simp only [Act.put, nzA, nzB, nzC]
      refine hSk (i := 23) hHeld ?_
      try simp only [Act.put, nzA, nzB, nzC]
      refine hSk (i := 24) hHeld ?_
      try simp only [Act.put, nzA, nzB, nzC]
      refine hSk (i := 25) hHeld ?_
      try simp only [Act.put, nzA, nzB, nzC]
      refine hSk (i := 26) hHeld ?_
      try simp only [Act.put, nzA, nzB, nzC]
      refine hTk (i := 27) (v := ?_) hHeld (fun w hSw => ?_) ?_
      rotate_left
      ·go_simp; (try with_reducible rfl)
      try simp only [Act.put, nzA, nzB, nzC]
      refine hTk (i := 28) (v := ?_) hHeld (fun w hSw => ?_) ?_
      rotate_left
      ·go_simp; (try with_reducible rfl)
      try simp only [Act.put, nzA, nzB, nzC]
      refine wpAnyH_done (by kernel_rfl) ?_ _
      have hEx : Ext No wr _ := hHeld
      go_wp2_with fail
      go_roundw
      case rel => exact ⟨1, by omega, by go_num, Lib.hid (hx.out.transNo hEx), Lib.hid (fun j hj hjk => by
       obtain rfl : j = 0 := by omega
       rw [← HY.out]
       exact ⟨by omega, by omega, fun e => absurd e (Nat.lt_irrefl _)⟩)⟩
      case measure => simp [intOf]; omega
     ·have hk1 : k - 1 < l.length := by omega
      have q1 := hx.out.keep (HK.out (k - 1) hk1)
      obtain ⟨z, hz⟩ : ∃ z, z = l[k - 1] := ⟨_, rfl⟩
      rw [← hz] at q1
      have HZ := Lib.hid hz
      clear hz
      have hpos : (0 : Int) < (k : Int) := by omega
      have hposn : 0 < k := by omega
      have hlm : IntKind.i64.wrap ((k : Int) - 1) = ((k - 1 : Nat) : Int) := by rw [IntWalk.i64_in _ (by omega)]; omega
      have hlp : 0 ≤ ((k - 1 : Nat) : Int) := by omega
      have hlq : ((k - 1 : Nat) : Int) < (l.length : Int) := by omega
      by_cases h4 : y ≤ z
      ·go_upto_region 4 with (fail)
       refine wp_region_held_drew (S := (fun w' => Ext No wr w')) (by kernel_rfl) ?_ (fun hHeld => ?_)
       ·exact (Ext.refl _ _).drew
       refine hTk (i := 0) (v := ?_) hHeld (fun w hSw => ?_) ?_
       rotate_left
       ·go_simp; (try with_reducible rfl)
       try simp only [Act.put, nzA, nzB, nzC]
       refine hTk (i := 1) (v := ?_) hHeld (fun w hSw => ?_) ?_
       rotate_left
       ·go_simp; (try with_reducible rfl)
       try simp only [Act.put, nzA, nzB, nzC]
       refine hTk (i := 2) (v := ?_) hHeld (fun w hSw => ?_) ?_
       rotate_left
       ·go_simp; (try with_reducible rfl)
       try simp only [Act.put, nzA, nzB, nzC]
       refine hTk (i := 3) (v := ?_) hHeld (fun w hSw => ?_) ?_
       rotate_left
       ·(have hEs : Ext No wr _ := hSw); (have x0 := hEs.keep q0); go_simp; (try with_reducible rfl)
       try simp only [Act.put, nzA, nzB, nzC]
       refine hTk (i := 4) (v := ?_) hHeld (fun w hSw => ?_) ?_
       rotate_left
       ·go_simp; (try with_reducible rfl)
       try simp only [Act.put, nzA, nzB, nzC]
       refine hTk (i := 5) (v := ?_) hHeld (fun w hSw => ?_) ?_
       rotate_left
       ·go_simp; (try with_reducible rfl)
       try simp only [Act.put, nzA, nzB, nzC]
       refine hTk (i := 6) (v := ?_) hHeld (fun w hSw => ?_) ?_
       rotate_left
       ·go_simp; (try with_reducible rfl)
       try simp only [Act.put, nzA, nzB, nzC]
       refine hTk (i := 7) (v := ?_) hHeld (fun w hSw => ?_) ?_
       rotate_left
       ·go_simp; (try with_reducible rfl)
       try simp only [Act.put, nzA, nzB, nzC]
       refine hTk (i := 8) (v := ?_) hHeld (fun w hSw => ?_) ?_
       rotate_left
       ·go_simp; (try with_reducible rfl)
       try simp only [Act.put, nzA, nzB, nzC]
       refine hTk (i := 9) (v := ?_) hHeld (fun w hSw => ?_) ?_
       rotate_left
       ·(have hEs : Ext No wr _ := hSw); (have x0 := hEs.keep q0); go_simp; (try with_reducible rfl)
       try simp only [Act.put, nzA, nzB, nzC]
       refine hTk (i := 10) (v := ?_) hHeld (fun w hSw => ?_) ?_
       rotate_left
       ·go_simp; (try with_reducible rfl)
       try simp only [Act.put, nzA, nzB, nzC]
       refine hTk (i := 11) (v := ?_) hHeld (fun w hSw => ?_) ?_
       rotate_left
       ·go_simp; (try with_reducible rfl)
       try simp only [Act.put, nzA, nzB, nzC]
       refine hTk (i := 12) (v := ?_) hHeld (fun w hSw => ?_) ?_
       rotate_left
       ·go_simp; (try with_reducible rfl)
       try simp only [Act.put, nzA, nzB, nzC]
       refine hTk (i := 13) (v := ?_) hHeld (fun w hSw => ?_) ?_
       rotate_left
       ·go_simp; (try with_reducible rfl)
       try simp only [Act.put, nzA, nzB, nzC]
       refine hTk (i := 14) (v := ?_) hHeld (fun w hSw => ?_) ?_
       rotate_left
       ·go_simp; (try with_reducible rfl)
       try simp only [Act.put, nzA, nzB, nzC]
       refine hTk (i := 15) (v := ?_) hHeld (fun w hSw => ?_) ?_
       rotate_left
       ·go_simp; (try with_reducible rfl)
       try simp only [Act.put, nzA, nzB, nzC]
       refine hTk (i := 16) (v := ?_) hHeld (fun w hSw => ?_) ?_
       rotate_left
       ·go_simp; (try with_reducible rfl)
       try simp only [Act.put, nzA, nzB, nzC]
       refine hTk (i := 17) (v := ?_) hHeld (fun w hSw => ?_) ?_
       rotate_left
       ·go_simp; (try with_reducible rfl)
       try simp only [Act.put, nzA, nzB, nzC]
       refine hTk (i := 18) (v := ?_) hHeld (fun w hSw => ?_) ?_
       rotate_left
       ·go_simp; (try with_reducible rfl)
       try simp only [Act.put, nzA, nzB, nzC]
       refine hTk (i := 19) (v := ?_) hHeld (fun w hSw => ?_) ?_
       rotate_left
       ·go_simp; (try with_reducible rfl)
       try simp only [Act.put, nzA, nzB, nzC]
       refine hTk (i := 20) (v := ?_) hHeld (fun w hSw => ?_) ?_
       rotate_left
       ·go_simp; (try with_reducible rfl)
       try simp only [Act.put, nzA, nzB, nzC]
       refine hTk (i := 21) (v := ?_) hHeld (fun w hSw => ?_) ?_
       rotate_left
       ·(have hEs : Ext No wr _ := hSw); (have x0 := hEs.keep q1); go_simp; (try with_reducible rfl)
       try simp only [Act.put, nzA, nzB, nzC]
       refine hTk (i := 22) (v := ?_) hHeld (fun w hSw => ?_) ?_
       rotate_left
       ·go_simp; (try with_reducible rfl)
       try simp only [Act.put, nzA, nzB, nzC]
       refine hTk (i := 23) (v := ?_) hHeld (fun w hSw => ?_) ?_
       rotate_left
       ·go_simp; (try with_reducible rfl)
       try simp only [Act.put, nzA, nzB, nzC]
       refine hTk (i := 24) (v := ?_) hHeld (fun w hSw => ?_) ?_
       rotate_left
       ·go_simp; (try with_reducible rfl)
       try simp only [Act.put, nzA, nzB, nzC]
       refine hTk (i := 25) (v := ?_) hHeld (fun w hSw => ?_) ?_
       rotate_left
       ·(have hEs : Ext No wr _ := hSw); (have x0 := hEs.keep q0); go_simp; (try with_reducible rfl)
       try simp only [Act.put, nzA, nzB, nzC]
       refine hTk (i := 26) (v := ?_) hHeld (fun w hSw => ?_) ?_
       rotate_left
       ·go_simp; (try with_reducible rfl)
       try simp only [Act.put, nzA, nzB, nzC]
       refine hTk (i := 27) (v := ?_) hHeld (fun w hSw => ?_) ?_
       rotate_left
       ·go_simp; (try with_reducible rfl)
       try simp only [Act.put, nzA, nzB, nzC]
       refine hTk (i := 28) (v := ?_) hHeld (fun w hSw => ?_) ?_
       rotate_left
       ·go_simp; (try with_reducible rfl)
       try simp only [Act.put, nzA, nzB, nzC]
       refine wpAnyH_done (by kernel_rfl) ?_ _
       have hEx : Ext No wr _ := hHeld
       go_wp2_with fail
       go_ret
       exact tells_false (fun e => by have := (e k hlt).2.2 (by omega); rw [← HY.out, ← HZ.out] at this; omega) (hx.out.transNo hEx)
      ·go_upto_region 4 with (fail)
       refine wp_region_held_drew (S := (fun w' => Ext No wr w')) (by kernel_rfl) ?_ (fun hHeld => ?_)
       ·exact (Ext.refl _ _).drew
       refine hTk (i := 0) (v := ?_) hHeld (fun w hSw => ?_) ?_
       rotate_left
       ·go_simp; (try with_reducible rfl)
       try simp only [Act.put, nzA, nzB, nzC]
       refine hTk (i := 1) (v := ?_) hHeld (fun w hSw => ?_) ?_
       rotate_left
       ·go_simp; (try with_reducible rfl)
       try simp only [Act.put, nzA, nzB, nzC]
       refine hTk (i := 2) (v := ?_) hHeld (fun w hSw => ?_) ?_
       rotate_left
       ·go_simp; (try with_reducible rfl)
       try simp only [Act.put, nzA, nzB, nzC]
       refine hTk (i := 3) (v := ?_) hHeld (fun w hSw => ?_) ?_
       rotate_left
       ·(have hEs : Ext No wr _ := hSw); (have x0 := hEs.keep q0); go_simp; (try with_reducible rfl)
       try simp only [Act.put, nzA, nzB, nzC]
       refine hTk (i := 4) (v := ?_) hHeld (fun w hSw => ?_) ?_
       rotate_left
       ·go_simp; (try with_reducible rfl)
       try simp only [Act.put, nzA, nzB, nzC]
       refine hTk (i := 5) (v := ?_) hHeld (fun w hSw => ?_) ?_
       rotate_left
       ·go_simp; (try with_reducible rfl)
       try simp only [Act.put, nzA, nzB, nzC]
       refine hTk (i := 6) (v := ?_) hHeld (fun w hSw => ?_) ?_
       rotate_left
       ·go_simp; (try with_reducible rfl)
       try simp only [Act.put, nzA, nzB, nzC]
       refine hTk (i := 7) (v := ?_) hHeld (fun w hSw => ?_) ?_
       rotate_left
       ·go_simp; (try with_reducible rfl)
       try simp only [Act.put, nzA, nzB, nzC]
       refine hTk (i := 8) (v := ?_) hHeld (fun w hSw => ?_) ?_
       rotate_left
       ·go_simp; (try with_reducible rfl)
       try simp only [Act.put, nzA, nzB, nzC]
       refine hTk (i := 9) (v := ?_) hHeld (fun w hSw => ?_) ?_
       rotate_left
       ·(have hEs : Ext No wr _ := hSw); (have x0 := hEs.keep q0); go_simp; (try with_reducible rfl)
       try simp only [Act.put, nzA, nzB, nzC]
       refine hTk (i := 10) (v := ?_) hHeld (fun w hSw => ?_) ?_
       rotate_left
       ·go_simp; (try with_reducible rfl)
       try simp only [Act.put, nzA, nzB, nzC]
       refine hTk (i := 11) (v := ?_) hHeld (fun w hSw => ?_) ?_
       rotate_left
       ·go_simp; (try with_reducible rfl)
       try simp only [Act.put, nzA, nzB, nzC]
       refine hTk (i := 12) (v := ?_) hHeld (fun w hSw => ?_) ?_
       rotate_left
       ·go_simp; (try with_reducible rfl)
       try simp only [Act.put, nzA, nzB, nzC]
       refine hTk (i := 13) (v := ?_) hHeld (fun w hSw => ?_) ?_
       rotate_left
       ·go_simp; (try with_reducible rfl)
       try simp only [Act.put, nzA, nzB, nzC]
       refine hTk (i := 14) (v := ?_) hHeld (fun w hSw => ?_) ?_
       rotate_left
       ·go_simp; (try with_reducible rfl)
       try simp only [Act.put, nzA, nzB, nzC]
       refine hTk (i := 15) (v := ?_) hHeld (fun w hSw => ?_) ?_
       rotate_left
       ·go_simp; (try with_reducible rfl)
       try simp only [Act.put, nzA, nzB, nzC]
       refine hTk (i := 16) (v := ?_) hHeld (fun w hSw => ?_) ?_
       rotate_left
       ·go_simp; (try with_reducible rfl)
       try simp only [Act.put, nzA, nzB, nzC]
       refine hTk (i := 17) (v := ?_) hHeld (fun w hSw => ?_) ?_
       rotate_left
       ·go_simp; (try with_reducible rfl)
       try simp only [Act.put, nzA, nzB, nzC]
       refine hTk (i := 18) (v := ?_) hHeld (fun w hSw => ?_) ?_
       rotate_left
       ·go_simp; (try with_reducible rfl)
       try simp only [Act.put, nzA, nzB, nzC]
       refine hTk (i := 19) (v := ?_) hHeld (fun w hSw => ?_) ?_
       rotate_left
       ·go_simp; (try with_reducible rfl)
       try simp only [Act.put, nzA, nzB, nzC]
       refine hTk (i := 20) (v := ?_) hHeld (fun w hSw => ?_) ?_
       rotate_left
       ·go_simp; (try with_reducible rfl)
       try simp only [Act.put, nzA, nzB, nzC]
       refine hTk (i := 21) (v := ?_) hHeld (fun w hSw => ?_) ?_
       rotate_left
       ·(have hEs : Ext No wr _ := hSw); (have x0 := hEs.keep q1); go_simp; (try with_reducible rfl)
       try simp only [Act.put, nzA, nzB, nzC]
       refine hTk (i := 22) (v := ?_) hHeld (fun w hSw => ?_) ?_
       rotate_left
       ·go_simp; (try with_reducible rfl)
       try simp only [Act.put, nzA, nzB, nzC]
       refine hTk (i := 23) (v := ?_) hHeld (fun w hSw => ?_) ?_
       rotate_left
       ·go_simp; (try with_reducible rfl)
       try simp only [Act.put, nzA, nzB, nzC]
       refine hTk (i := 24) (v := ?_) hHeld (fun w hSw => ?_) ?_
       rotate_left
       ·go_simp; (try with_reducible rfl)
       try simp only [Act.put, nzA, nzB, nzC]
       refine hTk (i := 25) (v := ?_) hHeld (fun w hSw => ?_) ?_
       rotate_left
       ·(have hEs : Ext No wr _ := hSw); (have x0 := hEs.keep q0); go_simp; (try with_reducible rfl)
       try simp only [Act.put, nzA, nzB, nzC]
       refine hTk (i := 26) (v := ?_) hHeld (fun w hSw => ?_) ?_
       rotate_left
       ·go_simp; (try with_reducible rfl)
       try simp only [Act.put, nzA, nzB, nzC]
       refine hTk (i := 27) (v := ?_) hHeld (fun w hSw => ?_) ?_
       rotate_left
       ·go_simp; (try with_reducible rfl)
       try simp only [Act.put, nzA, nzB, nzC]
       refine hTk (i := 28) (v := ?_) hHeld (fun w hSw => ?_) ?_
       rotate_left
       ·go_simp; (try with_reducible rfl)
       try simp only [Act.put, nzA, nzB, nzC]
       refine wpAnyH_done (by kernel_rfl) ?_ _
       have hEx : Ext No wr _ := hHeld
       go_wp2_with fail
       go_roundw
       case rel => exact ⟨k + 1, by omega, by go_num, Lib.hid (hx.out.transNo hEx), Lib.hid (fun j hj hjk => by
        by_cases e : j = k
        ·subst e
         rw [← HY.out, ← HZ.out]
         exact ⟨by omega, by omega, fun _ => by omega⟩
        ·exact hm.out j hj (by omega))⟩
       case measure => simp [intOf]; omega
  ·have hge : ¬ (k : Int) < (l.length : Int) := by omega
   go_wp2_with fail
   go_ret
   exact tells_true (fun j hj => hm.out j hj (by omega)) hx.out
end Go.Proofs.Ytkdjdhflhlbelaa

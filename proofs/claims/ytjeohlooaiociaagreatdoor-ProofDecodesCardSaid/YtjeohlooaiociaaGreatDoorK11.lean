
import Derived.Test.YtjeohlooaiociaaGreatDoorP20
set_option linter.unusedVariables false
set_option linter.unusedSimpArgs false
namespace Go.Proofs.YtjeohlooaiociaaGreatDoor
open Go Go.RowKit Tj
set_option maxRecDepth 100000 in
set_option maxHeartbeats 2000000 in
theorem rints_any (s1 s2 : Value) (l1 l2 : List Nat) (W : World) (h1 : Ints No W .i64 s1 (natsZ l1)) (h2 : Ints No W .i64 s2 (natsZ l2)) :
  Calls Tryz.prog 83 #[s1, s2] W (BoolPost (decide (l1 = l2)) W) := by
 have H1 := Lib.hid h1
 have H2 := Lib.hid h2
 obtain ⟨a1, c1, rfl⟩ := IntsN.slice h1
 obtain ⟨a2, c2, rfl⟩ := IntsN.slice h2
 have hlen := IntsN.len h1
 clear h1 h2
 by_cases hl : l1.length = l2.length
 ·obtain ⟨m, hm⟩ : ∃ m, m = l1.length := ⟨_, rfl⟩
  have HM1 := Lib.hid hm
  have HM2 := Lib.hid (show m = l2.length by omega)
  rw [show l2.length = m by omega, show l1.length = m from hm.symm]
  rw [← hm] at hlen
  clear hl hm
  go_enter Tryz.func83, Tryz.ntmps83
  go_wp2_with fail
  go_loopw [5] (fun i wr => ∃ k : Nat, i = .int .i64 k ∧ k ≤ m ∧ Hid (Ext No W wr) ∧ Hid (∀ j (hj : j < l1.length) (hj2 : j < l2.length), j < k → l1[j] = l2[j])) (fun i _ => m - (intOf i).toNat)
  case atStart => exact ⟨0, rfl, Nat.zero_le _, Lib.hid (Ext.refl _ _), Lib.hid (fun j _ _ hj => absurd hj (Nat.not_lt_zero _))⟩
  obtain ⟨k, rfl, hk, hx, hm⟩ := hrel
  rename World => wr
  by_cases hkl : k < m
  ·have hlz : (k : Int) < (m : Int) := by omega
   have HKK : Hid (Value.int .i64 ((k : Int) + 1) = .int .i64 ((k + 1 : Nat) : Int)) := Lib.hid (by rw [show ((k + 1 : Nat) : Int) = (k : Int) + 1 from by omega])
   have hk1 : k < l1.length := by rw [← HM1.out]; exact hkl
   have hk2 : k < l2.length := by rw [← HM2.out]; exact hkl
   obtain ⟨b, off, cap', hsl, hb1, _, hcell⟩ := IntsN.at H1.out hk1
   rw [← HM1.out] at hsl
   simp only [Value.slice.injEq] at hsl
   obtain ⟨rfl, _, rfl⟩ := hsl
   have HQ1 := Lib.hid (hx.out.keep (hcell k hk1))
   obtain ⟨b', off', cap', hsl, hb2, _, hcell'⟩ := IntsN.at H2.out hk2
   rw [← HM2.out] at hsl
   simp only [Value.slice.injEq] at hsl
   obtain ⟨rfl, _, rfl⟩ := hsl
   have HQ2 := Lib.hid (hx.out.keep (hcell' k hk2))
   obtain ⟨y, hy⟩ : ∃ y, y = l1[k] := ⟨_, rfl⟩
   obtain ⟨z, hz⟩ : ∃ z, z = l2[k] := ⟨_, rfl⟩
   rw [← hy] at HQ1
   rw [← hz] at HQ2
   have HY := Lib.hid (And.intro hy hz)
   clear hcell hb1 hy hcell' hb2 hz
   by_cases he : y = z
   ·have he1 : ((y : Int) != (z : Int)) = false := by simp [he]
    have HE := Lib.hid he
    subst he
    go_upto_region 6 with (fail)
    refine wp_region_held_drew (S := (fun w' => Ext No wr w')) (by kernel_rfl) ?_ (fun hHeld => ?_)
    ·exact (Ext.refl _ _).drew
    refine hHs [0, 1, 2, 3, 4, 5, 6] ?_
    iterate 7
     refine hTn ?_ hHeld (fun w hSw => ?_) ?_
     rotate_left
     ·(have hEs : Ext No wr _ := hSw); (have q0 := hEs.keep HQ1.out); go_simp; (try with_reducible rfl)
     simp only [Act.put, nzA, nzB, nzC]
    refine hHe ?_
    refine hHs [7, 8] ?_
    iterate 2
     refine hTn ?_ hHeld (fun w hSw => ?_) ?_
     rotate_left
     ·(have hEs : Ext No wr _ := hSw); (have q0 := hEs.keep HQ2.out); go_simp; (try with_reducible rfl)
     simp only [Act.put, nzA, nzB, nzC]
    refine hHe ?_
    refine wpAnyH_done (by kernel_rfl) ?_ _
    have hEx : Ext No wr _ := hHeld
    go_wp2_with fail
    go_roundw
    case rel => exact ⟨k + 1, HKK.out, by omega, Lib.hid (hx.out.transNo hEx), Lib.hid (fun j hj hj2 hjk => by
     by_cases e : j = k
     ·subst e; rw [← HY.out.1, ← HY.out.2]
     exact hm.out j hj hj2 (by omega))⟩
    case measure => simp [intOf]; omega
   have he1 : ((y : Int) != (z : Int)) = true := by simp; omega
   have he2 : ¬ ((y : Int) = (z : Int)) := by omega
   have HE := Lib.hid he
   clear he
   go_upto_region 6 with (fail)
   refine wp_region_held_drew (S := (fun w' => Ext No wr w')) (by kernel_rfl) ?_ (fun hHeld => ?_)
   ·exact (Ext.refl _ _).drew
   refine hHs [0, 1, 2, 3, 4, 5, 6] ?_
   iterate 7
    refine hTn ?_ hHeld (fun w hSw => ?_) ?_
    rotate_left
    ·(have hEs : Ext No wr _ := hSw); (have q0 := hEs.keep HQ1.out); go_simp; (try with_reducible rfl)
    simp only [Act.put, nzA, nzB, nzC]
   refine hHe ?_
   refine hHs [7, 8] ?_
   iterate 2
    refine hTn ?_ hHeld (fun w hSw => ?_) ?_
    rotate_left
    ·(have hEs : Ext No wr _ := hSw); (have q0 := hEs.keep HQ2.out); go_simp; (try with_reducible rfl)
    simp only [Act.put, nzA, nzB, nzC]
   refine hHe ?_
   refine wpAnyH_done (by kernel_rfl) ?_ _
   have hEx : Ext No wr _ := hHeld
   go_wp2_with fail
   go_ret
   refine ⟨?_, hx.out.transNo hEx⟩
   rw [decide_eq_false (fun e => HE.out (by rw [HY.out.1, HY.out.2]; simp only [e]))]
   rfl
  have hge : ¬ (k : Int) < (m : Int) := by omega
  go_wp2_with fail
  go_ret
  refine ⟨?_, hx.out⟩
  rw [decide_eq_true (List.ext_getElem (by rw [← HM1.out, ← HM2.out]) (fun j h1 h2 => hm.out j h1 h2 (by have := HM1.out; omega)))]
  rfl
 have hne : ((l1.length : Int) != (l2.length : Int)) = true := by simp; omega
 have hne2 : ¬ ((l1.length : Int) = (l2.length : Int)) := by omega
 have HL := Lib.hid hl
 clear hl
 go_enter Tryz.func83, Tryz.ntmps83
 go_wp2_with fail
 go_ret
 exact ⟨by rw [decide_eq_false (fun e => HL.out (by rw [e]))]; rfl, Ext.refl _ _⟩
set_option maxRecDepth 100000 in
set_option maxHeartbeats 4000000 in
theorem rsameLists_any (s1 s2 : Value) (L1 L2 : List (List Nat)) (D1 D2 : LD) (W : World) (h1 : LAt kD No W s1 D1) (e1 : D1.map Prod.fst = L1.map natsZ) (h2 : LAt kD No W s2 D2) (e2 : D2.map Prod.fst = L2.map natsZ) :
  Calls Tryz.prog 48 #[s1, s2] W (BoolPost (decide (L1 = L2)) W) := by
 have H1 := Lib.hid h1
 have H2 := Lib.hid h2
 have E1 := Lib.hid e1
 have E2 := Lib.hid e2
 have hl1 : D1.length = L1.length := by have := congrArg List.length e1; simpa using this
 have hl2 : D2.length = L2.length := by have := congrArg List.length e2; simpa using this
 have hlen := h1.row.2.1
 obtain ⟨a1, c1, rfl⟩ := h1.slice
 obtain ⟨a2, c2, rfl⟩ := h2.slice
 rw [hl1] at H1 hlen ⊢
 rw [hl2] at H2 ⊢
 clear h1 h2 e1 e2 hl1 hl2
 by_cases hl : L1.length = L2.length
 ·obtain ⟨m, hm⟩ : ∃ m, m = L1.length := ⟨_, rfl⟩
  have HM1 := Lib.hid hm
  have HM2 := Lib.hid (show m = L2.length by omega)
  rw [show L2.length = m by omega] at H2 ⊢
  rw [show L1.length = m from hm.symm] at H1 hlen ⊢
  clear hl hm
  go_enter Tryz.func48, Tryz.ntmps48
  go_wp2_with fail
  go_loopw [5] (fun i wr => ∃ k : Nat, i = .int .i64 k ∧ k ≤ m ∧ Hid (Ext No W wr) ∧ Hid (∀ j (hj : j < L1.length) (hj2 : j < L2.length), j < k → L1[j] = L2[j])) (fun i _ => m - (intOf i).toNat)
  case atStart => exact ⟨0, rfl, Nat.zero_le _, Lib.hid (Ext.refl _ _), Lib.hid (fun j _ _ hj => absurd hj (Nat.not_lt_zero _))⟩
  obtain ⟨k, rfl, hk, hx, hm⟩ := hrel
  rename World => wr
  by_cases hkl : k < m
  ·have hlz : (k : Int) < (m : Int) := by omega
   have HKK : Hid (Value.int .i64 ((k : Int) + 1) = .int .i64 ((k + 1 : Nat) : Int)) := Lib.hid (by rw [show ((k + 1 : Nat) : Int) = (k : Int) + 1 from by omega])
   have hk1 : k < L1.length := by rw [← HM1.out]; exact hkl
   have hk2 : k < L2.length := by rw [← HM2.out]; exact hkl
   obtain ⟨b, off, cap', a3, c3, hsl, hq1, hi1⟩ := ld_at (H1.out.extNo hx.out) E1.out hk1
   rw [← HM1.out] at hsl
   simp only [Value.slice.injEq] at hsl
   obtain ⟨rfl, _, rfl⟩ := hsl
   obtain ⟨b', off', cap', a4, c4, hsl, hq2, hi2⟩ := ld_at (H2.out.extNo hx.out) E2.out hk2
   rw [← HM2.out] at hsl
   simp only [Value.slice.injEq] at hsl
   obtain ⟨rfl, _, rfl⟩ := hsl
   have HQ1 := Lib.hid hq1
   have HQ2 := Lib.hid hq2
   clear hq1 hq2
   by_cases he : L1[k] = L2[k]
   ·have HD := Lib.hid (decide_eq_true he)
    have HE := Lib.hid he
    clear he
    go_upto_region 6 with (fail)
    refine wp_region_held_drew (S := (fun w' => Ext No wr w')) (by kernel_rfl) ?_ (fun hHeld => ?_)
    ·exact (Ext.refl _ _).drew
    refine hHs [0, 1, 2, 3, 4, 5, 6] ?_
    iterate 7
     refine hTn ?_ hHeld (fun w hSw => ?_) ?_
     rotate_left
     ·(have hEs : Ext No wr _ := hSw); (have q0 := hEs.keep HQ1.out); go_simp; (try with_reducible rfl)
     simp only [Act.put, nzA, nzB, nzC]
    refine hHe ?_
    refine hTk 7 ?_ hHeld (fun w hSw => ?_) ?_
    rotate_left
    ·(have hEs : Ext No wr _ := hSw); (have x0 := hEs.keep HQ2.out); go_simp; (try with_reducible rfl)
    simp only [Act.put, nzA, nzB, nzC]
    refine hHc 8 fun K hK => ?_
    ((have hEx : Ext No wr _ := hHeld); go_simp; (go_at_call 83); (refine (rints_any _ _ L1[k] L2[k] _ (Row.extNo hi1.out hEx) (Row.extNo hi2.out hEx)).mono ?_); (rintro e9 w9 ⟨rfl, hyA⟩); (rw [HD.out]); go_simp)
    refine hK.out _ _ ?_ ?_
    ·exact Ext.transNo (show Ext No wr _ from hHeld) hyA
    clear hK K hHeld
    intro hHeld
    try simp only [Act.put, nzA, nzB, nzC]
    refine hTk 9 ?_ hHeld (fun w hSw => ?_) ?_
    rotate_left
    ·go_simp; (try with_reducible rfl)
    simp only [Act.put, nzA, nzB, nzC]
    refine wpAnyH_done (by kernel_rfl) ?_ _
    have hEx : Ext No wr _ := hHeld
    go_wp2_with fail
    go_roundw
    case rel => exact ⟨k + 1, HKK.out, by omega, Lib.hid (hx.out.transNo hEx), Lib.hid (fun j hj hj2 hjk => by
     by_cases e : j = k
     ·subst e; exact HE.out
     exact hm.out j hj hj2 (by omega))⟩
    case measure => simp [intOf]; omega
   have HD := Lib.hid (decide_eq_false he)
   have HE := Lib.hid he
   clear he
   go_upto_region 6 with (fail)
   refine wp_region_held_drew (S := (fun w' => Ext No wr w')) (by kernel_rfl) ?_ (fun hHeld => ?_)
   ·exact (Ext.refl _ _).drew
   refine hHs [0, 1, 2, 3, 4, 5, 6] ?_
   iterate 7
    refine hTn ?_ hHeld (fun w hSw => ?_) ?_
    rotate_left
    ·(have hEs : Ext No wr _ := hSw); (have q0 := hEs.keep HQ1.out); go_simp; (try with_reducible rfl)
    simp only [Act.put, nzA, nzB, nzC]
   refine hHe ?_
   refine hTk 7 ?_ hHeld (fun w hSw => ?_) ?_
   rotate_left
   ·(have hEs : Ext No wr _ := hSw); (have x0 := hEs.keep HQ2.out); go_simp; (try with_reducible rfl)
   simp only [Act.put, nzA, nzB, nzC]
   refine hHc 8 fun K hK => ?_
   ((have hEx : Ext No wr _ := hHeld); go_simp; (go_at_call 83); (refine (rints_any _ _ L1[k] L2[k] _ (Row.extNo hi1.out hEx) (Row.extNo hi2.out hEx)).mono ?_); (rintro e9 w9 ⟨rfl, hyA⟩); (rw [HD.out]); go_simp)
   refine hK.out _ _ ?_ ?_
   ·exact Ext.transNo (show Ext No wr _ from hHeld) hyA
   clear hK K hHeld
   intro hHeld
   try simp only [Act.put, nzA, nzB, nzC]
   refine hTk 9 ?_ hHeld (fun w hSw => ?_) ?_
   rotate_left
   ·go_simp; (try with_reducible rfl)
   simp only [Act.put, nzA, nzB, nzC]
   refine wpAnyH_done (by kernel_rfl) ?_ _
   have hEx : Ext No wr _ := hHeld
   go_wp2_with fail
   go_ret
   refine ⟨?_, hx.out.transNo hEx⟩
   rw [decide_eq_false (fun e => HE.out (by simp only [e]))]
   rfl
  have hge : ¬ (k : Int) < (m : Int) := by omega
  go_wp2_with fail
  go_ret
  refine ⟨?_, hx.out⟩
  rw [decide_eq_true (List.ext_getElem (by rw [← HM1.out, ← HM2.out]) (fun j h1 h2 => hm.out j h1 h2 (by have := HM1.out; omega)))]
  rfl
 have hne : ((L1.length : Int) != (L2.length : Int)) = true := by simp; omega
 have hne2 : ¬ ((L1.length : Int) = (L2.length : Int)) := by omega
 have HL := Lib.hid hl
 clear hl
 go_enter Tryz.func48, Tryz.ntmps48
 go_wp2_with fail
 go_ret
 exact ⟨by rw [decide_eq_false (fun e => HL.out (by rw [e]))]; rfl, Ext.refl _ _⟩

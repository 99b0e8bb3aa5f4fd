
import Derived.Test.YtmddchceacmopaaGreatDoorH1
import Derived.Test.YtmddchceacmopaaGreatDoorF8
set_option linter.unusedVariables false
set_option linter.unusedSimpArgs false
namespace Go.Proofs.YtmddchceacmopaaGreatDoor
open Go Go.RowKit
theorem rsame_d2 (w m k : Nat) (u v : Value) (W : World) (hs : SetAt No W u w m) (ht : SetAt No W v w k) : Calls Tryz.prog 41 #[.agg #[.int .i64 (w : Int), u], .agg #[.int .i64 (w : Int), v]] W (BoolPost (decide (m = k)) W) := by
 have h := rsame_any _ _ _ _ W hs.raw ht.raw
 rw [show sameB (setN w m) (setN w k) = decide (m = k) from by
  unfold sameB setN
  rw [decide_eq_decide]
  exact ⟨fun e => wordsN_inj hs.hm ht.hm e.2, fun e => by rw [e]; exact ⟨rfl, rfl⟩⟩] at h
 exact h
theorem rows_eq {us vs : List Nat} (hl : us.length = vs.length) (h : ∀ j, j < us.length → rowD us j = rowD vs j) : us = vs := by
 refine List.ext_getElem hl (fun i h1 h2 => ?_)
 have := h i h1
 rwa [rowD_get h1, rowD_get h2] at this
set_option maxRecDepth 100000 in
set_option maxHeartbeats 4000000 in
theorem rsameSets_any (w : Nat) (us vs : List Nat) (s1 s2 : Value) (W : World) (h1 : SetsV No W s1 w us) (h2 : SetsV No W s2 w vs) (hb : us.length ≤ 1048576) :
  Calls Tryz.prog 16 #[s1, s2] W (BoolPost (decide (us = vs)) W) := by
 have H1 := Lib.hid h1
 have H2 := Lib.hid h2
 obtain ⟨a1, c1, rfl⟩ := h1.slice
 obtain ⟨a2, c2, rfl⟩ := h2.slice
 clear h1 h2
 by_cases hl : us.length = vs.length
 ·have HL := Lib.hid hl
  obtain ⟨n, hn⟩ : ∃ n, n = us.length := ⟨_, rfl⟩
  have HN := Lib.hid hn
  have hvn : vs.length = n := by omega
  rw [hvn]
  rw [show us.length = n from hn.symm] at hb ⊢
  clear hl hn hvn
  go_enter Tryz.func16, Tryz.ntmps16
  go_wp2_with fail
  go_loopw [5] (fun s5 wr => ∃ k : Nat, s5 = .int .i64 k ∧ k ≤ n ∧ Hid (Ext No W wr) ∧ Hid (∀ j, j < k → rowD us j = rowD vs j)) (fun s5 _ => n - (intOf s5).toNat)
  case atStart => exact ⟨0, rfl, Nat.zero_le _, Lib.hid (Ext.refl _ _), Lib.hid (fun j h => absurd h (Nat.not_lt_zero _))⟩
  obtain ⟨k, rfl, hk, hx, hm⟩ := hrel
  rename World => wr
  by_cases hlt : k < n
  ·have hlz : (k : Int) < (n : Int) := by omega
   obtain ⟨o1, o2, o3, o4, o5, hve, hcl1, hq1⟩ := (H1.out.extNo hx.out).cells (i := k) (by rw [← HN.out]; exact hlt)
   rw [← HN.out] at hve
   simp only [Value.slice.injEq] at hve
   obtain ⟨rfl, -, rfl⟩ := hve
   obtain ⟨p1, p2, p3, p4, p5, hve, hcl2, hq2⟩ := (H2.out.extNo hx.out).cells (i := k) (by rw [← HL.out, ← HN.out]; exact hlt)
   rw [← HL.out, ← HN.out] at hve
   simp only [Value.slice.injEq] at hve
   obtain ⟨rfl, -, rfl⟩ := hve
   have HQ1 := Lib.hid hcl1
   have HQ2 := Lib.hid hcl2
   clear hcl1 hcl2
   by_cases he : rowD us k = rowD vs k
   ·have hdec : decide (rowD us k = rowD vs k) = true := decide_eq_true he
    have HE := Lib.hid he
    clear he
    go_upto_region 6 with (fail)
    refine wp_region_held_drew (S := (fun w' => Ext No wr w')) (by kernel_rfl) ?_ (fun hHeld => ?_)
    ·exact (Ext.refl _ _).drew
    refine hHs [0, 1, 2, 3, 4, 5, 6] ?_
    iterate 7
     refine hTn ?_ hHeld (fun w hSw => ?_) ?_
     rotate_left
     ·(have hEs : Ext No wr _ := hSw); (obtain ⟨p0, p1⟩ := HQ1.out); (have q0 := hEs.keep p0); (have q1 := hEs.keep p1); go_simp; (try with_reducible rfl)
     simp only [Act.put, nzA, nzB, nzC]
    refine hHe ?_
    refine hTk 7 ?_ hHeld (fun w hSw => ?_) ?_
    rotate_left
    ·(have hEs : Ext No wr _ := hSw); (obtain ⟨p0, p1⟩ := HQ2.out); (have x0 := hEs.keep p0); (have x1 := hEs.keep p1); go_simp; (try with_reducible rfl)
    simp only [Act.put, nzA, nzB, nzC]
    refine hHc 8 fun K hK => ?_
    ((have hEx : Ext No wr _ := hHeld); go_simp; (go_at_call 41); (refine (rsame_d2 w (rowD us k) (rowD vs k) _ _ _ (hq1.out.extNo hEx) (hq2.out.extNo hEx)).mono ?_); (rintro e9 w9 ⟨rfl, hyA⟩); (rw [hdec]); go_simp)
    refine hK.out _ _ ?_ ?_
    ·exact Ext.transNo (show Ext No wr _ from hHeld) hyA
    clear hK K hHeld
    intro hHeld
    try simp only [Act.put, nzA, nzB, nzC]
    refine hTk 9 ?_ hHeld (fun w hSw => ?_) ?_
    rotate_left
    ·go_simp; (try with_reducible rfl)
    simp only [Act.put, nzA, nzB, nzC]
    refine wpAnyH_done (by kernel_rfl) ?_ _
    have hEx : Ext No wr _ := hHeld
    go_wp2_with fail
    go_roundw
    case rel => exact ⟨k + 1, by go_num, by omega, Lib.hid (hx.out.transNo hEx), Lib.hid (fun j hj => by
     by_cases e : j = k
     ·subst e; exact HE.out
     exact hm.out j (by omega))⟩
    case measure => simp [intOf]; omega
   have hdec : decide (rowD us k = rowD vs k) = false := decide_eq_false he
   have HE := Lib.hid he
   clear he
   go_upto_region 6 with (fail)
   refine wp_region_held_drew (S := (fun w' => Ext No wr w')) (by kernel_rfl) ?_ (fun hHeld => ?_)
   ·exact (Ext.refl _ _).drew
   refine hHs [0, 1, 2, 3, 4, 5, 6] ?_
   iterate 7
    refine hTn ?_ hHeld (fun w hSw => ?_) ?_
    rotate_left
    ·(have hEs : Ext No wr _ := hSw); (obtain ⟨p0, p1⟩ := HQ1.out); (have q0 := hEs.keep p0); (have q1 := hEs.keep p1); go_simp; (try with_reducible rfl)
    simp only [Act.put, nzA, nzB, nzC]
   refine hHe ?_
   refine hTk 7 ?_ hHeld (fun w hSw => ?_) ?_
   rotate_left
   ·(have hEs : Ext No wr _ := hSw); (obtain ⟨p0, p1⟩ := HQ2.out); (have x0 := hEs.keep p0); (have x1 := hEs.keep p1); go_simp; (try with_reducible rfl)
   simp only [Act.put, nzA, nzB, nzC]
   refine hHc 8 fun K hK => ?_
   ((have hEx : Ext No wr _ := hHeld); go_simp; (go_at_call 41); (refine (rsame_d2 w (rowD us k) (rowD vs k) _ _ _ (hq1.out.extNo hEx) (hq2.out.extNo hEx)).mono ?_); (rintro e9 w9 ⟨rfl, hyA⟩); (rw [hdec]); go_simp)
   refine hK.out _ _ ?_ ?_
   ·exact Ext.transNo (show Ext No wr _ from hHeld) hyA
   clear hK K hHeld
   intro hHeld
   try simp only [Act.put, nzA, nzB, nzC]
   refine hTk 9 ?_ hHeld (fun w hSw => ?_) ?_
   rotate_left
   ·go_simp; (try with_reducible rfl)
   simp only [Act.put, nzA, nzB, nzC]
   refine wpAnyH_done (by kernel_rfl) ?_ _
   have hEx : Ext No wr _ := hHeld
   go_wp2_with fail
   go_ret
   exact ⟨by rw [decide_eq_false (fun e => HE.out (by rw [e]))]; rfl, hx.out.transNo hEx⟩
  have hge : ¬ (k : Int) < (n : Int) := by omega
  have hkn : k = n := by omega
  subst hkn
  go_wp2_with fail
  go_ret
  exact ⟨by rw [decide_eq_true (rows_eq HL.out (by rw [← HN.out]; exact hm.out))]; rfl, hx.out⟩
 have hne : ((us.length : Int) != (vs.length : Int)) = true := by simp; omega
 have hne2 : ¬ ((us.length : Int) = (vs.length : Int)) := by omega
 have HL := Lib.hid hl
 clear hl
 go_enter Tryz.func16, Tryz.ntmps16
 go_wp2_with fail
 go_ret
 exact ⟨by rw [decide_eq_false (fun e => HL.out (by rw [e]))]; rfl, Ext.refl _ _⟩

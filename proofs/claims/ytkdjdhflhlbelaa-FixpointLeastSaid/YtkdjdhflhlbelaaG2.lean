/- fixpoint.IsAbove where the values lie above. -/
import Derived.Test.YtkdjdhflhlbelaaF9
import Derived.Test.YtkdjdhflhlbelaaG3
set_option linter.unusedVariables false
set_option linter.unusedSimpArgs false
namespace Go.Proofs.Ytkdjdhflhlbelaa
open Go Go.RowKit
set_option maxRecDepth 100000 in
set_option maxHeartbeats 4000000 in
theorem isAbove_yes (S : SysD) (vd vt vb vv : Value) (vs : List Nat) (W : World) (h : SysAt No W vd vt vb S) (hv : SetsV No W vv S.w vs) (hl : vs.length = S.deps.length) (hle : LeV S (nextD S vs) vs) :
    Calls Try.prog 29 #[.agg #[.int .i64 (S.w : Int), vd, vt, vb], vv] W (BoolPost true W) := by
  have H := Lib.hid h
  have HV := Lib.hid hv
  have HL := Lib.hid hl
  have HLE := Lib.hid hle
  obtain ⟨ad, cd, at1, ct, ab, cb, rfl, rfl, rfl⟩ := h.slices
  obtain ⟨av, cv, rfl⟩ := hv.slice
  have hnn := h.ok.n2
  clear h hv hl hle
  go_enter Try.func29, Try.ntmps29
  go_wp2_with fail
  have hx0 : Ext No W (W.alloc (.cells #[.int .i64 (S.w : Int), .slice ad S.deps.length cd, .slice at1 S.deps.length ct, .slice ab S.deps.length cb] 29)) := (Ext.refl _ _).alloc _
  refine (sysNext_any No S _ _ _ _ vs _ no_lt' (H.out.extNo hx0) (HV.out.extNo hx0) HL.out).mono ?_
  rintro e1 w1 ⟨a1, c1, rfl, hs1, hx1⟩
  have hl2 : (nextD S vs).length = S.deps.length := nextTo_len _ _ _
  have HL2 := Lib.hid hl2
  rw [hl2] at hs1 ⊢
  have HX := Lib.hid (hx0.transNo hx1)
  have HS1 := Lib.hid hs1.out
  clear hx0 hx1 hs1 hl2
  go_wp2_with fail
  go_loopw [7, 18] (fun _ s18 wr => ∃ k : Nat, s18 = .int .i64 k ∧ k ≤ S.deps.length ∧ Hid (Ext No w1 wr)) (fun _ s18 _ => S.deps.length - (intOf s18).toNat)
  case atStart => exact ⟨0, rfl, Nat.zero_le _, Lib.hid (Ext.refl _ _)⟩
  case round =>
    obtain ⟨k, rfl, hk, hx⟩ := hrel
    rename World => wr
    by_cases hlt : k < S.deps.length
    · have hlz : (k : Int) < (S.deps.length : Int) := by omega
      obtain ⟨o1, o2, o3, o4, o5, hve, hcl1, hq1⟩ := (HS1.out.extNo hx.out).cells (i := k) (by rw [HL2.out]; exact hlt)
      rw [HL2.out] at hve
      simp only [Value.slice.injEq] at hve
      obtain ⟨rfl, -, rfl⟩ := hve
      obtain ⟨p1, p2, p3, p4, p5, hve, hcl2, hq2⟩ := ((HV.out.extNo HX.out).extNo hx.out).cells (i := k) (by rw [HL.out]; exact hlt)
      simp only [Value.slice.injEq] at hve
      obtain ⟨rfl, -, rfl⟩ := hve
      have hlv : (k : Int) < (vs.length : Int) := by rw [HL.out]; exact hlz
      have HQ1 := Lib.hid hcl1
      have HQ2 := Lib.hid hcl2
      clear hcl1 hcl2
      go_upto_region 7 with (fail)
      refine wp_region_held_drew (S := (fun w' => Ext No wr w')) (by kernel_rfl) ?_ (fun hHeld => ?_)
      · exact (Ext.refl _ _).drew
      refine held_take (i := 0) (v := ?_) rfl (by kernel_rfl) (by kernel_rfl) (by kernel_rfl) (fun _ _ _ h => h) rfl (fun w hSw => ?_) hHeld ?_
      rotate_left
      · go_simp; (try with_reducible rfl)
      try simp only [Act.put, List.setIfInBounds_toArray, List.set_cons_zero, List.set_cons_succ]
      refine held_take (i := 1) (v := ?_) rfl (by kernel_rfl) (by kernel_rfl) (by kernel_rfl) (fun _ _ _ h => h) rfl (fun w hSw => ?_) hHeld ?_
      rotate_left
      · go_simp; (try with_reducible rfl)
      try simp only [Act.put, List.setIfInBounds_toArray, List.set_cons_zero, List.set_cons_succ]
      refine held_take (i := 2) (v := ?_) rfl (by kernel_rfl) (by kernel_rfl) (by kernel_rfl) (fun _ _ _ h => h) rfl (fun w hSw => ?_) hHeld ?_
      rotate_left
      · go_simp; (try with_reducible rfl)
      try simp only [Act.put, List.setIfInBounds_toArray, List.set_cons_zero, List.set_cons_succ]
      refine held_take (i := 3) (v := ?_) rfl (by kernel_rfl) (by kernel_rfl) (by kernel_rfl) (fun _ _ _ h => h) rfl (fun w hSw => ?_) hHeld ?_
      rotate_left
      · (have hEs : Ext No wr _ := hSw); (obtain ⟨p0, p1⟩ := HQ1.out); (have x0 := hEs.keep p0); (have x1 := hEs.keep p1); go_simp; (try with_reducible rfl)
      try simp only [Act.put, List.setIfInBounds_toArray, List.set_cons_zero, List.set_cons_succ]
      refine held_take (i := 4) (v := ?_) rfl (by kernel_rfl) (by kernel_rfl) (by kernel_rfl) (fun _ _ _ h => h) rfl (fun w hSw => ?_) hHeld ?_
      rotate_left
      · go_simp; (try with_reducible rfl)
      try simp only [Act.put, List.setIfInBounds_toArray, List.set_cons_zero, List.set_cons_succ]
      refine held_take (i := 5) (v := ?_) rfl (by kernel_rfl) (by kernel_rfl) (by kernel_rfl) (fun _ _ _ h => h) rfl (fun w hSw => ?_) hHeld ?_
      rotate_left
      · go_simp; (try with_reducible rfl)
      try simp only [Act.put, List.setIfInBounds_toArray, List.set_cons_zero, List.set_cons_succ]
      refine held_take (i := 6) (v := ?_) rfl (by kernel_rfl) (by kernel_rfl) (by kernel_rfl) (fun _ _ _ h => h) rfl (fun w hSw => ?_) hHeld ?_
      rotate_left
      · go_simp; (try with_reducible rfl)
      try simp only [Act.put, List.setIfInBounds_toArray, List.set_cons_zero, List.set_cons_succ]
      refine held_take (i := 7) (v := ?_) rfl (by kernel_rfl) (by kernel_rfl) (by kernel_rfl) (fun _ _ _ h => h) rfl (fun w hSw => ?_) hHeld ?_
      rotate_left
      · (have hEs : Ext No wr _ := hSw); (obtain ⟨p0, p1⟩ := HQ2.out); (have x0 := hEs.keep p0); (have x1 := hEs.keep p1); go_simp; (try with_reducible rfl)
      try simp only [Act.put, List.setIfInBounds_toArray, List.set_cons_zero, List.set_cons_succ]
      refine held_call (i := 8) rfl (by kernel_rfl) rfl (fun K hK => ?_)
      ((have hEx : Ext No wr _ := hHeld); go_simp; (go_at_call 30); (refine (subset_any S.w (rowD (nextD S vs) k) (rowD vs k) _ _ _ (hq1.out.extNo hEx) (hq2.out.extNo hEx)).mono ?_); (rintro e9 w9 ⟨rfl, hyA⟩); (rw [sub_of_le (HLE.out k hlt)]); go_simp)
      refine hK.out _ _ ?_ (fun hNew => ?_)
      · exact Ext.transNo (show Ext No wr _ from hHeld) hyA
      clear hK K hHeld
      have hHeld := hNew
      clear hNew
      try simp only [Act.put, List.setIfInBounds_toArray, List.set_cons_zero, List.set_cons_succ]
      refine held_take (i := 9) (v := ?_) rfl (by kernel_rfl) (by kernel_rfl) (by kernel_rfl) (fun _ _ _ h => h) rfl (fun w hSw => ?_) hHeld ?_
      rotate_left
      · go_simp; (try with_reducible rfl)
      try simp only [Act.put, List.setIfInBounds_toArray, List.set_cons_zero, List.set_cons_succ]
      refine wpAnyH_done (by kernel_rfl) ?_ _
      have hEx : Ext No wr _ := hHeld
      go_wp2_with fail
      go_roundw
      case rel => exact ⟨k + 1, by go_num, by omega, Lib.hid (hx.out.transNo hEx)⟩
      case measure => simp [intOf]; omega
    · have hge : ¬ (k : Int) < (S.deps.length : Int) := by omega
      go_wp2_with fail
      go_ret
      exact ⟨rfl, HX.out.transNo hx.out⟩
end Go.Proofs.Ytkdjdhflhlbelaa

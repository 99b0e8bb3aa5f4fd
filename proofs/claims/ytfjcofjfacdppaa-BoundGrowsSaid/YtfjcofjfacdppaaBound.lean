/- Contracts of the bounds. -/
import Derived.Test.YtfjcofjfacdppaaL2
import Derived.Test.YtfjcofjfacdppaaBound0
import Derived.Deep.RegionHeld3
namespace Go.Proofs.Ytfjcofjfacdppaa
open Go Go.RowKit

def stepsZ (n e w : Int) : Int := addZ (addZ n e) (mulZ n (addZ w 1))
def costZ (n e w : Int) : Int := mulZ 8 (stepsZ n e w)
def betB (n l m : Int) : Bool := decide (l ≤ n ∧ n ≤ m)
def validB (a b c d e f g : Int) : Bool := betB a 1 8 && (betB b 1 16 && (betB c 0 512 && (betB d 1 256 && (betB e 0 1024 && (betB f 1 64 && betB g 1 1024)))))
def queryZ (a b c d e f g n m w : Int) : Int := bif validB a b c d e f g then mulZ (addZ (divZ (costZ n m w) f) 2) (mulZ b 72) else 1073741824
abbrev cfg (a b c d e f g : Int) : Value := .agg #[.int .i64 a, .int .i64 b, .int .i64 c, .int .i64 d, .int .i64 e, .int .i64 f, .int .i64 g]

theorem between_any (n l m : Int) (w : World) : Calls Try.prog 44 #[.int .i64 n, .int .i64 l, .int .i64 m] w fun e w' => e = .returned (.bool (betB n l m)) ∧ w = w' := by
  by_cases h1 : l ≤ n
  · by_cases h2 : n ≤ m
    · have HB := Lib.hid (show betB n l m = true by simp [betB, h1, h2])
      go_enter Try.func44, Try.ntmps44
      go_wp2
      go_ret
      exact ⟨by rw [HB.out]; rfl, rfl⟩
    · have HB := Lib.hid (show betB n l m = false by simp [betB, h2])
      go_enter Try.func44, Try.ntmps44
      go_wp2
      go_ret
      exact ⟨by rw [HB.out]; rfl, rfl⟩
  · have HB := Lib.hid (show betB n l m = false by simp [betB, h1])
    go_enter Try.func44, Try.ntmps44
    go_wp2
    go_ret
    exact ⟨by rw [HB.out]; rfl, rfl⟩

theorem steps_any (n e t : Int) (w : World) : Calls Try.prog 32 #[.int .i64 n, .int .i64 e, .int .i64 t] w fun e' w' => e' = .returned (.int .i64 (stepsZ n e t)) ∧ w = w' := by
  go_enter Try.func32, Try.ntmps32
  go_wp2_with (first | (go_at_call 12; refine (add_any _ _ _).mono ?_; rintro e w' ⟨rfl, rfl⟩) | (go_at_call 19; refine (mul_any _ _ _).mono ?_; rintro e w' ⟨rfl, rfl⟩))
  go_ret
  exact ⟨rfl, rfl⟩

theorem rsteps_any (n e t : Int) (w : World) : Calls Try.prog 39 #[.int .i64 n, .int .i64 e, .int .i64 t] w fun e' w' => e' = .returned (.int .i64 (stepsZ n e t)) ∧ w = w' := by
  go_enter Try.func39, Try.ntmps39
  go_wp2_with (first | (go_at_call 17; refine (radd_any _ _ _).mono ?_; rintro e w' ⟨rfl, rfl⟩) | (go_at_call 20; refine (rmul_any _ _ _).mono ?_; rintro e w' ⟨rfl, rfl⟩))
  go_ret
  exact ⟨rfl, rfl⟩

theorem cost_any (n e t : Int) (w : World) : Calls Try.prog 33 #[.int .i64 n, .int .i64 e, .int .i64 t] w fun e' w' => e' = .returned (.int .i64 (costZ n e t)) ∧ w = w' := by
  go_enter Try.func33, Try.ntmps33
  go_wp2_with (first | (go_at_call 32; refine (steps_any _ _ _ _).mono ?_; rintro e w' ⟨rfl, rfl⟩) | (go_at_call 19; refine (mul_any _ _ _).mono ?_; rintro e w' ⟨rfl, rfl⟩))
  go_ret
  exact ⟨rfl, rfl⟩

theorem rcost_any (n e t : Int) (w : World) : Calls Try.prog 40 #[.int .i64 n, .int .i64 e, .int .i64 t] w fun e' w' => e' = .returned (.int .i64 (costZ n e t)) ∧ w = w' := by
  go_enter Try.func40, Try.ntmps40
  go_wp2_with (first | (go_at_call 39; refine (rsteps_any _ _ _ _).mono ?_; rintro e w' ⟨rfl, rfl⟩) | (go_at_call 20; refine (rmul_any _ _ _).mono ?_; rintro e w' ⟨rfl, rfl⟩))
  go_ret
  exact ⟨rfl, rfl⟩

set_option maxRecDepth 100000 in
set_option maxHeartbeats 1000000 in
theorem valid_any (a b c d e f g : Int) (w : World) : Calls Try.prog 37 #[cfg a b c d e f g] w fun e' w' => e' = .returned (.bool (validB a b c d e f g)) ∧ Ext No w w' := by
  go_enter Try.func37, Try.ntmps37
  go_wp2_with (first | (go_at_call 44; refine (between_any _ _ _ _).mono ?_; rintro e w' ⟨rfl, rfl⟩))
  all_goals
    go_ret
    exact ⟨ret_bool (by simp [validB, *]), (Ext.refl _ _).alloc _⟩

theorem rv_fin {a b c d e f g : Int} {x : Bool} (h : x = true ↔ (1 ≤ a ∧ a ≤ 8) ∧ (1 ≤ b ∧ b ≤ 16) ∧ (0 ≤ c ∧ c ≤ 512) ∧ (1 ≤ d ∧ d ≤ 256) ∧ (0 ≤ e ∧ e ≤ 1024) ∧ (1 ≤ f ∧ f ≤ 64) ∧ (1 ≤ g ∧ g ≤ 1024)) : x = validB a b c d e f g := by
  rw [Bool.eq_iff_iff, h]; simp [validB, betB]
set_option maxRecDepth 100000 in
set_option maxHeartbeats 1000000 in
theorem rvalid_any (a b c d e f g : Int) (w : World) : Calls Try.prog 38 #[cfg a b c d e f g] w fun e' w' => e' = .returned (.bool (validB a b c d e f g)) ∧ Ext No w w' := by
  go_enter Try.func38, Try.ntmps38
  go_wp2
  all_goals
    go_ret
    exact ⟨ret_bool (rv_fin (by simp; omega)), (Ext.refl _ _).alloc _⟩

theorem queryZ_no {a b c d e f g n m t : Int} (h : validB a b c d e f g = false) : queryZ a b c d e f g n m t = 1073741824 := by simp [queryZ, h]
theorem queryZ_yes {a b c d e f g n m t : Int} (h : validB a b c d e f g = true) : queryZ a b c d e f g n m t = mulZ (addZ (divZ (costZ n m t) f) 2) (mulZ b 72) := by simp [queryZ, h]

set_option maxRecDepth 100000 in
set_option maxHeartbeats 1000000 in
theorem query_any (a b c d e f g n m t : Int) (w : World) : Calls Try.prog 31 #[cfg a b c d e f g, .int .i64 n, .int .i64 m, .int .i64 t] w fun e' w' => e' = .returned (.int .i64 (queryZ a b c d e f g n m t)) ∧ Ext No w w' := by
  by_cases hv : validB a b c d e f g = true
  · have HV := Lib.hid (queryZ_yes (n := n) (m := m) (t := t) hv)
    go_enter Try.func31, Try.ntmps31
    go_wp2_with fail
    refine (valid_any a b c d e f g _).mono ?_
    rintro e' w1 ⟨rfl, hx⟩
    have hB := hx.blk (alloc_top rfl) (fun x => x.elim)
    have cB := cellOf hB
    clear hB
    go_wp2_with fail
    go_quiet (((first | (go_at_call 33; exact Calls.quiet_of_same ((cost_any _ _ _ _).mono fun _ _ ⟨he, hw⟩ => ⟨he, hw.symm⟩)) | (go_at_call 21; exact Calls.quiet_of_same ((div_any _ _ _).mono fun _ _ ⟨he, hw⟩ => ⟨he, hw.symm⟩)) | (go_at_call 12; exact Calls.quiet_of_same ((add_any _ _ _).mono fun _ _ ⟨he, hw⟩ => ⟨he, hw.symm⟩)) | (go_at_call 19; exact Calls.quiet_of_same ((mul_any _ _ _).mono fun _ _ ⟨he, hw⟩ => ⟨he, hw.symm⟩)))))
    go_wp2
    go_ret
    exact ⟨by rw [HV.out]; rfl, (((Ext.refl _ _).alloc _).trans hx).drewN _⟩
  · have HV := Lib.hid (queryZ_no (n := n) (m := m) (t := t) (by simpa using hv))
    have hv' : validB a b c d e f g = false := by simpa using hv
    go_enter Try.func31, Try.ntmps31
    go_wp2_with (go_at_call 37; refine (valid_any _ _ _ _ _ _ _ _).mono ?_; rintro e' w1 ⟨rfl, hx⟩)
    go_ret
    exact ⟨by rw [HV.out]; rfl, ((Ext.refl _ _).alloc _).trans hx⟩

set_option maxRecDepth 100000 in
set_option maxHeartbeats 1000000 in
theorem rquery_any (a b c d e f g n m t : Int) (w : World) : Calls Try.prog 41 #[cfg a b c d e f g, .int .i64 n, .int .i64 m, .int .i64 t] w fun e' w' => e' = .returned (.int .i64 (queryZ a b c d e f g n m t)) ∧ Ext No w w' := by
  by_cases hv : validB a b c d e f g = true
  · have HV := Lib.hid (queryZ_yes (n := n) (m := m) (t := t) hv)
    go_enter Try.func41, Try.ntmps41
    go_wp2_with fail
    refine (rvalid_any a b c d e f g _).mono ?_
    rintro e' w1 ⟨rfl, hx⟩
    have hB := hx.blk (alloc_top rfl) (fun x => x.elim)
    have cB := cellOf hB
    clear hB
    go_wp2_with fail
    go_quiet (((first | (go_at_call 40; exact Calls.quiet_of_same ((rcost_any _ _ _ _).mono fun _ _ ⟨he, hw⟩ => ⟨he, hw.symm⟩)) | (go_at_call 22; exact Calls.quiet_of_same ((rdiv_any _ _ _).mono fun _ _ ⟨he, hw⟩ => ⟨he, hw.symm⟩)) | (go_at_call 17; exact Calls.quiet_of_same ((radd_any _ _ _).mono fun _ _ ⟨he, hw⟩ => ⟨he, hw.symm⟩)) | (go_at_call 20; exact Calls.quiet_of_same ((rmul_any _ _ _).mono fun _ _ ⟨he, hw⟩ => ⟨he, hw.symm⟩)))))
    go_wp2
    go_ret
    exact ⟨by rw [HV.out]; rfl, (((Ext.refl _ _).alloc _).trans hx).drewN _⟩
  · have HV := Lib.hid (queryZ_no (n := n) (m := m) (t := t) (by simpa using hv))
    have hv' : validB a b c d e f g = false := by simpa using hv
    go_enter Try.func41, Try.ntmps41
    go_wp2_with (go_at_call 38; refine (rvalid_any _ _ _ _ _ _ _ _).mono ?_; rintro e' w1 ⟨rfl, hx⟩)
    go_ret
    exact ⟨by rw [HV.out]; rfl, ((Ext.refl _ _).alloc _).trans hx⟩

end Go.Proofs.Ytfjcofjfacdppaa

/- Contracts of the counter functions. -/
import Derived.Test.YtfjcofjfacdppaaProg
import Derived.WalkKit
import Derived.ProofKit
import Derived.Lib.Hide
namespace Go.Proofs.Ytfjcofjfacdppaa
open Go.RowKit

def clampZ (a : Int) : Int := if a < 0 then 0 else if 1073741824 < a then 1073741824 else a
theorem clampZ_bd (a : Int) : 0 ≤ clampZ a ∧ clampZ a ≤ 1073741824 := by unfold clampZ; split <;> (try split) <;> omega
theorem ret_int {k : IntKind} {a b : Int} (h : a = b) : Ending.returned (.int k a) = .returned (.int k b) := by rw [h]
theorem ret_bool {a b : Bool} (h : a = b) : Ending.returned (.bool a) = .returned (.bool b) := by rw [h]
def addZ (a b : Int) : Int := clampZ (clampZ a + clampZ b)
def subZ (a b : Int) : Int := clampZ (clampZ a - clampZ b)
def mulZ (a b : Int) : Int := clampZ (clampZ a * clampZ b)
def divZ (a b : Int) : Int := if clampZ b = 0 then 1073741824 else clampZ a / clampZ b
theorem mul_bd (a b : Int) (ha : 0 ≤ a ∧ a ≤ 1073741824) (hb : 0 ≤ b ∧ b ≤ 1073741824) : 0 ≤ a * b ∧ a * b ≤ 1152921504606846976 := by
  refine ⟨Int.mul_nonneg ha.1 hb.1, ?_⟩
  calc a * b ≤ 1073741824 * b := Int.mul_le_mul_of_nonneg_right ha.2 hb.1
    _ ≤ 1073741824 * 1073741824 := Int.mul_le_mul_of_nonneg_left hb.2 (by decide)
    _ = 1152921504606846976 := by decide

theorem clamp_any (a : Int) (w : World) : Calls Try.prog 13 #[.int .i64 a] w fun e w' => e = .returned (.int .i64 (clampZ a)) ∧ w = w' := by
  go_enter Try.func13, Try.ntmps13
  go_wp2
  all_goals
    go_ret
    exact ⟨ret_int (by simp only [clampZ]; repeat' split <;> omega), rfl⟩

theorem rclamp_any (a : Int) (w : World) : Calls Try.prog 16 #[.int .i64 a] w fun e w' => e = .returned (.int .i64 (clampZ a)) ∧ w = w' := by
  go_enter Try.func16, Try.ntmps16
  go_wp2
  all_goals
    go_ret
    exact ⟨ret_int (by simp only [clampZ]; repeat' split <;> omega), rfl⟩

theorem add_any (a b : Int) (w : World) : Calls Try.prog 12 #[.int .i64 a, .int .i64 b] w fun e w' => e = .returned (.int .i64 (addZ a b)) ∧ w = w' := by
  have ha := clampZ_bd a
  have hb := clampZ_bd b
  go_enter Try.func12, Try.ntmps12
  go_wp2_with (go_at_call 13; refine (clamp_any _ _).mono ?_; rintro e w' ⟨rfl, rfl⟩)
  go_ret
  exact ⟨rfl, rfl⟩

theorem radd_any (a b : Int) (w : World) : Calls Try.prog 17 #[.int .i64 a, .int .i64 b] w fun e w' => e = .returned (.int .i64 (addZ a b)) ∧ w = w' := by
  have ha := clampZ_bd a
  have hb := clampZ_bd b
  go_enter Try.func17, Try.ntmps17
  go_wp2_with (go_at_call 16; refine (rclamp_any _ _).mono ?_; rintro e w' ⟨rfl, rfl⟩)
  go_ret
  exact ⟨rfl, rfl⟩

theorem sub_any (a b : Int) (w : World) : Calls Try.prog 14 #[.int .i64 a, .int .i64 b] w fun e w' => e = .returned (.int .i64 (subZ a b)) ∧ w = w' := by
  have ha := clampZ_bd a
  have hb := clampZ_bd b
  go_enter Try.func14, Try.ntmps14
  go_wp2_with (go_at_call 13; refine (clamp_any _ _).mono ?_; rintro e w' ⟨rfl, rfl⟩)
  go_ret
  exact ⟨rfl, rfl⟩

theorem rsub_any (a b : Int) (w : World) : Calls Try.prog 18 #[.int .i64 a, .int .i64 b] w fun e w' => e = .returned (.int .i64 (subZ a b)) ∧ w = w' := by
  have ha := clampZ_bd a
  have hb := clampZ_bd b
  go_enter Try.func18, Try.ntmps18
  go_wp2_with (go_at_call 16; refine (rclamp_any _ _).mono ?_; rintro e w' ⟨rfl, rfl⟩)
  go_ret
  exact ⟨rfl, rfl⟩

theorem mul_any (a b : Int) (w : World) : Calls Try.prog 19 #[.int .i64 a, .int .i64 b] w fun e w' => e = .returned (.int .i64 (mulZ a b)) ∧ w = w' := by
  have ha := clampZ_bd a
  have hb := clampZ_bd b
  have hm := mul_bd _ _ ha hb
  go_enter Try.func19, Try.ntmps19
  go_wp2_with (go_at_call 13; refine (clamp_any _ _).mono ?_; rintro e w' ⟨rfl, rfl⟩)
  go_ret
  exact ⟨rfl, rfl⟩

theorem rmul_any (a b : Int) (w : World) : Calls Try.prog 20 #[.int .i64 a, .int .i64 b] w fun e w' => e = .returned (.int .i64 (mulZ a b)) ∧ w = w' := by
  have ha := clampZ_bd a
  have hb := clampZ_bd b
  have hm := mul_bd _ _ ha hb
  go_enter Try.func20, Try.ntmps20
  go_wp2_with (go_at_call 16; refine (rclamp_any _ _).mono ?_; rintro e w' ⟨rfl, rfl⟩)
  go_ret
  exact ⟨rfl, rfl⟩

theorem div_any (a b : Int) (w : World) : Calls Try.prog 21 #[.int .i64 a, .int .i64 b] w fun e w' => e = .returned (.int .i64 (divZ a b)) ∧ w = w' := by
  have ha := clampZ_bd a
  have hb := clampZ_bd b
  by_cases h0 : clampZ b = 0
  · have hz : divZ a b = 1073741824 := by unfold divZ; rw [if_pos h0]
    have HZ := Lib.hid hz
    have h1 : (clampZ b == 0) = true := by simp [h0]
    clear hz h0
    go_enter Try.func21, Try.ntmps21
    go_wp2_with (go_at_call 13; refine (clamp_any _ _).mono ?_; rintro e w' ⟨rfl, rfl⟩)
    go_ret
    exact ⟨by rw [HZ.out]; rfl, rfl⟩
  · have hz : divZ a b = clampZ a / clampZ b := by unfold divZ; rw [if_neg h0]
    have HZ := Lib.hid hz
    have h1 : (clampZ b == 0) = false := by simp [h0]
    have h2 : 0 < clampZ b := by omega
    clear hz h0
    go_enter Try.func21, Try.ntmps21
    go_wp2_with (go_at_call 13; refine (clamp_any _ _).mono ?_; rintro e w' ⟨rfl, rfl⟩)
    go_ret
    exact ⟨by rw [HZ.out]; rfl, rfl⟩

theorem rdiv_any (a b : Int) (w : World) : Calls Try.prog 22 #[.int .i64 a, .int .i64 b] w fun e w' => e = .returned (.int .i64 (divZ a b)) ∧ w = w' := by
  have ha := clampZ_bd a
  have hb := clampZ_bd b
  by_cases h0 : clampZ b = 0
  · have hz : divZ a b = 1073741824 := by unfold divZ; rw [if_pos h0]
    have HZ := Lib.hid hz
    have h1 : (clampZ b == 0) = true := by simp [h0]
    clear hz h0
    go_enter Try.func22, Try.ntmps22
    go_wp2_with (go_at_call 16; refine (rclamp_any _ _).mono ?_; rintro e w' ⟨rfl, rfl⟩)
    go_ret
    exact ⟨by rw [HZ.out]; rfl, rfl⟩
  · have hz : divZ a b = clampZ a / clampZ b := by unfold divZ; rw [if_neg h0]
    have HZ := Lib.hid hz
    have h1 : (clampZ b == 0) = false := by simp [h0]
    have h2 : 0 < clampZ b := by omega
    clear hz h0
    go_enter Try.func22, Try.ntmps22
    go_wp2_with (go_at_call 16; refine (rclamp_any _ _).mono ?_; rintro e w' ⟨rfl, rfl⟩)
    go_ret
    exact ⟨by rw [HZ.out]; rfl, rfl⟩

theorem c1 : addZ 1073741824 5 = 1073741824 := by decide
theorem c2 : subZ 3 5 = 0 := by decide
theorem c3 : divZ 7 2 = 3 := by decide
theorem c4 : divZ 1 0 = 1073741824 := by decide
theorem c5 : clampZ 4 = 4 := by decide
theorem sane1_any (w : World) : Calls Try.prog 15 #[] w fun e w' => e = .returned (.bool true) ∧ w = w' := by
  have c1 := c1
  have c2 := c2
  have c3 := c3
  have c4 := c4
  have c5 := c5
  go_enter Try.func15, Try.ntmps15
  go_wp2_with (first | (go_at_call 12; refine (add_any _ _ _).mono ?_; rintro e w' ⟨rfl, rfl⟩) | (go_at_call 13; refine (clamp_any _ _).mono ?_; rintro e w' ⟨rfl, rfl⟩) | (go_at_call 14; refine (sub_any _ _ _).mono ?_; rintro e w' ⟨rfl, rfl⟩) | (go_at_call 21; refine (div_any _ _ _).mono ?_; rintro e w' ⟨rfl, rfl⟩))
  go_ret
  exact ⟨rfl, rfl⟩
end Go.Proofs.Ytfjcofjfacdppaa

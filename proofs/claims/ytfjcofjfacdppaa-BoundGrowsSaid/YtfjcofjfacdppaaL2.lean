/- The walks of the counter laws. -/
import Derived.Test.YtfjcofjfacdppaaCtr
namespace Go.Proofs.Ytfjcofjfacdppaa
open Go.RowKit

theorem computes_walk (a b : Int) (w : World) : Calls Try.prog 4 #[.int .i64 a, .int .i64 b] w fun e w' => e = .returned (.bool true) ∧ w = w' := by
  go_enter Try.func4, Try.ntmps4
  go_wp2_with (first | (go_at_call 12; refine (add_any _ _ _).mono ?_; rintro e w' ⟨rfl, rfl⟩) | (go_at_call 13; refine (clamp_any _ _).mono ?_; rintro e w' ⟨rfl, rfl⟩) | (go_at_call 14; refine (sub_any _ _ _).mono ?_; rintro e w' ⟨rfl, rfl⟩) | (go_at_call 15; refine (sane1_any _).mono ?_; rintro e w' ⟨rfl, rfl⟩) | (go_at_call 16; refine (rclamp_any _ _).mono ?_; rintro e w' ⟨rfl, rfl⟩) | (go_at_call 17; refine (radd_any _ _ _).mono ?_; rintro e w' ⟨rfl, rfl⟩) | (go_at_call 18; refine (rsub_any _ _ _).mono ?_; rintro e w' ⟨rfl, rfl⟩) | (go_at_call 19; refine (mul_any _ _ _).mono ?_; rintro e w' ⟨rfl, rfl⟩) | (go_at_call 20; refine (rmul_any _ _ _).mono ?_; rintro e w' ⟨rfl, rfl⟩) | (go_at_call 21; refine (div_any _ _ _).mono ?_; rintro e w' ⟨rfl, rfl⟩) | (go_at_call 22; refine (rdiv_any _ _ _).mono ?_; rintro e w' ⟨rfl, rfl⟩))
  go_ret
  exact ⟨rfl, rfl⟩

theorem clampZ_of (a : Int) (h : 0 ≤ a) (h2 : a ≤ 1073741824) : clampZ a = a := by unfold clampZ; rw [if_neg (by omega), if_neg (by omega)]
theorem clampZ_hi (a : Int) (h : 1073741824 ≤ a) : clampZ a = 1073741824 := by unfold clampZ; split; omega; split <;> omega
theorem clampZ_idem (a : Int) : clampZ (clampZ a) = clampZ a := clampZ_of _ (clampZ_bd a).1 (clampZ_bd a).2
theorem mulZ_comm (a b : Int) : mulZ a b = mulZ b a := by unfold mulZ; rw [Int.mul_comm]
theorem mulZ_left (x y z : Int) (hx : 0 ≤ x) (hy : 0 ≤ y) (hz : 0 ≤ z) : clampZ (clampZ (x * y) * z) = clampZ (x * y * z) := by
  by_cases h : x * y ≤ 1073741824
  · rw [clampZ_of _ (Int.mul_nonneg hx hy) h]
  · rw [clampZ_hi (x * y) (by omega)]
    by_cases hz0 : z = 0
    · subst hz0; simp
    · have h1 : (1073741824 : Int) * 1 ≤ 1073741824 * z := Int.mul_le_mul_of_nonneg_left (by omega) (by decide)
      have h2 : (1073741824 : Int) * z ≤ x * y * z := Int.mul_le_mul_of_nonneg_right (by omega) hz
      rw [clampZ_hi _ (by omega), clampZ_hi _ (by omega)]
theorem mulZ_assoc (a b c : Int) : mulZ (mulZ a b) c = mulZ a (mulZ b c) := by
  have ha := clampZ_bd a
  have hb := clampZ_bd b
  have hc := clampZ_bd c
  simp only [mulZ, clampZ_idem]
  generalize clampZ a = x at *
  generalize clampZ b = y at *
  generalize clampZ c = z at *
  rw [mulZ_left x y z ha.1 hb.1 hc.1, Int.mul_comm x (clampZ _), mulZ_left y z x hb.1 hc.1 ha.1]
  congr 1
  rw [Int.mul_assoc, Int.mul_comm]
theorem divZ_mul (a b : Int) (h0 : clampZ b ≠ 0) (h1 : mulZ a b ≠ 1073741824) : divZ (mulZ a b) b = clampZ a := by
  have ha := clampZ_bd a
  have hb := clampZ_bd b
  unfold divZ
  rw [if_neg h0]
  unfold mulZ at *
  rw [clampZ_idem]
  generalize clampZ a = x at *
  generalize clampZ b = y at *
  have hp := Int.mul_nonneg ha.1 hb.1
  have hle : x * y ≤ 1073741824 := by
    by_cases h : x * y ≤ 1073741824
    · exact h
    · exact absurd (clampZ_hi (x * y) (by omega)) h1
  rw [clampZ_of _ hp hle]
  exact Int.mul_ediv_cancel _ h0


theorem near_walk (a b : Int) (w : World) : Calls Try.prog 5 #[.int .i8 a, .int .i8 b] w fun e w' => e = .returned (.bool true) ∧ w = w' := by
  go_enter Try.func5, Try.ntmps5
  go_wp2
  go_loop [5, 6, 7] (fun x y i => ∃ k : Nat, k ≤ 4 ∧ i = .int .i64 k ∧ ∃ x' y' : Int, x = .int .i64 x' ∧ y = .int .i64 y') (fun _ _ i => 4 - (intOf i).toNat)
  case atStart => exact ⟨0, by omega, rfl, _, _, rfl, rfl⟩
  case round =>
    obtain ⟨k, hk, rfl, x, y, rfl, rfl⟩ := hrel
    by_cases hlt : k < 4
    · go_wp2_with (first | (go_at_call 12; refine (add_any _ _ _).mono ?_; rintro e w' ⟨rfl, rfl⟩) | (go_at_call 13; refine (clamp_any _ _).mono ?_; rintro e w' ⟨rfl, rfl⟩) | (go_at_call 14; refine (sub_any _ _ _).mono ?_; rintro e w' ⟨rfl, rfl⟩) | (go_at_call 15; refine (sane1_any _).mono ?_; rintro e w' ⟨rfl, rfl⟩) | (go_at_call 16; refine (rclamp_any _ _).mono ?_; rintro e w' ⟨rfl, rfl⟩) | (go_at_call 17; refine (radd_any _ _ _).mono ?_; rintro e w' ⟨rfl, rfl⟩) | (go_at_call 18; refine (rsub_any _ _ _).mono ?_; rintro e w' ⟨rfl, rfl⟩) | (go_at_call 19; refine (mul_any _ _ _).mono ?_; rintro e w' ⟨rfl, rfl⟩) | (go_at_call 20; refine (rmul_any _ _ _).mono ?_; rintro e w' ⟨rfl, rfl⟩) | (go_at_call 21; refine (div_any _ _ _).mono ?_; rintro e w' ⟨rfl, rfl⟩) | (go_at_call 22; refine (rdiv_any _ _ _).mono ?_; rintro e w' ⟨rfl, rfl⟩))
      all_goals
        go_round
        case rel => exact ⟨k + 1, by omega, by go_num, _, _, rfl, rfl⟩
        case measure => simp [intOf]; omega
    · go_wp2_with (first | (go_at_call 12; refine (add_any _ _ _).mono ?_; rintro e w' ⟨rfl, rfl⟩) | (go_at_call 13; refine (clamp_any _ _).mono ?_; rintro e w' ⟨rfl, rfl⟩) | (go_at_call 14; refine (sub_any _ _ _).mono ?_; rintro e w' ⟨rfl, rfl⟩) | (go_at_call 15; refine (sane1_any _).mono ?_; rintro e w' ⟨rfl, rfl⟩) | (go_at_call 16; refine (rclamp_any _ _).mono ?_; rintro e w' ⟨rfl, rfl⟩) | (go_at_call 17; refine (radd_any _ _ _).mono ?_; rintro e w' ⟨rfl, rfl⟩) | (go_at_call 18; refine (rsub_any _ _ _).mono ?_; rintro e w' ⟨rfl, rfl⟩) | (go_at_call 19; refine (mul_any _ _ _).mono ?_; rintro e w' ⟨rfl, rfl⟩) | (go_at_call 20; refine (rmul_any _ _ _).mono ?_; rintro e w' ⟨rfl, rfl⟩) | (go_at_call 21; refine (div_any _ _ _).mono ?_; rintro e w' ⟨rfl, rfl⟩) | (go_at_call 22; refine (rdiv_any _ _ _).mono ?_; rintro e w' ⟨rfl, rfl⟩))
      go_ret
      exact ⟨rfl, rfl⟩

theorem multiplies_walk (a b c : Int) (w : World) : Calls Try.prog 6 #[.int .i64 a, .int .i64 b, .int .i64 c] w fun e w' => e = .returned (.bool true) ∧ w = w' := by
  have h1 : (mulZ a b != mulZ b a) = false := by rw [mulZ_comm]; simp
  have h2 : (mulZ (mulZ a b) c != mulZ a (mulZ b c)) = false := by rw [mulZ_assoc]; simp
  have h3 : 0 ≤ mulZ a b := (clampZ_bd _).1
  have h4 : mulZ a b ≤ 1073741824 := (clampZ_bd _).2
  by_cases hb : clampZ b = 0
  · have h5 : (clampZ b == 0) = true := by simp [hb]
    clear hb
    go_enter Try.func6, Try.ntmps6
    go_wp2_with (first | (go_at_call 12; refine (add_any _ _ _).mono ?_; rintro e w' ⟨rfl, rfl⟩) | (go_at_call 13; refine (clamp_any _ _).mono ?_; rintro e w' ⟨rfl, rfl⟩) | (go_at_call 14; refine (sub_any _ _ _).mono ?_; rintro e w' ⟨rfl, rfl⟩) | (go_at_call 15; refine (sane1_any _).mono ?_; rintro e w' ⟨rfl, rfl⟩) | (go_at_call 16; refine (rclamp_any _ _).mono ?_; rintro e w' ⟨rfl, rfl⟩) | (go_at_call 17; refine (radd_any _ _ _).mono ?_; rintro e w' ⟨rfl, rfl⟩) | (go_at_call 18; refine (rsub_any _ _ _).mono ?_; rintro e w' ⟨rfl, rfl⟩) | (go_at_call 19; refine (mul_any _ _ _).mono ?_; rintro e w' ⟨rfl, rfl⟩) | (go_at_call 20; refine (rmul_any _ _ _).mono ?_; rintro e w' ⟨rfl, rfl⟩) | (go_at_call 21; refine (div_any _ _ _).mono ?_; rintro e w' ⟨rfl, rfl⟩) | (go_at_call 22; refine (rdiv_any _ _ _).mono ?_; rintro e w' ⟨rfl, rfl⟩))
    go_ret
    exact ⟨rfl, rfl⟩
  · by_cases hx : mulZ a b = 1073741824
    · have h5 : (clampZ b == 0) = false := by simp [hb]
      have h6 : (mulZ a b == 1073741824) = true := by simp [hx]
      clear hb hx
      go_enter Try.func6, Try.ntmps6
      go_wp2_with (first | (go_at_call 12; refine (add_any _ _ _).mono ?_; rintro e w' ⟨rfl, rfl⟩) | (go_at_call 13; refine (clamp_any _ _).mono ?_; rintro e w' ⟨rfl, rfl⟩) | (go_at_call 14; refine (sub_any _ _ _).mono ?_; rintro e w' ⟨rfl, rfl⟩) | (go_at_call 15; refine (sane1_any _).mono ?_; rintro e w' ⟨rfl, rfl⟩) | (go_at_call 16; refine (rclamp_any _ _).mono ?_; rintro e w' ⟨rfl, rfl⟩) | (go_at_call 17; refine (radd_any _ _ _).mono ?_; rintro e w' ⟨rfl, rfl⟩) | (go_at_call 18; refine (rsub_any _ _ _).mono ?_; rintro e w' ⟨rfl, rfl⟩) | (go_at_call 19; refine (mul_any _ _ _).mono ?_; rintro e w' ⟨rfl, rfl⟩) | (go_at_call 20; refine (rmul_any _ _ _).mono ?_; rintro e w' ⟨rfl, rfl⟩) | (go_at_call 21; refine (div_any _ _ _).mono ?_; rintro e w' ⟨rfl, rfl⟩) | (go_at_call 22; refine (rdiv_any _ _ _).mono ?_; rintro e w' ⟨rfl, rfl⟩))
      go_ret
      exact ⟨rfl, rfl⟩
    · have h7 : (divZ (mulZ a b) b == clampZ a) = true := by rw [divZ_mul a b hb hx]; simp
      have h5 : (clampZ b == 0) = false := by simp [hb]
      have h6 : (mulZ a b == 1073741824) = false := by simp [hx]
      clear hb hx
      go_enter Try.func6, Try.ntmps6
      go_wp2_with (first | (go_at_call 12; refine (add_any _ _ _).mono ?_; rintro e w' ⟨rfl, rfl⟩) | (go_at_call 13; refine (clamp_any _ _).mono ?_; rintro e w' ⟨rfl, rfl⟩) | (go_at_call 14; refine (sub_any _ _ _).mono ?_; rintro e w' ⟨rfl, rfl⟩) | (go_at_call 15; refine (sane1_any _).mono ?_; rintro e w' ⟨rfl, rfl⟩) | (go_at_call 16; refine (rclamp_any _ _).mono ?_; rintro e w' ⟨rfl, rfl⟩) | (go_at_call 17; refine (radd_any _ _ _).mono ?_; rintro e w' ⟨rfl, rfl⟩) | (go_at_call 18; refine (rsub_any _ _ _).mono ?_; rintro e w' ⟨rfl, rfl⟩) | (go_at_call 19; refine (mul_any _ _ _).mono ?_; rintro e w' ⟨rfl, rfl⟩) | (go_at_call 20; refine (rmul_any _ _ _).mono ?_; rintro e w' ⟨rfl, rfl⟩) | (go_at_call 21; refine (div_any _ _ _).mono ?_; rintro e w' ⟨rfl, rfl⟩) | (go_at_call 22; refine (rdiv_any _ _ _).mono ?_; rintro e w' ⟨rfl, rfl⟩))
      go_ret
      exact ⟨rfl, rfl⟩
end Go.Proofs.Ytfjcofjfacdppaa

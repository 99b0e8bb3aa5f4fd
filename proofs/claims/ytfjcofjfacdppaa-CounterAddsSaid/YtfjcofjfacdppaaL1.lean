/- The walks of the counter laws. -/
import Derived.Test.YtfjcofjfacdppaaCtr
namespace Go.Proofs.Ytfjcofjfacdppaa
open Go.RowKit

theorem addZ_comm (a b : Int) : addZ a b = addZ b a := by unfold addZ; rw [Int.add_comm]
theorem addZ_assoc (a b c : Int) : addZ (addZ a b) c = addZ a (addZ b c) := by
  have ha := clampZ_bd a
  have hb := clampZ_bd b
  have hc := clampZ_bd c
  simp only [addZ]
  generalize clampZ a = x at *
  generalize clampZ b = y at *
  generalize clampZ c = z at *
  simp only [clampZ]
  repeat' split
  all_goals omega
theorem addZ_ge (a b : Int) : clampZ a ≤ addZ a b := by
  have ha := clampZ_bd a
  have hb := clampZ_bd b
  simp only [addZ]
  generalize clampZ a = x at *
  generalize clampZ b = y at *
  simp only [clampZ]
  repeat' split
  all_goals omega
theorem addZ_sub (a b : Int) : addZ (subZ a b) b = if clampZ a < clampZ b then clampZ b else clampZ a := by
  have ha := clampZ_bd a
  have hb := clampZ_bd b
  simp only [addZ, subZ]
  generalize clampZ a = x at *
  generalize clampZ b = y at *
  simp only [clampZ]
  repeat' split
  all_goals omega


theorem adds_walk (a b c : Int) (w : World) : Calls Try.prog 3 #[.int .i64 a, .int .i64 b, .int .i64 c] w fun e w' => e = .returned (.bool true) ∧ w = w' := by
  have h1 : (addZ a b == addZ b a) = true := by rw [addZ_comm]; simp
  have h2 : (addZ (addZ a b) c == addZ a (addZ b c)) = true := by rw [addZ_assoc]; simp
  have h3 := addZ_ge a b
  have h4 := clampZ_bd (clampZ a + clampZ b)
  have h4' : addZ a b ≤ 1073741824 := h4.2
  have h5 := addZ_sub a b
  clear h4
  by_cases hc : clampZ a < clampZ b
  · rw [if_pos hc] at h5
    have h6 : (addZ (subZ a b) b == clampZ b) = true := by rw [h5]; simp
    clear h5
    go_enter Try.func3, Try.ntmps3
    go_wp2_with (first | (go_at_call 12; refine (add_any _ _ _).mono ?_; rintro e w' ⟨rfl, rfl⟩) | (go_at_call 13; refine (clamp_any _ _).mono ?_; rintro e w' ⟨rfl, rfl⟩) | (go_at_call 14; refine (sub_any _ _ _).mono ?_; rintro e w' ⟨rfl, rfl⟩) | (go_at_call 15; refine (sane1_any _).mono ?_; rintro e w' ⟨rfl, rfl⟩))
    go_ret
    exact ⟨rfl, rfl⟩
  · rw [if_neg hc] at h5
    have h6 : (addZ (subZ a b) b == clampZ a) = true := by rw [h5]; simp
    clear h5
    go_enter Try.func3, Try.ntmps3
    go_wp2_with (first | (go_at_call 12; refine (add_any _ _ _).mono ?_; rintro e w' ⟨rfl, rfl⟩) | (go_at_call 13; refine (clamp_any _ _).mono ?_; rintro e w' ⟨rfl, rfl⟩) | (go_at_call 14; refine (sub_any _ _ _).mono ?_; rintro e w' ⟨rfl, rfl⟩) | (go_at_call 15; refine (sane1_any _).mono ?_; rintro e w' ⟨rfl, rfl⟩))
    go_ret
    exact ⟨rfl, rfl⟩
end Go.Proofs.Ytfjcofjfacdppaa

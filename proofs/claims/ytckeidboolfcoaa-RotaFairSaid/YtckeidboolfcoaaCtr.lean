/- Contracts of counters, quanta and ages. -/
import Derived.Test.YtckeidboolfcoaaProg
import Derived.WalkKit
import Derived.ProofKit
import Derived.Lib.Hide
namespace Go.Proofs.Ytckeidboolfcoaa
open Go.RowKit

def clampZ (a : Int) : Int := if a < 0 then 0 else if 1073741824 < a then 1073741824 else a
theorem clampZ_bd (a : Int) : 0 ≤ clampZ a ∧ clampZ a ≤ 1073741824 := by unfold clampZ; split <;> (try split) <;> omega
theorem ret_int {k : IntKind} {a b : Int} (h : a = b) : Ending.returned (.int k a) = .returned (.int k b) := by rw [h]
theorem ret_bool {a b : Bool} (h : a = b) : Ending.returned (.bool a) = .returned (.bool b) := by rw [h]
def addZ (a b : Int) : Int := clampZ (clampZ a + clampZ b)
def divZ (a b : Int) : Int := if clampZ b = 0 then 1073741824 else clampZ a / clampZ b
theorem clamp_any (a : Int) (w : World) : Calls Try.prog 46 #[.int .i64 a] w fun e w' => e = .returned (.int .i64 (clampZ a)) ∧ w = w' := by
  go_enter Try.func46, Try.ntmps46
  go_wp2
  all_goals
    go_ret
    exact ⟨ret_int (by simp only [clampZ]; repeat' split <;> omega), rfl⟩

theorem rclamp_any (a : Int) (w : World) : Calls Try.prog 45 #[.int .i64 a] w fun e w' => e = .returned (.int .i64 (clampZ a)) ∧ w = w' := by
  go_enter Try.func45, Try.ntmps45
  go_wp2
  all_goals
    go_ret
    exact ⟨ret_int (by simp only [clampZ]; repeat' split <;> omega), rfl⟩

theorem add_any (a b : Int) (w : World) : Calls Try.prog 42 #[.int .i64 a, .int .i64 b] w fun e w' => e = .returned (.int .i64 (addZ a b)) ∧ w = w' := by
  have ha := clampZ_bd a
  have hb := clampZ_bd b
  go_enter Try.func42, Try.ntmps42
  go_wp2_with (go_at_call 46; refine (clamp_any _ _).mono ?_; rintro e w' ⟨rfl, rfl⟩)
  go_ret
  exact ⟨rfl, rfl⟩

theorem radd_any (a b : Int) (w : World) : Calls Try.prog 38 #[.int .i64 a, .int .i64 b] w fun e w' => e = .returned (.int .i64 (addZ a b)) ∧ w = w' := by
  have ha := clampZ_bd a
  have hb := clampZ_bd b
  go_enter Try.func38, Try.ntmps38
  go_wp2_with (go_at_call 45; refine (rclamp_any _ _).mono ?_; rintro e w' ⟨rfl, rfl⟩)
  go_ret
  exact ⟨rfl, rfl⟩

theorem div_any (a b : Int) (w : World) : Calls Try.prog 43 #[.int .i64 a, .int .i64 b] w fun e w' => e = .returned (.int .i64 (divZ a b)) ∧ w = w' := by
  have ha := clampZ_bd a
  have hb := clampZ_bd b
  by_cases h0 : clampZ b = 0
  · have hz : divZ a b = 1073741824 := by unfold divZ; rw [if_pos h0]
    have HZ := Lib.hid hz
    have h1 : (clampZ b == 0) = true := by simp [h0]
    clear hz h0
    go_enter Try.func43, Try.ntmps43
    go_wp2_with (go_at_call 46; refine (clamp_any _ _).mono ?_; rintro e w' ⟨rfl, rfl⟩)
    go_ret
    exact ⟨by rw [HZ.out]; rfl, rfl⟩
  · have hz : divZ a b = clampZ a / clampZ b := by unfold divZ; rw [if_neg h0]
    have HZ := Lib.hid hz
    have h1 : (clampZ b == 0) = false := by simp [h0]
    have h2 : 0 < clampZ b := by omega
    clear hz h0
    go_enter Try.func43, Try.ntmps43
    go_wp2_with (go_at_call 46; refine (clamp_any _ _).mono ?_; rintro e w' ⟨rfl, rfl⟩)
    go_ret
    exact ⟨by rw [HZ.out]; rfl, rfl⟩

theorem rdiv_any (a b : Int) (w : World) : Calls Try.prog 39 #[.int .i64 a, .int .i64 b] w fun e w' => e = .returned (.int .i64 (divZ a b)) ∧ w = w' := by
  have ha := clampZ_bd a
  have hb := clampZ_bd b
  by_cases h0 : clampZ b = 0
  · have hz : divZ a b = 1073741824 := by unfold divZ; rw [if_pos h0]
    have HZ := Lib.hid hz
    have h1 : (clampZ b == 0) = true := by simp [h0]
    clear hz h0
    go_enter Try.func39, Try.ntmps39
    go_wp2_with (go_at_call 45; refine (rclamp_any _ _).mono ?_; rintro e w' ⟨rfl, rfl⟩)
    go_ret
    exact ⟨by rw [HZ.out]; rfl, rfl⟩
  · have hz : divZ a b = clampZ a / clampZ b := by unfold divZ; rw [if_neg h0]
    have HZ := Lib.hid hz
    have h1 : (clampZ b == 0) = false := by simp [h0]
    have h2 : 0 < clampZ b := by omega
    clear hz h0
    go_enter Try.func39, Try.ntmps39
    go_wp2_with (go_at_call 45; refine (rclamp_any _ _).mono ?_; rintro e w' ⟨rfl, rfl⟩)
    go_ret
    exact ⟨by rw [HZ.out]; rfl, rfl⟩

def quantQ (b p a t : Int) : Int := addZ (addZ b p) (divZ a (if t < 1 then 1 else t))
def quantZ (b p a t : Int) : Int := if 64 < quantQ b p a t then 64 else if quantQ b p a t < 1 then 1 else quantQ b p a t
theorem quantZ_bd (b p a t : Int) : 1 ≤ quantZ b p a t ∧ quantZ b p a t ≤ 64 := by unfold quantZ; split <;> (try split) <;> omega
theorem quant_hi (b p a t : Int) (h : 64 < quantQ b p a t) : quantZ b p a t = 64 := by unfold quantZ; rw [if_pos h]
theorem quant_lo (b p a t : Int) (h : quantQ b p a t < 1) : quantZ b p a t = 1 := by unfold quantZ; rw [if_neg (by omega), if_pos h]
theorem quant_mid (b p a t : Int) (h : 1 ≤ quantQ b p a t) (h' : quantQ b p a t ≤ 64) : quantZ b p a t = quantQ b p a t := by unfold quantZ; rw [if_neg (by omega), if_neg (by omega)]
theorem quantQ_lo (b p a t : Int) (h : t < 1) : quantQ b p a t = addZ (addZ b p) (divZ a 1) := by unfold quantQ; rw [if_pos h]
theorem quantQ_hi (b p a t : Int) (h : ¬ t < 1) : quantQ b p a t = addZ (addZ b p) (divZ a t) := by unfold quantQ; rw [if_neg h]

theorem quantum_any (b p a t : Int) (w : World) : Calls Try.prog 34 #[.int .i64 b, .int .i64 p, .int .i64 a, .int .i64 t] w fun e w' => e = .returned (.int .i64 (quantZ b p a t)) ∧ w = w' := by
  by_cases ht : t < 1
  all_goals
    first
    | have hq := quantQ_lo b p a t ht
    | have hq := quantQ_hi b p a t ht
    by_cases h1 : quantQ b p a t < 1
    · have HZ := Lib.hid (quant_lo b p a t h1)
      rw [hq] at h1
      clear hq
      go_enter Try.func34, Try.ntmps34
      go_wp2_with (first | (go_at_call 42; refine (add_any _ _ _).mono ?_; rintro e w' ⟨rfl, rfl⟩) | (go_at_call 43; refine (div_any _ _ _).mono ?_; rintro e w' ⟨rfl, rfl⟩))
      go_ret
      exact ⟨by rw [HZ.out]; rfl, rfl⟩
    · by_cases h2 : 64 < quantQ b p a t
      · have HZ := Lib.hid (quant_hi b p a t h2)
        rw [hq] at h1 h2
        clear hq
        go_enter Try.func34, Try.ntmps34
        go_wp2_with (first | (go_at_call 42; refine (add_any _ _ _).mono ?_; rintro e w' ⟨rfl, rfl⟩) | (go_at_call 43; refine (div_any _ _ _).mono ?_; rintro e w' ⟨rfl, rfl⟩))
        go_ret
        exact ⟨by rw [HZ.out]; rfl, rfl⟩
      · have HZ := Lib.hid (quant_mid b p a t (by omega) (by omega))
        have HQ := Lib.hid hq
        rw [hq] at h1 h2
        clear hq
        go_enter Try.func34, Try.ntmps34
        go_wp2_with (first | (go_at_call 42; refine (add_any _ _ _).mono ?_; rintro e w' ⟨rfl, rfl⟩) | (go_at_call 43; refine (div_any _ _ _).mono ?_; rintro e w' ⟨rfl, rfl⟩))
        all_goals
          go_ret
          exact ⟨ret_int (by have := HZ.out; have := HQ.out; omega), rfl⟩

theorem rquantum_any (b p a t : Int) (w : World) : Calls Try.prog 28 #[.int .i64 b, .int .i64 p, .int .i64 a, .int .i64 t] w fun e w' => e = .returned (.int .i64 (quantZ b p a t)) ∧ w = w' := by
  by_cases ht : t < 1
  all_goals
    first
    | have hq := quantQ_lo b p a t ht
    | have hq := quantQ_hi b p a t ht
    by_cases h1 : quantQ b p a t < 1
    · have HZ := Lib.hid (quant_lo b p a t h1)
      rw [hq] at h1
      clear hq
      go_enter Try.func28, Try.ntmps28
      go_wp2_with (first | (go_at_call 38; refine (radd_any _ _ _).mono ?_; rintro e w' ⟨rfl, rfl⟩) | (go_at_call 39; refine (rdiv_any _ _ _).mono ?_; rintro e w' ⟨rfl, rfl⟩))
      go_ret
      exact ⟨by rw [HZ.out]; rfl, rfl⟩
    · by_cases h2 : 64 < quantQ b p a t
      · have HZ := Lib.hid (quant_hi b p a t h2)
        rw [hq] at h1 h2
        clear hq
        go_enter Try.func28, Try.ntmps28
        go_wp2_with (first | (go_at_call 38; refine (radd_any _ _ _).mono ?_; rintro e w' ⟨rfl, rfl⟩) | (go_at_call 39; refine (rdiv_any _ _ _).mono ?_; rintro e w' ⟨rfl, rfl⟩))
        go_ret
        exact ⟨by rw [HZ.out]; rfl, rfl⟩
      · have HZ := Lib.hid (quant_mid b p a t (by omega) (by omega))
        have HQ := Lib.hid hq
        rw [hq] at h1 h2
        clear hq
        go_enter Try.func28, Try.ntmps28
        go_wp2_with (first | (go_at_call 38; refine (radd_any _ _ _).mono ?_; rintro e w' ⟨rfl, rfl⟩) | (go_at_call 39; refine (rdiv_any _ _ _).mono ?_; rintro e w' ⟨rfl, rfl⟩))
        all_goals
          go_ret
          exact ⟨ret_int (by have := HZ.out; have := HQ.out; omega), rfl⟩

theorem older_any (a : Int) (w : World) : Calls Try.prog 44 #[.int .i64 a] w fun e w' => e = .returned (.int .i64 (addZ a 1)) ∧ w = w' := by
  go_enter Try.func44, Try.ntmps44
  go_wp2_with (first | (go_at_call 42; refine (add_any _ _ _).mono ?_; rintro e w' ⟨rfl, rfl⟩))
  go_ret
  exact ⟨rfl, rfl⟩


end Go.Proofs.Ytckeidboolfcoaa

/- Contracts of counters, quanta and ages. -/
import Derived.Test.YtfejidihocoboaaProg
import Derived.WalkKit
import Derived.ProofKit
import Derived.Lib.Hide
set_option linter.unusedVariables false
set_option linter.unusedSimpArgs false
namespace Go.Proofs.Ytfejidihocoboaa
open Go.RowKit
def clampZ (a : Int) : Int := if a < 0 then 0 else if 1073741824 < a then 1073741824 else a
theorem clampZ_bd (a : Int) : 0 ≤ clampZ a ∧ clampZ a ≤ 1073741824 := by unfold clampZ; split <;> (try split) <;> omega
theorem ret_int {k : IntKind} {a b : Int} (h : a = b) : Ending.returned (.int k a) = .returned (.int k b) := by rw [h]
def addZ (a b : Int) : Int := clampZ (clampZ a + clampZ b)
theorem clamp_any (a : Int) (w : World) : Calls Try.prog 80 #[.int .i64 a] w fun e w' => e = .returned (.int .i64 (clampZ a)) ∧ w = w' := by
  go_enter Try.func80, Try.ntmps80
  go_wp2
  all_goals
    go_ret
    exact ⟨ret_int (by simp only [clampZ]; repeat' split <;> omega), rfl⟩
theorem rclamp_any (a : Int) (w : World) : Calls Try.prog 75 #[.int .i64 a] w fun e w' => e = .returned (.int .i64 (clampZ a)) ∧ w = w' := by
  go_enter Try.func75, Try.ntmps75
  go_wp2
  all_goals
    go_ret
    exact ⟨ret_int (by simp only [clampZ]; repeat' split <;> omega), rfl⟩
theorem add_any (a b : Int) (w : World) : Calls Try.prog 74 #[.int .i64 a, .int .i64 b] w fun e w' => e = .returned (.int .i64 (addZ a b)) ∧ w = w' := by
  have ha := clampZ_bd a
  have hb := clampZ_bd b
  go_enter Try.func74, Try.ntmps74
  go_wp2_with (go_at_call 80; refine (clamp_any _ _).mono ?_; rintro e w' ⟨rfl, rfl⟩)
  go_ret
  exact ⟨rfl, rfl⟩
theorem radd_any (a b : Int) (w : World) : Calls Try.prog 58 #[.int .i64 a, .int .i64 b] w fun e w' => e = .returned (.int .i64 (addZ a b)) ∧ w = w' := by
  have ha := clampZ_bd a
  have hb := clampZ_bd b
  go_enter Try.func58, Try.ntmps58
  go_wp2_with (go_at_call 75; refine (rclamp_any _ _).mono ?_; rintro e w' ⟨rfl, rfl⟩)
  go_ret
  exact ⟨rfl, rfl⟩
end Go.Proofs.Ytfejidihocoboaa

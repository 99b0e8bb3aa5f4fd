/- transfer: compare. -/
import Derived.Test.YtgakojgkkdmabaaSet7
namespace Go.Proofs.Ytgakojgkkdmabaa
open Go Go.RowKit

def cmpZ (a b : Int) : Int := if a < b then -1 else if b < a then 1 else 0
theorem cmpZ_bd (a b : Int) : -1 ≤ cmpZ a b ∧ cmpZ a b ≤ 1 := by unfold cmpZ; split <;> (try split) <;> omega
theorem isNaN_any (a : Int) (W : World) : Calls Try.prog 40 #[.int .i64 a] W fun e w' => e = .returned (.bool false) ∧ W = w' := by
  go_enter Try.func40, Try.ntmps40
  go_wp2
  go_ret
  exact ⟨rfl, rfl⟩
theorem cmp_any (a b : Int) (W : World) : Calls Try.prog 33 #[.int .i64 a, .int .i64 b] W fun e w' => e = .returned (.int .i64 (cmpZ a b)) ∧ W = w' := by
  unfold cmpZ
  by_cases h1 : a < b
  · rw [if_pos h1]
    go_enter Try.func33, Try.ntmps33
    go_wp2_with (go_at_call 40; refine (isNaN_any _ _).mono ?_; rintro e' w1 ⟨rfl, rfl⟩)
    go_ret
    exact ⟨rfl, rfl⟩
  · by_cases h2 : b < a
    · rw [if_neg h1, if_pos h2]
      go_enter Try.func33, Try.ntmps33
      go_wp2_with (go_at_call 40; refine (isNaN_any _ _).mono ?_; rintro e' w1 ⟨rfl, rfl⟩)
      go_ret
      exact ⟨rfl, rfl⟩
    · rw [if_neg h1, if_neg h2]
      go_enter Try.func33, Try.ntmps33
      go_wp2_with (go_at_call 40; refine (isNaN_any _ _).mono ?_; rintro e' w1 ⟨rfl, rfl⟩)
      go_ret
      exact ⟨rfl, rfl⟩
def orZ (a b : Int) : Int := if a = 0 then b else a
theorem or_any (a b : Int) (g : Nat) (W : World) (h0 : W.cell? ⟨g, 0, none⟩ = some (.int .i64 a)) (h1 : W.cell? ⟨g, 1, none⟩ = some (.int .i64 b)) :
    Calls Try.prog 32 #[.slice (some ⟨g, 0, none⟩) 2 2] W fun e w' => e = .returned (.int .i64 (orZ a b)) ∧ W = w' := by
  unfold orZ
  by_cases ha : a = 0
  · rw [if_pos ha]
    subst ha
    by_cases hb : b = 0
    · subst hb
      go_enter Try.func32, Try.ntmps32
      go_wp2
      go_loop [8] (fun i => i = .int .i64 0 ∨ i = .int .i64 1 ∨ i = .int .i64 2) (fun i => 2 - (intOf i).toNat)
      case atStart => exact .inl rfl
      case round =>
        rcases hrel with rfl | rfl | rfl
        · go_wp2
          go_round
          case rel => exact .inr (.inl rfl)
          case measure => simp [intOf]
        · go_wp2
          go_round
          case rel => exact .inr (.inr rfl)
          case measure => simp [intOf]
        · go_wp2
          go_ret
          exact ⟨rfl, rfl⟩
    · have hb' : (b != 0) = true := by simp [hb]
      clear hb
      go_enter Try.func32, Try.ntmps32
      go_wp2
      go_loop [8] (fun i => i = .int .i64 0 ∨ i = .int .i64 1) (fun i => 2 - (intOf i).toNat)
      case atStart => exact .inl rfl
      case round =>
        rcases hrel with rfl | rfl
        · go_wp2
          go_round
          case rel => exact .inr rfl
          case measure => simp [intOf]
        · go_wp2
          go_ret
          exact ⟨rfl, rfl⟩
  · rw [if_neg ha]
    have ha' : (a != 0) = true := by simp [ha]
    clear ha
    go_enter Try.func32, Try.ntmps32
    go_wp2
    go_loop [8] (fun i => i = .int .i64 0) (fun i => 2 - (intOf i).toNat)
    case atStart => exact rfl
    case round =>
      subst hrel
      go_wp2
      go_ret
      exact ⟨rfl, rfl⟩
end Go.Proofs.Ytgakojgkkdmabaa

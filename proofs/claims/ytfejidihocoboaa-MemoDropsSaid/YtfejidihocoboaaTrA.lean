/- Merged: Tr1 Tr2 Tr3 Tr4 Tr5 -/
import Derived.Test.YtfejidihocoboaaSetA
import Derived.Laws.StructEq
set_option linter.unusedVariables false
set_option linter.unusedSimpArgs false
/- Tr1 -/
namespace Go.Proofs.Ytfejidihocoboaa
open Go Go.RowKit
def cmpZ (a b : Int) : Int := if a < b then -1 else if b < a then 1 else 0
theorem isNaN_any (a : Int) (W : World) : Calls Try.prog 66 #[.int .i64 a] W fun e w' => e = .returned (.bool false) ∧ W = w' := by
  go_enter Try.func66, Try.ntmps66
  go_wp2
  go_ret
  exact ⟨rfl, rfl⟩
theorem cmp_any (a b : Int) (W : World) : Calls Try.prog 40 #[.int .i64 a, .int .i64 b] W fun e w' => e = .returned (.int .i64 (cmpZ a b)) ∧ W = w' := by
  unfold cmpZ
  by_cases h1 : a < b
  · rw [if_pos h1]
    go_enter Try.func40, Try.ntmps40
    go_wp2_with (go_at_call 66; refine (isNaN_any _ _).mono ?_; rintro e' w1 ⟨rfl, rfl⟩)
    go_ret
    exact ⟨rfl, rfl⟩
  · by_cases h2 : b < a
    · rw [if_neg h1, if_pos h2]
      go_enter Try.func40, Try.ntmps40
      go_wp2_with (go_at_call 66; refine (isNaN_any _ _).mono ?_; rintro e' w1 ⟨rfl, rfl⟩)
      go_ret
      exact ⟨rfl, rfl⟩
    · rw [if_neg h1, if_neg h2]
      go_enter Try.func40, Try.ntmps40
      go_wp2_with (go_at_call 66; refine (isNaN_any _ _).mono ?_; rintro e' w1 ⟨rfl, rfl⟩)
      go_ret
      exact ⟨rfl, rfl⟩
end Go.Proofs.Ytfejidihocoboaa
/- Tr2 -/
namespace Go.Proofs.Ytfejidihocoboaa
open Go Go.RowKit
theorem flat_get {α : Type} (f : α → List Value) (n : Nat) (hf : ∀ a, (f a).length = n) : ∀ (l : List α) (i j : Nat) (hi : i < l.length), j < n → (l.flatMap f)[n * i + j]? = (f l[i])[j]? := by
  intro l
  induction l with
  | nil => intro i j hi; simp at hi
  | cons a l ih =>
    intro i j hi hj
    rw [List.flatMap_cons]
    cases i with
    | zero => simp only [Nat.mul_zero, Nat.zero_add, List.getElem_cons_zero]; rw [List.getElem?_append_left (by rw [hf]; exact hj)]
    | succ i =>
      rw [List.getElem?_append_right (by rw [hf, Nat.mul_add]; omega), hf]
      rw [show n * (i + 1) + j - n = n * i + j by rw [Nat.mul_add]; omega]
      rw [ih i j (by simpa using hi) hj]; rfl
end Go.Proofs.Ytfejidihocoboaa
/- Tr4 -/
namespace Go.Proofs.Ytfejidihocoboaa
open Go Go.RowKit
/-- a valid function: its width, the bits of its two sets, its copies -/
structure TrD where
  w : Nat
  gen : Nat
  kill : Nat
  copies : List (Int × Int)
end Go.Proofs.Ytfejidihocoboaa

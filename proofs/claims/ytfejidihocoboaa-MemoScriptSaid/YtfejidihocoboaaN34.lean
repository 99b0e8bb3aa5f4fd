/- The order of entries. -/
import Derived.Test.YtfejidihocoboaaN28
set_option linter.unusedVariables false
set_option linter.unusedSimpArgs false
namespace Go.Proofs.Ytfejidihocoboaa
open Go Go.RowKit
theorem lt_cases (x y : Key3) : (∃ b : Bool, (x.1 != y.1) = true ∧ decide (x.1 < y.1) = b ∧ decide (ltK x y) = b) ∨ (∃ b : Bool, (x.1 != y.1) = false ∧ (x.2.1 != y.2.1) = true ∧ decide (x.2.1 < y.2.1) = b ∧ decide (ltK x y) = b) ∨
    (∃ b : Bool, (x.1 != y.1) = false ∧ (x.2.1 != y.2.1) = false ∧ decide (x.2.2 < y.2.2) = b ∧ decide (ltK x y) = b) := by
  obtain ⟨a, b, c⟩ := x
  obtain ⟨d, e, f⟩ := y
  unfold ltK
  by_cases h1 : a = d
  · by_cases h2 : b = e
    · exact .inr (.inr ⟨_, by simp [h1], by simp [h2], rfl, decide_eq_decide.2 (by simp only; omega)⟩)
    · exact .inr (.inl ⟨_, by simp [h1], by simp [h2], rfl, decide_eq_decide.2 (by simp only; omega)⟩)
  · exact .inl ⟨_, by simp [h1], rfl, decide_eq_decide.2 (by simp only; omega)⟩
set_option maxRecDepth 100000 in
set_option maxHeartbeats 4000000 in
theorem rbefore_any (x y : Key3) (w1 w2 t1 t2 : Int) (a1 a2 : Option Addr) (n1 n2 c1 c2 : Nat) (W : World) :
    Calls Try.prog 55 #[.agg #[.int .i64 x.1, .int .i64 x.2.1, .int .i64 x.2.2, .int .i64 w1, .slice a1 n1 c1, .int .i64 t1], .agg #[.int .i64 y.1, .int .i64 y.2.1, .int .i64 y.2.2, .int .i64 w2, .slice a2 n2 c2, .int .i64 t2]] W (BoolPost (decide (ltK x y)) W) := by
  have hx0 : Ext No W ((W.alloc (.cells #[.int .i64 x.1, .int .i64 x.2.1, .int .i64 x.2.2, .int .i64 w1, .slice a1 n1 c1, .int .i64 t1] 42)).alloc (.cells #[.int .i64 y.1, .int .i64 y.2.1, .int .i64 y.2.2, .int .i64 w2, .slice a2 n2 c2, .int .i64 t2] 42)) := ((Ext.refl _ _).alloc _).alloc _
  have HX := Lib.hid hx0
  have cA := cellOf (show ((W.alloc (.cells #[.int .i64 x.1, .int .i64 x.2.1, .int .i64 x.2.2, .int .i64 w1, .slice a1 n1 c1, .int .i64 t1] 42)).alloc (.cells #[.int .i64 y.1, .int .i64 y.2.1, .int .i64 y.2.2, .int .i64 w2, .slice a2 n2 c2, .int .i64 t2] 42)).heap[W.heap.size]? = some (.cells #[.int .i64 x.1, .int .i64 x.2.1, .int .i64 x.2.2, .int .i64 w1, .slice a1 n1 c1, .int .i64 t1] 42 (0, 0)) from alloc_under (alloc_top rfl))
  have cB := cellOf (show ((W.alloc (.cells #[.int .i64 x.1, .int .i64 x.2.1, .int .i64 x.2.2, .int .i64 w1, .slice a1 n1 c1, .int .i64 t1] 42)).alloc (.cells #[.int .i64 y.1, .int .i64 y.2.1, .int .i64 y.2.2, .int .i64 w2, .slice a2 n2 c2, .int .i64 t2] 42)).heap[W.heap.size + 1]? = some (.cells #[.int .i64 y.1, .int .i64 y.2.1, .int .i64 y.2.2, .int .i64 w2, .slice a2 n2 c2, .int .i64 t2] 42 (0, 0)) from alloc_top (by simp))
  clear hx0
  unfold BoolPost
  rcases lt_cases x y with ⟨b, e1, e2, e3⟩ | ⟨b, e1, e2, e3, e4⟩ | ⟨b, e1, e2, e3, e4⟩
  · rw [e3]
    clear e3
    go_enter Try.func55, Try.ntmps55
    go_upto_region 1 with (fail)
    generalize ((W.alloc (.cells #[.int .i64 x.1, .int .i64 x.2.1, .int .i64 x.2.2, .int .i64 w1, .slice a1 n1 c1, .int .i64 t1] 42)).alloc (.cells #[.int .i64 y.1, .int .i64 y.2.1, .int .i64 y.2.2, .int .i64 w2, .slice a2 n2 c2, .int .i64 t2] 42)) = V at *
    go_wp2_with fail
    go_ret
    exact ⟨by first | rfl | (simp only [e2]; rfl) | (simp only [e3]; rfl), HX.out⟩
  · rw [e4]
    clear e4
    go_enter Try.func55, Try.ntmps55
    go_upto_region 1 with (fail)
    generalize ((W.alloc (.cells #[.int .i64 x.1, .int .i64 x.2.1, .int .i64 x.2.2, .int .i64 w1, .slice a1 n1 c1, .int .i64 t1] 42)).alloc (.cells #[.int .i64 y.1, .int .i64 y.2.1, .int .i64 y.2.2, .int .i64 w2, .slice a2 n2 c2, .int .i64 t2] 42)) = V at *
    go_wp2_with fail
    go_ret
    exact ⟨by first | rfl | (simp only [e2]; rfl) | (simp only [e3]; rfl), HX.out⟩
  · rw [e4]
    clear e4
    go_enter Try.func55, Try.ntmps55
    go_upto_region 1 with (fail)
    generalize ((W.alloc (.cells #[.int .i64 x.1, .int .i64 x.2.1, .int .i64 x.2.2, .int .i64 w1, .slice a1 n1 c1, .int .i64 t1] 42)).alloc (.cells #[.int .i64 y.1, .int .i64 y.2.1, .int .i64 y.2.2, .int .i64 w2, .slice a2 n2 c2, .int .i64 t2] 42)) = V at *
    go_wp2_with fail
    go_ret
    exact ⟨by first | rfl | (simp only [e2]; rfl) | (simp only [e3]; rfl), HX.out⟩
end Go.Proofs.Ytfejidihocoboaa

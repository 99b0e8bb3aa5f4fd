/- elimination.clone: the walk. -/
import Derived.Test.YtfejidihocoboaaE11
import Derived.Test.YtfejidihocoboaaHeld
import Derived.Test.YtfejidihocoboaaHeldL
import Derived.Laws.MakeOwn
set_option linter.unusedVariables false
set_option linter.unusedSimpArgs false
namespace Go.Proofs.Ytfejidihocoboaa
open Go Go.RowKit
theorem Row.or {M M' : Nat → Prop} {w : World} {s n : Nat} {sl : Value} {vs : List Value} (h1 : Row M w s sl n vs) (h2 : Row M' w s sl n vs) : Row (fun b => M b ∨ M' b) w s sl n vs := by
  obtain ⟨e1, e2, a, cap, rfl, e4, h1⟩ := h1
  obtain ⟨-, -, a', cap', e5, -, h2⟩ := h2
  simp only [Value.slice.injEq, true_and] at e5
  obtain ⟨rfl, rfl⟩ := e5
  refine ⟨e1, e2, a, cap, rfl, e4, ?_⟩
  rcases h1 with h1 | ⟨b, off, rfl, q1, q2, q3⟩
  · exact .inl h1
  · rcases h2 with h2 | ⟨b', off', e6, -, q4, -⟩
    · exact .inl h2
    · simp only [Option.some.injEq, Addr.mk.injEq, and_true] at e6
      obtain ⟨rfl, rfl⟩ := e6
      exact .inr ⟨b, off, rfl, q1, fun e => e.elim q2 q4, q3⟩
theorem SetAt.or {M M' : Nat → Prop} {w : World} {sl : Value} {x m : Nat} (h1 : SetAt M w sl x m) (h2 : SetAt M' w sl x m) : SetAt (fun b => M b ∨ M' b) w sl x m := ⟨⟨h1.words.row.or h2.words.row, h1.words.lt⟩, h1.hw, h1.hm⟩
end Go.Proofs.Ytfejidihocoboaa

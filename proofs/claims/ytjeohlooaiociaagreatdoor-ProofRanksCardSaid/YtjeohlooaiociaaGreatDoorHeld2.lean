/- Merged: TrE Held2 -/
import Derived.Test.YtjeohlooaiociaaGreatDoorTrD
import Derived.Test.YtjeohlooaiociaaGreatDoorHeld
import Derived.Deep.LoopGhost
set_option linter.unusedVariables false
set_option linter.unusedSimpArgs false
/- TrE -/
namespace Go.Proofs.YtjeohlooaiociaaGreatDoor
open Go Go.RowKit
/-! ### the plain law -/
/-! ### the walk -/
theorem SetAt.lo {L n w m : Nat} {M : Nat → Prop} {w7 : World} {sl : Value} (h : SetAt (Lo L) w7 sl w m) (hL : n ≤ L) (hM : ∀ i, M i → i < n) : SetAt M w7 sl w m := h.mono (fun i _ e => Nat.lt_of_lt_of_le (hM i e) hL)
end Go.Proofs.YtjeohlooaiociaaGreatDoor

/- Held2 -/
namespace Go.Proofs.YtjeohlooaiociaaGreatDoor
open Go Go.RowKit
section
variable {P : Program} {ops : Array Oper} {Q : Exit → Act → World → Prop} {md : Region.Mode} {S : World → Prop}
/-- one operation of several that may come next -/
def NextOp (P : Program) (md : Region.Mode) (ops : Array Oper) (Q : Exit → Act → World → Prop) (S : World → Prop) (fuel : Nat) (listed : Array Bool) (a : Act) (w : World) (i : Nat) : Prop :=
 ∃ o tl, ops.toList.drop i = o :: tl ∧ Region.wanted o (yielded ops a.tmps) = true ∧ ∀ K' : Act → World → Prop, Shut (∀ a w, S w → (S w → wpAnyH P md ops Q S fuel (listed.setIfInBounds i true) a w) → K' a w) → Oper.wp P o a w K' Q
theorem NextOp.mk {i : Nat} {o : Oper} {tl : List Oper} {fuel : Nat} {listed : Array Bool} {a : Act} {w : World} (ho : ops.toList.drop i = o :: tl) (hw : Region.wanted o (yielded ops a.tmps) = true)
  (h : ∀ K' : Act → World → Prop, Shut (∀ a w, S w → (S w → wpAnyH P md ops Q S fuel (listed.setIfInBounds i true) a w) → K' a w) → Oper.wp P o a w K' Q) : NextOp P md ops Q S fuel listed a w i := ⟨o, tl, ho, hw, h⟩
theorem held_next {rs : List Nat} {fuel : Nat} {listed : Array Bool} {a : Act} {w : World} (hr : Region.ready md ops listed = rs) (hne : rs ≠ []) (h : ∀ i ∈ rs, NextOp P md ops Q S fuel listed a w i) : wpAnyH P md ops Q S (fuel + 1) listed a w := by
 refine wpAnyH_ready hr hne (fun i hi => ?_)
 obtain ⟨o, tl, ho, hw, hk⟩ := h i hi
 have key : AllReadyH P md ops Q S fuel listed a w [i] := AllReadyH.cons (drop_get ho) (fun K' hK => by rw [if_pos hw]; exact hk K' hK) AllReadyH.nil
 exact key i (List.mem_singleton.2 rfl)
theorem held_next2 {i j : Nat} {fuel : Nat} {listed : Array Bool} {a : Act} {w : World} (hr : Region.ready md ops listed = [i, j]) (h1 : NextOp P md ops Q S fuel listed a w i) (h2 : NextOp P md ops Q S fuel listed a w j) : wpAnyH P md ops Q S (fuel + 1) listed a w :=
 held_next hr (by simp) (fun x hx => by
  simp only [List.mem_cons, List.not_mem_nil, or_false] at hx
  rcases hx with rfl | rfl
  ·exact h1
  ·exact h2)
end
end Go.Proofs.YtjeohlooaiociaaGreatDoor

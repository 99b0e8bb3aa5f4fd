
import Derived.Test.YtjeohlooaiociaaGreatDoorF8
set_option linter.unusedVariables false
set_option linter.unusedSimpArgs false
namespace Go.Proofs.YtjeohlooaiociaaGreatDoor
open Go Go.RowKit
def falses (L : Array Bool) : Nat := L.toList.countP (fun b => !b)
theorem falses_list : ∀ (l : List Bool) (i : Nat), l[i]? = some false → (l.set i true).countP (fun b => !b) + 1 = l.countP (fun b => !b)
 | [], i, h => by cases h
 | b :: l, 0, h => by
  simp only [List.getElem?_cons_zero, Option.some.injEq] at h
  subst h
  simp [List.countP_cons]
 | b :: l, i + 1, h => by
  simp only [List.getElem?_cons_succ] at h
  have ih := falses_list l i h
  simp only [List.set_cons_succ, List.countP_cons]
  omega
theorem falses_set {L : Array Bool} {i : Nat} (h : L.getD i true = false) : falses (L.setIfInBounds i true) + 1 = falses L := by
 unfold falses
 have h2 : L.toList[i]? = some false := by
  rw [Array.getD_eq_getD_getElem?] at h
  cases e : L[i]? with
  | none => rw [e] at h; cases h
  | some b => rw [e] at h; simp only [Option.getD_some] at h; subst h; rw [Array.getElem?_toList, e]
 rw [Array.toList_setIfInBounds]
 exact falses_list _ _ h2
theorem falses_pos {L : Array Bool} {i : Nat} (h : L.getD i true = false) : 0 < falses L := by have := falses_set h; omega
section
variable {P : Program} {md : Region.Mode} {ops : Array Oper} {Q : Exit → Act → World → Prop} {S : World → Prop}
def ordB (ops : Array Oper) : Bool := (List.range ops.size).all fun j => match ops[j]? with
 | some o => o.after.all fun e => decide (e.on < j)
 | none => true
theorem ordB_spec (h : ordB ops = true) {j : Nat} {o : Oper} (ho : ops[j]? = some o) {e : _} (he : e ∈ o.after) : e.on < j := by
 simp only [ordB, List.all_eq_true, List.mem_range] at h
 have h1 := h j (Array.getElem?_eq_some_iff.1 ho).1
 rw [ho] at h1
 simp only [Array.all_eq_true_iff_forall_mem, decide_eq_true_eq] at h1
 exact h1 e he
theorem least_false {L : Array Bool} : ∀ n i, i < n → L.getD i true = false → ∃ j, j ≤ i ∧ L.getD j true = false ∧ ∀ k, k < j → L.getD k true = true
 | 0, _, h, _ => absurd h (Nat.not_lt_zero _)
 | n + 1, i, hi, h => by
  by_cases hx : ∃ k, k < i ∧ L.getD k true = false
  ·obtain ⟨k, hk, h2⟩ := hx
   obtain ⟨j, h3, h4, h5⟩ := least_false n k (by omega) h2
   exact ⟨j, by omega, h4, h5⟩
  refine ⟨i, Nat.le_refl _, h, fun k hk => ?_⟩
  cases e : L.getD k true with
  | true => rfl
  | false => exact absurd ⟨k, hk, e⟩ hx
theorem ready_ne (hord : ordB ops = true) {L : Array Bool} (h : ∃ i, i < ops.size ∧ L.getD i true = false) : Region.ready md ops L ≠ [] := by
 obtain ⟨i, hi, h1⟩ := h
 obtain ⟨j, hj, h2, h3⟩ := least_false (i + 1) i (Nat.lt_succ_self _) h1
 have hjs : j < ops.size := by omega
 have hjl : j < L.size := by
  rcases Nat.lt_or_ge j L.size with h | h
  ·exact h
  rw [Array.getD_eq_getD_getElem?, Array.getElem?_eq_none h] at h2; cases h2
 refine List.ne_nil_of_mem (mem_ready.2 ⟨h2, ops[j], Array.getElem?_eq_getElem hjs, fun e he _ => ?_⟩)
 have hlt := ordB_spec hord (Array.getElem?_eq_getElem hjs) he
 have h4 := h3 e.on hlt
 rw [Array.getD_eq_getD_getElem?, Array.getElem?_eq_getElem (by omega)] at h4 ⊢
 exact h4
def StepI (P : Program) (md : Region.Mode) (ops : Array Oper) (Q : Exit → Act → World → Prop) (S : World → Prop) (Inv : Array Bool → Act → World → Prop) (L : Array Bool) (a : Act) (w : World) (i : Nat) : Prop :=
 ∃ o tl, ops.toList.drop i = o :: tl ∧ Region.wanted o (yielded ops a.tmps) = true ∧ ∀ K' : Act → World → Prop, Shut (∀ a w, S w → (S w → Inv (L.setIfInBounds i true) a w) → K' a w) → Oper.wp P o a w K' Q
theorem StepI.mk {Inv : Array Bool → Act → World → Prop} {L : Array Bool} {a : Act} {w : World} {i : Nat} {o : Oper} {tl : List Oper} (ho : ops.toList.drop i = o :: tl) (hw : Region.wanted o (yielded ops a.tmps) = true)
  (h : ∀ K' : Act → World → Prop, Shut (∀ a w, S w → (S w → Inv (L.setIfInBounds i true) a w) → K' a w) → Oper.wp P o a w K' Q) : StepI P md ops Q S Inv L a w i := ⟨o, tl, ho, hw, h⟩
theorem wpAnyH_inv (Inv : Array Bool → Act → World → Prop) (stop : Array Bool → Bool)
  (hstep : ∀ L a w, Inv L a w → stop L = false → ∀ i, L.getD i true = false → (∀ o, ops[i]? = some o → ∀ e ∈ o.after, Region.binds md e = true → L.getD e.on false = true) → StepI P md ops Q S Inv L a w i)
  (hlast : ∀ fuel L a w, Inv L a w → stop L = true → wpAnyH P md ops Q S (fuel + 1) L a w)
  (hord : ordB ops = true) (hleft : ∀ L a w, Inv L a w → ∃ i, i < ops.size ∧ L.getD i true = false) :
  ∀ fuel L a w, Inv L a w → falses L ≤ fuel → wpAnyH P md ops Q S fuel L a w := by
 intro fuel
 induction fuel with
 | zero =>
  intro L a w hI hf
  obtain ⟨i, hi, h1⟩ := hleft L a w hI
  have := falses_pos h1
  omega
 | succ fuel ih =>
  intro L a w hI hf
  cases hs : stop L with
  | true => exact hlast fuel L a w hI hs
  | false =>
   refine held_next (rs := Region.ready md ops L) rfl (ready_ne hord (hleft L a w hI)) (fun i hi => ?_)
   obtain ⟨h1, o', ho', hall⟩ := mem_ready.1 hi
   obtain ⟨o, tl, ho, hw, hk⟩ := hstep L a w hI hs i h1 (fun o ho e he hb => by
    rw [ho] at ho'
    cases ho'
    exact hall e he hb)
   refine ⟨o, tl, ho, hw, fun K' hK => hk K' (fun a' w' hS hI' => hK.out a' w' hS (fun hS' => ih _ _ _ (hI' hS') ?_))⟩
   have := falses_set h1
   omega
end

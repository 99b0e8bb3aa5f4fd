/- Merged: I9 I12 -/
import Derived.Test.YtkdjdhflhlbelaaF8
set_option linter.unusedVariables false
set_option linter.unusedSimpArgs false
/- I9 -/
namespace Go.Proofs.Ytkdjdhflhlbelaa
open Go Go.RowKit
def falses (L : Array Bool) : Nat := L.toList.countP (fun b => !b)
theorem falses_list : ∀ (l : List Bool) (i : Nat), l[i]? = some false → (l.set i true).countP (fun b => !b) + 1 = l.countP (fun b => !b)
  | [], i, h => by cases h
  | b :: l, 0, h => by
    simp only [List.getElem?_cons_zero, Option.some.injEq] at h
    subst h
    simp [List.countP_cons]
  | b :: l, i + 1, h => by
    simp only [List.getElem?_cons_succ] at h
    have ih := falses_list l i h
    simp only [List.set_cons_succ, List.countP_cons]
    omega
theorem falses_set {L : Array Bool} {i : Nat} (h : L.getD i true = false) : falses (L.setIfInBounds i true) + 1 = falses L := by
  unfold falses
  have h2 : L.toList[i]? = some false := by
    rw [Array.getD_eq_getD_getElem?] at h
    cases e : L[i]? with
    | none => rw [e] at h; cases h
    | some b => rw [e] at h; simp only [Option.getD_some] at h; subst h; rw [Array.getElem?_toList, e]
  rw [Array.toList_setIfInBounds]
  exact falses_list _ _ h2
theorem falses_pos {L : Array Bool} {i : Nat} (h : L.getD i true = false) : 0 < falses L := by have := falses_set h; omega
section
variable {P : Program} {md : Region.Mode} {ops : Array Oper} {Q : Exit → Act → World → Prop} {S : World → Prop}
def ordB (ops : Array Oper) : Bool := (List.range ops.size).all fun j => match ops[j]? with
  | some o => o.after.all fun e => decide (e.on < j)
  | none => true
theorem ordB_spec (h : ordB ops = true) {j : Nat} {o : Oper} (ho : ops[j]? = some o) {e : _} (he : e ∈ o.after) : e.on < j := by
  simp only [ordB, List.all_eq_true, List.mem_range] at h
  have h1 := h j (Array.getElem?_eq_some_iff.1 ho).1
  rw [ho] at h1
  simp only [Array.all_eq_true_iff_forall_mem, decide_eq_true_eq] at h1
  exact h1 e he
theorem least_false {L : Array Bool} : ∀ n i, i < n → L.getD i true = false → ∃ j, j ≤ i ∧ L.getD j true = false ∧ ∀ k, k < j → L.getD k true = true
  | 0, _, h, _ => absurd h (Nat.not_lt_zero _)
  | n + 1, i, hi, h => by
    by_cases hx : ∃ k, k < i ∧ L.getD k true = false
    · obtain ⟨k, hk, h2⟩ := hx
      obtain ⟨j, h3, h4, h5⟩ := least_false n k (by omega) h2
      exact ⟨j, by omega, h4, h5⟩
    · refine ⟨i, Nat.le_refl _, h, fun k hk => ?_⟩
      cases e : L.getD k true with
      | true => rfl
      | false => exact absurd ⟨k, hk, e⟩ hx
theorem ready_ne (hord : ordB ops = true) {L : Array Bool} (h : ∃ i, i < ops.size ∧ L.getD i true = false) : Region.ready md ops L ≠ [] := by
  obtain ⟨i, hi, h1⟩ := h
  obtain ⟨j, hj, h2, h3⟩ := least_false (i + 1) i (Nat.lt_succ_self _) h1
  have hjs : j < ops.size := by omega
  have hjl : j < L.size := by
    rcases Nat.lt_or_ge j L.size with h | h
    · exact h
    · rw [Array.getD_eq_getD_getElem?, Array.getElem?_eq_none h] at h2; cases h2
  refine List.ne_nil_of_mem (mem_ready.2 ⟨h2, ops[j], Array.getElem?_eq_getElem hjs, fun e he _ => ?_⟩)
  have hlt := ordB_spec hord (Array.getElem?_eq_getElem hjs) he
  have h4 := h3 e.on hlt
  rw [Array.getD_eq_getD_getElem?, Array.getElem?_eq_getElem (by omega)] at h4 ⊢
  exact h4
/-- Operation i comes up next, and leaves the invariant. -/
def StepI (P : Program) (md : Region.Mode) (ops : Array Oper) (Q : Exit → Act → World → Prop) (S : World → Prop) (Inv : Array Bool → Act → World → Prop) (L : Array Bool) (a : Act) (w : World) (i : Nat) : Prop :=
  ∃ o tl, ops.toList.drop i = o :: tl ∧ Region.wanted o (yielded ops a.tmps) = true ∧ ∀ K' : Act → World → Prop, Shut (∀ a w, S w → (S w → Inv (L.setIfInBounds i true) a w) → K' a w) → Oper.wp P o a w K' Q
theorem StepI.mk {Inv : Array Bool → Act → World → Prop} {L : Array Bool} {a : Act} {w : World} {i : Nat} {o : Oper} {tl : List Oper} (ho : ops.toList.drop i = o :: tl) (hw : Region.wanted o (yielded ops a.tmps) = true)
    (h : ∀ K' : Act → World → Prop, Shut (∀ a w, S w → (S w → Inv (L.setIfInBounds i true) a w) → K' a w) → Oper.wp P o a w K' Q) : StepI P md ops Q S Inv L a w i := ⟨o, tl, ho, hw, h⟩
theorem wpAnyH_inv (Inv : Array Bool → Act → World → Prop) (stop : Array Bool → Bool)
    (hstep : ∀ L a w, Inv L a w → stop L = false → ∀ i, L.getD i true = false → (∀ o, ops[i]? = some o → ∀ e ∈ o.after, Region.binds md e = true → L.getD e.on false = true) → StepI P md ops Q S Inv L a w i)
    (hlast : ∀ fuel L a w, Inv L a w → stop L = true → wpAnyH P md ops Q S (fuel + 1) L a w)
    (hord : ordB ops = true) (hleft : ∀ L a w, Inv L a w → ∃ i, i < ops.size ∧ L.getD i true = false) :
    ∀ fuel L a w, Inv L a w → falses L ≤ fuel → wpAnyH P md ops Q S fuel L a w := by
  intro fuel
  induction fuel with
  | zero =>
    intro L a w hI hf
    obtain ⟨i, hi, h1⟩ := hleft L a w hI
    have := falses_pos h1
    omega
  | succ fuel ih =>
    intro L a w hI hf
    cases hs : stop L with
    | true => exact hlast fuel L a w hI hs
    | false =>
      refine held_next (rs := Region.ready md ops L) rfl (ready_ne hord (hleft L a w hI)) (fun i hi => ?_)
      obtain ⟨h1, o', ho', hall⟩ := mem_ready.1 hi
      obtain ⟨o, tl, ho, hw, hk⟩ := hstep L a w hI hs i h1 (fun o ho e he hb => by
        rw [ho] at ho'
        cases ho'
        exact hall e he hb)
      refine ⟨o, tl, ho, hw, fun K' hK => hk K' (fun a' w' hS hI' => hK.out a' w' hS (fun hS' => ih _ _ _ (hI' hS') ?_))⟩
      have := falses_set h1
      omega
end
end Go.Proofs.Ytkdjdhflhlbelaa

/- I12 -/
namespace Go.Proofs.Ytkdjdhflhlbelaa
open Go Go.RowKit
theorem flat_set_get {β : Type} (K : EK β) (p : β) : ∀ (L : List β) (i n : Nat), i < L.length → ((L.set i p).flatMap K.cells)[n]? = if i * K.s ≤ n ∧ n < i * K.s + K.s then (K.cells p)[n - i * K.s]? else (L.flatMap K.cells)[n]?
  | [], _, _, h => absurd h (Nat.not_lt_zero _)
  | q :: L, 0, n, _ => by
    rw [List.set_cons_zero, List.flatMap_cons, List.flatMap_cons, List.getElem?_append, List.getElem?_append, K.len, K.len]
    by_cases h : n < K.s
    · rw [if_pos h, if_pos ⟨by omega, by omega⟩]; simp
    · rw [if_neg h, if_neg (by omega), if_neg h]
  | q :: L, i + 1, n, h => by
    have ih := flat_set_get K p L i (n - K.s) (by simpa using h)
    rw [List.set_cons_succ, List.flatMap_cons, List.flatMap_cons, List.getElem?_append, List.getElem?_append, K.len]
    have e : (i + 1) * K.s = i * K.s + K.s := Nat.succ_mul _ _
    by_cases h2 : n < K.s
    · rw [if_pos h2, if_pos h2, if_neg (by omega)]
    · rw [if_neg h2, if_neg h2, ih]
      by_cases h3 : i * K.s ≤ n - K.s ∧ n - K.s < i * K.s + K.s
      · rw [if_pos h3, if_pos (by omega), e, show n - K.s - i * K.s = n - (i * K.s + K.s) by omega]
      · rw [if_neg h3, if_neg (by omega)]
def setAll (xs : List Value) (o : Nat) : List Value → List Value
  | [] => xs
  | u :: us => setAll (xs.set o u) (o + 1) us
theorem setAll_get : ∀ (us xs : List Value) (o n : Nat), o + us.length ≤ xs.length → (setAll xs o us)[n]? = if o ≤ n ∧ n < o + us.length then us[n - o]? else xs[n]?
  | [], xs, o, n, _ => by rw [setAll, if_neg (by simp)]
  | u :: us, xs, o, n, h => by
    simp only [List.length_cons] at h ⊢
    rw [setAll, setAll_get us (xs.set o u) (o + 1) n (by rw [List.length_set]; omega)]
    by_cases h1 : o + 1 ≤ n ∧ n < o + 1 + us.length
    · rw [if_pos h1, if_pos (by omega), show n - o = (n - (o + 1)) + 1 by omega, List.getElem?_cons_succ]
    · rw [if_neg h1]
      by_cases h2 : n = o
      · subst h2
        rw [if_pos (by omega), List.getElem?_set_self (by omega)]; simp
      · rw [if_neg (by omega), List.getElem?_set_ne (by omega)]
theorem flat_len2 {β : Type} (K : EK β) : ∀ L : List β, (L.flatMap K.cells).length = L.length * K.s
  | [] => by simp
  | q :: L => by rw [List.flatMap_cons, List.length_append, K.len, flat_len2 K L, List.length_cons, Nat.succ_mul]; omega
theorem mul_in {i n s : Nat} (hi : i < n) : i * s + s ≤ n * s := by
  have := Nat.mul_le_mul_right s (Nat.succ_le_of_lt hi)
  rwa [Nat.succ_mul] at this
theorem flat_setAll {β : Type} (K : EK β) (L : List β) (i : Nat) (p : β) (hi : i < L.length) : setAll (L.flatMap K.cells) (i * K.s) (K.cells p) = (L.set i p).flatMap K.cells := by
  refine List.ext_getElem? (fun n => ?_)
  rw [flat_set_get K p L i n hi, setAll_get _ _ _ _ (by rw [K.len, flat_len2]; exact mul_in hi), K.len]
def storeAll (w : World) (g o : Nat) : List Value → World
  | [] => w
  | u :: us => storeAll (w.setCell ⟨g, o, none⟩ u) g (o + 1) us
theorem storeAll_ext : ∀ (us : List Value) (w : World) (g o : Nat), Ext (At g) w (storeAll w g o us)
  | [], w, g, o => Ext.refl _ _
  | u :: us, w, g, o => ((Ext.refl (At g) w).setAt o u).trans (storeAll_ext us _ g (o + 1))
theorem storeAll_own {e : TypeId} {size n base g cap : Nat} : ∀ (us xs : List Value) (w : World) (o : Nat), w.ownsRow base e size (.slice (some ⟨g, 0, none⟩) n cap) n xs → (storeAll w g o us).ownsRow base e size (.slice (some ⟨g, 0, none⟩) n cap) n (setAll xs o us)
  | [], _, _, _, h => h
  | u :: us, xs, w, o, h => storeAll_own us _ _ (o + 1) (World.ownsRow.stored (w := w) h o u).1
section
variable {β : Type} {K : EK β} {A : Nat → Prop} {w : World} {base g cap : Nat} {v : Value} {L : List β}
theorem LOwn.shape (h : LOwn K A w base v L) (hn : L.length ≠ 0) : ∃ g cap, v = .slice (some ⟨g, 0, none⟩) L.length cap ∧ base ≤ g ∧ g < w.heap.size := by
  obtain ⟨h1, h2⟩ := h.own
  rcases h2 with ⟨_, h3⟩ | ⟨g, cap, cur, rfl, hb, hg, _⟩
  · exact absurd h3 hn
  · exact ⟨g, cap, rfl, hb, lt_of_block hg⟩
theorem LOwn.cellAt (h : LOwn K A w base (.slice (some ⟨g, 0, none⟩) L.length cap) L) {i j : Nat} (hi : i < L.length) (hj : j < K.s) {u : Value} (hu : (K.cells L[i])[j]? = some u) : w.cell? ⟨g, i * K.s + j, none⟩ = some u := by
  have := mul_in (s := K.s) hi
  rw [World.ownsRow.cellAt h.own _ (by omega), flat_get2 K L i j hi hj]; exact hu
theorem LOwn.putAll (h : LOwn K A w base (.slice (some ⟨g, 0, none⟩) L.length cap) L) {i : Nat} (hi : i < L.length) {p : β} (hp : K.ok (fun b => A b ∨ b = g) w p) : LOwn K A (storeAll w g (i * K.s) (K.cells p)) base (.slice (some ⟨g, 0, none⟩) L.length cap) (L.set i p) := by
  refine ⟨?_, fun q hq => ?_⟩
  · rw [List.length_set, ← flat_setAll K L i p hi]
    exact storeAll_own _ _ _ _ h.own
  · have hq2 : K.ok (fun b => A b ∨ b = g) w q := by
      rcases List.mem_or_eq_of_mem_set hq with hq | rfl
      · exact K.mono (h.ok q hq) (fun i _ e => by
          rcases e with e | rfl
          · exact .inl e
          · exact .inr rfl)
      · exact hp
    refine K.mono (K.ext hq2 (storeAll_ext _ w g _) (fun i _ e => .inr e)) (fun i _ e => ?_)
    rcases e with e | e
    · exact .inl e
    · simp only [Value.ownBlock, Option.some.injEq] at e; exact .inr e.symm
end
end Go.Proofs.Ytkdjdhflhlbelaa

/- What the order of the components is like. -/
import Derived.Test.YtkdjdhflhlbelaaK12
set_option linter.unusedVariables false
set_option linter.unusedSimpArgs false
namespace Go.Proofs.Ytkdjdhflhlbelaa
open Go Go.RowKit Tj
theorem rank_ex (d : Nat → List Nat) (N : Nat) : ∃ rc : Nat → Nat, ∀ x m, x < N → Rch d x m → ¬ Rch d m x → rc m < rc x :=
 ⟨fun x => ((List.range N).filter (fun y => @decide _ (Classical.propDecidable (Rch d x y)))).length, fun x m hx hr hn =>
  len_filter_lt1 (n := x) (fun y _ hy => by
   have h1 : Rch d m y := by simpa using hy
   simpa using hr.trans h1) (List.mem_range.2 hx) (by simpa using Rch.refl x) (by simpa using hn)⟩
/-- where nothing more can be taken, all is done -/
theorem all_done {S : SysD} {g : Nat → Nat} {D : Nat → Bool} (hS : SysOk S) (hg : GOk S g) (h : firstI S g D = none) : ∀ x, x < S.deps.length → D (g x) = true := by
 obtain ⟨rc, hrc⟩ := rank_ex (depD S) S.deps.length
 unfold firstI at h
 rw [List.find?_eq_none] at h
 have key : ∀ k x, rc x ≤ k → x < S.deps.length → D (g x) = true := fun k => by
  induction k with
  | zero =>
   intro x hk hx
   cases hD : D (g x) with
   | true => rfl
   | false =>
    have h1 := h x (List.mem_range.2 hx)
    unfold goodB at h1
    simp only [hD, Bool.not_false, Bool.true_and] at h1
    unfold readyB at h1
    rw [List.all_eq_true] at h1
    exfalso
    refine h1 (fun n hn => ?_)
    have hnN := List.mem_range.1 hn
    cases hb : (g n == g x && (depD S n).any (badE g D (g x))) with
    | false => rfl
    | true =>
     simp only [Bool.and_eq_true, beq_iff_eq, List.any_eq_true] at hb
     obtain ⟨e, m, hm, hbad⟩ := hb
     unfold badE at hbad
     simp only [Bool.and_eq_true, bne_iff_ne, ne_eq, Bool.not_eq_true'] at hbad
     have hmN := hS.dep hm
     have hxn := ((hg.same hnN hx).1 e).2
     have h2 := hrc x m hx (hxn.trans (.one hm)) (fun r => hbad.1 ((hg.same hmN hx).2 ⟨r, hxn.trans (.one hm)⟩))
     omega
  | succ k ih =>
   intro x hk hx
   cases hD : D (g x) with
   | true => rfl
   | false =>
    have h1 := h x (List.mem_range.2 hx)
    unfold goodB at h1
    simp only [hD, Bool.not_false, Bool.true_and] at h1
    unfold readyB at h1
    rw [List.all_eq_true] at h1
    exfalso
    refine h1 (fun n hn => ?_)
    have hnN := List.mem_range.1 hn
    cases hb : (g n == g x && (depD S n).any (badE g D (g x))) with
    | false => rfl
    | true =>
     simp only [Bool.and_eq_true, beq_iff_eq, List.any_eq_true] at hb
     obtain ⟨e, m, hm, hbad⟩ := hb
     unfold badE at hbad
     simp only [Bool.and_eq_true, bne_iff_ne, ne_eq, Bool.not_eq_true'] at hbad
     have hmN := hS.dep hm
     have hxn := ((hg.same hnN hx).1 e).2
     have h2 := hrc x m hx (hxn.trans (.one hm)) (fun r => hbad.1 ((hg.same hmN hx).2 ⟨r, hxn.trans (.one hm)⟩))
     have h3 := ih m (by omega) hmN
     rw [hbad.2] at h3
     cases h3
 exact fun x hx => key (rc x) x (Nat.le_refl _) hx
structure OrdI (S : SysD) (g : Nat → Nat) (D : Nat → Bool) (L : List (List Nat)) : Prop where
 mem : ∀ x, x ∈ L.flatten ↔ x < S.deps.length ∧ D (g x) = true
 nodup : L.flatten.Pairwise (· ≠ ·)
 top : ∀ i (h : i < L.length), ∀ n ∈ L[i], ∀ d ∈ depD S n, d ∈ (L.take i).flatten ∨ d ∈ L[i]
theorem ordI {S : SysD} {g : Nat → Nat} (hS : SysOk S) : ∀ r, OrdI S g (ordS S g r).1 (ordS S g r).2
 | 0 => ⟨fun x => by simp [ordS], by simp [ordS], fun i h => by simp [ordS] at h⟩
 | r + 1 => by
  have ih := ordI (g := g) hS r
  rw [ordS]
  cases hf : firstI S g (ordS S g r).1 with
  | none => exact ih
  | some i =>
   have hgood : goodB S g (ordS S g r).1 (g i) = true := by
    unfold firstI at hf
    have h2 := List.find?_some (p := fun i => goodB S g (ordS S g r).1 (g i)) hf
    exact h2
   have hD := good_not hgood
   have hmm : ∀ x, x ∈ membersL S g (g i) ↔ x < S.deps.length ∧ g x = g i := fun x => by simp [membersL]
   refine ⟨fun x => ?_, ?_, fun j hj n hn d hd => ?_⟩
   ·simp only [List.flatten_append, List.flatten_cons, List.flatten_nil, List.append_nil, List.mem_append, ih.mem, hmm]
    unfold upd
    constructor
    ·rintro (⟨h1, h2⟩ | ⟨h1, h2⟩)
     ·refine ⟨h1, ?_⟩
      split
      ·rfl
      ·exact h2
     ·exact ⟨h1, by rw [if_pos h2]⟩
    ·rintro ⟨h1, h2⟩
     by_cases e : g x = g i
     ·exact .inr ⟨h1, e⟩
     ·rw [if_neg e] at h2; exact .inl ⟨h1, h2⟩
   ·simp only [List.flatten_append, List.flatten_cons, List.flatten_nil, List.append_nil]
    rw [List.pairwise_append]
    refine ⟨ih.nodup, (List.pairwise_lt_range.imp (fun h => Nat.ne_of_lt h)).filter _, fun x hx y hy e => ?_⟩
    subst e
    have h1 := ((ih.mem x).1 hx).2
    rw [((hmm x).1 hy).2, hD] at h1
    cases h1
   ·simp only [List.length_append, List.length_cons, List.length_nil] at hj
    by_cases e : j < (ordS S g r).2.length
    ·simp only [List.getElem_append_left e] at hn ⊢
     rw [List.take_append_of_le_length (by omega)]
     exact ih.top j e n hn d hd
    ·obtain rfl : j = (ordS S g r).2.length := by omega
     simp only [List.getElem_concat_length] at hn ⊢
     rw [List.take_left]
     obtain ⟨h1, h2⟩ := (hmm n).1 hn
     have h3 : readyB S g (ordS S g r).1 (g i) = true := by
      unfold goodB at hgood
      simp only [Bool.and_eq_true] at hgood
      exact hgood.2
     unfold readyB at h3
     rw [List.all_eq_true] at h3
     have h4 := h3 n (List.mem_range.2 h1)
     have hdN := hS.dep hd
     by_cases e2 : g d = g i
     ·exact .inr ((hmm d).2 ⟨hdN, e2⟩)
     ·refine .inl ((ih.mem d).2 ⟨hdN, ?_⟩)
      cases hDd : (ordS S g r).1 (g d) with
      | true => rfl
      | false =>
       exfalso
       have h5 : (depD S n).any (badE g (ordS S g r).1 (g i)) = true := List.any_eq_true.2 ⟨d, hd, by simp [badE, e2, hDd]⟩
       rw [h5] at h4
       simp [h2] at h4
theorem len_sub2 : ∀ (l k : List Nat), l.Pairwise (· ≠ ·) → (∀ x ∈ l, x ∈ k) → l.length ≤ k.length
 | [], k, _, _ => Nat.zero_le _
 | a :: l, k, hl, h => by
  rw [List.pairwise_cons] at hl
  have ha := h a (List.mem_cons_self ..)
  have h1 := len_sub2 l (k.erase a) hl.2 (fun x hx => (List.mem_erase_of_ne (fun e => hl.1 x hx e.symm)).2 (h x (List.mem_cons_of_mem _ hx)))
  rw [List.length_erase_of_mem ha] at h1
  have := List.length_pos_of_mem ha
  simp only [List.length_cons]
  omega
theorem ord_all {S : SysD} {g : Nat → Nat} {R : Nat} (hS : SysOk S) (hg : GOk S g) (h : OrdAt S g R) : (ordS S g R).2.flatten.length = S.deps.length ∧ ∀ x, x < S.deps.length → x ∈ (ordS S g R).2.flatten := by
 have hi := ordI (g := g) hS R
 have hd := all_done hS hg h.stop
 have hm : ∀ x, x < S.deps.length → x ∈ (ordS S g R).2.flatten := fun x hx => (hi.mem x).2 ⟨hx, hd x hx⟩
 refine ⟨Nat.le_antisymm (nodup_len hi.nodup (fun x hx => ((hi.mem x).1 hx).1)) ?_, hm⟩
 have := len_sub2 (List.range S.deps.length) _ (List.pairwise_lt_range.imp (fun h => Nat.ne_of_lt h)) (fun x hx => hm x (List.mem_range.1 hx))
 simpa using this
end Go.Proofs.Ytkdjdhflhlbelaa

/- The order depends on the components alone; two small systems. -/
import Derived.Test.YtkdjdhflhlbelaaK9
import Derived.Test.YtkdjdhflhlbelaaF9
set_option linter.unusedVariables false
set_option linter.unusedSimpArgs false
namespace Go.Proofs.Ytkdjdhflhlbelaa
open Go Go.RowKit Tj
theorem find_congr {α : Type} {p q : α → Bool} : ∀ {l : List α}, (∀ x ∈ l, p x = q x) → l.find? p = l.find? q
 | [], _ => rfl
 | a :: l, h => by
  rw [List.find?_cons, List.find?_cons, h a (List.mem_cons_self ..), find_congr (l := l) (fun x hx => h x (List.mem_cons_of_mem _ hx))]
theorem all_congr {α : Type} {p q : α → Bool} : ∀ {l : List α}, (∀ x ∈ l, p x = q x) → l.all p = l.all q
 | [], _ => rfl
 | a :: l, h => by
  rw [List.all_cons, List.all_cons, h a (List.mem_cons_self ..), all_congr (l := l) (fun x hx => h x (List.mem_cons_of_mem _ hx))]
theorem any_congr {α : Type} {p q : α → Bool} : ∀ {l : List α}, (∀ x ∈ l, p x = q x) → l.any p = l.any q
 | [], _ => rfl
 | a :: l, h => by
  rw [List.any_cons, List.any_cons, h a (List.mem_cons_self ..), any_congr (l := l) (fun x hx => h x (List.mem_cons_of_mem _ hx))]
section
variable {S : SysD} {g g' : Nat → Nat}
theorem ready_congr (hS : SysOk S) (h : ∀ x, x < S.deps.length → g x = g' x) (D : Nat → Bool) (c : Nat) : readyB S g D c = readyB S g' D c := by
 unfold readyB
 refine all_congr (fun n hn => ?_)
 rw [h n (List.mem_range.1 hn)]
 congr 2
 refine any_congr (fun m hm => ?_)
 unfold badE
 rw [h m (hS.dep hm)]
theorem first_congr (hS : SysOk S) (h : ∀ x, x < S.deps.length → g x = g' x) (D : Nat → Bool) : firstI S g D = firstI S g' D := by
 unfold firstI
 refine find_congr (fun i hi => ?_)
 rw [h i (List.mem_range.1 hi)]
 unfold goodB
 rw [ready_congr hS h]
theorem members_congr (h : ∀ x, x < S.deps.length → g x = g' x) (c : Nat) : membersL S g c = membersL S g' c := by
 unfold membersL
 exact List.filter_congr (fun n hn => by rw [h n (List.mem_range.1 hn)])
theorem ordS_congr (hS : SysOk S) (h : ∀ x, x < S.deps.length → g x = g' x) : ∀ r, ordS S g r = ordS S g' r
 | 0 => rfl
 | r + 1 => by
  rw [ordS, ordS, ordS_congr hS h r, first_congr hS h]
  cases hf : firstI S g' (ordS S g' r).1 with
  | none => rfl
  | some i =>
   have hi := List.mem_range.1 (List.mem_of_find?_eq_some hf)
   simp only [h i hi, members_congr h]
theorem OrdAt.congr (hS : SysOk S) (h : ∀ x, x < S.deps.length → g x = g' x) {R : Nat} (k : OrdAt S g R) : OrdAt S g' R :=
 ⟨by rw [← ordS_congr hS h, ← first_congr hS h]; exact k.stop, fun r hr => by rw [← ordS_congr hS h, ← first_congr hS h]; exact k.go r hr⟩
theorem GOk.eq (h : GOk S g) (k : GOk S g') : ∀ x, x < S.deps.length → g x = g' x := fun x hx => by
 have := (h x hx).uniq (k x hx)
 omega
/-- there is one order alone -/
theorem ord_uniq (hS : SysOk S) (h : GOk S g) (k : GOk S g') {R R' : Nat} (o : OrdAt S g R) (o' : OrdAt S g' R') : (ordS S g R).2 = (ordS S g' R').2 := by
 have e := h.eq k
 have := (o.congr hS e).uniq o'
 rw [ordS_congr hS e, this]
end
def oneS : SysD := ⟨1, [[0]], [⟨1, 0, 0, []⟩], [0]⟩
def twoS : SysD := ⟨0, [[1], []], [⟨0, 0, 0, []⟩, ⟨0, 0, 0, []⟩], [0, 0]⟩
theorem idOk1 : TrOk ⟨1, 0, 0, []⟩ := ⟨by decide, by decide, by decide, by decide, fun i h => by simp at h, fun i h => by simp at h⟩
theorem idOk0 : TrOk ⟨0, 0, 0, []⟩ := ⟨by decide, by decide, by decide, by decide, fun i h => by simp at h, fun i h => by simp at h⟩
theorem one_ok : SysOk oneS := ⟨by decide, by decide, by decide, by decide, by decide, fun l hl => by
 simp only [oneS, List.mem_singleton] at hl
 subst hl
 intro i hi
 obtain rfl : i = 0 := by simp [natsZ] at hi; omega
 exact ⟨by simp [natsZ], by simp [natsZ, oneS], fun h => absurd h (Nat.lt_irrefl _)⟩, by decide, fun t ht => by
 simp only [oneS, List.mem_singleton] at ht
 subst ht
 exact ⟨idOk1, rfl⟩, fun m hm => by
 simp only [oneS, List.mem_singleton] at hm
 subst hm
 decide⟩
theorem two_ok : SysOk twoS := ⟨by decide, by decide, by decide, by decide, by decide, fun l hl => by
 simp only [twoS, List.mem_cons, List.not_mem_nil, or_false] at hl
 rcases hl with rfl | rfl
 ·intro i hi
  obtain rfl : i = 0 := by simp [natsZ] at hi; omega
  exact ⟨by simp [natsZ], by simp [natsZ, twoS], fun h => absurd h (Nat.lt_irrefl _)⟩
 ·intro i hi
  simp [natsZ] at hi, by decide, fun t ht => by
 simp only [twoS, List.mem_cons, List.not_mem_nil, or_false] at ht
 rcases ht with rfl | rfl <;> exact ⟨idOk0, rfl⟩, fun m hm => by
 simp only [twoS, List.mem_cons, List.not_mem_nil, or_false] at hm
 rcases hm with rfl | rfl <;> decide⟩
theorem one_g {g : Nat → Nat} (h : GOk oneS g) : ∀ x, x < oneS.deps.length → g x = (fun _ => 0 : Nat → Nat) x := fun x hx => by
 have := h.lt one_ok hx
 have e : oneS.deps.length = 1 := rfl
 show g x = 0
 omega
theorem one_ord : OrdAt oneS (fun _ => 0) 1 := ⟨by decide, fun r hr => by
 obtain rfl : r = 0 := by omega
 decide⟩
theorem one_list_ord {g : Nat → Nat} {R : Nat} (h : GOk oneS g) (o : OrdAt oneS g R) : (ordS oneS g R).2 = [[0]] := by
 have e := (o.congr one_ok (one_g h)).uniq one_ord
 rw [ordS_congr one_ok (one_g h), e]
 decide
theorem one_run {vs : List Nat} {n : Nat} (h : SRun oneS [[0]] 1 vs n) : n = 1 := by
 have hp : passD oneS [0] (zerosD oneS) = zerosD oneS := by decide
 have h2 : SRun oneS [[0]] (0 + 1) (zerosD oneS) (0 + 1 * [0].length) := SRun.succ .zero (by decide) ⟨hp.symm, Nat.le_refl _, fun e => absurd e (by decide), fun _ => hp, fun _ r hr => absurd hr (Nat.not_lt_zero _)⟩
 exact (h.uniq h2).2
theorem two_r1 {y : Nat} (h : Rch (depD twoS) 1 y) : y = 1 := by
 cases h with
 | refl _ => rfl
 | step e _ => exact absurd (show _ ∈ ([] : List Nat) from e) List.not_mem_nil
theorem two_g {g : Nat → Nat} (h : GOk twoS g) : ∀ x, x < twoS.deps.length → g x = (fun x => x : Nat → Nat) x := fun x hx => by
 obtain ⟨k, e, h1, h2, -⟩ := h x hx
 have hk : k < twoS.deps.length := rch_lt two_ok h1 hx
 have e2 : twoS.deps.length = 2 := rfl
 rw [e2] at hx hk
 show g x = x
 have e3 : g x = k := by omega
 rw [e3]
 have h3 : x = 0 ∨ x = 1 := by omega
 have h4 : k = 0 ∨ k = 1 := by omega
 rcases h3 with rfl | rfl
 ·rcases h4 with rfl | rfl
  ·rfl
  ·exact absurd (two_r1 h2) (by decide)
 ·exact two_r1 h1
theorem two_ord : OrdAt twoS (fun x => x) 2 := ⟨by decide, fun r hr => by
 have : r = 0 ∨ r = 1 := by omega
 rcases this with rfl | rfl <;> decide⟩
theorem two_list_ord {g : Nat → Nat} {R : Nat} (h : GOk twoS g) (o : OrdAt twoS g R) : (ordS twoS g R).2 = [[1], [0]] := by
 have e := (o.congr two_ok (two_g h)).uniq two_ord
 rw [ordS_congr two_ok (two_g h), e]
 decide
theorem two_list {β : Type} {K : EK β} {W : World} {g : Nat} {cs : Array Value} {T : TypeId} {p q : β} (h : W.heap[g]? = some (.cells cs T (0, 0))) (hc : cs.toList = K.cells p ++ K.cells q) (hs : cs.size = 2 * K.s) (hp : K.ok No W p) (hq : K.ok No W q) : LAt K No W (.slice (some ⟨g, 0, none⟩) 2 2) [p, q] := by
 refine ⟨?_, fun r hr => ?_⟩
 ·have h1 := Row.block (M := No) (n := 2) (s := K.s) h hs no_no (by decide)
  rw [hc] at h1
  simpa using h1
 ·rcases List.mem_cons.1 hr with rfl | hr
  ·exact hp
  ·rw [List.mem_singleton.1 hr]; exact hq
end Go.Proofs.Ytkdjdhflhlbelaa

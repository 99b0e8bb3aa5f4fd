/- Merged: N25 N32 -/
import Derived.Test.YtfejidihocoboaaN24
set_option linter.unusedVariables false
set_option linter.unusedSimpArgs false
/- N25 -/
namespace Go.Proofs.Ytfejidihocoboaa
open Go Go.RowKit
open Go.Maps (Keyed)
theorem sorted_nodup {K : List Key3} (h : K.Pairwise ltK) : K.Nodup := h.imp (fun {a b} h e => by subst e; exact ltK_irrefl _ h)
theorem insE_perm (es : List Ent) (e : Ent) : (insE es e).Perm (es ++ [e]) := by
  unfold insE
  refine List.perm_middle.trans ?_
  rw [List.take_append_drop]
  exact (List.perm_append_singleton _ _).symm
theorem insE_sorted {es : List Ent} {e : Ent} (h : (keysE es).Pairwise ltK) (hn : e.key ∉ keysE es) : (keysE (insE es e)).Pairwise ltK := by
  have h1 : keysE (insE es e) = (keysE es).take (posK (keysE es) e.key) ++ e.key :: (keysE es).drop (posK (keysE es) e.key) := by
    unfold insE keysE
    rw [List.map_append, List.map_cons, List.map_take, List.map_drop]
  rw [h1]
  have hs := h
  rw [← List.take_append_drop (posK (keysE es) e.key) (keysE es)] at hs
  obtain ⟨a1, a2, a3⟩ := List.pairwise_append.1 hs
  refine List.pairwise_append.2 ⟨a1, List.pairwise_cons.2 ⟨fun y hy => ?_, a2⟩, fun y hy z hz => ?_⟩
  · obtain ⟨j, hj, rfl⟩ := List.getElem_of_mem hy
    rw [List.length_drop] at hj
    rw [List.getElem_drop]
    have h3 := (posK_iff (x := e.key) h (k := posK (keysE es) e.key + j) (by omega))
    have h4 : ¬ ltK (keysE es)[posK (keysE es) e.key + j] e.key := fun h5 => by have := h3.1 h5; omega
    rcases ltK_total (x := (keysE es)[posK (keysE es) e.key + j]'(by omega)) (y := e.key) (fun h6 => hn (by rw [← h6]; exact List.getElem_mem _)) with h7 | h7
    · exact absurd h7 h4
    · exact h7
  · obtain ⟨j, hj, rfl⟩ := List.getElem_of_mem hy
    rw [List.length_take] at hj
    have h3 : ltK ((keysE es).take (posK (keysE es) e.key))[j] e.key := by
      rw [List.getElem_take]
      exact (posK_iff h (by omega)).2 (by omega)
    rcases List.mem_cons.1 hz with rfl | hz
    · exact h3
    · exact a3 _ hy _ hz
theorem putL_keys (x : Key3) (s : RawSet) (t : Int) (es : List Ent) : keysE (putL x s t es) = keysE es := by
  unfold keysE putL
  rw [List.map_map]
  refine List.map_congr_left (fun e _ => ?_)
  simp only [Function.comp]
  by_cases h : e.key = x
  · rw [if_pos h]; exact h.symm
  · rw [if_neg h]
theorem evE_sorted {es : List Ent} (n : Nat) (h : (keysE es).Pairwise ltK) : (keysE (evE n es)).Pairwise ltK := h.sublist (List.filter_sublist.map _)
end Go.Proofs.Ytfejidihocoboaa

/- N32 -/
namespace Go.Proofs.Ytfejidihocoboaa
open Go Go.RowKit
def MinAt (es : List Ent) (i : Nat) : Prop := ∃ h : i < es.length, (∀ j (hj : j < es.length), es[i].t ≤ es[j].t) ∧ ∀ j (hj : j < es.length), j < i → es[i].t < es[j].t
theorem evE_zero (es : List Ent) : evE 0 es = es := by
  unfold evE
  exact List.filter_eq_self.2 (fun e _ => by simp)
theorem evE_nil (n : Nat) : evE n [] = [] := rfl
theorem rank_split (A B : List Ent) (m e : Ent) : rankE (A ++ m :: B) e = rankE (A ++ B) e + (if m.t < e.t ∨ (m.t = e.t ∧ ltK m.key e.key) then 1 else 0) := by
  unfold rankE
  rw [List.filter_append, List.filter_append, List.filter_cons]
  by_cases h : m.t < e.t ∨ (m.t = e.t ∧ ltK m.key e.key)
  · rw [if_pos h, if_pos (by simpa using h)]
    simp only [List.length_append, List.length_cons]
    omega
  · rw [if_neg h, if_neg (by simpa using h)]
    simp
theorem evE_split {A B : List Ent} {m : Ent} (n : Nat) (h0 : rankE (A ++ m :: B) m = 0) (h1 : ∀ e ∈ A ++ B, m.t < e.t ∨ (m.t = e.t ∧ ltK m.key e.key)) : evE (n + 1) (A ++ m :: B) = evE n (A ++ B) := by
  have hc : ∀ e ∈ A ++ B, decide (n + 1 ≤ rankE (A ++ m :: B) e) = decide (n ≤ rankE (A ++ B) e) := fun e he => by
    rw [rank_split, if_pos (h1 e he)]
    exact decide_eq_decide.2 (by omega)
  unfold evE
  rw [List.filter_append, List.filter_cons, if_neg (by rw [h0]; simp), List.filter_append]
  rw [List.filter_congr (fun e he => hc e (List.mem_append_left _ he)), List.filter_congr (fun e he => hc e (List.mem_append_right _ he))]
theorem evE_min {es : List Ent} (hs : (keysE es).Pairwise ltK) {i : Nat} (h : MinAt es i) (n : Nat) : evE (n + 1) es = evE n (es.eraseIdx i) := by
  obtain ⟨hi, h1, h2⟩ := h
  have hsp : es = es.take i ++ es[i] :: es.drop (i + 1) := by rw [List.getElem_cons_drop, List.take_append_drop]
  have her : es.eraseIdx i = es.take i ++ es.drop (i + 1) := List.eraseIdx_eq_take_drop_succ ..
  obtain ⟨m, hm⟩ : ∃ m, m = es[i] := ⟨_, rfl⟩
  rw [← hm] at hsp
  have hA : ∀ e ∈ es.take i, m.t < e.t := fun e he => by
    obtain ⟨j, hj, rfl⟩ := List.getElem_of_mem he
    rw [List.getElem_take, hm]
    rw [List.length_take] at hj
    exact h2 j (by omega) (by omega)
  have hB : ∀ e ∈ es.drop (i + 1), m.t ≤ e.t := fun e he => by
    obtain ⟨j, hj, rfl⟩ := List.getElem_of_mem he
    rw [List.getElem_drop, hm]
    rw [List.length_drop] at hj
    exact h1 _ (by omega)
  have hK : ∀ e ∈ es.drop (i + 1), ltK m.key e.key := fun e he => by
    have h3 := hs
    unfold keysE at h3
    rw [hsp, List.map_append, List.map_cons, List.pairwise_append] at h3
    exact (List.pairwise_cons.1 h3.2.1).1 _ (List.mem_map_of_mem he)
  have h0 : rankE (es.take i ++ m :: es.drop (i + 1)) m = 0 := by
    unfold rankE
    rw [List.length_eq_zero_iff, List.filter_eq_nil_iff]
    intro e he
    simp only [decide_eq_true_eq]
    rintro (h4 | ⟨h4, h5⟩)
    · rcases List.mem_append.1 he with he | he
      · have := hA e he; omega
      · rcases List.mem_cons.1 he with rfl | he
        · omega
        · have := hB e he; omega
    · rcases List.mem_append.1 he with he | he
      · have := hA e he; omega
      · rcases List.mem_cons.1 he with rfl | he
        · exact ltK_irrefl _ h5
        · exact ltK_irrefl _ (ltK_trans h5 (hK e he))
  rw [her]
  conv => lhs; rw [hsp]
  refine evE_split n h0 (fun e he => ?_)
  rcases List.mem_append.1 he with he | he
  · exact .inl (hA e he)
  · have h6 := hB e he
    by_cases h7 : m.t = e.t
    · exact .inr ⟨h7, hK e he⟩
    · exact .inl (by omega)
theorem erase_sorted {es : List Ent} (hs : (keysE es).Pairwise ltK) (i : Nat) : (keysE (es.eraseIdx i)).Pairwise ltK := hs.sublist ((List.eraseIdx_sublist ..).map _)
end Go.Proofs.Ytfejidihocoboaa

/- Plain facts of Put: taking an entry out and putting it in anew. -/
import Derived.Test.YtfejidihocoboaaN32
set_option linter.unusedVariables false
set_option linter.unusedSimpArgs false
namespace Go.Proofs.Ytfejidihocoboaa
open Go Go.RowKit
theorem posK_eq {K : List Key3} {x : Key3} (hs : K.Pairwise ltK) {k : Nat} (h1 : k ≤ K.length) (h2 : ∀ j (hj : j < K.length), j < k → ltK K[j] x) (h3 : ∀ hk : k < K.length, ¬ ltK K[k] x) : k = posK K x := by
  have hp := posK_le K x
  rcases Nat.lt_trichotomy k (posK K x) with h | h | h
  · exact absurd ((posK_iff hs (by omega)).2 h) (h3 (by omega))
  · exact h
  · have := (posK_iff hs (x := x) (k := posK K x) (by omega)).1 (h2 _ (by omega) h); omega
theorem posK_mid {A B : List Key3} {x : Key3} (hs : (A ++ B).Pairwise ltK) (hA : ∀ a ∈ A, ltK a x) (hB : ∀ b ∈ B, ltK x b) : posK (A ++ B) x = A.length := by
  refine (posK_eq hs (by simp) (fun j hj hjk => ?_) (fun hk => ?_)).symm
  · rw [List.getElem_append_left hjk]; exact hA _ (List.getElem_mem _)
  · rw [List.getElem_append_right (Nat.le_refl _)]
    exact fun h => ltK_irrefl _ (ltK_trans h (hB _ (List.getElem_mem _)))
theorem insE_erase {es : List Ent} (hs : (keysE es).Pairwise ltK) {i : Nat} (hi : i < es.length) (s : RawSet) (t : Int) : insE (es.eraseIdx i) ⟨es[i].key, s, t⟩ = putL es[i].key s t es := by
  obtain ⟨m, hm⟩ : ∃ m, m = es[i] := ⟨_, rfl⟩
  have hsp : es = es.take i ++ m :: es.drop (i + 1) := by rw [hm, List.getElem_cons_drop, List.take_append_drop]
  have her : es.eraseIdx i = es.take i ++ es.drop (i + 1) := List.eraseIdx_eq_take_drop_succ ..
  obtain ⟨A, hA⟩ : ∃ A, A = es.take i := ⟨_, rfl⟩
  obtain ⟨B, hB⟩ : ∃ B, B = es.drop (i + 1) := ⟨_, rfl⟩
  rw [← hA, ← hB] at hsp her
  rw [her, ← hm]
  have h3 := hs
  rw [hsp] at h3
  unfold keysE at h3
  rw [List.map_append, List.map_cons, List.pairwise_append] at h3
  obtain ⟨h4, h5, h6⟩ := h3
  obtain ⟨h7, h8⟩ := List.pairwise_cons.1 h5
  have hAx : ∀ a ∈ keysE A, ltK a m.key := fun a ha => h6 a ha _ (List.mem_cons_self ..)
  have hBx : ∀ b ∈ keysE B, ltK m.key b := fun b hb => h7 b hb
  have hAB : (keysE A ++ keysE B).Pairwise ltK := List.pairwise_append.2 ⟨h4, h8, fun a ha b hb => h6 a ha b (List.mem_cons_of_mem _ hb)⟩
  have hk : posK (keysE (A ++ B)) m.key = A.length := by
    have : keysE (A ++ B) = keysE A ++ keysE B := by simp [keysE]
    rw [this, posK_mid hAB hAx hBx]
    simp [keysE]
  unfold insE
  simp only
  rw [hk, List.take_left, List.drop_left]
  have hn : ∀ (K : List Key3), (∀ a ∈ K, ltK a m.key ∨ ltK m.key a) → m.key ∉ K := fun K hK h => (hK _ h).elim (ltK_irrefl _) (ltK_irrefl _)
  conv => rhs; rw [hsp]
  exact (putL_ins (s' := m.s) (t' := m.t) (hn _ (fun a ha => .inl (hAx a ha))) (hn _ (fun a ha => .inr (hBx a ha)))).symm
end Go.Proofs.Ytfejidihocoboaa

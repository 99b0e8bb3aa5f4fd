/- Merged: N35 N37 -/
import Derived.Test.YtfejidihocoboaaN33
set_option linter.unusedVariables false
set_option linter.unusedSimpArgs false
/- N35 -/
namespace Go.Proofs.Ytfejidihocoboaa
open Go Go.RowKit
theorem posK_eq {K : List Key3} {x : Key3} (hs : K.Pairwise ltK) {k : Nat} (h1 : k ≤ K.length) (h2 : ∀ j (hj : j < K.length), j < k → ltK K[j] x) (h3 : ∀ hk : k < K.length, ¬ ltK K[k] x) : k = posK K x := by
  have hp := posK_le K x
  rcases Nat.lt_trichotomy k (posK K x) with h | h | h
  · exact absurd ((posK_iff hs (by omega)).2 h) (h3 (by omega))
  · exact h
  · have := (posK_iff hs (x := x) (k := posK K x) (by omega)).1 (h2 _ (by omega) h); omega
theorem posK_mid {A B : List Key3} {x : Key3} (hs : (A ++ B).Pairwise ltK) (hA : ∀ a ∈ A, ltK a x) (hB : ∀ b ∈ B, ltK x b) : posK (A ++ B) x = A.length := by
  refine (posK_eq hs (by simp) (fun j hj hjk => ?_) (fun hk => ?_)).symm
  · rw [List.getElem_append_left hjk]; exact hA _ (List.getElem_mem _)
  · rw [List.getElem_append_right (Nat.le_refl _)]
    exact fun h => ltK_irrefl _ (ltK_trans h (hB _ (List.getElem_mem _)))
theorem insE_erase {es : List Ent} (hs : (keysE es).Pairwise ltK) {i : Nat} (hi : i < es.length) (s : RawSet) (t : Int) : insE (es.eraseIdx i) ⟨es[i].key, s, t⟩ = putL es[i].key s t es := by
  obtain ⟨m, hm⟩ : ∃ m, m = es[i] := ⟨_, rfl⟩
  have hsp : es = es.take i ++ m :: es.drop (i + 1) := by rw [hm, List.getElem_cons_drop, List.take_append_drop]
  have her : es.eraseIdx i = es.take i ++ es.drop (i + 1) := List.eraseIdx_eq_take_drop_succ ..
  obtain ⟨A, hA⟩ : ∃ A, A = es.take i := ⟨_, rfl⟩
  obtain ⟨B, hB⟩ : ∃ B, B = es.drop (i + 1) := ⟨_, rfl⟩
  rw [← hA, ← hB] at hsp her
  rw [her, ← hm]
  have h3 := hs
  rw [hsp] at h3
  unfold keysE at h3
  rw [List.map_append, List.map_cons, List.pairwise_append] at h3
  obtain ⟨h4, h5, h6⟩ := h3
  obtain ⟨h7, h8⟩ := List.pairwise_cons.1 h5
  have hAx : ∀ a ∈ keysE A, ltK a m.key := fun a ha => h6 a ha _ (List.mem_cons_self ..)
  have hBx : ∀ b ∈ keysE B, ltK m.key b := fun b hb => h7 b hb
  have hAB : (keysE A ++ keysE B).Pairwise ltK := List.pairwise_append.2 ⟨h4, h8, fun a ha b hb => h6 a ha b (List.mem_cons_of_mem _ hb)⟩
  have hk : posK (keysE (A ++ B)) m.key = A.length := by
    have : keysE (A ++ B) = keysE A ++ keysE B := by simp [keysE]
    rw [this, posK_mid hAB hAx hBx]
    simp [keysE]
  unfold insE
  simp only
  rw [hk, List.take_left, List.drop_left]
  have hn : ∀ (K : List Key3), (∀ a ∈ K, ltK a m.key ∨ ltK m.key a) → m.key ∉ K := fun K hK h => (hK _ h).elim (ltK_irrefl _) (ltK_irrefl _)
  conv => rhs; rw [hsp]
  exact (putL_ins (s' := m.s) (t' := m.t) (hn _ (fun a ha => .inl (hAx a ha))) (hn _ (fun a ha => .inr (hBx a ha)))).symm
end Go.Proofs.Ytfejidihocoboaa

/- N37 -/
namespace Go.Proofs.Ytfejidihocoboaa
open Go Go.RowKit
structure Inv (cap clk K : Int) (es : List Ent) : Prop where
  sort : (keysE es).Pairwise ltK
  len : (es.length : Int) ≤ cap
  val : ∀ e ∈ es, validB e.s = true
  key : ∀ e ∈ es, KeyOk e.key ∧ ¬ badK e.key
  tick : ∀ e ∈ es, 1 ≤ e.t ∧ e.t ≤ clk
  clk : 0 ≤ clk ∧ clk ≤ K
def TickD (es : List Ent) : Prop := es.Pairwise (fun a b => a.t ≠ b.t)
theorem add1 {clk : Int} (h : 0 ≤ clk ∧ clk ≤ 1000) : addZ clk 1 = clk + 1 := by unfold addZ clampZ; repeat' split <;> omega
theorem Inv.nil (cap : Int) (h : 0 ≤ cap) : Inv cap 0 0 [] := ⟨List.Pairwise.nil, by simpa using h, (fun _ h => by cases h), (fun _ h => by cases h), (fun _ h => by cases h), by omega⟩
theorem TickD.nil : TickD [] := List.Pairwise.nil
section
variable {cap clk K : Int} {es : List Ent}
theorem Inv.up (h : Inv cap clk K es) {K' : Int} (hk : K ≤ K') : Inv cap clk K' es := ⟨h.sort, h.len, h.val, h.key, h.tick, by have := h.clk; omega⟩
theorem Inv.nodup (h : Inv cap clk K es) : (keysE es).Nodup := sorted_nodup h.sort
theorem Inv.sub (h : Inv cap clk K es) {es' : List Ent} (hs : es'.Sublist es) : Inv cap clk K es' :=
  ⟨h.sort.sublist (hs.map _), by have := hs.length_le; have := h.len; omega, fun e he => h.val e (hs.subset he), fun e he => h.key e (hs.subset he), fun e he => h.tick e (hs.subset he), h.clk⟩
theorem TickD.sub (h : TickD es) {es' : List Ent} (hs : es'.Sublist es) : TickD es' := h.sublist hs
theorem setTk_keys (x : Key3) (t : Int) (es : List Ent) : keysE (setTk x t es) = keysE es := by
  unfold keysE setTk
  rw [List.map_map]
  refine List.map_congr_left (fun e _ => ?_)
  simp only [Function.comp]
  split <;> rfl
theorem setTk_mem {x : Key3} {t : Int} {e : Ent} (h : e ∈ setTk x t es) : ∃ q ∈ es, q.key = e.key ∧ q.s = e.s ∧ (e.t = t ∨ e.t = q.t) := by
  obtain ⟨q, hq, rfl⟩ := List.mem_map.1 h
  refine ⟨q, hq, ?_⟩
  by_cases hk : q.key = x
  · rw [if_pos hk]; exact ⟨rfl, rfl, .inl rfl⟩
  · rw [if_neg hk]; exact ⟨rfl, rfl, .inr rfl⟩
theorem map_tick {f : Ent → Ent} {x : Key3} {t : Int} (h : Inv cap clk K es) (hd : TickD es) (ht : clk < t) (h1 : ∀ e, e.key = x → (f e).t = t) (h2 : ∀ e, e.key ≠ x → f e = e) : TickD (es.map f) := by
  unfold TickD at hd ⊢
  rw [List.pairwise_map]
  have hk : es.Pairwise (fun a b => ltK a.key b.key) := by have := h.sort; unfold keysE at this; rwa [List.pairwise_map] at this
  refine (hd.and hk).imp_of_mem (fun {a b} ha hb hab => ?_)
  obtain ⟨e1, e2⟩ := hab
  have t1 := (h.tick a ha).2
  have t2 := (h.tick b hb).2
  by_cases ka : a.key = x
  · have kb : b.key ≠ x := fun e => ltK_irrefl x (by rw [ka, e] at e2; exact e2)
    rw [h1 a ka, h2 b kb]; omega
  · rw [h2 a ka]
    by_cases kb : b.key = x
    · rw [h1 b kb]; omega
    · rw [h2 b kb]; exact e1
theorem inv_touch (h : Inv cap clk K es) (hK : K ≤ 1000) (x : Key3) : Inv cap (touchC x clk es) (K + 1) (touchE x clk es) ∧ (TickD es → TickD (touchE x clk es)) := by
  have hc := h.clk
  have ha := add1 (clk := clk) (by omega)
  unfold touchC touchE
  by_cases hx : x ∈ keysE es
  · rw [if_pos hx, if_pos hx, ha]
    refine ⟨⟨by rw [setTk_keys]; exact h.sort, by have := h.len; simpa [setTk] using this, fun e he => ?_, fun e he => ?_, fun e he => ?_, by omega⟩, fun hd => map_tick (x := x) (t := clk + 1) h hd (by omega) (fun e hk => by rw [if_pos hk]) (fun e hk => by rw [if_neg hk])⟩
    · obtain ⟨q, hq, _, e2, _⟩ := setTk_mem he; rw [← e2]; exact h.val q hq
    · obtain ⟨q, hq, e1, _⟩ := setTk_mem he; rw [← e1]; exact h.key q hq
    · obtain ⟨q, hq, _, _, e3⟩ := setTk_mem he
      have := h.tick q hq
      omega
  · rw [if_neg hx, if_neg hx]
    exact ⟨h.up (by omega), id⟩
theorem minAt_ex : ∀ n, 1 ≤ n → n ≤ es.length → ∃ q, ∃ hq : q < es.length, q < n ∧ (∀ j (hj : j < es.length), j < n → es[q].t ≤ es[j].t) ∧ ∀ j (hj : j < es.length), j < q → es[q].t < es[j].t
  | 0, h, _ => absurd h (by omega)
  | 1, _, h => by
    refine ⟨0, by omega, by omega, fun j hj hjn => ?_, fun j hj hjq => absurd hjq (Nat.not_lt_zero _)⟩
    obtain rfl : j = 0 := by omega
    exact Int.le_refl _
  | n + 2, _, h => by
    obtain ⟨q, hq, hqn, h1, h2⟩ := minAt_ex (n + 1) (by omega) (by omega)
    by_cases hc : es[n + 1].t < es[q].t
    · refine ⟨n + 1, by omega, by omega, fun j hj hjn => ?_, fun j hj hjq => ?_⟩
      · by_cases e : j = n + 1
        · subst e; exact Int.le_refl _
        · have := h1 j hj (by omega); omega
      · have := h1 j hj hjq; omega
    · refine ⟨q, hq, by omega, fun j hj hjn => ?_, h2⟩
      by_cases e : j = n + 1
      · subst e; omega
      · exact h1 j hj (by omega)
theorem evE_len (hs : (keysE es).Pairwise ltK) (n : Nat) : (evE n es).length = es.length - n := by
  induction n generalizing es with
  | zero => rw [evE_zero]; omega
  | succ n ih =>
    cases hn : es.length with
    | zero =>
      rw [List.length_eq_zero_iff.1 hn, evE_nil]
      simp
    | succ m =>
      obtain ⟨q, hq, _, h1, h2⟩ := minAt_ex (es := es) es.length (by omega) (Nat.le_refl _)
      rw [evE_min hs ⟨hq, fun j hj => h1 j hj hj, h2⟩ n, ih (erase_sorted hs q), List.length_eraseIdx, if_pos hq]
      omega
theorem inv_ev (h : Inv cap clk K es) (n : Nat) : Inv cap clk K (evE n es) ∧ (TickD es → TickD (evE n es)) := ⟨h.sub List.filter_sublist, fun hd => hd.sub List.filter_sublist⟩
theorem putL_mem {x : Key3} {s : RawSet} {t : Int} {e : Ent} (h : e ∈ putL x s t es) : (e.key = x ∧ e.s = s ∧ e.t = t) ∨ e ∈ es := by
  obtain ⟨q, hq, rfl⟩ := List.mem_map.1 h
  by_cases hk : q.key = x
  · rw [if_pos hk]; exact .inl ⟨rfl, rfl, rfl⟩
  · rw [if_neg hk]; exact .inr hq
theorem inv_put (h : Inv cap clk K es) (hK : K ≤ 1000) (x : Key3) (hx : KeyOk x) (s : RawSet) : Inv cap (putM cap clk es x s).clk (K + 1) (putM cap clk es x s).es ∧ (TickD es → TickD (putM cap clk es x s).es) := by
  have hc := h.clk
  have ha := add1 (clk := clk) (by omega)
  unfold putM
  by_cases hv : validB s = false
  · rw [if_pos hv]; exact ⟨h.up (by omega), id⟩
  · rw [if_neg hv]
    by_cases hb : badK x
    · rw [if_pos hb]; exact ⟨h.up (by omega), id⟩
    · rw [if_neg hb]
      by_cases hz : cap = 0
      · rw [if_pos hz]; exact ⟨h.up (by omega), id⟩
      · rw [if_neg hz]
        have hv1 : validB s = true := by cases hq : validB s with
          | true => rfl
          | false => exact absurd hq hv
        by_cases hk : x ∈ keysE es
        · rw [if_pos hk, ha]
          refine ⟨⟨by rw [putL_keys]; exact h.sort, by have := h.len; simpa [putL] using this, fun e he => ?_, fun e he => ?_, fun e he => ?_, by simp only; omega⟩, fun hd => map_tick (x := x) (t := clk + 1) h hd (by omega) (fun e hk => by rw [if_pos hk]) (fun e hk => by rw [if_neg hk])⟩
          · rcases putL_mem he with ⟨_, e2, _⟩ | h3
            · rw [e2]; exact hv1
            · exact h.val e h3
          · rcases putL_mem he with ⟨e1, _, _⟩ | h3
            · rw [e1]; exact ⟨hx, hb⟩
            · exact h.key e h3
          · simp only at he ⊢
            rcases putL_mem he with ⟨_, _, e3⟩ | h3
            · rw [e3]; omega
            · have := h.tick e h3; omega
        · rw [if_neg hk, ha]
          have hfs : (fullE cap es).Sublist es := by
            unfold fullE
            split
            · exact List.filter_sublist
            · exact List.Sublist.refl _
          have hF := h.sub hfs
          have hkF : x ∉ keysE (fullE cap es) := fun e => hk ((hfs.map _).subset e)
          have hlen : ((fullE cap es).length : Int) + 1 ≤ cap := by
            have h9 := h.len
            unfold fullE
            by_cases hf : (es.length : Int) = cap
            · rw [if_pos hf, evE_len h.sort]; omega
            · rw [if_neg hf]; omega
          have hp := insE_perm (fullE cap es) ⟨x, s, clk + 1⟩
          have hm : ∀ e ∈ insE (fullE cap es) ⟨x, s, clk + 1⟩, e = ⟨x, s, clk + 1⟩ ∨ e ∈ es := fun e he => by
            rcases List.mem_append.1 (hp.mem_iff.1 he) with h3 | h3
            · exact .inr (hfs.subset h3)
            · exact .inl (List.mem_singleton.1 h3)
          refine ⟨⟨insE_sorted hF.sort hkF, ?_, fun e he => ?_, fun e he => ?_, fun e he => ?_, by simp only; omega⟩, fun hd => ?_⟩
          · have := hp.length_eq
            simp only [List.length_append, List.length_singleton] at this
            simp only
            omega
          · rcases hm e he with rfl | h3
            · exact hv1
            · exact h.val e h3
          · rcases hm e he with rfl | h3
            · exact ⟨hx, hb⟩
            · exact h.key e h3
          · simp only at he ⊢
            rcases hm e he with rfl | h3
            · simp only; omega
            · have := h.tick e h3; omega
          · have hdF := hd.sub hfs
            refine (hp.pairwise_iff (fun {a b} hab e => hab e.symm)).2 (List.pairwise_append.2 ⟨hdF, List.pairwise_singleton _ _, fun a ha b hb => ?_⟩)
            rw [List.mem_singleton.1 hb]
            have := h.tick a (hfs.subset ha)
            show a.t ≠ clk + 1
            omega
end
end Go.Proofs.Ytfejidihocoboaa

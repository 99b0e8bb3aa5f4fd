/- The plain law of MemoNewest. -/
import Derived.Test.YtfejidihocoboaaN24
set_option linter.unusedVariables false
set_option linter.unusedSimpArgs false
namespace Go.Proofs.Ytfejidihocoboaa
open Go Go.RowKit
open Go.Maps (Keyed)
theorem rankE_perm {es U : List Ent} (h : U.Perm es) (e : Ent) : rankE U e = rankE es e := (h.filter _).length_eq
def tickLt (a b : Ent) : Prop := a.t < b.t
/-- what the table holds, in the order of last use -/
structure NewI (c : Nat) (clk : Int) (es U : List Ent) : Prop where
  perm : U.Perm es
  ord : U.Pairwise tickLt
  le : ∀ e ∈ U, e.t ≤ clk
  key : ∀ e ∈ U, ∃ n : Nat, n < 10 ∧ e.key = (0, 1, (n : Int)) ∧ e.s = sS n
  len : U.length ≤ c
  sort : (keysE es).Pairwise ltK
def usedE (U : List Ent) : List Int := U.map (fun e => e.key.2.2)
theorem sorted_nodup {K : List Key3} (h : K.Pairwise ltK) : K.Nodup := h.imp (fun {a b} h e => by subst e; exact ltK_irrefl _ h)
theorem ev_oldest {es U : List Ent} {u : Ent} (hp : (u :: U).Perm es) (ho : (u :: U).Pairwise tickLt) : U.Perm (evE 1 es) := by
  obtain ⟨h1, h2⟩ := List.pairwise_cons.1 ho
  have e1 : evE 1 es = es.filter (fun e => decide (1 ≤ rankE (u :: U) e)) := by
    unfold evE
    refine List.filter_congr (fun e _ => ?_)
    rw [rankE_perm hp]
  rw [e1]
  have h3 : ((u :: U).filter (fun e => decide (1 ≤ rankE (u :: U) e))) = U := by
    have hu : rankE (u :: U) u = 0 := by
      unfold rankE
      rw [List.length_eq_zero_iff, List.filter_eq_nil_iff]
      intro q hq
      simp only [decide_eq_true_eq]
      rcases List.mem_cons.1 hq with rfl | hq
      · rintro (h | ⟨_, h⟩)
        · omega
        · exact ltK_irrefl _ h
      · have := h1 q hq
        unfold tickLt at this
        omega
    rw [List.filter_cons, if_neg (by rw [hu]; decide)]
    refine List.filter_eq_self.2 (fun q hq => ?_)
    have := h1 q hq
    unfold tickLt at this
    have h4 : u ∈ (u :: U).filter (fun p => decide (p.t < q.t ∨ (p.t = q.t ∧ ltK p.key q.key))) := List.mem_filter.2 ⟨List.mem_cons_self .., decide_eq_true (.inl this)⟩
    have h5 := List.length_pos_of_mem h4
    exact decide_eq_true (by unfold rankE; omega)
  have h9 := hp.filter (fun e => decide (1 ≤ rankE (u :: U) e))
  rw [h3] at h9
  exact h9
theorem putL_perm {x : Key3} {s : RawSet} {t : Int} : ∀ {es : List Ent}, (keysE es).Nodup → x ∈ keysE es → (putL x s t es).Perm (es.filter (fun e => !decide (e.key = x)) ++ [⟨x, s, t⟩])
  | e :: es, hn, hx => by
    unfold keysE at hn hx
    rw [List.map_cons, List.nodup_cons] at hn
    unfold putL
    rw [List.map_cons]
    by_cases h : e.key = x
    · have hno : x ∉ keysE es := by rw [← h]; exact hn.1
      have e1 : es.map (fun e => if e.key = x then (⟨x, s, t⟩ : Ent) else e) = es := by
        have h1 : es.map (fun e => if e.key = x then (⟨x, s, t⟩ : Ent) else e) = es.map id := List.map_congr_left (fun e he => by
          rw [if_neg (fun h => hno (by rw [← h]; exact List.mem_map_of_mem he))]; rfl)
        rw [h1, List.map_id]
      have e2 : es.filter (fun e => !decide (e.key = x)) = es := List.filter_eq_self.2 (fun q hq => by
        have : q.key ≠ x := fun h => hno (by rw [← h]; exact List.mem_map_of_mem hq)
        simp [this])
      rw [if_pos h, e1, List.filter_cons, if_neg (by simp [h]), e2]
      exact (List.perm_append_singleton _ _).symm
    · rw [if_neg h, List.filter_cons, if_pos (by simp [h]), List.cons_append]
      refine List.Perm.cons _ (putL_perm hn.2 ?_)
      rcases List.mem_cons.1 hx with h2 | h2
      · exact absurd h2.symm h
      · exact h2
theorem insE_perm (es : List Ent) (e : Ent) : (insE es e).Perm (es ++ [e]) := by
  unfold insE
  refine List.perm_middle.trans ?_
  rw [List.take_append_drop]
  exact (List.perm_append_singleton _ _).symm
theorem insE_sorted {es : List Ent} {e : Ent} (h : (keysE es).Pairwise ltK) (hn : e.key ∉ keysE es) : (keysE (insE es e)).Pairwise ltK := by
  have h1 : keysE (insE es e) = (keysE es).take (posK (keysE es) e.key) ++ e.key :: (keysE es).drop (posK (keysE es) e.key) := by
    unfold insE keysE
    rw [List.map_append, List.map_cons, List.map_take, List.map_drop]
  rw [h1]
  have hs := h
  rw [← List.take_append_drop (posK (keysE es) e.key) (keysE es)] at hs
  obtain ⟨a1, a2, a3⟩ := List.pairwise_append.1 hs
  refine List.pairwise_append.2 ⟨a1, List.pairwise_cons.2 ⟨fun y hy => ?_, a2⟩, fun y hy z hz => ?_⟩
  · obtain ⟨j, hj, rfl⟩ := List.getElem_of_mem hy
    rw [List.length_drop] at hj
    rw [List.getElem_drop]
    have h3 := (posK_iff (x := e.key) h (k := posK (keysE es) e.key + j) (by omega))
    have h4 : ¬ ltK (keysE es)[posK (keysE es) e.key + j] e.key := fun h5 => by have := h3.1 h5; omega
    rcases ltK_total (x := (keysE es)[posK (keysE es) e.key + j]'(by omega)) (y := e.key) (fun h6 => hn (by rw [← h6]; exact List.getElem_mem _)) with h7 | h7
    · exact absurd h7 h4
    · exact h7
  · obtain ⟨j, hj, rfl⟩ := List.getElem_of_mem hy
    rw [List.length_take] at hj
    have h3 : ltK ((keysE es).take (posK (keysE es) e.key))[j] e.key := by
      rw [List.getElem_take]
      exact (posK_iff h (by omega)).2 (by omega)
    rcases List.mem_cons.1 hz with rfl | hz
    · exact h3
    · exact a3 _ hy _ hz
theorem putL_keys (x : Key3) (s : RawSet) (t : Int) (es : List Ent) : keysE (putL x s t es) = keysE es := by
  unfold keysE putL
  rw [List.map_map]
  refine List.map_congr_left (fun e _ => ?_)
  simp only [Function.comp]
  by_cases h : e.key = x
  · rw [if_pos h]; exact h.symm
  · rw [if_neg h]
theorem evE_sorted {es : List Ent} (n : Nat) (h : (keysE es).Pairwise ltK) : (keysE (evE n es)).Pairwise ltK := h.sublist (List.filter_sublist.map _)
def nextU (U : List Int) (n : Int) (c : Nat) : List Int := (U.filter (fun u => !decide (u = n)) ++ [n]).drop ((U.filter (fun u => !decide (u = n)) ++ [n]).length - c)
theorem new_step {c n : Nat} {clk : Int} {es U : List Ent} (h : NewI c clk es U) (hn : n < 10) (h0 : 0 ≤ clk ∧ clk ≤ 1000) (hc : c ≠ 0) :
    ∃ U', NewI c (clk + 1) (putM c clk es (0, 1, n) (sS n)).es U' ∧ (putM c clk es (0, 1, n) (sS n)).err = 0 ∧ (putM c clk es (0, 1, n) (sS n)).clk = clk + 1 ∧ usedE U' = nextU (usedE U) n c := by
  have hadd : addZ clk 1 = clk + 1 := by unfold addZ clampZ; repeat' split <;> omega
  have hv : validB (sS n) = true := validB_set (by omega) (Nat.pow_lt_pow_right (by decide) (Nat.mod_lt _ (by decide)))
  have hb : ¬ badK (0, 1, (n : Int)) := by unfold badK; simp only; omega
  have hcz : ¬ (c : Int) = 0 := by omega
  have hnd := sorted_nodup h.sort
  have hpm : putM c clk es (0, 1, n) (sS n) = if (0, 1, (n : Int)) ∈ keysE es then ⟨0, clk + 1, putL (0, 1, n) (sS n) (clk + 1) es⟩ else ⟨0, clk + 1, insE (fullE c es) ⟨(0, 1, n), sS n, clk + 1⟩⟩ := by
    unfold putM
    rw [if_neg (by rw [hv]; decide), if_neg hb, if_neg hcz, hadd]
  have hnew : ∀ (V : List Ent) , (∀ e ∈ V, e ∈ U) → V.Pairwise tickLt → (V ++ [(⟨(0, 1, n), sS n, clk + 1⟩ : Ent)]).Pairwise tickLt ∧ (∀ e ∈ V ++ [(⟨(0, 1, n), sS n, clk + 1⟩ : Ent)], e.t ≤ clk + 1) ∧ ∀ e ∈ V ++ [(⟨(0, 1, n), sS n, clk + 1⟩ : Ent)], ∃ m : Nat, m < 10 ∧ e.key = (0, 1, (m : Int)) ∧ e.s = sS m := fun V hV hp => by
    refine ⟨List.pairwise_append.2 ⟨hp, List.pairwise_singleton _ _, fun a ha b hb => ?_⟩, fun e he => ?_, fun e he => ?_⟩
    · rw [List.mem_singleton.1 hb]
      have := h.le a (hV a ha)
      show a.t < clk + 1
      omega
    · rcases List.mem_append.1 he with he | he
      · have := h.le e (hV e he); omega
      · rw [List.mem_singleton.1 he]; exact Int.le_refl _
    · rcases List.mem_append.1 he with he | he
      · exact h.key e (hV e he)
      · rw [List.mem_singleton.1 he]; exact ⟨n, hn, rfl, rfl⟩
  have hfil : usedE (U.filter (fun e => !decide (e.key = (0, 1, (n : Int))))) = (usedE U).filter (fun u => !decide (u = (n : Int))) := by
    unfold usedE
    rw [List.filter_map]
    congr 1
    refine List.filter_congr (fun e he => ?_)
    obtain ⟨m, _, hk, _⟩ := h.key e he
    simp only [Function.comp, hk, Prod.mk.injEq, true_and]
  have hul : (usedE U).length = U.length := by simp [usedE]
  rw [hpm]
  by_cases hk : (0, 1, (n : Int)) ∈ keysE es
  · rw [if_pos hk]
    have hp1 : (U.filter (fun e => !decide (e.key = (0, 1, (n : Int)))) ++ [(⟨(0, 1, n), sS n, clk + 1⟩ : Ent)]).Perm (putL (0, 1, n) (sS n) (clk + 1) es) := ((h.perm.filter _).append_right _).trans (putL_perm hnd hk).symm
    obtain ⟨g1, g2, g3⟩ := hnew (U.filter (fun e => !decide (e.key = (0, 1, (n : Int))))) (fun e he => (List.mem_filter.1 he).1) (h.ord.sublist List.filter_sublist)
    have hlen : (U.filter (fun e => !decide (e.key = (0, 1, (n : Int)))) ++ [(⟨(0, 1, n), sS n, clk + 1⟩ : Ent)]).length ≤ c := by
      rw [hp1.length_eq]
      have h9 := h.len
      rw [h.perm.length_eq] at h9
      unfold putL
      rw [List.length_map]
      exact h9
    refine ⟨_, ⟨hp1, g1, g2, g3, hlen, by simp only; rw [putL_keys]; exact h.sort⟩, rfl, rfl, ?_⟩
    unfold nextU
    rw [← hfil]
    have e9 : usedE (U.filter (fun e => !decide (e.key = (0, 1, (n : Int)))) ++ [(⟨(0, 1, n), sS n, clk + 1⟩ : Ent)]) = usedE (U.filter (fun e => !decide (e.key = (0, 1, (n : Int))))) ++ [(n : Int)] := by simp [usedE]
    rw [← e9, show (usedE (U.filter (fun e => !decide (e.key = (0, 1, (n : Int)))) ++ [(⟨(0, 1, n), sS n, clk + 1⟩ : Ent)])).length - c = 0 from by
      have : (usedE (U.filter (fun e => !decide (e.key = (0, 1, (n : Int)))) ++ [(⟨(0, 1, n), sS n, clk + 1⟩ : Ent)])).length ≤ c := by unfold usedE; rw [List.length_map]; exact hlen
      omega, List.drop_zero]
  · rw [if_neg hk]
    have hfu : U.filter (fun e => !decide (e.key = (0, 1, (n : Int)))) = U := List.filter_eq_self.2 (fun e he => by
      have : e.key ≠ (0, 1, (n : Int)) := fun e1 => hk (by rw [← e1]; exact List.mem_map_of_mem (h.perm.mem_iff.1 he))
      simp [this])
    rw [hfu] at hfil
    by_cases hf : (es.length : Int) = c
    · have hfe : fullE c es = evE 1 es := if_pos hf
      rw [hfe]
      obtain ⟨u, V, rfl⟩ : ∃ u V, U = u :: V := by
        cases U with
        | nil => have := h.perm.length_eq; simp at this; omega
        | cons u V => exact ⟨u, V, rfl⟩
      have hp2 := ev_oldest h.perm h.ord
      obtain ⟨g1, g2, g3⟩ := hnew V (fun e he => List.mem_cons_of_mem _ he) (List.pairwise_cons.1 h.ord).2
      have hp1 : (V ++ [(⟨(0, 1, n), sS n, clk + 1⟩ : Ent)]).Perm (insE (evE 1 es) ⟨(0, 1, n), sS n, clk + 1⟩) := (hp2.append_right _).trans (insE_perm _ _).symm
      have hlu := h.perm.length_eq
      rw [List.length_cons] at hlu
      refine ⟨_, ⟨hp1, g1, g2, g3, by rw [List.length_append, List.length_singleton]; omega, insE_sorted (evE_sorted 1 h.sort) (fun e1 => hk ((List.filter_sublist.map _).subset e1))⟩, rfl, rfl, ?_⟩
      unfold nextU
      rw [← hfil]
      have e9 : usedE (u :: V) ++ [(n : Int)] = u.key.2.2 :: usedE (V ++ [(⟨(0, 1, n), sS n, clk + 1⟩ : Ent)]) := by simp [usedE]
      rw [e9, show (u.key.2.2 :: usedE (V ++ [(⟨(0, 1, n), sS n, clk + 1⟩ : Ent)])).length - c = 1 from by simp only [usedE, List.length_cons, List.length_map, List.length_append, List.length_nil]; omega]
      rfl
    · have hfe : fullE c es = es := if_neg hf
      rw [hfe]
      obtain ⟨g1, g2, g3⟩ := hnew U (fun e he => he) h.ord
      have hp1 : (U ++ [(⟨(0, 1, n), sS n, clk + 1⟩ : Ent)]).Perm (insE es ⟨(0, 1, n), sS n, clk + 1⟩) := (h.perm.append_right _).trans (insE_perm _ _).symm
      have hlu := h.perm.length_eq
      have hlc := h.len
      refine ⟨_, ⟨hp1, g1, g2, g3, by rw [List.length_append, List.length_singleton]; omega, insE_sorted h.sort hk⟩, rfl, rfl, ?_⟩
      unfold nextU
      rw [← hfil]
      have e9 : usedE U ++ [(n : Int)] = usedE (U ++ [(⟨(0, 1, n), sS n, clk + 1⟩ : Ent)]) := by simp [usedE]
      rw [e9, show (usedE (U ++ [(⟨(0, 1, n), sS n, clk + 1⟩ : Ent)])).length - c = 0 from by simp only [usedE, List.length_map, List.length_append, List.length_singleton]; omega, List.drop_zero]
theorem new_zero {n : Nat} {clk : Int} {es U : List Ent} (h : NewI 0 clk es U) : putM 0 clk es (0, 1, n) (sS n) = ⟨0, clk, es⟩ ∧ U = [] ∧ nextU (usedE U) n 0 = [] := by
  have hU : U = [] := List.eq_nil_of_length_eq_zero (Nat.le_zero.1 h.len)
  subst hU
  have hv : validB (sS n) = true := validB_set (by omega) (Nat.pow_lt_pow_right (by decide) (Nat.mod_lt _ (by decide)))
  have hb : ¬ badK (0, 1, (n : Int)) := by unfold badK; simp only; omega
  refine ⟨?_, rfl, by simp [nextU, usedE]⟩
  unfold putM
  rw [if_neg (by rw [hv]; decide), if_neg hb, if_pos rfl]
end Go.Proofs.Ytfejidihocoboaa

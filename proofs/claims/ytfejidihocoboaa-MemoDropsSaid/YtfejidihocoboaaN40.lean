/- The plain law of MemoDrops. -/
import Derived.Test.YtfejidihocoboaaN37
set_option linter.unusedVariables false
set_option linter.unusedSimpArgs false
namespace Go.Proofs.Ytfejidihocoboaa
open Go Go.RowKit
def olderE (es : List Ent) (t : Int) : Nat := (es.filter (fun q => decide (q.t < t))).length
def keptE (es : List Ent) (t : Int) : Bool := es.any (fun q => decide (q.t = t))
theorem tick_uniq : ∀ {es : List Ent} {a b : Ent}, TickD es → a ∈ es → b ∈ es → a.t = b.t → a = b
  | x :: es, a, b, h, ha, hb, e => by
    obtain ⟨h1, h2⟩ := List.pairwise_cons.1 h
    rcases List.mem_cons.1 ha with ha | ha
    · rcases List.mem_cons.1 hb with hb | hb
      · rw [ha, hb]
      · exact absurd (by rw [← ha]; exact e) (h1 b hb)
    · rcases List.mem_cons.1 hb with hb | hb
      · exact absurd (by rw [← hb]; exact e.symm) (h1 a ha)
      · exact tick_uniq h2 ha hb e
theorem older_rank {es : List Ent} (hd : TickD es) {e : Ent} (he : e ∈ es) : rankE es e = olderE es e.t := by
  unfold rankE olderE
  congr 1
  refine List.filter_congr (fun q hq => decide_eq_decide.2 ⟨fun h => ?_, fun h => .inl h⟩)
  rcases h with h | ⟨h1, h2⟩
  · exact h
  · have := tick_uniq hd hq he h1
    subst this
    exact absurd h2 (ltK_irrefl _)
theorem older_lt {es : List Ent} {e : Ent} (he : e ∈ es) : olderE es e.t < es.length := by
  unfold olderE
  rcases Nat.lt_or_ge ((es.filter (fun q => decide (q.t < e.t))).length) es.length with h | h
  · exact h
  · have h1 : es.filter (fun q => decide (q.t < e.t)) = es := List.Sublist.eq_of_length_le List.filter_sublist h
    have h2 : e ∈ es.filter (fun q => decide (q.t < e.t)) := by rw [h1]; exact he
    have h3 := (List.mem_filter.1 h2).2
    simp at h3
theorem kept_law {es : List Ent} (hd : TickD es) (n : Nat) {e : Ent} (he : e ∈ es) : keptE (evE n es) e.t = decide (min n es.length ≤ olderE es e.t) := by
  have h1 := older_rank hd he
  have h2 := older_lt he
  rw [Bool.eq_iff_iff, decide_eq_true_iff]
  unfold keptE
  rw [List.any_eq_true]
  constructor
  · rintro ⟨q, hq, hqt⟩
    obtain ⟨h3, h4⟩ := List.mem_filter.1 hq
    have h5 := tick_uniq hd h3 he (of_decide_eq_true hqt)
    subst h5
    have h6 := of_decide_eq_true h4
    omega
  · intro h
    exact ⟨e, List.mem_filter.2 ⟨he, decide_eq_true (by omega)⟩, decide_eq_true rfl⟩
theorem older_step {es : List Ent} {j : Nat} (hj : j < es.length) (t : Int) : olderE (es.take (j + 1)) t = olderE (es.take j) t + (if es[j].t < t then 1 else 0) := by
  unfold olderE
  rw [List.take_succ_eq_append_getElem hj, List.filter_append, List.length_append]
  congr 1
  by_cases h : es[j].t < t
  · rw [if_pos h]; simp [h]
  · rw [if_neg h]; simp [h]
theorem kept_step {es : List Ent} {j : Nat} (hj : j < es.length) (t : Int) : keptE (es.take (j + 1)) t = (keptE (es.take j) t || decide (es[j].t = t)) := by
  unfold keptE
  rw [List.take_succ_eq_append_getElem hj, List.any_append]
  simp
theorem drop_ne {es : List Ent} {p : Int} {e : Ent} (he : e ∈ es.filter (fun e => !decide (e.key.1 = p))) : (e.key.1 == p) = false := by
  have h := (List.mem_filter.1 he).2
  simpa using h
end Go.Proofs.Ytfejidihocoboaa

/- Ranks: what eviction takes away. -/
import Derived.Test.YtfejidihocoboaaN14
set_option linter.unusedVariables false
set_option linter.unusedSimpArgs false
namespace Go.Proofs.Ytfejidihocoboaa
open Go Go.RowKit
open Go.Maps (Keyed)
instance decLtK (x y : Key3) : Decidable (ltK x y) := by unfold ltK; infer_instance
instance decOrdF (f : Key3 → Int) (x y : Key3) : Decidable (ordF f x y) := by unfold ordF; infer_instance
theorem ordF_irrefl (f : Key3 → Int) (x : Key3) : ¬ ordF f x x := by
  unfold ordF
  rintro (h | ⟨_, h⟩)
  · omega
  · exact ltK_irrefl x h
theorem ordF_asymm {f : Key3 → Int} {x y : Key3} (h : ordF f x y) : ¬ ordF f y x := fun h' => ordF_irrefl f x (ordF_trans h h')
def rankK (f : Key3 → Int) (K : List Key3) (x : Key3) : Nat := (K.filter (fun y => decide (ordF f y x))).length
theorem filter_take {f : Key3 → Int} : ∀ {R : List Key3} {i : Nat} (h : i < R.length), R.Pairwise (ordF f) → R.filter (fun y => decide (ordF f y R[i])) = R.take i
  | a :: R, 0, h, hp => by
    rw [List.take_zero, List.filter_eq_nil_iff]
    intro b hb
    simp only [List.getElem_cons_zero, decide_eq_true_eq]
    rcases List.mem_cons.1 hb with rfl | hb
    · exact ordF_irrefl f _
    · exact ordF_asymm ((List.pairwise_cons.1 hp).1 b hb)
  | a :: R, i + 1, h, hp => by
    have hi : i < R.length := by simpa using h
    have h1 := (List.pairwise_cons.1 hp).1 _ (List.getElem_mem hi)
    rw [List.take_succ_cons, List.filter_cons]
    simp only [List.getElem_cons_succ, h1, decide_true, if_true]
    rw [filter_take hi (List.pairwise_cons.1 hp).2]
theorem rank_at {f : Key3 → Int} {K R : List Key3} (hp : R.Perm K) (ho : R.Pairwise (ordF f)) {i : Nat} (hi : i < R.length) : rankK f K R[i] = i := by
  unfold rankK
  rw [← (hp.filter _).length_eq, filter_take hi ho, List.length_take]
  omega
theorem take_rank {f : Key3 → Int} {K R : List Key3} (hp : R.Perm K) (ho : R.Pairwise (ordF f)) {x : Key3} (hx : x ∈ K) (q : Nat) : x ∈ R.take q ↔ rankK f K x < q := by
  obtain ⟨i, hi, rfl⟩ := List.getElem_of_mem (hp.mem_iff.2 hx)
  rw [rank_at hp ho hi]
  constructor
  · intro h
    obtain ⟨j, hj, e⟩ := List.getElem_of_mem h
    rw [List.getElem_take] at e
    rw [List.length_take] at hj
    have h1 := rank_at hp ho (i := j) (by omega)
    have h2 := rank_at hp ho hi
    rw [e] at h1
    omega
  · intro h
    exact List.mem_iff_getElem.2 ⟨i, by rw [List.length_take]; omega, by rw [List.getElem_take]⟩
def rankE (es : List Ent) (e : Ent) : Nat := (es.filter (fun q => decide (q.t < e.t ∨ (q.t = e.t ∧ ltK q.key e.key)))).length
/-- the n oldest are gone -/
def evE (n : Nat) (es : List Ent) : List Ent := es.filter (fun e => decide (n ≤ rankE es e))
def tickE (es : List Ent) (x : Key3) : Int := match es.find? (fun e => decide (e.key = x)) with | some e => e.t | none => 0
theorem tickE_of {es : List Ent} (hn : (keysE es).Nodup) {e : Ent} (he : e ∈ es) : tickE es e.key = e.t := by
  unfold tickE
  cases h : es.find? (fun q => decide (q.key = e.key)) with
  | none => exact absurd (List.find?_eq_none.1 h e he) (by simp)
  | some e' =>
    have h1 := List.find?_some h
    have h2 := List.mem_of_find?_eq_some h
    rw [nodup_inj hn h2 he (of_decide_eq_true h1)]
theorem rankE_key {es : List Ent} (hn : (keysE es).Nodup) {e : Ent} (he : e ∈ es) : rankK (tickE es) (keysE es) e.key = rankE es e := by
  unfold rankK rankE keysE
  rw [List.filter_map, List.length_map]
  congr 1
  refine List.filter_congr (fun q hq => ?_)
  have e1 : ordF (tickE es) q.key e.key ↔ (q.t < e.t ∨ (q.t = e.t ∧ ltK q.key e.key)) := by
    unfold ordF
    rw [tickE_of hn hq, tickE_of hn he]
  simp only [Function.comp]
  exact decide_eq_decide.2 e1
end Go.Proofs.Ytfejidihocoboaa

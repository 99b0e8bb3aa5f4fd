/- Plain law of FixpointLeast: what the rounds of Next and Union reach lies above the system. -/
import Derived.Test.YtkdjdhflhlbelaaFS
set_option linter.unusedVariables false
set_option linter.unusedSimpArgs false
namespace Go.Proofs.Ytkdjdhflhlbelaa
open Go Go.RowKit
def upV (S : SysD) (vs : List Nat) : List Nat := (List.range S.deps.length).map fun i => orN (rowD vs i) (rowD (nextD S vs) i)
def upIter (S : SysD) (vs : List Nat) : Nat → List Nat
  | 0 => vs
  | k + 1 => upV S (upIter S vs k)
/-- the first k joined -/
def upTo (vs nx : List Nat) (n k : Nat) : List Nat := (List.range n).map fun i => if i < k then orN (rowD vs i) (rowD nx i) else rowD vs i
section
variable {S : SysD} {vs nx : List Nat} {n k i : Nat}
theorem upTo_len (vs nx : List Nat) (n k : Nat) : (upTo vs nx n k).length = n := by simp [upTo]
theorem upTo_zero (h : vs.length = n) : upTo vs nx n 0 = vs := ext_row (by rw [upTo_len, h]) (fun i hi => by
  rw [upTo_len] at hi
  rw [rowD_get (by rw [upTo_len]; exact hi)]
  simp [upTo])
theorem upTo_row (hi : i < n) : rowD (upTo vs nx n k) i = if i < k then orN (rowD vs i) (rowD nx i) else rowD vs i := by
  rw [rowD_get (by rw [upTo_len]; exact hi)]
  simp [upTo]
theorem upTo_at (hk : k < n) : rowD (upTo vs nx n k) k = rowD vs k := by rw [upTo_row hk, if_neg (Nat.lt_irrefl _)]
theorem upTo_set (hk : k < n) : (upTo vs nx n k).set k (orN (rowD vs k) (rowD nx k)) = upTo vs nx n (k + 1) := by
  refine List.ext_getElem (by simp [upTo]) (fun i h1 h2 => ?_)
  rw [List.getElem_set]
  simp only [upTo, List.getElem_map, List.getElem_range]
  by_cases e : k = i
  · subst e; simp
  · rw [if_neg e]
    by_cases h : i < k
    · rw [if_pos h, if_pos (by omega)]
    · rw [if_neg h, if_neg (by omega)]
theorem upTo_all (S : SysD) (vs : List Nat) : upTo vs (nextD S vs) S.deps.length S.deps.length = upV S vs := by
  unfold upTo upV
  refine List.map_congr_left (fun i hi => ?_)
  rw [if_pos (List.mem_range.1 hi)]
theorem upV_row (hi : i < S.deps.length) : rowD (upV S vs) i = orN (rowD vs i) (rowD (nextD S vs) i) := by
  rw [← upTo_all, upTo_row hi, if_pos hi]
theorem good_up (hS : SysOk S) (h : GoodV S vs) : GoodV S (upV S vs) := ⟨by simp [upV], fun m hm => by
  obtain ⟨i, _, rfl⟩ := List.mem_map.1 hm
  exact orN_lt' (h.row i) ((good_next hS h).row i)⟩
theorem upTo_lt (hS : SysOk S) (h : GoodV S vs) (k : Nat) : ∀ m ∈ upTo vs (nextD S vs) S.deps.length k, m < 2 ^ S.w := fun m hm => by
  obtain ⟨i, _, rfl⟩ := List.mem_map.1 hm
  split
  · exact orN_lt' (h.row i) ((good_next hS h).row i)
  · exact h.row i
theorem good_upI (hS : SysOk S) (h : GoodV S vs) : ∀ k, GoodV S (upIter S vs k)
  | 0 => h
  | k + 1 => good_up hS (good_upI hS h k)
theorem le_up (S : SysD) (vs : List Nat) : LeV S vs (upV S vs) := fun i hi => by rw [upV_row hi]; exact LeB.orL _ _
theorem next_up (S : SysD) (vs : List Nat) : LeV S (nextD S vs) (upV S vs) := fun i hi => by rw [upV_row hi]; exact LeB.orR _ _
theorem upI_cnt (hS : SysOk S) (h : GoodV S vs) : ∀ k, (∀ j, j < k → upIter S vs (j + 1) ≠ upIter S vs j) → k ≤ cntV (upIter S vs k) S.w S.deps.length
  | 0, _ => Nat.zero_le _
  | k + 1, hne => by
    have h1 := upI_cnt hS h k (fun j hj => hne j (by omega))
    have h2 := lt_cnt (good_upI hS h k) (good_upI hS h (k + 1)) (le_up S _) (fun e => hne k (by omega) e.symm)
    omega
theorem upI_fixed {j : Nat} (h : upIter S vs (j + 1) = upIter S vs j) : ∀ m, upIter S vs (j + m) = upIter S vs j
  | 0 => rfl
  | m + 1 => by
    show upV S (upIter S vs (j + m)) = _
    rw [upI_fixed h m]
    exact h
/-- after enough rounds the values lie above the system -/
theorem up_above (hS : SysOk S) (h : GoodV S vs) : LeV S (nextD S (upIter S vs (S.deps.length * S.w + 1))) (upIter S vs (S.deps.length * S.w + 1)) := by
  have h1 : ∃ j, j ≤ S.deps.length * S.w ∧ upIter S vs (j + 1) = upIter S vs j := Classical.byContradiction fun hn => by
    have h2 := upI_cnt hS h (S.deps.length * S.w + 1) (fun j hj e => hn ⟨j, by omega, e⟩)
    have h3 := cntV_le (upIter S vs (S.deps.length * S.w + 1)) S.w S.deps.length
    omega
  obtain ⟨j, hj, he⟩ := h1
  have h2 : upIter S vs (S.deps.length * S.w + 1) = upIter S vs j := by
    have := upI_fixed he (S.deps.length * S.w + 1 - j)
    rwa [show j + (S.deps.length * S.w + 1 - j) = S.deps.length * S.w + 1 from by omega] at this
  rw [h2]
  have h3 := next_up S (upIter S vs j)
  rwa [show upV S (upIter S vs j) = upIter S vs j from he] at h3
theorem FixAt.bound {R : Nat} (hS : SysOk S) (h : FixAt S R) : R ≤ S.deps.length * S.w := by
  obtain ⟨R', h1, h2⟩ := fix_ex hS
  have := h1.le h.first
  omega
theorem sub_of_le {a b : Nat} (h : LeB a b) : subN a b = true := decide_eq_true (Nat.eq_of_testBit_eq fun j => by
  rw [diffN_bit, Nat.zero_testBit]
  cases e : a.testBit j with
  | false => rfl
  | true => rw [h j e]; rfl)
/-- raw sets that fit are values -/
theorem fit_list {L : LS} {M : Nat → Prop} {W : World} (hw : ∀ p ∈ L, WordsAt M W p.2 p.1.words) (hf : ∀ p ∈ L, FitS (S.w : Int) p.1) (hl : L.length = S.deps.length) : ∃ ws : List Nat, L.map Prod.fst = ws.map (setN S.w) ∧ GoodV S ws := by
  obtain ⟨B, hB⟩ := lift_map (f := fun m : {m : Nat // m < 2 ^ S.w} => setN S.w m.1) L (fun p hp => by
    have h1 := hf p hp
    have h2 := hw p hp
    obtain ⟨w', m, _, hm, he⟩ := (validB_iff h2.lt).1 h1.1
    have h3 := h1.2
    rw [he] at h3
    have h4 : ((w' : Nat) : Int) = (S.w : Int) := h3
    obtain rfl : w' = S.w := by omega
    exact ⟨⟨m, hm⟩, he⟩)
  have eB := congrArg List.length hB
  simp only [List.length_map] at eB
  refine ⟨B.map Subtype.val, by rw [hB, List.map_map]; rfl, ⟨by rw [List.length_map]; omega, fun m hm => ?_⟩⟩
  obtain ⟨c, _, rfl⟩ := List.mem_map.1 hm
  exact c.2
end
end Go.Proofs.Ytkdjdhflhlbelaa

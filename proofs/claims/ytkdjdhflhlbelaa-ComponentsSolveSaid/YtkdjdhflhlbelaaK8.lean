/- Solving component by component, without a program. -/
import Derived.Test.YtkdjdhflhlbelaaK7
set_option linter.unusedVariables false
set_option linter.unusedSimpArgs false
namespace Go.Proofs.Ytkdjdhflhlbelaa
open Go Go.RowKit Tj
def passD (S : SysD) (c : List Nat) (vs : List Nat) : List Nat := c.foldl (fun v n => v.set n (rightD S v n)) vs
def passK (S : SysD) (c : List Nat) (vs : List Nat) (k : Nat) : List Nat := passD S (c.take k) vs
theorem passK_zero (S : SysD) (c vs : List Nat) : passK S c vs 0 = vs := by simp [passK, passD]
theorem passK_succ {S : SysD} {c vs : List Nat} {k : Nat} (hk : k < c.length) : passK S c vs (k + 1) = (passK S c vs k).set c[k] (rightD S (passK S c vs k) c[k]) := by
 unfold passK passD
 rw [List.take_succ_eq_append_getElem hk, List.foldl_append]
 rfl
theorem passK_all (S : SysD) (c vs : List Nat) : passK S c vs c.length = passD S c vs := by unfold passK; rw [List.take_length]
theorem row_set {vs : List Nat} {n i v : Nat} (hn : n < vs.length) : rowD (vs.set n v) i = if i = n then v else rowD vs i := by
 unfold rowD
 rw [List.getElem?_set]
 by_cases e : n = i
 ·subst e; simp [hn]
 ·rw [if_neg e, if_neg (fun e2 => e e2.symm)]
/-- every value is contained in its right side -/
def UpV (S : SysD) (vs : List Nat) : Prop := ∀ i, i < S.deps.length → LeB (rowD vs i) (rightD S vs i)
structure PassOk (S : SysD) (vs us : List Nat) : Prop where
 good : GoodV S us
 le : LeV S vs us
 up : UpV S us
section
variable {S : SysD} {vs us c : List Nat}
theorem step_ok (hS : SysOk S) (hv : GoodV S vs) (hu : UpV S vs) {n : Nat} (hn : n < S.deps.length) : PassOk S vs (vs.set n (rightD S vs n)) := by
 have hnl : n < vs.length := by rw [hv.len]; exact hn
 have hg : GoodV S (vs.set n (rightD S vs n)) := ⟨by rw [List.length_set]; exact hv.len, fun m hm => by
  rcases List.mem_or_eq_of_mem_set hm with h | h
  ·exact hv.lt m h
  ·rw [h]; exact rightD_lt hS hv n⟩
 have hle : LeV S vs (vs.set n (rightD S vs n)) := fun i hi => by
  rw [row_set hnl]
  split
  ·rename_i e; rw [e]; exact hu n hn
  ·exact LeB.refl _
 refine ⟨hg, hle, fun i hi => ?_⟩
 rw [row_set hnl]
 split
 ·rename_i e; rw [e]; exact right_mono hS hv hle n
 ·exact (hu i hi).trans (right_mono hS hv hle i)
theorem pass_ok (hS : SysOk S) (hv : GoodV S vs) (hu : UpV S vs) (hc : ∀ n ∈ c, n < S.deps.length) : ∀ k, k ≤ c.length → PassOk S vs (passK S c vs k)
 | 0, _ => by rw [passK_zero]; exact ⟨hv, LeV.refl S vs, hu⟩
 | k + 1, hk => by
  have h := pass_ok hS hv hu hc k (by omega)
  rw [passK_succ (by omega)]
  have h2 := step_ok hS h.good h.up (hc c[k] (List.getElem_mem _))
  exact ⟨h2.good, h.le.trans h2.le, h2.up⟩
theorem pass_all (hS : SysOk S) (hv : GoodV S vs) (hu : UpV S vs) (hc : ∀ n ∈ c, n < S.deps.length) : PassOk S vs (passD S c vs) := by
 rw [← passK_all]; exact pass_ok hS hv hu hc _ (Nat.le_refl _)
/-- what has changed stays changed -/
theorem pass_keep (hS : SysOk S) (hv : GoodV S vs) (hu : UpV S vs) (hc : ∀ n ∈ c, n < S.deps.length) {k : Nat} (hk : k < c.length) (h : passK S c vs k ≠ vs) : passK S c vs (k + 1) ≠ vs := fun e => h (by
 have h1 := pass_ok hS hv hu hc k (by omega)
 have h2 := step_ok hS h1.good h1.up (hc c[k] (List.getElem_mem hk))
 rw [← passK_succ hk, e] at h2
 exact LeV.anti h1.good hv h2.le h1.le)
theorem pass_same (hv : GoodV S vs) {k : Nat} (hk : k < c.length) (hc : c[k] < S.deps.length) (h : passK S c vs k = vs) : passK S c vs (k + 1) = vs ↔ rightD S vs c[k] = rowD vs c[k] := by
 rw [passK_succ hk, h]
 have hl : c[k] < vs.length := by rw [hv.len]; exact hc
 constructor
 ·intro e
  have e2 := congrArg (fun l => rowD l c[k]) e
  simp only [row_set hl, if_pos] at e2
  exact e2
 ·intro e
  rw [e, rowD_get hl]
  simp
end
def onceB (S : SysD) (c : List Nat) : Bool := (c.length == 1) && !(depD S (c.headD 0)).contains (c.headD 0)
def iterP (S : SysD) (c : List Nat) (vs : List Nat) : Nat → List Nat
 | 0 => vs
 | r + 1 => passD S c (iterP S c vs r)
/-- a component is solved by q passes -/
structure CompRun (S : SysD) (c : List Nat) (vs vs' : List Nat) (q : Nat) : Prop where
 res : vs' = iterP S c vs q
 pos : 1 ≤ q
 one : onceB S c = true → q = 1
 stop : onceB S c = false → passD S c (iterP S c vs (q - 1)) = iterP S c vs (q - 1)
 go : onceB S c = false → ∀ r, r < q - 1 → passD S c (iterP S c vs r) ≠ iterP S c vs r
theorem CompRun.uniq {S : SysD} {c vs vs' vs'' : List Nat} {q q' : Nat} (h : CompRun S c vs vs' q) (k : CompRun S c vs vs'' q') : vs' = vs'' ∧ q = q' := by
 have e : q = q' := by
  cases ho : onceB S c with
  | true => rw [h.one ho, k.one ho]
  | false =>
   have h1 := h.pos
   have h2 := k.pos
   rcases Nat.lt_trichotomy (q - 1) (q' - 1) with e | e | e
   ·exact absurd (h.stop ho) (k.go ho _ e)
   ·omega
   ·exact absurd (k.stop ho) (h.go ho _ e)
 subst e
 exact ⟨h.res.trans k.res.symm, rfl⟩
inductive SRun (S : SysD) (L : List (List Nat)) : Nat → List Nat → Nat → Prop
 | zero : SRun S L 0 (zerosD S) 0
 | succ {i : Nat} {vs vs' : List Nat} {n q : Nat} (h : SRun S L i vs n) (hi : i < L.length) (hc : CompRun S L[i] vs vs' q) : SRun S L (i + 1) vs' (n + q * L[i].length)
theorem SRun.uniq {S : SysD} {L : List (List Nat)} {i : Nat} {vs : List Nat} {n : Nat} (h : SRun S L i vs n) : ∀ {vs' : List Nat} {n' : Nat}, SRun S L i vs' n' → vs = vs' ∧ n = n' := by
 induction h with
 | zero => intro vs' n' k; cases k; exact ⟨rfl, rfl⟩
 | succ h hi hc ih =>
  intro vs' n' k
  cases k with
  | succ h' hi' hc' =>
   obtain ⟨rfl, rfl⟩ := ih h'
   obtain ⟨rfl, rfl⟩ := hc.uniq hc'
   exact ⟨rfl, rfl⟩
theorem up_zeros (S : SysD) : UpV S (zerosD S) := fun i hi => by
 rw [show rowD (zerosD S) i = 0 from by simp [rowD, zerosD, hi]]
 exact LeB.zero _
section
variable {S : SysD} {vs us c : List Nat}
theorem iterP_ok (hS : SysOk S) (hv : GoodV S vs) (hu : UpV S vs) (hc : ∀ n ∈ c, n < S.deps.length) : ∀ r, PassOk S vs (iterP S c vs r)
 | 0 => ⟨hv, LeV.refl S vs, hu⟩
 | r + 1 => by
  have h := iterP_ok hS hv hu hc r
  have h2 := pass_all hS h.good h.up hc
  exact ⟨h2.good, h.le.trans h2.le, h2.up⟩
end
end Go.Proofs.Ytkdjdhflhlbelaa

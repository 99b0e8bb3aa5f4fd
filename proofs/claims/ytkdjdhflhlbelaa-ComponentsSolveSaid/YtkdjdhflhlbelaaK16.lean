/- Solving by components gives the least solution; how many evaluations. -/
import Derived.Test.YtkdjdhflhlbelaaK14
set_option linter.unusedVariables false
set_option linter.unusedSimpArgs false
namespace Go.Proofs.Ytkdjdhflhlbelaa
open Go Go.RowKit Tj
section
variable {S : SysD} {vs us F c : List Nat}
theorem right_congr {n : Nat} (h : ∀ d ∈ depD S n, rowD vs d = rowD us d) : rightD S vs n = rightD S us n := by
 refine Nat.eq_of_testBit_eq (fun b => Bool.eq_iff_iff.2 ?_)
 rw [right_bit, right_bit]
 constructor
 ·rintro (h1 | ⟨m, h1, h2⟩)
  ·exact .inl h1
  ·exact .inr ⟨m, h1, by rw [← h m h1]; exact h2⟩
 ·rintro (h1 | ⟨m, h1, h2⟩)
  ·exact .inl h1
  ·exact .inr ⟨m, h1, by rw [h m h1]; exact h2⟩
theorem next_row {i : Nat} (hi : i < S.deps.length) : rowD (nextD S vs) i = rightD S vs i := nextTo_row hi
/-- a pass stays below what is above its own right sides -/
theorem passK_le (hS : SysOk S) (hv : GoodV S vs) (hu : UpV S vs) (hc : ∀ n ∈ c, n < S.deps.length) (hF : ∀ i, i < S.deps.length → LeB (rightD S F i) (rowD F i)) (hle : LeV S vs F) : ∀ k, k ≤ c.length → LeV S (passK S c vs k) F
 | 0, _ => by rw [passK_zero]; exact hle
 | k + 1, hk => by
  have h := passK_le hS hv hu hc hF hle k (by omega)
  have hp := pass_ok hS hv hu hc k (by omega)
  rw [passK_succ (by omega)]
  have hcn := hc c[k] (List.getElem_mem _)
  intro i hi
  rw [row_set (by rw [hp.good.len]; exact hcn)]
  split
  ·rename_i e
   rw [e]
   exact (right_mono hS hp.good h c[k]).trans (hF c[k] hcn)
  ·exact h i hi
theorem passK_row (hv : vs.length = S.deps.length) (hc : ∀ n ∈ c, n < S.deps.length) {x : Nat} (hx : x ∉ c) : ∀ k, k ≤ c.length → rowD (passK S c vs k) x = rowD vs x ∧ (passK S c vs k).length = S.deps.length
 | 0, _ => by rw [passK_zero]; exact ⟨rfl, hv⟩
 | k + 1, hk => by
  obtain ⟨h1, h2⟩ := passK_row hv hc hx k (by omega)
  have hcn := hc c[k] (List.getElem_mem _)
  rw [passK_succ (by omega), List.length_set, row_set (by rw [h2]; exact hcn), if_neg (fun e => hx (by rw [e]; exact List.getElem_mem _))]
  exact ⟨h1, h2⟩
theorem iterP_row (hv : vs.length = S.deps.length) (hc : ∀ n ∈ c, n < S.deps.length) {x : Nat} (hx : x ∉ c) : ∀ r, rowD (iterP S c vs r) x = rowD vs x ∧ (iterP S c vs r).length = S.deps.length
 | 0 => ⟨rfl, hv⟩
 | r + 1 => by
  obtain ⟨h1, h2⟩ := iterP_row hv hc hx r
  have h3 := passK_row (S := S) (vs := iterP S c vs r) h2 hc hx c.length (Nat.le_refl _)
  rw [passK_all] at h3
  exact ⟨h3.1.trans h1, h3.2⟩
theorem iterP_le (hS : SysOk S) (hv : GoodV S vs) (hu : UpV S vs) (hc : ∀ n ∈ c, n < S.deps.length) (hF : ∀ i, i < S.deps.length → LeB (rightD S F i) (rowD F i)) (hle : LeV S vs F) : ∀ r, LeV S (iterP S c vs r) F
 | 0 => hle
 | r + 1 => by
  have h := iterP_le hS hv hu hc hF hle r
  have hp := iterP_ok hS hv hu hc r
  have h2 := passK_le hS hp.good hp.up hc hF h c.length (Nat.le_refl _)
  rw [passK_all] at h2
  exact h2
/-- where a pass changes nothing, every value of the component is its right side -/
theorem pass_fix (hS : SysOk S) (hv : GoodV S vs) (hu : UpV S vs) (hc : ∀ n ∈ c, n < S.deps.length) (h : passD S c vs = vs) : ∀ x ∈ c, rightD S vs x = rowD vs x := by
 have key : ∀ j k, j + k = c.length → passK S c vs k = vs := fun j => by
  induction j with
  | zero =>
   intro k hk
   rw [show k = c.length by omega, passK_all]; exact h
  | succ j ih =>
   intro k hk
   have h1 := ih (k + 1) (by omega)
   exact Classical.byContradiction fun e => pass_keep hS hv hu hc (by omega) e h1
 intro x hx
 obtain ⟨k, hk, rfl⟩ := List.getElem_of_mem hx
 have h1 := key (c.length - k) k (by omega)
 have h2 := key (c.length - (k + 1)) (k + 1) (by omega)
 exact (pass_same hv hk (hc _ hx) h1).1 h2
end
/-- what holds when i components are solved -/
structure SolI (S : SysD) (L : List (List Nat)) (F : List Nat) (i : Nat) (vs : List Nat) (n : Nat) : Prop where
 good : GoodV S vs
 up : UpV S vs
 le : LeV S vs F
 fix : ∀ x ∈ (L.take i).flatten, rightD S vs x = rowD vs x
 num : (L.take i).flatten.length ≤ n
 one : (∀ c ∈ L, onceB S c = true) → n = (L.take i).flatten.length
theorem solI {S : SysD} {g : Nat → Nat} {R i n : Nat} {vs F : List Nat} (hS : SysOk S) (hF : ∀ i, i < S.deps.length → LeB (rightD S F i) (rowD F i)) (h : SRun S (ordS S g R).2 i vs n) : SolI S (ordS S g R).2 F i vs n := by
 have hI := ordI (g := g) hS R
 have hLT := ordS_lt S g R
 obtain ⟨L, hL⟩ : ∃ L, L = (ordS S g R).2 := ⟨_, rfl⟩
 rw [← hL] at h hI hLT ⊢
 induction h with
 | zero => exact ⟨good_zeros S, up_zeros S, zeros_le S F, fun x hx => by simp at hx, by simp, fun _ => by simp⟩
 | @succ i vs vs' n q h hi hc ih =>
  have hcN : ∀ x ∈ L[i], x < S.deps.length := hLT _ (List.getElem_mem hi)
  have hsuc : (L.take (i + 1)).flatten = (L.take i).flatten ++ L[i] := by rw [List.take_succ_eq_append_getElem hi, List.flatten_append]; simp
  have hnd : ((L.take i).flatten ++ L[i]).Pairwise (· ≠ ·) := by
   have h1 := hI.nodup
   have h2 : L.flatten = (L.take (i + 1)).flatten ++ (L.drop (i + 1)).flatten := by rw [← List.flatten_append, List.take_append_drop]
   rw [h2, hsuc, List.pairwise_append] at h1
   exact h1.1
  rw [List.pairwise_append] at hnd
  have hdis : ∀ x ∈ (L.take i).flatten, x ∉ L[i] := fun x hx hx2 => hnd.2.2 x hx x hx2 rfl
  have hp := iterP_ok hS ih.good ih.up hcN q
  have hrow : ∀ x, x ∉ L[i] → rowD vs' x = rowD vs x := fun x hx => by rw [hc.res]; exact (iterP_row ih.good.len hcN hx q).1
  have hq := hc.pos
  have hqn : L[i].length ≤ q * L[i].length := by
   have := Nat.mul_le_mul hq (Nat.le_refl L[i].length)
   omega
  refine ⟨by rw [hc.res]; exact hp.good, by rw [hc.res]; exact hp.up, by rw [hc.res]; exact iterP_le hS ih.good ih.up hcN hF ih.le q, fun x hx => ?_, by rw [hsuc, List.length_append]; have := ih.num; omega, fun ho => by
   rw [hsuc, List.length_append, ih.one ho, hc.one (ho _ (List.getElem_mem hi)), Nat.one_mul]⟩
  rw [hsuc] at hx
  rcases List.mem_append.1 hx with hx | hx
  ·rw [hrow x (hdis x hx), ← ih.fix x hx]
   refine right_congr (fun d hd => hrow d (fun hdc => ?_))
   -- a dependency of an earlier one is earlier
   obtain ⟨l, hl, hxl⟩ := List.mem_flatten.1 hx
   obtain ⟨j, hj, rfl⟩ := List.getElem_of_mem hl
   have hj2 : j < i := by simp only [List.length_take] at hj; omega
   rw [List.getElem_take] at hxl
   have h1 := hI.top j (by omega) x hxl d hd
   refine hdis d ?_ hdc
   rcases h1 with h1 | h1
   ·obtain ⟨l2, hl2, hd2⟩ := List.mem_flatten.1 h1
    obtain ⟨k, hk, rfl⟩ := List.getElem_of_mem hl2
    rw [List.getElem_take] at hd2
    simp only [List.length_take] at hk
    exact List.mem_flatten.2 ⟨L[k], List.mem_iff_getElem.2 ⟨k, by simp only [List.length_take]; omega, List.getElem_take⟩, hd2⟩
   ·exact List.mem_flatten.2 ⟨L[j], List.mem_iff_getElem.2 ⟨j, by simp only [List.length_take]; omega, List.getElem_take⟩, h1⟩
  ·cases ho : onceB S L[i] with
   | true =>
    have hq1 := hc.one ho
    have hres := hc.res
    rw [hq1] at hres
    have hlen : L[i].length = 1 := by
     unfold onceB at ho
     simp only [Bool.and_eq_true, beq_iff_eq] at ho
     exact ho.1
    obtain ⟨x0, hx0⟩ : ∃ x0, L[i] = [x0] := List.length_eq_one_iff.1 hlen
    rw [hx0] at hx hres hcN ho
    obtain rfl : x = x0 := List.mem_singleton.1 hx
    have hxN := hcN x (List.mem_singleton_self _)
    have hself : x ∉ depD S x := by
     unfold onceB at ho
     simpa using ho
    have hv1 : vs' = vs.set x (rightD S vs x) := hres
    have hxl : x < vs.length := by rw [ih.good.len]; exact hxN
    rw [hv1, row_set hxl, if_pos rfl]
    exact right_congr (fun d hd => by rw [row_set hxl, if_neg (fun e => hself (by have h := hd; rw [e] at h; exact h))])
   | false =>
    have hst := hc.stop ho
    have hp1 := iterP_ok hS ih.good ih.up hcN (q - 1)
    have hv1 : vs' = iterP S L[i] vs (q - 1) := by
     rw [hc.res, ← hst]
     show iterP S L[i] vs q = iterP S L[i] vs (q - 1 + 1)
     rw [show q - 1 + 1 = q by omega]
    rw [hv1]
    exact pass_fix hS hp1.good hp1.up hcN hst x hx
theorem solve_least {S : SysD} {g : Nat → Nat} {R R' n : Nat} {vs : List Nat} (hS : SysOk S) (hg : GOk S g) (ho : OrdAt S g R) (hR : FixAt S R') (h : SRun S (ordS S g R).2 (ordS S g R).2.length vs n) : vs = iterD S R' ∧ S.deps.length ≤ n := by
 have hgI := good_iter hS R'
 have hF : ∀ i, i < S.deps.length → LeB (rightD S (iterD S R') i) (rowD (iterD S R') i) := fun i hi => by
  have h1 := congrArg (fun l => rowD l i) hR.fix
  rw [show iterD S (R' + 1) = nextD S (iterD S R') from rfl, next_row hi] at h1
  rw [h1]
  exact LeB.refl _
 have hI := solI hS hF h
 obtain ⟨h1, h2⟩ := ord_all hS hg ho
 have hfix := hI.fix
 have hnum := hI.num
 rw [List.take_length] at hfix hnum
 refine ⟨LeV.anti hI.good hgI hI.le (iter_least hS (fun i hi => ?_) R'), by omega⟩
 rw [next_row hi, hfix i (h2 i hi)]
 exact LeB.refl _
theorem sum_ge : ∀ {L : List (List Nat)}, (∀ c ∈ L, 1 ≤ c.length) → L.length ≤ L.flatten.length
 | [], _ => Nat.le_refl _
 | a :: L, h => by
  have h1 := h a (List.mem_cons_self ..)
  have h2 := sum_ge (L := L) (fun c hc => h c (List.mem_cons_of_mem _ hc))
  simp only [List.length_cons, List.flatten_cons, List.length_append]
  omega
theorem sum_one : ∀ {L : List (List Nat)}, (∀ c ∈ L, 1 ≤ c.length) → L.flatten.length ≤ L.length → ∀ c ∈ L, c.length = 1
 | [], _, _ => fun c hc => by cases hc
 | a :: L, h, he => fun c hc => by
  have h1 := h a (List.mem_cons_self ..)
  have h2 := sum_ge (L := L) (fun c hc => h c (List.mem_cons_of_mem _ hc))
  simp only [List.length_cons, List.flatten_cons, List.length_append] at he
  rcases List.mem_cons.1 hc with rfl | hc
  ·omega
  ·exact sum_one (L := L) (fun c hc => h c (List.mem_cons_of_mem _ hc)) (by omega) c hc
/-- without cycles each is evaluated once -/
theorem solve_once {S : SysD} {g : Nat → Nat} {R n : Nat} {vs : List Nat} (hS : SysOk S) (hg : GOk S g) (ho : OrdAt S g R) (h : SRun S (ordS S g R).2 (ordS S g R).2.length vs n) (hl : S.deps.length ≤ (ordS S g R).2.length) (hc : ∀ x, x < S.deps.length → x ∉ depD S x) : n = S.deps.length := by
 obtain ⟨R', hR, -⟩ := fix_ex hS
 have hF : ∀ i, i < S.deps.length → LeB (rightD S (iterD S R') i) (rowD (iterD S R') i) := fun i hi => by
  have h1 := congrArg (fun l => rowD l i) hR.fix
  rw [show iterD S (R' + 1) = nextD S (iterD S R') from rfl, next_row hi] at h1
  rw [h1]
  exact LeB.refl _
 have hI := solI hS hF h
 obtain ⟨h1, h2⟩ := ord_all hS hg ho
 have h3 := hI.one (fun c hcL => by
  have h4 := ordS_len S g R
  have h5 := sum_one (fun c hc => (h4 c hc).2) (by omega) c hcL
  obtain ⟨x0, rfl⟩ := List.length_eq_one_iff.1 h5
  have h6 := hc x0 (ordS_lt S g R _ hcL x0 (List.mem_singleton_self _))
  unfold onceB
  simp [h6])
 rw [List.take_length] at h3
 omega
end Go.Proofs.Ytkdjdhflhlbelaa


import Derived.Test.YtmddchceacmopaaGreatDoorFS
set_option linter.unusedVariables false
set_option linter.unusedSimpArgs false
namespace Go.Proofs.YtmddchceacmopaaGreatDoor
open Go Go.RowKit
structure WebD where
 w : Nat
 ins : List (List (Nat × TrD))
 bnd : List Nat
def froms (l : List (Nat × TrD)) : List Nat := l.map Prod.fst
structure WebOk (S : WebD) : Prop where
 w : S.w ≤ 256
 n1 : 1 ≤ S.ins.length
 n2 : S.ins.length ≤ 256
 lb : S.bnd.length = S.ins.length
 asc : ∀ l ∈ S.ins, (froms l).Pairwise (· < ·)
 lt : ∀ l ∈ S.ins, ∀ p ∈ l, p.1 < S.ins.length
 tot : (S.ins.map List.length).sum ≤ 1024
 trs : ∀ l ∈ S.ins, ∀ p ∈ l, TrOk p.2 ∧ p.2.w = S.w
 bnd : ∀ m ∈ S.bnd, m < 2 ^ S.w
def arcW (S : WebD) (i : Nat) : List (Nat × TrD) := (S.ins[i]?).getD []
section
variable {S : WebD}
theorem arcW_get {i : Nat} (hi : i < S.ins.length) : arcW S i = S.ins[i] := by simp [arcW, hi]
theorem arcW_mem {i : Nat} {p : Nat × TrD} (hp : p ∈ arcW S i) : ∃ h : i < S.ins.length, p ∈ S.ins[i] := by
 unfold arcW at hp
 rcases Nat.lt_or_ge i S.ins.length with h | h
 ·refine ⟨h, ?_⟩
  rw [List.getElem?_eq_getElem h] at hp
  exact hp
 rw [List.getElem?_eq_none h] at hp
 cases hp
theorem WebOk.tr (h : WebOk S) {i : Nat} {p : Nat × TrD} (hp : p ∈ arcW S i) : TrOk p.2 ∧ p.2.w = S.w := by
 obtain ⟨hi, hp⟩ := arcW_mem hp
 exact h.trs _ (List.getElem_mem hi) _ hp
theorem WebOk.dep (h : WebOk S) {i : Nat} {p : Nat × TrD} (hp : p ∈ arcW S i) : p.1 < S.ins.length := by
 obtain ⟨hi, hp⟩ := arcW_mem hp
 exact h.lt _ (List.getElem_mem hi) _ hp
theorem WebOk.bn (h : WebOk S) (i : Nat) : rowD S.bnd i < 2 ^ S.w := by
 unfold rowD
 cases e : S.bnd[i]? with
 | none => exact Nat.two_pow_pos _
 | some m => exact h.bnd m (List.mem_of_getElem? e)
end
def stepW (vs : List Nat) (out : Nat) (m : Nat × TrD) : Nat := orN out (applyT m.2 (rowD vs m.1))
def rightKW (S : WebD) (vs : List Nat) (i k : Nat) : Nat := ((arcW S i).take k).foldl (stepW vs) (rowD S.bnd i)
def rightW (S : WebD) (vs : List Nat) (i : Nat) : Nat := (arcW S i).foldl (stepW vs) (rowD S.bnd i)
def nextToW (S : WebD) (vs : List Nat) (k : Nat) : List Nat := (List.range k).map (rightW S vs)
def nextW (S : WebD) (vs : List Nat) : List Nat := nextToW S vs S.ins.length
structure GoodW (S : WebD) (vs : List Nat) : Prop where
 len : vs.length = S.ins.length
 lt : ∀ m ∈ vs, m < 2 ^ S.w
section
variable {S : WebD} {vs us : List Nat}
theorem rightKW_succ {i k : Nat} (hk : k < (arcW S i).length) : rightKW S vs i (k + 1) = orN (rightKW S vs i k) (applyT (arcW S i)[k].2 (rowD vs (arcW S i)[k].1)) := by
 unfold rightKW
 rw [List.take_succ_eq_append_getElem hk, List.foldl_append]
 rfl
theorem rightKW_all (S : WebD) (vs : List Nat) (i : Nat) : rightKW S vs i (arcW S i).length = rightW S vs i := by unfold rightKW; rw [List.take_length]; rfl
theorem nextToW_len (S : WebD) (vs : List Nat) (k : Nat) : (nextToW S vs k).length = k := by simp [nextToW]
theorem nextToW_row {k i : Nat} (hi : i < k) : rowD (nextToW S vs k) i = rightW S vs i := by
 rw [rowD_get (by rw [nextToW_len]; exact hi)]
 simp [nextToW]
theorem GoodW.row (h : GoodW S vs) (i : Nat) : rowD vs i < 2 ^ S.w := by
 unfold rowD
 cases e : vs[i]? with
 | none => exact Nat.two_pow_pos _
 | some m => exact h.lt m (List.mem_of_getElem? e)
theorem goodw_app (hS : WebOk S) (h : GoodW S vs) {i : Nat} {m : Nat × TrD} (hm : m ∈ arcW S i) : applyT m.2 (rowD vs m.1) < 2 ^ S.w := by
 obtain ⟨h1, h2⟩ := hS.tr hm
 have := app_lt h1 (s := rowD vs m.1) (by rw [h2]; exact h.row m.1)
 rw [h2] at this
 exact this
theorem rightKW_lt (hS : WebOk S) (h : GoodW S vs) (i : Nat) : ∀ k, k ≤ (arcW S i).length → rightKW S vs i k < 2 ^ S.w
 | 0, _ => hS.bn i
 | k + 1, hk => by
  rw [rightKW_succ (by omega)]
  exact orN_lt' (rightKW_lt hS h i k (by omega)) (goodw_app hS h (List.getElem_mem _))
theorem rightW_lt (hS : WebOk S) (h : GoodW S vs) (i : Nat) : rightW S vs i < 2 ^ S.w := by rw [← rightKW_all]; exact rightKW_lt hS h i _ (Nat.le_refl _)
theorem nextToW_lt (hS : WebOk S) (h : GoodW S vs) (k : Nat) : ∀ m ∈ nextToW S vs k, m < 2 ^ S.w := fun m hm => by
 obtain ⟨i, _, rfl⟩ := List.mem_map.1 hm
 exact rightW_lt hS h i
theorem goodw_next (hS : WebOk S) (h : GoodW S vs) : GoodW S (nextW S vs) := ⟨nextToW_len _ _ _, nextToW_lt hS h _⟩
theorem foldW_bit {l : List (Nat × TrD)} {a b : Nat} : (l.foldl (stepW vs) a).testBit b = true ↔ a.testBit b = true ∨ ∃ m ∈ l, (applyT m.2 (rowD vs m.1)).testBit b = true := by
 induction l generalizing a with
 | nil => simp
 | cons m l ih =>
  rw [List.foldl_cons, ih]
  unfold stepW
  rw [orN_bit]
  constructor
  ·rintro ((h | h) | ⟨x, h1, h2⟩)
   ·exact .inl h
   ·exact .inr ⟨m, List.mem_cons_self .., h⟩
   exact .inr ⟨x, List.mem_cons_of_mem _ h1, h2⟩
  rintro (h | ⟨x, h1, h2⟩)
  ·exact .inl (.inl h)
  rcases List.mem_cons.1 h1 with rfl | h1
  ·exact .inl (.inr h2)
  exact .inr ⟨x, h1, h2⟩
theorem rightW_bit (S : WebD) (vs : List Nat) (i b : Nat) : (rightW S vs i).testBit b = true ↔ (rowD S.bnd i).testBit b = true ∨ ∃ m ∈ arcW S i, (applyT m.2 (rowD vs m.1)).testBit b = true := foldW_bit
def LeW (S : WebD) (vs us : List Nat) : Prop := ∀ i, i < S.ins.length → LeB (rowD vs i) (rowD us i)
theorem LeW.refl (S : WebD) (vs : List Nat) : LeW S vs vs := fun _ _ => LeB.refl _
theorem LeW.trans {xs : List Nat} (h : LeW S vs us) (k : LeW S us xs) : LeW S vs xs := fun i hi => (h i hi).trans (k i hi)
theorem LeW.anti (hv : GoodW S vs) (hu : GoodW S us) (h : LeW S vs us) (k : LeW S us vs) : vs = us :=
 ext_row (by rw [hv.len, hu.len]) (fun i hi => LeB.anti (h i (by rw [← hv.len]; exact hi)) (k i (by rw [← hv.len]; exact hi)))
theorem rightW_mono (hS : WebOk S) (hv : GoodW S vs) (h : LeW S vs us) (i : Nat) : LeB (rightW S vs i) (rightW S us i) := fun b hb => by
 rcases (rightW_bit S vs i b).1 hb with h1 | ⟨m, h1, h2⟩
 ·exact (rightW_bit S us i b).2 (.inl h1)
 have hm := hS.dep h1
 obtain ⟨h3, h4⟩ := hS.tr h1
 exact (rightW_bit S us i b).2 (.inr ⟨m, h1, app_mono h3 (by rw [h4]; exact hv.row m.1) (h m.1 hm) b h2⟩)
theorem nextW_mono (hS : WebOk S) (hv : GoodW S vs) (h : LeW S vs us) : LeW S (nextW S vs) (nextW S us) := fun i hi => by
 unfold nextW
 rw [nextToW_row hi, nextToW_row hi]
 exact rightW_mono hS hv h i
end
def zerosW (S : WebD) : List Nat := List.replicate S.ins.length 0
def iterW (S : WebD) : Nat → List Nat
 | 0 => zerosW S
 | k + 1 => nextW S (iterW S k)
section
variable {S : WebD} {vs us : List Nat}
theorem goodw_zeros (S : WebD) : GoodW S (zerosW S) := ⟨by simp [zerosW], fun m hm => by
 rw [List.eq_of_mem_replicate hm]; exact Nat.two_pow_pos _⟩
theorem goodw_iter (hS : WebOk S) : ∀ k, GoodW S (iterW S k)
 | 0 => goodw_zeros S
 | k + 1 => goodw_next hS (goodw_iter hS k)
theorem zerosW_le (S : WebD) (vs : List Nat) : LeW S (zerosW S) vs := fun i hi => by
 rw [show rowD (zerosW S) i = 0 from by simp [rowD, zerosW, hi]]
 exact LeB.zero _
theorem iterW_up (hS : WebOk S) : ∀ k, LeW S (iterW S k) (iterW S (k + 1))
 | 0 => zerosW_le S _
 | k + 1 => nextW_mono hS (goodw_iter hS k) (iterW_up hS k)
theorem ltW_cnt (hv : GoodW S vs) (hu : GoodW S us) (h : LeW S vs us) (hne : vs ≠ us) : cntV vs S.w S.ins.length < cntV us S.w S.ins.length := by
 have h1 : ∃ j, j < S.ins.length ∧ rowD vs j ≠ rowD us j := Classical.byContradiction fun hn => hne (ext_row (by rw [hv.len, hu.len]) (fun i hi => Classical.byContradiction fun e => hn ⟨i, by rw [← hv.len]; exact hi, e⟩))
 obtain ⟨j, hj, hne2⟩ := h1
 have h2 : ∃ b, ¬ ((rowD us j).testBit b = true → (rowD vs j).testBit b = true) := Classical.byContradiction fun hn => hne2 (LeB.anti (h j hj) (fun b => Classical.byContradiction fun e => hn ⟨b, e⟩))
 obtain ⟨b, hb⟩ := h2
 have hb1 : (rowD us j).testBit b = true := Classical.byContradiction fun e => hb (fun e2 => absurd e2 e)
 have hb2 : (rowD vs j).testBit b = false := by
  cases e : (rowD vs j).testBit b with
  | false => rfl
  | true => exact absurd (fun _ => e) hb
 exact cntV_lt (lt_of_bit (hu.row j) hb1) hb2 hb1 _ hj h
theorem iterW_cnt (hS : WebOk S) : ∀ k, (∀ j, j < k → iterW S (j + 1) ≠ iterW S j) → k ≤ cntV (iterW S k) S.w S.ins.length
 | 0, _ => Nat.zero_le _
 | k + 1, h => by
  have h1 := iterW_cnt hS k (fun j hj => h j (by omega))
  have h2 := ltW_cnt (goodw_iter hS k) (goodw_iter hS (k + 1)) (iterW_up hS k) (fun e => h k (by omega) e.symm)
  omega
structure FixW (S : WebD) (R : Nat) : Prop where
 fix : iterW S (R + 1) = iterW S R
 first : ∀ j, j < R → iterW S (j + 1) ≠ iterW S j
theorem fixW_ex (hS : WebOk S) : ∃ R, FixW S R ∧ R ≤ S.ins.length * S.w := by
 have h1 : ∃ k, k ≤ S.ins.length * S.w ∧ iterW S (k + 1) = iterW S k := Classical.byContradiction fun hn => by
  have h2 := iterW_cnt hS (S.ins.length * S.w + 1) (fun j hj e => hn ⟨j, by omega, e⟩)
  have h3 := cntV_le (iterW S (S.ins.length * S.w + 1)) S.w S.ins.length
  omega
 obtain ⟨k, hk, he⟩ := h1
 obtain ⟨R, hR, h2, h3⟩ := first_ex (p := fun k => iterW S (k + 1) = iterW S k) k he
 exact ⟨R, ⟨h2, h3⟩, by omega⟩
theorem FixW.le {R k : Nat} (h : FixW S R) (hk : ∀ j, j < k → iterW S (j + 1) ≠ iterW S j) : k ≤ R := Classical.byContradiction fun e => hk R (by omega) h.fix
theorem FixW.eq {R k : Nat} (h : FixW S R) (hk : ∀ j, j < k → iterW S (j + 1) ≠ iterW S j) (hf : iterW S (k + 1) = iterW S k) : k = R := by
 have h1 := h.le hk
 rcases Nat.lt_or_ge k R with h2 | h2
 ·exact absurd hf (h.first k h2)
 omega
theorem iterW_least (hS : WebOk S) (h : LeW S (nextW S vs) vs) : ∀ k, LeW S (iterW S k) vs
 | 0 => zerosW_le S vs
 | k + 1 => (nextW_mono hS (goodw_iter hS k) (iterW_least hS h k)).trans h
end
end Go.Proofs.YtmddchceacmopaaGreatDoor

namespace Go.Proofs.YtmddchceacmopaaGreatDoor
open Go Go.RowKit
abbrev ArcsL := List (Nat × TrD)
def ixA (l : ArcsL) (n : Nat) : Nat := l.findIdx (fun p => p.1 == n)
theorem ixA_from {l : ArcsL} {n : Nat} (h : ixA l n < l.length) : l[ixA l n].1 = n := by
 have := List.findIdx_getElem (p := fun p : Nat × TrD => p.1 == n) (w := h)
 exact eq_of_beq this
theorem ixA_none {l : ArcsL} {n : Nat} (h : ¬ ixA l n < l.length) : ∀ p ∈ l, p.1 ≠ n := fun p hp e => by
 refine h ?_
 unfold ixA
 rw [List.findIdx_lt_length]
 exact ⟨p, hp, by simpa using e⟩
theorem ixA_not {l : ArcsL} {n j : Nat} (h : j < ixA l n) (hj : j < l.length) : l[j].1 ≠ n := by
 have := List.not_of_lt_findIdx (p := fun p : Nat × TrD => p.1 == n) (xs := l) (i := j) h
 simpa using this
def insA (l : ArcsL) (a : Nat × TrD) : ArcsL := l.takeWhile (fun p => p.1 < a.1) ++ a :: l.dropWhile (fun p => p.1 < a.1)
def putA (l : ArcsL) (a : Nat × TrD) : ArcsL := if h : ixA l a.1 < l.length then l.set (ixA l a.1) (a.1, joinT l[ixA l a.1].2 a.2) else insA l a
def resS (S : WebD) (n : Nat) (s : TrD) : WebD := ⟨S.w, S.ins.set n (((arcW S n).eraseIdx (ixA (arcW S n) n)).map fun p => (p.1, compT p.2 s)), S.bnd.set n (applyT s (rowD S.bnd n))⟩
def resolveW (S : WebD) (n : Nat) : WebD := if h : ixA (arcW S n) n < (arcW S n).length then resS S n (starT (arcW S n)[ixA (arcW S n) n].2) else S
def elimRow (rn : ArcsL) (h : TrD) (l : ArcsL) : ArcsL := rn.foldl (fun l p => putA l (p.1, compT p.2 h)) l
def elimIns (R : WebD) (n t : Nat) : ArcsL := if h : t ≠ n ∧ ixA (arcW R t) n < (arcW R t).length then elimRow (arcW R n) (arcW R t)[ixA (arcW R t) n].2 ((arcW R t).eraseIdx (ixA (arcW R t) n)) else arcW R t
def elimBnd (R : WebD) (n t : Nat) : Nat := if h : t ≠ n ∧ ixA (arcW R t) n < (arcW R t).length then orN (rowD R.bnd t) (applyT (arcW R t)[ixA (arcW R t) n].2 (rowD R.bnd n)) else rowD R.bnd t
def elimF (R : WebD) (n : Nat) : WebD := ⟨R.w, (List.range R.ins.length).map (elimIns R n), (List.range R.ins.length).map (elimBnd R n)⟩
def elimW (S : WebD) (n : Nat) : WebD := elimF (resolveW S n) n
structure RowOkA (w n : Nat) (l : ArcsL) : Prop where
 asc : (froms l).Pairwise (· < ·)
 lt : ∀ p ∈ l, p.1 < n
 trs : ∀ p ∈ l, TrOk p.2 ∧ p.2.w = w
theorem ascE_len {n : Nat} : ∀ (l : List Nat) (m : Nat), l.Pairwise (· < ·) → (∀ x ∈ l, m ≤ x ∧ x < n) → l.length ≤ n - m
 | [], _, _, _ => Nat.zero_le _
 | x :: l, m, h, hb => by
  have h1 := List.pairwise_cons.1 h
  have h2 := hb x (List.mem_cons_self ..)
  have h3 := ascE_len l (x + 1) h1.2 (fun y hy => ⟨h1.1 y hy, (hb y (List.mem_cons_of_mem _ hy)).2⟩)
  rw [List.length_cons]; omega
theorem RowOkA.len {w n : Nat} {l : ArcsL} (h : RowOkA w n l) : l.length ≤ n := by
 have := ascE_len (n := n) (froms l) 0 h.asc (fun x hx => by
  obtain ⟨p, hp, rfl⟩ := List.mem_map.1 hx
  exact ⟨Nat.zero_le _, h.lt p hp⟩)
 simpa [froms] using this
theorem comp_ok {w : Nat} {f g : TrD} (h8 : w ≤ 8) (hf : TrOk f ∧ f.w = w) (hg : TrOk g ∧ g.w = w) : TrOk (compT f g) ∧ (compT f g).w = w := by
 obtain ⟨hf, e1⟩ := hf
 obtain ⟨hg, e2⟩ := hg
 have hgen : applyT g f.gen < 2 ^ f.w := by
  have := app_lt hg (s := f.gen) (by rw [e2, ← e1]; exact hf.gen)
  rw [e2, ← e1] at this
  exact this
 exact ⟨closeT_ok (by omega) hgen (Nat.le_trans (copTo_len _ _ _ _) (show _ * _ ≤ 8 * 8 from Nat.mul_le_mul (by omega) (by omega))), e1⟩
theorem join_ok {w : Nat} {f g : TrD} (h8 : w ≤ 8) (hf : TrOk f ∧ f.w = w) (hg : TrOk g ∧ g.w = w) : TrOk (joinT f g) ∧ (joinT f g).w = w := by
 obtain ⟨hf, e1⟩ := hf
 obtain ⟨hg, e2⟩ := hg
 exact ⟨closeT_ok (by omega) (orN_lt' hf.gen (by rw [e1, ← e2]; exact hg.gen)) (Nat.le_trans (copTo_len _ _ _ _) (show _ * _ ≤ 8 * 8 from Nat.mul_le_mul (by omega) (by omega))), e1⟩
theorem star_ok {w : Nat} {f : TrD} (h8 : w ≤ 8) (hf : TrOk f ∧ f.w = w) : TrOk (starT f) ∧ (starT f).w = w := by
 obtain ⟨hf, e1⟩ := hf
 exact ⟨closeT_ok (by omega) ((clos_any (rows_lt hf) hf.gen).lt) (Nat.le_trans (copTo_len _ _ _ _) (show _ * _ ≤ 8 * 8 from Nat.mul_le_mul (by omega) (by omega))), e1⟩
theorem comp_val {w : Nat} {f g : TrD} (h8 : w ≤ 8) (hf : TrOk f ∧ f.w = w) (hg : TrOk g ∧ g.w = w) {s : Nat} (hs : s < 2 ^ w) : applyT (compT f g) s = applyT g (applyT f s) :=
 mean_compose hf.1 hg.1 (by rw [hf.2, hg.2]) (by rw [hf.2]; exact hs) (comp_ok h8 hf hg).1
theorem join_val {w : Nat} {f g : TrD} (h8 : w ≤ 8) (hf : TrOk f ∧ f.w = w) (hg : TrOk g ∧ g.w = w) {s : Nat} (hs : s < 2 ^ w) : applyT (joinT f g) s = orN (applyT f s) (applyT g s) :=
 mean_join hf.1 hg.1 (by rw [hf.2, hg.2]) (by rw [hf.2]; exact hs) (join_ok h8 hf hg).1
theorem mem_erase {α : Type} {l : List α} {i : Nat} (hi : i < l.length) {p : α} : p ∈ l ↔ p ∈ l.eraseIdx i ∨ p = l[i] := by
 constructor
 ·intro h
  obtain ⟨j, hj, rfl⟩ := List.getElem_of_mem h
  by_cases e : j = i
  ·exact .inr (by simp [e])
  exact .inl (List.mem_eraseIdx_iff_getElem.2 ⟨j, hj, e, rfl⟩)
 rintro (h | rfl)
 ·exact List.mem_of_mem_eraseIdx h
 exact List.getElem_mem hi
theorem RowOkA.erase {w n i : Nat} {l : ArcsL} (h : RowOkA w n l) : RowOkA w n (l.eraseIdx i) :=
 ⟨h.asc.sublist ((List.eraseIdx_sublist l i).map _), fun p hp => h.lt p (List.mem_of_mem_eraseIdx hp), fun p hp => h.trs p (List.mem_of_mem_eraseIdx hp)⟩
theorem pair_get {l : ArcsL} (h : (froms l).Pairwise (· < ·)) {i j : Nat} (hi : i < l.length) (hj : j < l.length) (hij : i < j) : l[i].1 < l[j].1 := by
 have := List.pairwise_iff_getElem.1 h i j (by simpa [froms] using hi) (by simpa [froms] using hj) hij
 simpa [froms] using this
theorem erase_no {l : ArcsL} {n : Nat} (h : (froms l).Pairwise (· < ·)) (hi : ixA l n < l.length) : ∀ p ∈ l.eraseIdx (ixA l n), p.1 ≠ n := fun p hp => by
 obtain ⟨j, hj, hne, rfl⟩ := List.mem_eraseIdx_iff_getElem.1 hp
 have h1 := ixA_from hi
 rcases Nat.lt_or_gt_of_ne hne with h2 | h2
 ·have := pair_get h hj hi h2; omega
 have := pair_get h hi hj h2; omega
theorem RowOkA.mapC {w n : Nat} {l : ArcsL} {s : TrD} (h8 : w ≤ 8) (h : RowOkA w n l) (hs : TrOk s ∧ s.w = w) : RowOkA w n (l.map fun p => (p.1, compT p.2 s)) := by
 refine ⟨?_, fun p hp => ?_, fun p hp => ?_⟩
 ·have e : froms (l.map fun p => (p.1, compT p.2 s)) = froms l := by simp [froms, List.map_map, Function.comp_def]
  rw [e]; exact h.asc
 ·obtain ⟨q, hq, rfl⟩ := List.mem_map.1 hp
  exact h.lt q hq
 obtain ⟨q, hq, rfl⟩ := List.mem_map.1 hp
 exact comp_ok h8 (h.trs q hq) hs
theorem asc_take {l : ArcsL} {x : Nat} : ∀ p ∈ l.takeWhile (fun p => p.1 < x), p.1 < x := fun p hp => by
 have := List.all_eq_true.1 (List.all_takeWhile (p := fun p : Nat × TrD => decide (p.1 < x)) (l := l)) p hp
 simpa using this
theorem asc_drop : ∀ {l : ArcsL} {x : Nat}, (froms l).Pairwise (· < ·) → (∀ p ∈ l, p.1 ≠ x) → ∀ p ∈ l.dropWhile (fun p => p.1 < x), x < p.1
 | [], _, _, _, p, hp => by cases hp
 | q :: l, x, h, hn, p, hp => by
  have h1 : (∀ y ∈ froms l, q.1 < y) ∧ (froms l).Pairwise (· < ·) := List.pairwise_cons.1 h
  by_cases e : q.1 < x
  ·rw [List.dropWhile_cons_of_pos (by simpa using e)] at hp
   exact asc_drop h1.2 (fun p hp => hn p (List.mem_cons_of_mem _ hp)) p hp
  rw [List.dropWhile_cons_of_neg (by simpa using e)] at hp
  have h2 := hn q (List.mem_cons_self ..)
  rcases List.mem_cons.1 hp with rfl | hp
  ·omega
  have := h1.1 p.1 (List.mem_map.2 ⟨p, hp, rfl⟩)
  omega
theorem RowOkA.ins {w n : Nat} {l : ArcsL} {a : Nat × TrD} (h : RowOkA w n l) (ha : a.1 < n) (hs : TrOk a.2 ∧ a.2.w = w) (hn : ∀ p ∈ l, p.1 ≠ a.1) : RowOkA w n (insA l a) := by
 have hmem : ∀ p ∈ insA l a, p = a ∨ p ∈ l := fun p hp => by
  rcases List.mem_append.1 hp with hp | hp
  ·exact .inr (List.takeWhile_sublist _ |>.subset hp)
  rcases List.mem_cons.1 hp with hp | hp
  ·exact .inl hp
  exact .inr (List.dropWhile_sublist _ |>.subset hp)
 refine ⟨?_, fun p hp => ?_, fun p hp => ?_⟩
 ·unfold insA froms
  rw [List.map_append, List.map_cons, List.pairwise_append, List.pairwise_cons]
  refine ⟨h.asc.sublist ((List.takeWhile_sublist _).map _), ⟨fun y hy => ?_, h.asc.sublist ((List.dropWhile_sublist _).map _)⟩, fun x hx y hy => ?_⟩
  ·obtain ⟨q, hq, rfl⟩ := List.mem_map.1 hy
   exact asc_drop h.asc hn q hq
  obtain ⟨p, hp, rfl⟩ := List.mem_map.1 hx
  have h1 := asc_take p hp
  rcases List.mem_cons.1 hy with rfl | hy
  ·exact h1
  obtain ⟨q, hq, rfl⟩ := List.mem_map.1 hy
  have := asc_drop h.asc hn q hq
  omega
 ·rcases hmem p hp with rfl | hp
  ·exact ha
  exact h.lt p hp
 rcases hmem p hp with rfl | hp
 ·exact hs
 exact h.trs p hp
theorem RowOkA.put {w n : Nat} {l : ArcsL} {a : Nat × TrD} (h8 : w ≤ 8) (h : RowOkA w n l) (ha : a.1 < n) (hs : TrOk a.2 ∧ a.2.w = w) : RowOkA w n (putA l a) := by
 unfold putA
 split
 ·rename_i hi
  have hf := ixA_from hi
  refine ⟨?_, fun p hp => ?_, fun p hp => ?_⟩
  ·have e : froms (l.set (ixA l a.1) (a.1, joinT l[ixA l a.1].2 a.2)) = froms l := by
    unfold froms
    rw [List.map_set]
    refine List.ext_getElem (by simp) (fun j h1 h2 => ?_)
    rw [List.getElem_set]
    split
    ·rename_i e; subst e; simp [hf]
    rfl
   rw [e]; exact h.asc
  ·rcases List.mem_or_eq_of_mem_set hp with hp | rfl
   ·exact h.lt p hp
   exact ha
  rcases List.mem_or_eq_of_mem_set hp with hp | rfl
  ·exact h.trs p hp
  exact join_ok h8 (h.trs _ (List.getElem_mem hi)) hs
 rename_i hi
 exact h.ins ha hs (ixA_none hi)
theorem put_from {l : ArcsL} {a p : Nat × TrD} (h : p ∈ putA l a) : p.1 = a.1 ∨ ∃ q ∈ l, p.1 = q.1 := by
 unfold putA at h
 split at h
 ·rcases List.mem_or_eq_of_mem_set h with h | rfl
  ·exact .inr ⟨p, h, rfl⟩
  exact .inl rfl
 rcases List.mem_append.1 h with h | h
 ·exact .inr ⟨p, List.takeWhile_sublist _ |>.subset h, rfl⟩
 rcases List.mem_cons.1 h with rfl | h
 ·exact .inl rfl
 exact .inr ⟨p, List.dropWhile_sublist _ |>.subset h, rfl⟩
theorem elimRow_ok {w n : Nat} {h : TrD} (h8 : w ≤ 8) (hh : TrOk h ∧ h.w = w) : ∀ (rn l : ArcsL), RowOkA w n rn → RowOkA w n l → RowOkA w n (elimRow rn h l)
 | [], _, _, hl => hl
 | p :: rn, l, hr, hl => elimRow_ok h8 hh rn _ ⟨(List.pairwise_cons.1 hr.asc).2, fun q hq => hr.lt q (List.mem_cons_of_mem _ hq), fun q hq => hr.trs q (List.mem_cons_of_mem _ hq)⟩ (hl.put h8 (hr.lt p (List.mem_cons_self ..)) (comp_ok h8 (hr.trs p (List.mem_cons_self ..)) hh))
theorem elimRow_from {h : TrD} : ∀ (rn l : ArcsL) (p : Nat × TrD), p ∈ elimRow rn h l → (∃ q ∈ rn, p.1 = q.1) ∨ ∃ q ∈ l, p.1 = q.1
 | [], _, p, hp => .inr ⟨p, hp, rfl⟩
 | q :: rn, l, p, hp => by
  rcases elimRow_from rn _ p hp with ⟨r, h1, h2⟩ | ⟨r, h1, h2⟩
  ·exact .inl ⟨r, List.mem_cons_of_mem _ h1, h2⟩
  rcases put_from h1 with h3 | ⟨s, h3, h4⟩
  ·exact .inl ⟨q, List.mem_cons_self .., by rw [h2, h3]⟩
  exact .inr ⟨s, h3, by rw [h2, h4]⟩
def HasV (vs : List Nat) (l : ArcsL) (b : Nat) : Prop := ∃ p ∈ l, (applyT p.2 (rowD vs p.1)).testBit b = true
theorem put_val {w n b : Nat} {l : ArcsL} {a : Nat × TrD} {vs : List Nat} (h8 : w ≤ 8) (h : RowOkA w n l) (hs : TrOk a.2 ∧ a.2.w = w) (hv : ∀ i, rowD vs i < 2 ^ w) :
  HasV vs (putA l a) b ↔ HasV vs l b ∨ (applyT a.2 (rowD vs a.1)).testBit b = true := by
 unfold putA
 split
 ·rename_i hi
  have hf := ixA_from hi
  have hj := join_val h8 (h.trs _ (List.getElem_mem hi)) hs (hv a.1)
  constructor
  ·rintro ⟨p, hp, hb⟩
   rcases List.mem_or_eq_of_mem_set hp with hp | rfl
   ·exact .inl ⟨p, hp, hb⟩
   simp only at hb
   rw [hj] at hb
   rcases (orN_bit _ _ b).1 hb with hb | hb
   ·exact .inl ⟨_, List.getElem_mem hi, by rw [hf]; exact hb⟩
   exact .inr hb
  rintro (⟨p, hp, hb⟩ | hb)
  ·obtain ⟨j, hj2, rfl⟩ := List.getElem_of_mem hp
   by_cases e : ixA l a.1 = j
   ·refine ⟨(a.1, joinT l[ixA l a.1].2 a.2), List.mem_set hi _, ?_⟩
    simp only
    rw [hj]
    subst e
    rw [hf] at hb
    exact (orN_bit _ _ b).2 (.inl hb)
   exact ⟨l[j], List.mem_iff_getElem.2 ⟨j, by simpa using hj2, by rw [List.getElem_set_ne e]⟩, hb⟩
  refine ⟨(a.1, joinT l[ixA l a.1].2 a.2), List.mem_set hi _, ?_⟩
  simp only
  rw [hj]
  exact (orN_bit _ _ b).2 (.inr hb)
 constructor
 ·rintro ⟨p, hp, hb⟩
  rcases List.mem_append.1 hp with hp | hp
  ·exact .inl ⟨p, List.takeWhile_sublist _ |>.subset hp, hb⟩
  rcases List.mem_cons.1 hp with rfl | hp
  ·exact .inr hb
  exact .inl ⟨p, List.dropWhile_sublist _ |>.subset hp, hb⟩
 rintro (⟨p, hp, hb⟩ | hb)
 ·rw [← List.takeWhile_append_dropWhile (p := fun p : Nat × TrD => decide (p.1 < a.1)) (l := l)] at hp
  rcases List.mem_append.1 hp with hp | hp
  ·exact ⟨p, List.mem_append.2 (.inl hp), hb⟩
  exact ⟨p, List.mem_append.2 (.inr (List.mem_cons_of_mem _ hp)), hb⟩
 exact ⟨a, List.mem_append.2 (.inr (List.mem_cons_self ..)), hb⟩
theorem elimRow_val {w n b : Nat} {h : TrD} {vs : List Nat} (h8 : w ≤ 8) (hh : TrOk h ∧ h.w = w) (hv : ∀ i, rowD vs i < 2 ^ w) : ∀ (rn l : ArcsL), RowOkA w n rn → RowOkA w n l →
  (HasV vs (elimRow rn h l) b ↔ HasV vs l b ∨ ∃ p ∈ rn, (applyT h (applyT p.2 (rowD vs p.1))).testBit b = true)
 | [], _, _, _ => by simp [elimRow]
 | p :: rn, l, hr, hl => by
  have hr2 : RowOkA w n rn := ⟨(List.pairwise_cons.1 hr.asc).2, fun q hq => hr.lt q (List.mem_cons_of_mem _ hq), fun q hq => hr.trs q (List.mem_cons_of_mem _ hq)⟩
  have hp := hr.trs p (List.mem_cons_self ..)
  have hc := comp_ok h8 hp hh
  have h1 := elimRow_val (b := b) h8 hh hv rn _ hr2 (hl.put (a := (p.1, compT p.2 h)) h8 (hr.lt p (List.mem_cons_self ..)) hc)
  have h2 := put_val (b := b) (a := (p.1, compT p.2 h)) h8 hl hc hv
  show HasV vs (elimRow rn h (putA l (p.1, compT p.2 h))) b ↔ _
  rw [h1, h2]
  simp only
  rw [comp_val h8 hp hh (hv p.1)]
  constructor
  ·rintro ((h3 | h3) | ⟨q, h3, h4⟩)
   ·exact .inl h3
   ·exact .inr ⟨p, List.mem_cons_self .., h3⟩
   exact .inr ⟨q, List.mem_cons_of_mem _ h3, h4⟩
  rintro (h3 | ⟨q, h3, h4⟩)
  ·exact .inl (.inl h3)
  rcases List.mem_cons.1 h3 with rfl | h3
  ·exact .inl (.inr h4)
  exact .inr ⟨q, h3, h4⟩

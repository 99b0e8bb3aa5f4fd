
import Derived.Test.YtmddchceacmopaaDoorI12
set_option linter.unusedVariables false
set_option linter.unusedSimpArgs false
namespace Go.Proofs.YtmddchceacmopaaDoor
open Go Go.RowKit
abbrev ArcsL := List (Nat × TrD)
def ixA (l : ArcsL) (n : Nat) : Nat := l.findIdx (fun p => p.1 == n)
theorem ixA_from {l : ArcsL} {n : Nat} (h : ixA l n < l.length) : l[ixA l n].1 = n := by
 have := List.findIdx_getElem (p := fun p : Nat × TrD => p.1 == n) (w := h)
 exact eq_of_beq this
theorem ixA_none {l : ArcsL} {n : Nat} (h : ¬ ixA l n < l.length) : ∀ p ∈ l, p.1 ≠ n := fun p hp e => by
 refine h ?_
 unfold ixA
 rw [List.findIdx_lt_length]
 exact ⟨p, hp, by simpa using e⟩
theorem ixA_not {l : ArcsL} {n j : Nat} (h : j < ixA l n) (hj : j < l.length) : l[j].1 ≠ n := by
 have := List.not_of_lt_findIdx (p := fun p : Nat × TrD => p.1 == n) (xs := l) (i := j) h
 simpa using this
def insA (l : ArcsL) (a : Nat × TrD) : ArcsL := l.takeWhile (fun p => p.1 < a.1) ++ a :: l.dropWhile (fun p => p.1 < a.1)
def putA (l : ArcsL) (a : Nat × TrD) : ArcsL := if h : ixA l a.1 < l.length then l.set (ixA l a.1) (a.1, joinT l[ixA l a.1].2 a.2) else insA l a
def resS (S : WebD) (n : Nat) (s : TrD) : WebD := ⟨S.w, S.ins.set n (((arcW S n).eraseIdx (ixA (arcW S n) n)).map fun p => (p.1, compT p.2 s)), S.bnd.set n (applyT s (rowD S.bnd n))⟩
def resolveW (S : WebD) (n : Nat) : WebD := if h : ixA (arcW S n) n < (arcW S n).length then resS S n (starT (arcW S n)[ixA (arcW S n) n].2) else S
def elimRow (rn : ArcsL) (h : TrD) (l : ArcsL) : ArcsL := rn.foldl (fun l p => putA l (p.1, compT p.2 h)) l
def elimIns (R : WebD) (n t : Nat) : ArcsL := if h : t ≠ n ∧ ixA (arcW R t) n < (arcW R t).length then elimRow (arcW R n) (arcW R t)[ixA (arcW R t) n].2 ((arcW R t).eraseIdx (ixA (arcW R t) n)) else arcW R t
def elimBnd (R : WebD) (n t : Nat) : Nat := if h : t ≠ n ∧ ixA (arcW R t) n < (arcW R t).length then orN (rowD R.bnd t) (applyT (arcW R t)[ixA (arcW R t) n].2 (rowD R.bnd n)) else rowD R.bnd t
def elimF (R : WebD) (n : Nat) : WebD := ⟨R.w, (List.range R.ins.length).map (elimIns R n), (List.range R.ins.length).map (elimBnd R n)⟩
def elimW (S : WebD) (n : Nat) : WebD := elimF (resolveW S n) n
structure RowOkA (w n : Nat) (l : ArcsL) : Prop where
 asc : (froms l).Pairwise (· < ·)
 lt : ∀ p ∈ l, p.1 < n
 trs : ∀ p ∈ l, TrOk p.2 ∧ p.2.w = w
theorem ascE_len {n : Nat} : ∀ (l : List Nat) (m : Nat), l.Pairwise (· < ·) → (∀ x ∈ l, m ≤ x ∧ x < n) → l.length ≤ n - m
 | [], _, _, _ => Nat.zero_le _
 | x :: l, m, h, hb => by
  have h1 := List.pairwise_cons.1 h
  have h2 := hb x (List.mem_cons_self ..)
  have h3 := ascE_len l (x + 1) h1.2 (fun y hy => ⟨h1.1 y hy, (hb y (List.mem_cons_of_mem _ hy)).2⟩)
  rw [List.length_cons]; omega
theorem RowOkA.len {w n : Nat} {l : ArcsL} (h : RowOkA w n l) : l.length ≤ n := by
 have := ascE_len (n := n) (froms l) 0 h.asc (fun x hx => by
  obtain ⟨p, hp, rfl⟩ := List.mem_map.1 hx
  exact ⟨Nat.zero_le _, h.lt p hp⟩)
 simpa [froms] using this
theorem comp_ok {w : Nat} {f g : TrD} (h8 : w ≤ 8) (hf : TrOk f ∧ f.w = w) (hg : TrOk g ∧ g.w = w) : TrOk (compT f g) ∧ (compT f g).w = w := by
 obtain ⟨hf, e1⟩ := hf
 obtain ⟨hg, e2⟩ := hg
 have hgen : applyT g f.gen < 2 ^ f.w := by
  have := app_lt hg (s := f.gen) (by rw [e2, ← e1]; exact hf.gen)
  rw [e2, ← e1] at this
  exact this
 exact ⟨closeT_ok (by omega) hgen (Nat.le_trans (copTo_len _ _ _ _) (show _ * _ ≤ 8 * 8 from Nat.mul_le_mul (by omega) (by omega))), e1⟩
theorem join_ok {w : Nat} {f g : TrD} (h8 : w ≤ 8) (hf : TrOk f ∧ f.w = w) (hg : TrOk g ∧ g.w = w) : TrOk (joinT f g) ∧ (joinT f g).w = w := by
 obtain ⟨hf, e1⟩ := hf
 obtain ⟨hg, e2⟩ := hg
 exact ⟨closeT_ok (by omega) (orN_lt' hf.gen (by rw [e1, ← e2]; exact hg.gen)) (Nat.le_trans (copTo_len _ _ _ _) (show _ * _ ≤ 8 * 8 from Nat.mul_le_mul (by omega) (by omega))), e1⟩
theorem star_ok {w : Nat} {f : TrD} (h8 : w ≤ 8) (hf : TrOk f ∧ f.w = w) : TrOk (starT f) ∧ (starT f).w = w := by
 obtain ⟨hf, e1⟩ := hf
 exact ⟨closeT_ok (by omega) ((clos_any (rows_lt hf) hf.gen).lt) (Nat.le_trans (copTo_len _ _ _ _) (show _ * _ ≤ 8 * 8 from Nat.mul_le_mul (by omega) (by omega))), e1⟩
theorem RowOkA.erase {w n i : Nat} {l : ArcsL} (h : RowOkA w n l) : RowOkA w n (l.eraseIdx i) :=
 ⟨h.asc.sublist ((List.eraseIdx_sublist l i).map _), fun p hp => h.lt p (List.mem_of_mem_eraseIdx hp), fun p hp => h.trs p (List.mem_of_mem_eraseIdx hp)⟩
theorem pair_get {l : ArcsL} (h : (froms l).Pairwise (· < ·)) {i j : Nat} (hi : i < l.length) (hj : j < l.length) (hij : i < j) : l[i].1 < l[j].1 := by
 have := List.pairwise_iff_getElem.1 h i j (by simpa [froms] using hi) (by simpa [froms] using hj) hij
 simpa [froms] using this
theorem RowOkA.mapC {w n : Nat} {l : ArcsL} {s : TrD} (h8 : w ≤ 8) (h : RowOkA w n l) (hs : TrOk s ∧ s.w = w) : RowOkA w n (l.map fun p => (p.1, compT p.2 s)) := by
 refine ⟨?_, fun p hp => ?_, fun p hp => ?_⟩
 ·have e : froms (l.map fun p => (p.1, compT p.2 s)) = froms l := by simp [froms, List.map_map, Function.comp_def]
  rw [e]; exact h.asc
 ·obtain ⟨q, hq, rfl⟩ := List.mem_map.1 hp
  exact h.lt q hq
 obtain ⟨q, hq, rfl⟩ := List.mem_map.1 hp
 exact comp_ok h8 (h.trs q hq) hs
theorem asc_take {l : ArcsL} {x : Nat} : ∀ p ∈ l.takeWhile (fun p => p.1 < x), p.1 < x := fun p hp => by
 have := List.all_eq_true.1 (List.all_takeWhile (p := fun p : Nat × TrD => decide (p.1 < x)) (l := l)) p hp
 simpa using this
theorem asc_drop : ∀ {l : ArcsL} {x : Nat}, (froms l).Pairwise (· < ·) → (∀ p ∈ l, p.1 ≠ x) → ∀ p ∈ l.dropWhile (fun p => p.1 < x), x < p.1
 | [], _, _, _, p, hp => by cases hp
 | q :: l, x, h, hn, p, hp => by
  have h1 : (∀ y ∈ froms l, q.1 < y) ∧ (froms l).Pairwise (· < ·) := List.pairwise_cons.1 h
  by_cases e : q.1 < x
  ·rw [List.dropWhile_cons_of_pos (by simpa using e)] at hp
   exact asc_drop h1.2 (fun p hp => hn p (List.mem_cons_of_mem _ hp)) p hp
  rw [List.dropWhile_cons_of_neg (by simpa using e)] at hp
  have h2 := hn q (List.mem_cons_self ..)
  rcases List.mem_cons.1 hp with rfl | hp
  ·omega
  have := h1.1 p.1 (List.mem_map.2 ⟨p, hp, rfl⟩)
  omega
theorem RowOkA.ins {w n : Nat} {l : ArcsL} {a : Nat × TrD} (h : RowOkA w n l) (ha : a.1 < n) (hs : TrOk a.2 ∧ a.2.w = w) (hn : ∀ p ∈ l, p.1 ≠ a.1) : RowOkA w n (insA l a) := by
 have hmem : ∀ p ∈ insA l a, p = a ∨ p ∈ l := fun p hp => by
  rcases List.mem_append.1 hp with hp | hp
  ·exact .inr (List.takeWhile_sublist _ |>.subset hp)
  rcases List.mem_cons.1 hp with hp | hp
  ·exact .inl hp
  exact .inr (List.dropWhile_sublist _ |>.subset hp)
 refine ⟨?_, fun p hp => ?_, fun p hp => ?_⟩
 ·unfold insA froms
  rw [List.map_append, List.map_cons, List.pairwise_append, List.pairwise_cons]
  refine ⟨h.asc.sublist ((List.takeWhile_sublist _).map _), ⟨fun y hy => ?_, h.asc.sublist ((List.dropWhile_sublist _).map _)⟩, fun x hx y hy => ?_⟩
  ·obtain ⟨q, hq, rfl⟩ := List.mem_map.1 hy
   exact asc_drop h.asc hn q hq
  obtain ⟨p, hp, rfl⟩ := List.mem_map.1 hx
  have h1 := asc_take p hp
  rcases List.mem_cons.1 hy with rfl | hy
  ·exact h1
  obtain ⟨q, hq, rfl⟩ := List.mem_map.1 hy
  have := asc_drop h.asc hn q hq
  omega
 ·rcases hmem p hp with rfl | hp
  ·exact ha
  exact h.lt p hp
 rcases hmem p hp with rfl | hp
 ·exact hs
 exact h.trs p hp
theorem RowOkA.put {w n : Nat} {l : ArcsL} {a : Nat × TrD} (h8 : w ≤ 8) (h : RowOkA w n l) (ha : a.1 < n) (hs : TrOk a.2 ∧ a.2.w = w) : RowOkA w n (putA l a) := by
 unfold putA
 split
 ·rename_i hi
  have hf := ixA_from hi
  refine ⟨?_, fun p hp => ?_, fun p hp => ?_⟩
  ·have e : froms (l.set (ixA l a.1) (a.1, joinT l[ixA l a.1].2 a.2)) = froms l := by
    unfold froms
    rw [List.map_set]
    refine List.ext_getElem (by simp) (fun j h1 h2 => ?_)
    rw [List.getElem_set]
    split
    ·rename_i e; subst e; simp [hf]
    rfl
   rw [e]; exact h.asc
  ·rcases List.mem_or_eq_of_mem_set hp with hp | rfl
   ·exact h.lt p hp
   exact ha
  rcases List.mem_or_eq_of_mem_set hp with hp | rfl
  ·exact h.trs p hp
  exact join_ok h8 (h.trs _ (List.getElem_mem hi)) hs
 rename_i hi
 exact h.ins ha hs (ixA_none hi)
theorem elimRow_ok {w n : Nat} {h : TrD} (h8 : w ≤ 8) (hh : TrOk h ∧ h.w = w) : ∀ (rn l : ArcsL), RowOkA w n rn → RowOkA w n l → RowOkA w n (elimRow rn h l)
 | [], _, _, hl => hl
 | p :: rn, l, hr, hl => elimRow_ok h8 hh rn _ ⟨(List.pairwise_cons.1 hr.asc).2, fun q hq => hr.lt q (List.mem_cons_of_mem _ hq), fun q hq => hr.trs q (List.mem_cons_of_mem _ hq)⟩ (hl.put h8 (hr.lt p (List.mem_cons_self ..)) (comp_ok h8 (hr.trs p (List.mem_cons_self ..)) hh))


import Derived.Test.YtmddchceacmopaaDoorE21
set_option linter.unusedVariables false
set_option linter.unusedSimpArgs false
namespace Go.Proofs.YtmddchceacmopaaDoor
open Go Go.RowKit
def mixI (R : WebD) (n t j : Nat) : ArcsL := if j < t then elimIns R n j else arcW R j
def mixB (R : WebD) (n t j : Nat) : Nat := if j < t then elimBnd R n j else rowD R.bnd j
theorem mixI_skip {R : WebD} {n t : Nat} (h : ¬ (t ≠ n ∧ ixA (arcW R t) n < (arcW R t).length)) (j : Nat) : mixI R n (t + 1) j = mixI R n t j := by
 unfold mixI
 by_cases e : j = t
 ·subst e
  rw [if_pos (by omega), if_neg (by omega)]
  unfold elimIns
  rw [dif_neg h]
 by_cases e2 : j < t
 ·rw [if_pos (by omega), if_pos e2]
 rw [if_neg (by omega), if_neg e2]
theorem mixB_skip {R : WebD} {n t : Nat} (h : ¬ (t ≠ n ∧ ixA (arcW R t) n < (arcW R t).length)) (j : Nat) : mixB R n (t + 1) j = mixB R n t j := by
 unfold mixB
 by_cases e : j = t
 ·subst e
  rw [if_pos (by omega), if_neg (by omega)]
  unfold elimBnd
  rw [dif_neg h]
 by_cases e2 : j < t
 ·rw [if_pos (by omega), if_pos e2]
 rw [if_neg (by omega), if_neg e2]
theorem mixI_self (R : WebD) (n t : Nat) : mixI R n t n = arcW R n := by
 unfold mixI
 split
 ·unfold elimIns
  rw [dif_neg (fun h => h.1 rfl)]
 rfl
theorem mixB_self (R : WebD) (n t : Nat) : mixB R n t n = rowD R.bnd n := by
 unfold mixB
 split
 ·unfold elimBnd
  rw [dif_neg (fun h => h.1 rfl)]
 rfl
theorem mixI_at (R : WebD) (n t : Nat) : mixI R n t t = arcW R t := by unfold mixI; rw [if_neg (by omega)]
theorem mixB_at (R : WebD) (n t : Nat) : mixB R n t t = rowD R.bnd t := by unfold mixB; rw [if_neg (by omega)]
structure MixW (R : WebD) (n t N : Nat) (LB : LS) (RL : RLs) : Prop where
 lb : N = LB.length
 lr : N = RL.length
 b : ∀ j, j < N → (LB[j]?).map Prod.fst = some (setN R.w (mixB R n t j))
 r : ∀ j, j < N → (RL[j]?).map (fun p => p.1.map cutA) = some (arcsRow (mixI R n t j))
theorem MixW.skip {R : WebD} {n t N : Nat} {LB : LS} {RL : RLs} (h : MixW R n t N LB RL) (hs : ¬ (t ≠ n ∧ ixA (arcW R t) n < (arcW R t).length)) : MixW R n (t + 1) N LB RL :=
 ⟨h.lb, h.lr, fun j hj => by rw [mixB_skip hs]; exact h.b j hj, fun j hj => by rw [mixI_skip hs]; exact h.r j hj⟩
theorem MixW.row {R : WebD} {n t N j : Nat} {LB : LS} {RL : RLs} (h : MixW R n t N LB RL) (hj : j < N) : ∃ (L : LA) (v : Value), (∃ hjR : j < RL.length, RL[j] = (L, v)) ∧ L.map cutA = arcsRow (mixI R n t j) := by
 have h1 := h.r j hj
 have hj2 : j < RL.length := by rw [← h.lr]; exact hj
 rw [List.getElem?_eq_getElem hj2] at h1
 exact ⟨RL[j].1, RL[j].2, ⟨hj2, rfl⟩, Option.some.inj h1⟩
theorem MixW.set {R : WebD} {n t N j : Nat} {LB : LS} {RL : RLs} (h : MixW R n t N LB RL) (hj : j < N) : ∃ (v : Value), ∃ hjB : j < LB.length, LB[j] = (setN R.w (mixB R n t j), v) := by
 have h1 := h.b j hj
 have hj2 : j < LB.length := by rw [← h.lb]; exact hj
 rw [List.getElem?_eq_getElem hj2] at h1
 exact ⟨LB[j].2, hj2, Prod.ext (Option.some.inj h1) rfl⟩
theorem MixW.start {R : WebD} {w : World} {base lim n N : Nat} {vb vi : Value} {LB : LS} {RL : RLs} (h : MW w base lim vb vi LB RL R) (hN : N = R.ins.length) : MixW R n 0 N LB RL := by
 have hlb : N = LB.length := by rw [h.lenB, hN]
 have hlr : N = RL.length := by rw [h.len, hN]
 refine ⟨hlb, hlr, fun j hj => ?_, fun j hj => ?_⟩
 ·have ht2 : j < R.bnd.length := by rw [h.ok.ok.lb, ← hN]; exact hj
  rw [← List.getElem?_map, h.bnd, List.getElem?_map, List.getElem?_eq_getElem ht2]
  unfold mixB
  rw [if_neg (Nat.not_lt_zero _), rowD_get ht2]
  rfl
 have hj2 : j < RL.length := by omega
 rw [List.getElem?_eq_getElem hj2]
 unfold mixI
 rw [if_neg (Nat.not_lt_zero _), Option.map_some, h.rows j hj2]
theorem MixW.done {R : WebD} {w : World} {base lim n N : Nat} {vb vi : Value} {LB : LS} {RL : RLs} (h : MixW R n N N LB RL) (hx : MWx w base lim vb vi LB RL) (hN : N = R.ins.length) (hok : WebOk8 (elimF R n)) : MW w base lim vb vi LB RL (elimF R n) := by
 refine ⟨hx, hok, ?_, ?_, fun j hj => ?_⟩
 ·refine List.ext_getElem? (fun j => ?_)
  rw [List.getElem?_map]
  rcases Nat.lt_or_ge j N with hj | hj
  ·rw [h.b j hj]
   unfold mixB elimF
   rw [if_pos hj]
   simp [← hN, hj]
  rw [List.getElem?_eq_none (by rw [← h.lb]; exact hj), List.getElem?_eq_none (by simp [elimF, ← hN]; exact hj)]
  rfl
 ·rw [← h.lr]; simp [elimF, hN]
 have hj2 : j < N := by rw [h.lr]; exact hj
 have h1 := h.r j hj2
 rw [List.getElem?_eq_getElem hj, Option.map_some, Option.some.injEq] at h1
 rw [h1]
 unfold mixI
 rw [if_pos hj2]
 unfold arcW elimF
 simp [← hN, hj2]


import Derived.Test.YtmddchceacmopaaGreatDoorE26
import Derived.Test.YtmddchceacmopaaGreatDoorH9
set_option linter.unusedVariables false
set_option linter.unusedSimpArgs false
namespace Go.Proofs.YtmddchceacmopaaGreatDoor
open Go Go.RowKit
def webOf (S : SysD) : WebD := ⟨S.w, (List.range S.deps.length).map fun i => (depD S i).map fun m => (m, trD S m), S.bnd⟩
section
variable {S : SysD}
theorem webOf_len (S : SysD) : (webOf S).ins.length = S.deps.length := by simp [webOf]
theorem webOf_arc {i : Nat} (hi : i < S.deps.length) : arcW (webOf S) i = (depD S i).map fun m => (m, trD S m) := by simp [arcW, webOf, hi]
theorem asc_pair {l : List Nat} {n : Int} (h : AscL (natsZ l) n) : l.Pairwise (· < ·) := by
 have h1 : ∀ i (hi : i + 1 < l.length), l[i] < l[i + 1] := fun i hi => by
  have := (h (i + 1) (by simpa [natsZ] using hi)).2.2 (by omega)
  simp [natsZ] at this
  omega
 rw [List.pairwise_iff_getElem]
 intro i j hi hj hij
 have h2 : ∀ d (hd : i + 1 + d < l.length), l[i] < l[i + 1 + d] := fun d => by
  induction d with
  | zero => exact fun hd => h1 i hd
  | succ d ih => exact fun hd => Nat.lt_trans (ih (by omega)) (h1 (i + 1 + d) (by omega))
 obtain ⟨d, rfl⟩ : ∃ d, j = i + 1 + d := ⟨j - (i + 1), by omega⟩
 exact h2 d hj
theorem webOf_ok (hS : SysOk S) : WebOk (webOf S) := by
 have hmem : ∀ l ∈ (webOf S).ins, ∃ i, i < S.deps.length ∧ l = (depD S i).map fun m => (m, trD S m) := fun l hl => by
  obtain ⟨i, hi, rfl⟩ := List.mem_map.1 hl
  exact ⟨i, List.mem_range.1 hi, rfl⟩
 refine ⟨hS.w, by rw [webOf_len]; exact hS.n1, by rw [webOf_len]; exact hS.n2, by rw [webOf_len]; exact hS.lb, fun l hl => ?_, fun l hl p hp => ?_, ?_, fun l hl p hp => ?_, hS.bnd⟩
 ·obtain ⟨i, hi, rfl⟩ := hmem l hl
  have e : froms ((depD S i).map fun m => (m, trD S m)) = depD S i := by simp [froms, List.map_map, Function.comp_def]
  rw [e]
  exact asc_pair (hS.asc _ (by simp [depD, hi]))
 ·obtain ⟨i, hi, rfl⟩ := hmem l hl
  obtain ⟨m, hm, rfl⟩ := List.mem_map.1 hp
  rw [webOf_len]
  exact hS.dep hm
 ·have h := hS.tot
  have e : (webOf S).ins.map List.length = S.deps.map List.length := by
   refine List.ext_getElem (by simp [webOf]) (fun i h1 h2 => ?_)
   have hi : i < S.deps.length := by simpa using h2
   simp [webOf, depD, hi]
  rw [e]; exact h
 obtain ⟨i, hi, rfl⟩ := hmem l hl
 obtain ⟨m, hm, rfl⟩ := List.mem_map.1 hp
 exact hS.tr (hS.dep hm)
theorem webOf_right {vs : List Nat} {i : Nat} (hi : i < S.deps.length) : rightW (webOf S) vs i = rightD S vs i := by
 unfold rightW rightD
 rw [webOf_arc hi, List.foldl_map]
 rfl
theorem webOf_next (vs : List Nat) : nextW (webOf S) vs = nextD S vs := by
 unfold nextW nextD nextToW nextTo
 rw [webOf_len]
 exact List.map_congr_left (fun i hi => webOf_right (List.mem_range.1 hi))
theorem webOf_iter : ∀ k, iterW (webOf S) k = iterD S k
 | 0 => by unfold iterW iterD zerosW zerosD; rw [webOf_len]
 | k + 1 => by rw [iterW, iterD, webOf_iter k, webOf_next]
theorem webOf_fix {R : Nat} (h : FixAt S R) : FixW (webOf S) R := ⟨by rw [webOf_iter, webOf_iter]; exact h.fix, fun j hj => by rw [webOf_iter, webOf_iter]; exact h.first j hj⟩
theorem WebAt.wb {M : Nat → Prop} {W : World} {vb vi : Value} (h : WebAt M W vb vi S) : WbAt M W vb vi (webOf S) := by
 obtain ⟨Li, h1, h2, h3⟩ := h.ex
 refine ⟨webOf_ok h.ok, h.bnd, Li, h1, by rw [h2, webOf_len], fun i hi => ?_⟩
 rw [h3 i hi, webOf_arc (by rw [← h2]; exact hi)]
 simp [arcsR, arcsRow, List.map_map, Function.comp_def]
theorem webOf_ok8 (hS : SysOk S) (h8 : S.w ≤ 8) (hn : S.deps.length ≤ 32) : WebOk8 (webOf S) := ⟨webOf_ok hS, h8, by rw [webOf_len]; exact hn⟩
end
end Go.Proofs.YtmddchceacmopaaGreatDoor

namespace Go.Proofs.YtmddchceacmopaaGreatDoor
open Go Go.RowKit
def ESPost (S : WebD) (r : Nat) (W : World) (e : Ending) (w' : World) : Prop := ∃ sl : Value, e = .returned (.tuple #[sl, .int .i64 0]) ∧ Hid (SetsV No w' sl S.w (iterW S r)) ∧ Ext No W w'
set_option maxRecDepth 100000 in
set_option maxHeartbeats 4000000 in
theorem esolve_any (S : WebD) (r : Nat) (vb vi : Value) (W : World) (h8 : WebOk8 S) (hr : FixW S r) (h : WbAt No W vb vi S) (hT : TabW W) :
  Calls Tryz.prog 19 #[.agg #[.int .i64 (S.w : Int), vb, vi]] W (ESPost S r W) := by
 have H := Lib.hid h
 have HT := Lib.hid hT
 have H8 := Lib.hid h8
 have HR := Lib.hid hr
 obtain ⟨ab, cb, ai, ci, rfl, rfl⟩ := h.slices
 clear h hT h8 hr
 go_enter Tryz.func19, Tryz.ntmps19
 go_wp2_with fail
 have hx0 : Ext No W (W.alloc (.cells #[.int .i64 (S.w : Int), .slice ab S.ins.length cb, .slice ai S.ins.length ci] 26)) := (Ext.refl _ _).alloc _
 refine (reduceW_any S [] _ _ _ _ H8.out (H.out.extNo hx0) (HT.out.ext hx0) (Row.nil _ _ _ _ _ (by omega)) (fun n h => absurd h List.not_mem_nil)).mono ?_
 rintro e1 w1 ⟨vb1, vi1, rfl, hW, hx1⟩
 obtain ⟨ab1, cb1, ai1, ci1, rfl, rfl⟩ := hW.out.slices
 have HX := Lib.hid (hx0.transNo hx1)
 clear hx0 hx1
 go_wp2_with fail
 refine ret_ex rfl ?_
 simp [results, Tryz.results19, go_sem]
 have hok := reduce_ok (keep := fun _ => false) H8.out S.ins.length (Nat.le_refl _)
 have hk : (fun t : Nat => decide ((t : Int) ∈ ([] : List Int))) = (fun _ => false) := by funext t; simp
 have h9 := hW.out.bnd
 rw [hk] at h9
 rw [hok.2.1, ← reduce_all H8.out HR.out] at h9
 simp only [List.not_mem_nil, decide_false] at *
 exact ⟨_, rfl, Lib.hid (h9.extNo ((Ext.refl _ _).alloc _)), HX.out.alloc _⟩
end Go.Proofs.YtmddchceacmopaaGreatDoor

namespace Go.Proofs.YtmddchceacmopaaGreatDoor
open Go Go.RowKit
theorem MW.stepLow {w w' : World} {base lim : Nat} {vb vi : Value} {LB : LS} {RL : RLs} {S : WebD} {M : Nat → Prop} (h : MW w base lim vb vi LB RL S) (hx : Ext M w w') (hM : ∀ i, i < w.heap.size → M i → i < base) : MW w' base lim vb vi LB RL S := ⟨h.x.stepLow hx hM, h.ok, h.bnd, h.len, h.rows⟩
theorem MW.top {w : World} {base lim : Nat} {vb vi : Value} {LB : LS} {RL : RLs} {S : WebD} (h : MW w base lim vb vi LB RL S) : MW w base w.heap.size vb vi LB RL S := ⟨h.x.lift h.x.lh (Nat.le_refl _), h.ok, h.bnd, h.len, h.rows⟩

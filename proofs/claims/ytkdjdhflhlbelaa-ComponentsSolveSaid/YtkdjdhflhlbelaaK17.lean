/- A system whose dependencies are cut in place. -/
import Derived.Test.YtkdjdhflhlbelaaK16
import Derived.Test.YtkdjdhflhlbelaaF8
import Derived.Test.YtkdjdhflhlbelaaI12
set_option linter.unusedVariables false
set_option linter.unusedSimpArgs false
namespace Go.Proofs.Ytkdjdhflhlbelaa
open Go Go.RowKit
theorem asc_iff {l : List Int} {n : Int} : AscL l n ↔ l.Pairwise (· < ·) ∧ ∀ z ∈ l, 0 ≤ z ∧ z < n := by
 constructor
 ·intro h
  refine ⟨List.pairwise_iff_getElem.2 (fun i j hi hj hij => ?_), fun z hz => ?_⟩
  ·induction j with
   | zero => omega
   | succ j ih =>
    have h1 : l[j] < l[j + 1] := (h (j + 1) hj).2.2 (by omega)
    rcases Nat.lt_or_ge i j with h2 | h2
    ·have := ih (by omega) h2; omega
    ·obtain rfl : i = j := by omega
     exact h1
  ·obtain ⟨i, hi, rfl⟩ := List.getElem_of_mem hz
   exact ⟨(h i hi).1, (h i hi).2.1⟩
 ·rintro ⟨h1, h2⟩ i hi
  exact ⟨(h2 _ (List.getElem_mem hi)).1, (h2 _ (List.getElem_mem hi)).2, fun h0 => List.pairwise_iff_getElem.1 h1 (i - 1) i (by omega) hi (by omega)⟩
theorem asc_filter {l : List Int} {n : Int} (p : Int → Bool) (h : AscL l n) : AscL (l.filter p) n := by
 rw [asc_iff] at h ⊢
 exact ⟨h.1.filter p, fun z hz => h.2 z (List.mem_filter.1 hz).1⟩
theorem sumL_set : ∀ (L : LD) (i : Nat) (q : List Int × Value) (hi : i < L.length), q.1.length ≤ L[i].1.length → sumL (L.set i q) ≤ sumL L
 | [], _, _, hi, _ => absurd hi (Nat.not_lt_zero _)
 | a :: L, 0, q, _, h => by
  simp only [List.set_cons_zero, sumL, List.map_cons, List.sum_cons, List.getElem_cons_zero] at h ⊢; omega
 | a :: L, i + 1, q, hi, h => by
  have ih := sumL_set L i q (by simpa using hi) (by simpa using h)
  simp only [List.set_cons_succ, sumL, List.map_cons, List.sum_cons] at ih ⊢; omega
theorem sumL_ge : ∀ (L : LD) (i : Nat) (hi : i < L.length), L[i].1.length ≤ sumL L
 | [], _, hi => absurd hi (Nat.not_lt_zero _)
 | a :: L, 0, _ => by simp only [sumL, List.map_cons, List.sum_cons, List.getElem_cons_zero]; omega
 | a :: L, i + 1, hi => by
  have ih := sumL_ge L i (by simpa using hi)
  simp only [sumL, List.map_cons, List.sum_cons, List.getElem_cons_succ] at ih ⊢; omega
theorem VS.setD {x : Int} {Ld : LD} {Lt : LT} {Lb : LS} (h : VS x Ld Lt Lb) {i : Nat} (hi : i < Ld.length) (p : Int → Bool) (v : Value) : VS x (Ld.set i (Ld[i].1.filter p, v)) Lt Lb := by
 have hs := sumL_set Ld i (Ld[i].1.filter p, v) hi (List.length_filter_le _ _)
 have ht := h.tot
 refine ⟨h.w, by rw [List.length_set]; exact h.n, by rw [List.length_set]; exact h.lt, by rw [List.length_set]; exact h.lb, fun q hq => ?_, by omega, h.sets, h.trs⟩
 rw [List.length_set]
 rcases List.mem_or_eq_of_mem_set hq with hq | rfl
 ·exact h.asc q hq
 ·exact asc_filter p (h.asc _ (List.getElem_mem hi))
section
variable {M M' : Nat → Prop} {x : Int} {w w' : World} {base g cap N i : Nat} {vd vt vb : Value} {Ld : LD} {Lt : LT} {Lb : LS}
theorem OY.mono (h : OY M x w base vd vt vb Ld Lt Lb) (hm : ∀ i, M' i → M i) : OY M' x w base vd vt vb Ld Lt Lb :=
 ⟨h.vs, h.d.mono (fun i _ e => hm i e), h.t.mono (fun i _ e => e.elim (fun e => .inl (hm i e)) .inr), h.b.mono (fun i _ e => e.elim (fun e => .inl (hm i e)) .inr)⟩
theorem OY.ext (h : OY M x w base vd vt vb Ld Lt Lb) (hx : Ext M' w w') (h1 : ∀ i, vd.ownBlock = some i → ¬ M' i) (h2 : ∀ i, M' i → M i) : OY M x w' base vd vt vb Ld Lt Lb :=
 ⟨h.vs, h.d.ext2 hx h1 (fun i _ e => h2 i e), h.t.ext hx (fun i _ e => .inl (h2 i e)), h.b.ext hx (fun i _ e => .inl (h2 i e))⟩
theorem OY.extNo (h : OY M x w base vd vt vb Ld Lt Lb) (hx : Ext No w w') : OY M x w' base vd vt vb Ld Lt Lb := h.ext hx (fun _ _ x => x) (fun _ x => x.elim)
theorem OY.yat (h : OY M x w base vd vt vb Ld Lt Lb) : YAt No w vd vt vb Ld Lt Lb :=
 ⟨h.d.list2 (fun _ _ x => x) (fun _ x => x.elim), h.t.mono (fun _ _ x => x.elim), h.b.mono (fun _ _ x => x.elim)⟩
theorem OY.shape (h : OY M x w base vd vt vb Ld Lt Lb) (hN : Ld.length = N) : 1 ≤ N ∧ N ≤ 256 ∧ ∃ g cap at1 ct ab cb, vd = .slice (some ⟨g, 0, none⟩) N cap ∧ vt = .slice at1 N ct ∧ vb = .slice ab N cb ∧ base ≤ g ∧ g < w.heap.size := by
 subst hN
 have hn := h.vs.n
 obtain ⟨g, cap, h1, h2, h3⟩ := h.d.shape (by omega)
 obtain ⟨at1, ct, h4⟩ := h.t.slice
 obtain ⟨ab, cb, h5⟩ := h.b.slice
 rw [h.vs.lt] at h4
 rw [h.vs.lb] at h5
 exact ⟨hn.1, hn.2, g, cap, at1, ct, ab, cb, h1, h4, h5, h2, h3⟩
theorem OY.row (h : OY M x w base (.slice (some ⟨g, 0, none⟩) N cap) vt vb Ld Lt Lb) (hi : i < Ld.length) : ∃ a c, w.cell? ⟨g, i, none⟩ = some (.slice a Ld[i].1.length c) ∧ Ints No w .i64 (.slice a Ld[i].1.length c) Ld[i].1 := by
 obtain ⟨b, off, cap', h1, _, _, h2⟩ := h.yat.d.atD hi
 have h4 := h2 i hi
 have h3 : Ints No w .i64 Ld[i].2 Ld[i].1 := h.yat.d.ok _ (List.getElem_mem hi)
 obtain ⟨a, c, h5⟩ := Row.slice h3
 simp only [Value.slice.injEq, Option.some.injEq, Addr.mk.injEq] at h1
 obtain ⟨⟨rfl, rfl, -⟩, -, -⟩ := h1
 rw [Nat.zero_add] at h4
 rw [h5] at h3 h4
 exact ⟨a, c, h4, h3⟩
theorem OY.free (h : OY M x w base (.slice (some ⟨g, 0, none⟩) N cap) vt vb Ld Lt Lb) (j : Nat) : w.frozen? ⟨g, j, none⟩ = false := by
 obtain ⟨a, c, e⟩ := h.d.slice
 simp only [Value.slice.injEq] at e
 have h1 := h.d.own
 rw [← e.2.1] at h1
 exact World.ownsRow.frozenAt h1 j
theorem OY.put (h : OY M x w base (.slice (some ⟨g, 0, none⟩) N cap) vt vb Ld Lt Lb) (hN : Ld.length = N) (hi : i < Ld.length) (p : Int → Bool) {d : Value} (hd : Ints (fun b => M b ∨ b = g) w .i64 d (Ld[i].1.filter p)) :
  OY M x (w.setCell ⟨g, i, none⟩ d) base (.slice (some ⟨g, 0, none⟩) N cap) vt vb (Ld.set i (Ld[i].1.filter p, d)) Lt Lb := by
 subst hN
 have hx : Ext (At g) w (w.setCell ⟨g, i, none⟩ d) := (Ext.refl (At g) w).setAt i d
 refine ⟨h.vs.setD hi p d, ?_, h.t.ext hx (fun k _ e => .inr ?_), h.b.ext hx (fun k _ e => .inr ?_)⟩
 ·have h1 := h.d.putAll hi (p := (Ld[i].1.filter p, d)) hd
  rw [show i * kD.s = i from Nat.mul_one i] at h1
  exact h1
 ·unfold At at e; subst e; rfl
 ·unfold At at e; subst e; rfl
end
theorem filter_take_succ {l : List Int} {q : Nat} (p : Int → Bool) (h : q < l.length) : (l.take (q + 1)).filter p = (l.take q).filter p ++ (if p l[q] = true then [l[q]] else []) := by
 rw [List.take_succ_eq_append_getElem h, List.filter_append]
 congr 1
 by_cases e : p l[q] = true
 ·rw [if_pos e]; simp [e]
 ·rw [if_neg e]; simp [e]
end Go.Proofs.Ytkdjdhflhlbelaa

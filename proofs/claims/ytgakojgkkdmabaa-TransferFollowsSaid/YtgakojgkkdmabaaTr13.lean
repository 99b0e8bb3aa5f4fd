/- The tape's Transfer: memory and lists. -/
import Derived.Test.YtgakojgkkdmabaaTr12
namespace Go.Proofs.Ytgakojgkkdmabaa
open Go Go.RowKit

/-- the copies so far, all before (a, b) -/
structure LOk (w a b : Nat) (l : List (Int × Int)) : Prop where
  len : l.length ≤ 12
  inr : ∀ i (h : i < l.length), inB w l[i].1 = true ∧ inB w l[i].2 = true
  sorted : ∀ i (h : i + 1 < l.length), compareZ l[i] l[i + 1] < 0
  low : ∀ i (h : i < l.length), l[i].1 < a ∨ l[i].1 = a ∧ l[i].2 < b
theorem LOk.nil (w : Nat) : LOk w 0 0 [] := ⟨by simp, fun i h => by simp at h, fun i h => by simp at h, fun i h => by simp at h⟩
theorem LOk.row {w a b : Nat} {l : List (Int × Int)} (h : LOk w a b l) : LOk w (a + 1) 0 l := ⟨h.len, h.inr, h.sorted, fun i hi => by have := h.low i hi; omega⟩
theorem LOk.col {w a b : Nat} {l : List (Int × Int)} (h : LOk w a b l) : LOk w a (b + 1) l := ⟨h.len, h.inr, h.sorted, fun i hi => by have := h.low i hi; omega⟩
theorem compareZ_lt {p q : Int × Int} (h : p.1 < q.1 ∨ p.1 = q.1 ∧ p.2 < q.2) : compareZ p q < 0 := by
  unfold compareZ
  rcases h with h | ⟨h1, h2⟩
  · have : cmpZ p.1 q.1 = -1 := by unfold cmpZ; rw [if_pos h]
    rw [this]; unfold orZ; simp
  · have e1 : cmpZ p.1 q.1 = 0 := by unfold cmpZ; rw [if_neg (by omega), if_neg (by omega)]
    have e2 : cmpZ p.2 q.2 = -1 := by unfold cmpZ; rw [if_pos h2]
    rw [e1, e2]; decide
theorem LOk.app {w a b : Nat} {l : List (Int × Int)} (h : LOk w a b l) (ha : a < w) (hb : b < w) (hl : l.length < 12) : LOk w a (b + 1) (l ++ [((a : Int), (b : Int))]) := by
  refine ⟨by simp; omega, fun i hi => ?_, fun i hi => ?_, fun i hi => ?_⟩
  · by_cases hil : i < l.length
    · rw [List.getElem_append_left hil]; exact h.inr i hil
    · rw [List.getElem_append_right (by omega)]
      simp only [List.getElem_singleton, inB, decide_eq_true_eq]
      omega
  · simp only [List.length_append, List.length_singleton] at hi
    by_cases hil : i + 1 < l.length
    · rw [List.getElem_append_left (by omega), List.getElem_append_left hil]; exact h.sorted i hil
    · rw [List.getElem_append_left (by omega), List.getElem_append_right (by omega)]
      simp only [List.getElem_singleton]
      exact compareZ_lt (h.low i (by omega))
  · by_cases hil : i < l.length
    · rw [List.getElem_append_left hil]; have := h.low i hil; omega
    · rw [List.getElem_append_right (by omega)]
      simp only [List.getElem_singleton]
      exact .inr ⟨trivial, by omega⟩

abbrev slg (g w : Nat) : Value := .slice (some ⟨g, 0, none⟩) (nw w) (nw w)
structure TMem (tb : Nat) (W : World) (C D w m1 g1 m2 g2 : Nat) (sc : Value) (wx : World) : Prop where
  ext : Ext (At tb) W wx
  tape : TapeOk wx tb
  boxC : wx.heap[C]? = some (.cells #[.int .i64 0, .slice none 0 0, .int .i64 0, .slice none 0 0, .slice none 0 0] 31 (0, 0))
  boxD : wx.heap[D]? = some (.cells #[.int .i64 (w : Int), .slice (some ⟨g1, 0, none⟩) (nw w) (nw w), .int .i64 (w : Int), .slice (some ⟨g2, 0, none⟩) (nw w) (nw w), sc] 31 (0, 0))
  b1 : BlkW wx g1 w m1
  b2 : BlkW wx g2 w m2
  ltb : tb < W.heap.size
  lowC : W.heap.size ≤ C
  lowD : W.heap.size ≤ D
  low1 : W.heap.size ≤ g1
  low2 : W.heap.size ≤ g2
  neCD : C ≠ D
  neC1 : C ≠ g1
  neC2 : C ≠ g2
  neD1 : D ≠ g1
  neD2 : D ≠ g2
section
variable {tb : Nat} {W wx wy : World} {C D w m1 g1 m2 g2 g3 m3 B : Nat} {sc sc2 : Value}
/-- a step that leaves all blocks of ours alone -/
theorem TMem.stepM {M : Nat → Prop} (h : TMem tb W C D w m1 g1 m2 g2 sc wx) (hx : Ext M wx wy) (ht : TapeOk wy tb) (hM : ∀ i, M i → i = tb ∨ (W.heap.size ≤ i ∧ i ≠ C ∧ i ≠ D ∧ i ≠ g1 ∧ i ≠ g2)) : TMem tb W C D w m1 g1 m2 g2 sc wy := by
  obtain ⟨e, _, c, d, b1, b2, l0, l1, l2, l3, l4, n1, n2, n3, n4, n5⟩ := h
  exact ⟨e.trans2 hx (fun i hi hm => by rcases hM i hm with q | q; exact q; omega), ht, hx.blk c (fun m => by have := hM _ m; omega), hx.blk d (fun m => by have := hM _ m; omega), hx.blk b1 (fun m => by have := hM _ m; omega), hx.blk b2 (fun m => by have := hM _ m; omega), l0, l1, l2, l3, l4, n1, n2, n3, n4, n5⟩
theorem TMem.step (h : TMem tb W C D w m1 g1 m2 g2 sc wx) (hx : Ext (At tb) wx wy) (ht : TapeOk wy tb) : TMem tb W C D w m1 g1 m2 g2 sc wy := h.stepM hx ht (fun _ e => .inl e)
theorem TMem.stepNo (h : TMem tb W C D w m1 g1 m2 g2 sc wx) (hx : Ext No wx wy) : TMem tb W C D w m1 g1 m2 g2 sc wy := h.stepM hx (h.tape.ext hx) (fun _ e => e.elim)
theorem TMem.putG (h : TMem tb W C D w m1 g1 m2 g2 sc wx) (hb : BlkW wy g3 w m3) (hx : Ext No wx wy) (hg : wx.heap.size ≤ g3) : TMem tb W C D w m3 g3 m2 g2 sc ((wy.setCell ⟨D, 0, none⟩ (.int .i64 (w : Int))).setCell ⟨D, 1, none⟩ (.slice (some ⟨g3, 0, none⟩) (nw w) (nw w))) := by
  have hC := lt_of_block h.boxC
  have hD := lt_of_block h.boxD
  have hs0 := h.ext.size
  obtain ⟨e, t, c, d, b1, b2, l0, l1, l2, l3, l4, n1, n2, n3, n4, n5⟩ := h.stepNo hx
  have hy := ext_two (W := wy) (w1 := wy) (Ext.refl _ _) (u0 := .int .i64 (w : Int)) (u1 := .slice (some ⟨g3, 0, none⟩) (nw w) (nw w)) D
  exact ⟨e.trans2 hy (fun i hi m => by unfold At at m; omega), TapeOk.extAbove t hy (fun i hi m => by unfold At at m; omega), hy.blk c (by unfold At; omega), (set_same (j := 1) (set_same (j := 0) d)).trans rfl, hy.blk hb (by unfold At; omega), hy.blk b2 (by unfold At; omega), l0, l1, l2, by omega, l4, n1, by omega, n3, by omega, n5⟩
theorem TMem.putK (h : TMem tb W C D w m1 g1 m2 g2 sc wx) (hb : BlkW wy g3 w m3) (hx : Ext No wx wy) (hg : wx.heap.size ≤ g3) : TMem tb W C D w m1 g1 m3 g3 sc ((wy.setCell ⟨D, 2, none⟩ (.int .i64 (w : Int))).setCell ⟨D, 3, none⟩ (.slice (some ⟨g3, 0, none⟩) (nw w) (nw w))) := by
  have hC := lt_of_block h.boxC
  have hD := lt_of_block h.boxD
  have hs0 := h.ext.size
  obtain ⟨e, t, c, d, b1, b2, l0, l1, l2, l3, l4, n1, n2, n3, n4, n5⟩ := h.stepNo hx
  have hy : Ext (At D) wy ((wy.setCell ⟨D, 2, none⟩ (.int .i64 (w : Int))).setCell ⟨D, 3, none⟩ (.slice (some ⟨g3, 0, none⟩) (nw w) (nw w))) :=
    ((Ext.refl (At D) _).setCell (p := ⟨D, 2, none⟩) (fun _ => rfl) _).setCell (p := ⟨D, 3, none⟩) (fun _ => rfl) _
  exact ⟨e.trans2 hy (fun i hi m => by unfold At at m; omega), TapeOk.extAbove t hy (fun i hi m => by unfold At at m; omega), hy.blk c (by unfold At; omega), (set_same (j := 3) (set_same (j := 2) d)).trans rfl, hy.blk b1 (by unfold At; omega), hy.blk hb (by unfold At; omega), l0, l1, l2, l3, by omega, n1, n2, by omega, n4, by omega⟩
theorem TMem.putC (h : TMem tb W C D w m1 g1 m2 g2 sc wx) : TMem tb W C D w m1 g1 m2 g2 sc2 (wx.setCell ⟨D, 4, none⟩ sc2) := by
  obtain ⟨e, t, c, d, b1, b2, l0, l1, l2, l3, l4, n1, n2, n3, n4, n5⟩ := h
  have hy : Ext (At D) wx (wx.setCell ⟨D, 4, none⟩ sc2) := (Ext.refl (At D) _).setCell (p := ⟨D, 4, none⟩) (fun _ => rfl) _
  exact ⟨e.trans2 hy (fun i hi m => by unfold At at m; omega), TapeOk.extAbove t hy (fun i hi m => by unfold At at m; omega), hy.blk c (by unfold At; omega), (set_same (j := 4) d).trans rfl, hy.blk b1 (by unfold At; omega), hy.blk b2 (by unfold At; omega), l0, l1, l2, l3, l4, n1, n2, n3, n4, n5⟩
end
end Go.Proofs.Ytgakojgkkdmabaa

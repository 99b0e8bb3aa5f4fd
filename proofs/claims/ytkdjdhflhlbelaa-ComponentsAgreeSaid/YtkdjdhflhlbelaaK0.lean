/- Rows of a call's own, by functions; the state of the search in memory. -/
import Derived.Test.YtkdjdhflhlbelaaTj
import Derived.Test.YtkdjdhflhlbelaaF4
import Derived.Test.YtkdjdhflhlbelaaI0
set_option linter.unusedVariables false
set_option linter.unusedSimpArgs false
namespace Go.Proofs.Ytkdjdhflhlbelaa
open Go Go.RowKit Tj
theorem row_cut {w : World} {B : Nat} {e : TypeId} {n cap k : Nat} {a : Option Addr} {xs : List Value} (h : w.ownsRow B e 1 (.slice a n cap) n xs) (hk : k ≤ n) : w.ownsRow B e 1 (.slice a k cap) k (xs.take k) := by
 obtain ⟨h1, h2⟩ := h
 refine ⟨by rw [List.length_take, h1]; omega, ?_⟩
 rcases h2 with ⟨h3, h4⟩ | ⟨g, cap', cur, h3, h5, h6, h7, h8, h9, h10⟩
 ·simp only [Value.slice.injEq] at h3
  obtain ⟨rfl, -, rfl⟩ := h3
  obtain rfl : k = 0 := by omega
  exact .inl ⟨rfl, rfl⟩
 ·simp only [Value.slice.injEq] at h3
  obtain ⟨rfl, -, rfl⟩ := h3
  exact .inr ⟨g, cap, cur, rfl, h5, h6, by omega, h8, h9, by rw [← h10, List.take_take]; congr 1; omega⟩
/-- a block of N cells, given by a function -/
def BlkF (w : World) (b : Nat) (T : TypeId) (N : Nat) (f : Nat → Value) : Prop := w.heap[b]? = some (.cells ((List.range N).map f).toArray T (0, 0))
section
variable {w w' : World} {b N : Nat} {T : TypeId} {f : Nat → Value}
theorem BlkF.cell (h : BlkF w b T N f) {i : Nat} (hi : i < N) : w.cell? ⟨b, i, none⟩ = some (f i) := by
 rw [cellOf h]
 simp [hi]
theorem BlkF.free (h : BlkF w b T N f) (j : Nat) : w.frozen? ⟨b, j, none⟩ = false := freeOf h j
theorem BlkF.ext {M : Nat → Prop} (h : BlkF w b T N f) (hx : Ext M w w') (hn : ¬ M b) : BlkF w' b T N f := hx.blk h hn
theorem map_upd (f : Nat → Value) (i : Nat) (v : Value) (N : Nat) : ((List.range N).map f).set i v = (List.range N).map (upd f i v) := by
 refine List.ext_getElem (by simp) (fun j h1 h2 => ?_)
 rw [List.getElem_set]
 simp only [List.getElem_map, List.getElem_range, upd]
 by_cases e : i = j
 ·rw [if_pos e, if_pos e.symm]
 ·rw [if_neg e, if_neg (fun e2 => e e2.symm)]
theorem BlkF.set (h : BlkF w b T N f) (i : Nat) (v : Value) : BlkF (w.setCell ⟨b, i, none⟩ v) b T N (upd f i v) := by
 have h1 := set_same (j := i) (u := v) h
 rw [List.setIfInBounds_toArray, map_upd] at h1
 exact h1
theorem upd_map {α : Type} (g : α → Value) (f : Nat → α) (i : Nat) (v : α) : upd (fun j => g (f j)) i (g v) = fun j => g (upd f i v j) := by
 funext j
 unfold upd
 split <;> rfl
end
/-- the search's struct X and its rows: index in bi, low in bl, out in bo; the path's row is of block P or later -/
structure SvM (N B P X bi bl bo cI cL cO : Nat) (vd : Value) (W0 wr : World) (vp : Value) (s : TS) : Prop where
 ext : Ext (fun b => B ≤ b) W0 wr
 box : wr.heap[X]? = some (.cells #[vd, .slice (some ⟨bi, 0, none⟩) N cI, .slice (some ⟨bl, 0, none⟩) N cL, vp, .slice (some ⟨bo, 0, none⟩) N cO, .int .i64 (s.cnt : Int)] 123 (0, 0))
 rI : BlkF wr bi 3 N (fun i => .int .i64 (s.idx i : Int))
 rL : BlkF wr bl 3 N (fun i => .int .i64 (s.low i : Int))
 rO : BlkF wr bo 3 N (fun i => .int .i64 (s.out i))
 path : wr.ownsRow P 3 1 vp s.path.length ((natsZ s.path).map (.int .i64))
 lo : (B ≤ X ∧ B ≤ bi ∧ B ≤ bl ∧ B ≤ bo) ∧ X < P ∧ bi < P ∧ bl < P ∧ bo < P
 ne : (X ≠ bi ∧ X ≠ bl ∧ X ≠ bo) ∧ bi ≠ bl ∧ bi ≠ bo ∧ bl ≠ bo
 top : P ≤ wr.heap.size
section
variable {N B P X bi bl bo cI cL cO : Nat} {vd : Value} {W0 wr w' : World} {vp vp' : Value} {s : TS}
theorem SvM.stepNo (h : SvM N B P X bi bl bo cI cL cO vd W0 wr vp s) (hx : Ext No wr w') : SvM N B P X bi bl bo cI cL cO vd W0 w' vp s :=
 ⟨h.ext.transNo hx, hx.blk h.box no_no, hx.blk h.rI no_no, hx.blk h.rL no_no, hx.blk h.rO no_no, row_keep h.path hx (fun _ _ e => e), h.lo, h.ne, Nat.le_trans h.top hx.size⟩
theorem SvM.slice (h : SvM N B P X bi bl bo cI cL cO vd W0 wr vp s) : ∃ a c, vp = .slice a s.path.length c := (Row.ofOwns (M := No) h.path (fun _ _ x => x)).slice
theorem SvM.cap {a : Option Addr} {n c : Nat} (h : SvM N B P X bi bl bo cI cL cO vd W0 wr (.slice a n c) s) : n ≤ c := by
 rcases h.path.2 with ⟨h3, h4⟩ | ⟨g, cap', cur, h3, h5, h6, h7, h8, h9, h10⟩
 ·simp only [Value.slice.injEq] at h3
  omega
 ·simp only [Value.slice.injEq] at h3
  omega
theorem SvM.ints (h : SvM N B P X bi bl bo cI cL cO vd W0 wr vp s) : Ints No wr .i64 vp (natsZ s.path) := by
 have h1 := Row.ofOwns (M := No) h.path (fun _ _ x => x)
 unfold Ints
 rw [show (natsZ s.path).length = s.path.length from by simp [natsZ]]
 exact h1
theorem SvM.putLow (h : SvM N B P X bi bl bo cI cL cO vd W0 wr vp s) (n v : Nat) : SvM N B P X bi bl bo cI cL cO vd W0 (wr.setCell ⟨bl, n, none⟩ (.int .i64 (v : Int))) vp { s with low := upd s.low n v } := by
 have hE : Ext (At bl) wr (wr.setCell ⟨bl, n, none⟩ (.int .i64 (v : Int))) := (Ext.refl _ _).setAt _ _
 obtain ⟨⟨l1, l2, l3, l4⟩, l5, l6, l7, l8⟩ := h.lo
 obtain ⟨⟨n1, n2, n3⟩, n4, n5, n6⟩ := h.ne
 have h1 := h.rL.set n (.int .i64 (v : Int))
 rw [upd_map (fun (q : Nat) => Value.int .i64 (q : Int))] at h1
 exact ⟨h.ext.trans2 hE (fun i _ e => by unfold At at e; omega), hE.blk h.box (by unfold At; omega), hE.blk h.rI (by unfold At; omega), h1, hE.blk h.rO (by unfold At; omega), row_keep h.path hE (fun i hi e => by unfold At at e; omega), h.lo, h.ne, Nat.le_trans h.top hE.size⟩
theorem SvM.putIdx (h : SvM N B P X bi bl bo cI cL cO vd W0 wr vp s) (n v : Nat) : SvM N B P X bi bl bo cI cL cO vd W0 (wr.setCell ⟨bi, n, none⟩ (.int .i64 (v : Int))) vp { s with idx := upd s.idx n v } := by
 have hE : Ext (At bi) wr (wr.setCell ⟨bi, n, none⟩ (.int .i64 (v : Int))) := (Ext.refl _ _).setAt _ _
 obtain ⟨⟨l1, l2, l3, l4⟩, l5, l6, l7, l8⟩ := h.lo
 obtain ⟨⟨n1, n2, n3⟩, n4, n5, n6⟩ := h.ne
 have h1 := h.rI.set n (.int .i64 (v : Int))
 rw [upd_map (fun (q : Nat) => Value.int .i64 (q : Int))] at h1
 exact ⟨h.ext.trans2 hE (fun i _ e => by unfold At at e; omega), hE.blk h.box (by unfold At; omega), h1, hE.blk h.rL (by unfold At; omega), hE.blk h.rO (by unfold At; omega), row_keep h.path hE (fun i hi e => by unfold At at e; omega), h.lo, h.ne, Nat.le_trans h.top hE.size⟩
theorem SvM.putOut (h : SvM N B P X bi bl bo cI cL cO vd W0 wr vp s) (n : Nat) (v : Int) : SvM N B P X bi bl bo cI cL cO vd W0 (wr.setCell ⟨bo, n, none⟩ (.int .i64 v)) vp { s with out := upd s.out n v } := by
 have hE : Ext (At bo) wr (wr.setCell ⟨bo, n, none⟩ (.int .i64 v)) := (Ext.refl _ _).setAt _ _
 obtain ⟨⟨l1, l2, l3, l4⟩, l5, l6, l7, l8⟩ := h.lo
 obtain ⟨⟨n1, n2, n3⟩, n4, n5, n6⟩ := h.ne
 have h1 := h.rO.set n (.int .i64 v)
 rw [upd_map (fun (q : Int) => Value.int .i64 q)] at h1
 exact ⟨h.ext.trans2 hE (fun i _ e => by unfold At at e; omega), hE.blk h.box (by unfold At; omega), hE.blk h.rI (by unfold At; omega), hE.blk h.rL (by unfold At; omega), h1, row_keep h.path hE (fun i hi e => by unfold At at e; omega), h.lo, h.ne, Nat.le_trans h.top hE.size⟩
theorem SvM.putCnt (h : SvM N B P X bi bl bo cI cL cO vd W0 wr vp s) (v : Nat) : SvM N B P X bi bl bo cI cL cO vd W0 (wr.setCell ⟨X, 5, none⟩ (.int .i64 (v : Int))) vp { s with cnt := v } := by
 have hE : Ext (At X) wr (wr.setCell ⟨X, 5, none⟩ (.int .i64 (v : Int))) := (Ext.refl _ _).setAt _ _
 obtain ⟨⟨l1, l2, l3, l4⟩, l5, l6, l7, l8⟩ := h.lo
 obtain ⟨⟨n1, n2, n3⟩, n4, n5, n6⟩ := h.ne
 exact ⟨h.ext.trans2 hE (fun i _ e => by unfold At at e; omega), (set_same (j := 5) h.box).trans rfl, hE.blk h.rI (by unfold At; omega), hE.blk h.rL (by unfold At; omega), hE.blk h.rO (by unfold At; omega), row_keep h.path hE (fun i hi e => by unfold At at e; omega), h.lo, h.ne, Nat.le_trans h.top hE.size⟩
theorem SvM.app {o : Obj} {n : Nat} (h : SvM N B P X bi bl bo cI cL cO vd W0 wr vp s) (hown : w'.ownsRow P 3 1 vp' (s.path.length + 1) ((natsZ s.path).map (.int .i64) ++ [.int .i64 (n : Int)])) (hg : (wr.alloc o).grownBy w' vp.ownBlock) :
  SvM N B P X bi bl bo cI cL cO vd W0 (w'.setCell ⟨X, 3, none⟩ vp') vp' { s with path := s.path ++ [n] } := by
 have hx : Ext (fun k => vp.ownBlock = some k) wr w' := ((Ext.refl _ wr).alloc o).grown hg (fun k hk _ => hk)
 have hE : Ext (At X) w' (w'.setCell ⟨X, 3, none⟩ vp') := (Ext.refl _ _).setAt _ _
 obtain ⟨⟨l1, l2, l3, l4⟩, l5, l6, l7, l8⟩ := h.lo
 obtain ⟨⟨n1, n2, n3⟩, n4, n5, n6⟩ := h.ne
 have hp : ∀ k, vp.ownBlock = some k → P ≤ k := fun k hk => (World.ownsRow.lt h.path k hk).1
 have hbox : w'.heap[X]? = _ := hx.blk h.box (fun e => by have := hp X e; omega)
 refine ⟨(h.ext.trans2 hx (fun i _ e => by have := hp i e; omega)).trans2 hE (fun i _ e => by unfold At at e; omega), (set_same (j := 3) hbox).trans rfl, hE.blk (hx.blk h.rI (fun e => by have := hp _ e; omega)) (by unfold At; omega), hE.blk (hx.blk h.rL (fun e => by have := hp _ e; omega)) (by unfold At; omega), hE.blk (hx.blk h.rO (fun e => by have := hp _ e; omega)) (by unfold At; omega), ?_, h.lo, h.ne, Nat.le_trans (Nat.le_trans h.top hx.size) hE.size⟩
 have e : (natsZ (s.path ++ [n])).map (Value.int .i64) = (natsZ s.path).map (.int .i64) ++ [.int .i64 (n : Int)] := by simp [natsZ]
 have h2 := row_keep hown hE (fun i hi e => by unfold At at e; omega)
 show World.ownsRow _ P _ 1 vp' (s.path ++ [n]).length _
 rw [e, List.length_append]
 exact h2
theorem SvM.cut {a : Option Addr} {c k m : Nat} {l : List Nat} (h : SvM N B P X bi bl bo cI cL cO vd W0 wr (.slice a m c) s) (hm : m = s.path.length) (hk : k = l.length) (hl : ∃ l', s.path = l ++ l') :
  SvM N B P X bi bl bo cI cL cO vd W0 (wr.setCell ⟨X, 3, none⟩ (.slice a k c)) (.slice a k c) { s with path := l } := by
 have hE : Ext (At X) wr (wr.setCell ⟨X, 3, none⟩ (.slice a k c)) := (Ext.refl _ _).setAt _ _
 obtain ⟨⟨l1, l2, l3, l4⟩, l5, l6, l7, l8⟩ := h.lo
 obtain ⟨⟨n1, n2, n3⟩, n4, n5, n6⟩ := h.ne
 obtain ⟨l', hl'⟩ := hl
 have hle : k ≤ s.path.length := by rw [hl', List.length_append]; omega
 refine ⟨h.ext.trans2 hE (fun i _ e => by unfold At at e; omega), (set_same (j := 3) h.box).trans rfl, hE.blk h.rI (by unfold At; omega), hE.blk h.rL (by unfold At; omega), hE.blk h.rO (by unfold At; omega), row_keep ?_ hE (fun i hi e => by unfold At at e; omega), h.lo, h.ne, Nat.le_trans h.top hE.size⟩
 have h2 := h.path
 subst hm
 have h3 := row_cut h2 hle
 have e : ((natsZ s.path).map (Value.int .i64)).take k = (natsZ l).map (.int .i64) := by rw [hl', hk]; simp [natsZ, List.take_append]
 rw [e] at h3
 subst hk
 exact h3
end
end Go.Proofs.Ytkdjdhflhlbelaa

/- The reference: Star. -/
import Derived.Test.YtgakojgkkdmabaaDoorRefM
import Derived.Test.YtgakojgkkdmabaaDoorRefH
set_option linter.unusedVariables false
set_option linter.unusedSimpArgs false
namespace Go.Proofs.YtgakojgkkdmabaaDoor
open Go Go.RowKit

theorem BlkW.ext {w w' : World} {g n m : Nat} (h : BlkW w g n m) (hx : Ext No w w') : BlkW w' g n m := hx.blk h no_no
theorem rclosure_g (w z s g : Nat) (rs : List Nat) (sg so : Value) (W : World) (hg : SetAt No W sg w z) (hr : SetsV No W so w rs) (hl : rs.length = w) (hw : w ≤ 256) (hs : s < 2 ^ w) (hb : BlkW W g w s) :
    Calls Tryd.prog 59 #[.agg #[.int .i64 (w : Int), sg, so], .agg #[.int .i64 (w : Int), .slice (some ⟨g, 0, none⟩) (nw w) (nw w)]] W (SetPost (fun b => b < W.heap.size ∧ b ≠ g) w (closZ z rs w s) W) :=
  rclosure_any (fun b => b < W.heap.size ∧ b ≠ g) w z s rs sg so _ W (fun _ e => e.1) hg hr hl (hb.set hw hs (fun e => e.2 rfl))
/-- a table that is filled in box X; what was made before lies below B -/
structure StT (M : Nat → Prop) (W wr : World) (w g X B : Nat) (s1 v : Value) (L : List (RawSet × Value)) (R2 : (Nat → Prop) → World → Prop) : Prop where
  ext : Ext No W wr
  boxX : wr.heap[X]? = some (.cells #[.int .i64 (w : Int), s1, v] 75 (0, 0))
  gen : SetAt (fun b => M b ∨ b = X ∨ B ≤ b) wr s1 w g
  s : SetsOwn (fun b => M b ∨ b = X) wr B v L
  r2 : R2 (fun b => b = X ∨ B ≤ b) wr
  low : W.heap.size ≤ X
  big : X < B
  bw : B ≤ wr.heap.size
section
variable {M : Nat → Prop} {W wr w' : World} {w g X B : Nat} {s1 v v' : Value} {L : List (RawSet × Value)} {R2 : (Nat → Prop) → World → Prop} {p : RawSet × Value}
theorem StT.stepNo (h : StT M W wr w g X B s1 v L R2) (k : Keeps R2) (hx : Ext No wr w') : StT M W w' w g X B s1 v L R2 :=
  ⟨h.ext.transNo hx, hx.blk h.boxX no_no, h.gen.extNo hx, h.s.extNo hx, k.ext h.r2 hx (fun _ _ x => x.elim), h.low, h.big, Nat.le_trans h.bw hx.size⟩
theorem StT.hM (hM : ∀ b, M b → b < wr.heap.size) (h : StT M W wr w g X B s1 v L R2) : ∀ b, ((M b ∨ b = X) ∨ v.ownBlock = some b) → b < wr.heap.size := fun b hb => by
  rcases hb with (hb | rfl) | hb
  · exact hM b hb
  · exact lt_of_block h.boxX
  · exact (h.s.lt b hb).2
theorem StT.app {o : Obj} (h : StT M W wr w g X B s1 v L R2) (k : Keeps R2) (hp : WordsAt (fun b => (M b ∨ b = X) ∨ v.ownBlock = some b) wr p.2 p.1.words) (hown : w'.ownsRow B 25 2 v' (L.length + 1) (flatP L ++ cellsP p))
    (hg : (wr.alloc o).grownBy w' v.ownBlock) (hv : v'.ownBlock = v.ownBlock ∨ v'.ownBlock = some (wr.alloc o).heap.size) :
    StT M W (w'.setCell ⟨X, 2, none⟩ v') w g X B s1 v' (L ++ [p]) R2 ∧ w'.heap[X]? = some (.cells #[.int .i64 (w : Int), s1, v] 75 (0, 0)) := by
  obtain ⟨h1, hE⟩ := h.s.app hp hown hg hv
  have hl := h.low
  have hbg := h.big
  have hbw := h.bw
  have hgt : ∀ i, v.ownBlock = some i → B ≤ i := fun i e => (h.s.lt i e).1
  have hE2 : Ext (At X) w' (w'.setCell ⟨X, 2, none⟩ v') := (Ext.refl (At X) _).setAt _ _
  have hX := hE.blk h.boxX (fun e => by have := hgt X e; omega)
  refine ⟨⟨?_, (set_same (j := 2) hX).trans rfl, (h.gen.ext hE (fun i _ e => .inr (.inr (hgt i e)))).ext hE2 (fun i _ e => .inr (.inl e)), h1.ext hE2 (fun i hi e => by unfold At at e; omega) (fun i e => .inr e), k.ext (k.ext h.r2 hE (fun i _ e => .inr (hgt i e))) hE2 (fun i _ e => .inl e), hl, hbg, Nat.le_trans (Nat.le_trans hbw hE.size) hE2.size⟩, hX⟩
  refine (h.ext.trans2 hE (fun i hi e => ?_)).trans2 hE2 (fun i hi e => by unfold At at e; omega)
  have := hgt i e
  omega
end
def BoxTab (D : Nat) (w g : Nat) (rs : List Nat) (sg so : Value) (M : Nat → Prop) (W : World) : Prop := W.heap[D]? = some (.cells #[.int .i64 (w : Int), sg, so] 75 (0, 0)) ∧ ¬ M D ∧ RowsO w g rs sg so M W
theorem keeps_tab (D w g : Nat) (rs : List Nat) (sg so : Value) : Keeps (BoxTab D w g rs sg so) :=
  ⟨fun h hx hm => ⟨hx.blk h.1 (fun e => h.2.1 (hm _ (lt_of_block h.1) e)), h.2.1, h.2.2.ext hx hm⟩, fun h hm => ⟨h.1, fun e => h.2.1 (hm _ (lt_of_block h.1) e), h.2.2.mono hm⟩⟩
def StV (A C D w g : Nat) (rs : List Nat) (sg so sk sc s0 : Value) (M : Nat → Prop) (W : World) : Prop :=
  (W.heap[A]? = some (.cells #[.int .i64 (w : Int), s0, .int .i64 (w : Int), sk, sc] 28 (0, 0)) ∧ ¬ M A) ∧ (W.heap[C]? = some (.cells #[.int .i64 0, .slice none 0 0, .int .i64 0, .slice none 0 0, .slice none 0 0] 28 (0, 0)) ∧ ¬ M C) ∧ BoxTab D w g rs sg so M W
theorem StV.rows {A C D w g : Nat} {rs : List Nat} {sg so sk sc s0 : Value} {M : Nat → Prop} {W : World} (h : StV A C D w g rs sg so sk sc s0 M W) : RowsO w g rs sg so M W := h.2.2.2.2
theorem keeps_sv (A C D w g : Nat) (rs : List Nat) (sg so sk sc s0 : Value) : Keeps (StV A C D w g rs sg so sk sc s0) :=
  ⟨fun h hx hm => ⟨⟨hx.blk h.1.1 (fun e => h.1.2 (hm _ (lt_of_block h.1.1) e)), h.1.2⟩, ⟨hx.blk h.2.1.1 (fun e => h.2.1.2 (hm _ (lt_of_block h.2.1.1) e)), h.2.1.2⟩, (keeps_tab D w g rs sg so).ext h.2.2 hx hm⟩,
   fun h hm => ⟨⟨h.1.1, fun e => h.1.2 (hm _ (lt_of_block h.1.1) e)⟩, ⟨h.2.1.1, fun e => h.2.1.2 (hm _ (lt_of_block h.2.1.1) e)⟩, (keeps_tab D w g rs sg so).mono h.2.2 hm⟩⟩
theorem StT.start {M : Nat → Prop} {W wx : World} {w g X : Nat} {s1 : Value} {R2 : (Nat → Prop) → World → Prop} (k : Keeps R2) (hx : Ext No W wx) (hbox : wx.heap[X]? = some (.cells #[.int .i64 (w : Int), s1, .slice none 0 0] 75 (0, 0))) (hgen : SetAt (fun b => M b ∨ b = X) wx s1 w g) (hr : R2 (fun b => b = X) wx) (hl : W.heap.size ≤ X) :
    StT M W wx w g X wx.heap.size s1 (.slice none 0 0) [] R2 :=
  ⟨hx, hbox, hgen.mono (fun i hi e => by
    rcases e with e | e | e
    · exact .inl e
    · exact .inr e
    · omega), SetsOwn.nil _ _ _, k.mono hr (fun i hi e => by
    rcases e with e | e
    · exact e
    · omega), hl, lt_of_block hbox, Nat.le_refl _⟩
theorem StT.late {M : Nat → Prop} {W w7 : World} {w z n0 pre g5 : Nat} {s1 : Value} {R2 : (Nat → Prop) → World → Prop} (k : Keeps R2) (hW : Ext No W w7) (hM : ∀ b, M b → b < n0) (h4 : W.heap.size ≤ n0) (hn : n0 ≤ pre) (hg : n0 ≤ g5) (h7 : pre ≤ w7.heap.size) (hs : SetAt (fun b => b < pre ∧ b ≠ g5) w7 s1 w z) (hr : R2 (fun b => n0 ≤ b) w7) :
    StT M W (w7.alloc (.cells #[.int .i64 (w : Int), s1, .slice none 0 0] 75)) w z w7.heap.size (w7.alloc (.cells #[.int .i64 (w : Int), s1, .slice none 0 0] 75)).heap.size s1 (.slice none 0 0) [] R2 :=
  StT.start k (hW.alloc _) (alloc_top rfl) ((hs.mono (fun i hi e => by
    rcases e with e | e
    · have := hM i e; exact ⟨by omega, by omega⟩
    · omega)).extNo ((Ext.refl _ _).alloc _)) (k.mono (k.ext hr ((Ext.refl No w7).alloc _) (fun _ _ x => x.elim)) (fun i _ e => by subst e; omega)) hW.size
theorem StT.early {M : Nat → Prop} {W w7 : World} {w z n0 pre g5 Y : Nat} {s1 : Value} {R2 : (Nat → Prop) → World → Prop} (k : Keeps R2) (hW : Ext No W w7) (hM : ∀ b, M b → b < n0) (h4 : W.heap.size ≤ n0) (hn : n0 ≤ pre) (hg : n0 ≤ g5) (hs : SetAt (fun b => b < pre ∧ b ≠ g5) w7 s1 w z) (hr : R2 (fun b => n0 ≤ b) w7)
    (hY : n0 ≤ Y) (hYp : Y < pre) (hYg : Y ≠ g5) (hi : w7.heap[Y]? = some (.cells #[.int .i64 0, .slice none 0 0, .slice none 0 0] 75 (0, 0))) :
    StT M W (((w7.setCell ⟨Y, 0, none⟩ (.int .i64 (w : Int))).setCell ⟨Y, 1, none⟩ s1).setCell ⟨Y, 2, none⟩ (.slice none 0 0)) w z Y (((w7.setCell ⟨Y, 0, none⟩ (.int .i64 (w : Int))).setCell ⟨Y, 1, none⟩ s1).setCell ⟨Y, 2, none⟩ (.slice none 0 0)).heap.size s1 (.slice none 0 0) [] R2 := by
  have hE := set3 w7 Y (.int .i64 (w : Int)) s1 (.slice none 0 0)
  refine StT.start k (hW.trans2 hE (fun i hi e => by unfold At at e; omega)) (fin3 hi _ _ _) ((hs.mono (M' := fun b => M b ∨ b = Y) (fun i hi e => ?_)).ext hE (fun i _ e => .inr e)) (k.mono (k.ext hr hE (fun i _ e => by unfold At at e; omega)) (fun i _ e => by subst e; exact hY)) (Nat.le_trans h4 hY)
  rcases e with e | e
  · have := hM i e; exact ⟨by omega, by omega⟩
  · subst e; exact ⟨hYp, hYg⟩
set_option maxRecDepth 100000 in
set_option maxHeartbeats 1000000 in
theorem rstar_no (r : RawT) (g1 k1 c1 : Value) (W : World) (h : RawTAt No W g1 k1 c1 r) (hv : validT r = false) :
    Calls Tryd.prog 28 #[.agg #[.int .i64 r.gen.width, g1, .int .i64 r.kill.width, k1, c1]] W (TrNo 1 W) := by
  have H := Lib.hid h
  have HV := Lib.hid hv
  obtain ⟨ag, ng, cg, rfl⟩ := h.gen.shaped
  obtain ⟨ak, nk, ck, rfl⟩ := h.kill.shaped
  obtain ⟨ac, nc, cc, rfl⟩ := h.copies.shaped
  clear h hv
  go_enter Tryd.func28, Tryd.ntmps28
  go_wp2_with fail
  have hx0 : Ext No W ((W.alloc (.cells #[.int .i64 r.gen.width, .slice ag ng cg, .int .i64 r.kill.width, .slice ak nk ck, .slice ac nc cc] 28)).alloc (.cells #[.int .i64 0, .slice none 0 0, .int .i64 0, .slice none 0 0, .slice none 0 0] 28)) := ((Ext.refl _ _).alloc _).alloc _
  have hC : ((W.alloc (.cells #[.int .i64 r.gen.width, .slice ag ng cg, .int .i64 r.kill.width, .slice ak nk ck, .slice ac nc cc] 28)).alloc (.cells #[.int .i64 0, .slice none 0 0, .int .i64 0, .slice none 0 0, .slice none 0 0] 28)).heap[W.heap.size + 1]? = some (.cells #[.int .i64 0, .slice none 0 0, .int .i64 0, .slice none 0 0, .slice none 0 0] 28 (0, 0)) := alloc_top (by simp)
  generalize ((W.alloc (.cells #[.int .i64 r.gen.width, .slice ag ng cg, .int .i64 r.kill.width, .slice ak nk ck, .slice ac nc cc] 28)).alloc (.cells #[.int .i64 0, .slice none 0 0, .int .i64 0, .slice none 0 0, .slice none 0 0] 28)) = W2 at *
  refine (rvalidT_any r _ _ _ _ (H.out.extNo hx0)).mono ?_
  rintro e1 w1 ⟨rfl, hx1⟩
  rw [HV.out]
  have hC1 := hx1.blk hC no_no
  have hx := Lib.hid (hx0.transNo hx1)
  have cC := cellOf hC1
  have fC := freeOf hC1
  have HC := Lib.hid hC1
  clear hx0 hx1 hC hC1
  go_wp2_with fail
  have hfin := BoxR.fin5 ⟨_, rfl, HC.out⟩ (.int .i64 0) (.slice none 0 0) (.int .i64 0) (.slice none 0 0) (.slice none 0 0)
  have hE := set5 w1 (W.heap.size + 1) (.int .i64 0) (.slice none 0 0) (.int .i64 0) (.slice none 0 0) (.slice none 0 0)
  clear cC fC
  generalize (((((w1.setCell ⟨W.heap.size + 1, 0, none⟩ (.int .i64 0)).setCell ⟨W.heap.size + 1, 1, none⟩ (.slice none 0 0)).setCell ⟨W.heap.size + 1, 2, none⟩ (.int .i64 0)).setCell ⟨W.heap.size + 1, 3, none⟩ (.slice none 0 0)).setCell ⟨W.heap.size + 1, 4, none⟩ (.slice none 0 0)) = WF at *
  have cF := cellOf hfin
  refine ret_ex rfl ?_
  simp [results, Tryd.results28, go_sem, cF]
  exact ⟨rfl, hx.out.trans2 hE (fun i hi e => by unfold At at e; omega)⟩
set_option maxRecDepth 100000 in
set_option maxHeartbeats 8000000 in
theorem rstar_any (M : Nat → Prop) (t : TrD) (g1 k1 c1 : Value) (W : World) (hM : ∀ b, M b → b < W.heap.size) (h : TrAt No W g1 k1 c1 t) :
    Calls Tryd.prog 28 #[.agg #[.int .i64 (t.w : Int), g1, .int .i64 (t.w : Int), k1, c1]] W (ClosePost M t.w (closZ t.gen (tabT t) t.w 0) (starTab t t.w) W) := by
  have H := Lib.hid h
  have HM := Lib.hid hM
  have HO := Lib.hid h.ok
  obtain ⟨ag, cg, rfl⟩ := h.gen.slice
  obtain ⟨ak, ck, rfl⟩ := h.kill.slice
  obtain ⟨ac, cc, rfl⟩ := Row.slice h.copies
  have hw := h.ok.w
  obtain ⟨i0, hi0, hz0, hz1, hz2⟩ := info_parts infoS
  clear h hM
  go_enter Tryd.func28, Tryd.ntmps28
  go_wp2_with fail
  have hx0 : Ext No W ((W.alloc (.cells #[.int .i64 (t.w : Int), .slice ag (nw t.w) cg, .int .i64 (t.w : Int), .slice ak (nw t.w) ck, .slice ac t.copies.length cc] 28)).alloc (.cells #[.int .i64 0, .slice none 0 0, .int .i64 0, .slice none 0 0, .slice none 0 0] 28)) := ((Ext.refl _ _).alloc _).alloc _
  have hA : ((W.alloc (.cells #[.int .i64 (t.w : Int), .slice ag (nw t.w) cg, .int .i64 (t.w : Int), .slice ak (nw t.w) ck, .slice ac t.copies.length cc] 28)).alloc (.cells #[.int .i64 0, .slice none 0 0, .int .i64 0, .slice none 0 0, .slice none 0 0] 28)).heap[W.heap.size]? = some (.cells #[.int .i64 (t.w : Int), .slice ag (nw t.w) cg, .int .i64 (t.w : Int), .slice ak (nw t.w) ck, .slice ac t.copies.length cc] 28 (0, 0)) := alloc_under (alloc_top rfl)
  have hC : ((W.alloc (.cells #[.int .i64 (t.w : Int), .slice ag (nw t.w) cg, .int .i64 (t.w : Int), .slice ak (nw t.w) ck, .slice ac t.copies.length cc] 28)).alloc (.cells #[.int .i64 0, .slice none 0 0, .int .i64 0, .slice none 0 0, .slice none 0 0] 28)).heap[W.heap.size + 1]? = some (.cells #[.int .i64 0, .slice none 0 0, .int .i64 0, .slice none 0 0, .slice none 0 0] 28 (0, 0)) := alloc_top (by simp)
  generalize ((W.alloc (.cells #[.int .i64 (t.w : Int), .slice ag (nw t.w) cg, .int .i64 (t.w : Int), .slice ak (nw t.w) ck, .slice ac t.copies.length cc] 28)).alloc (.cells #[.int .i64 0, .slice none 0 0, .int .i64 0, .slice none 0 0, .slice none 0 0] 28)) = V0 at *
  refine (rvalidTr_any t t.w _ _ _ _ rfl (H.out.extNo hx0)).mono ?_
  rintro e1 w1 ⟨rfl, hx1⟩
  have hx := Lib.hid (hx0.transNo hx1)
  have HA := Lib.hid (hx1.blk hA no_no)
  have HC := Lib.hid (hx1.blk hC no_no)
  clear hx0 hx1 hA hC
  have cA := cellOf HA.out
  go_wp2_with fail
  refine (rtable_any No t _ _ _ _ no_lt (H.out.extNo hx.out)).mono ?_
  rintro e2 w2 ⟨a2, c2, b2, d2, rfl, hrows, hx2⟩
  have hb4 : (w2.alloc (.cells #[.int .i64 (t.w : Int), .slice a2 (nw t.w) c2, .slice b2 (tabT t).length d2] 75)).heap[w2.heap.size]? = some (.cells #[.int .i64 (t.w : Int), .slice a2 (nw t.w) c2, .slice b2 (tabT t).length d2] 75 (0, 0)) := alloc_top rfl
  have hx4 : Ext No w2 (w2.alloc (.cells #[.int .i64 (t.w : Int), .slice a2 (nw t.w) c2, .slice b2 (tabT t).length d2] 75)) := (Ext.refl _ _).alloc _
  have HB4 := Lib.hid hb4
  have HX4 := Lib.hid ((hx.out.transNo hx2).transNo hx4)
  have HA4 := Lib.hid (hx4.blk (hx2.blk HA.out no_no) no_no)
  have HC4 := Lib.hid (hx4.blk (hx2.blk HC.out no_no) no_no)
  have HR4 := Lib.hid (hrows.out.extNo hx4)
  clear hx2 HC hrows cA HA hx hb4 hx4
  have cA := cellOf HA4.out
  go_wp2_with fail
  clear cA
  generalize (w2.alloc (.cells #[.int .i64 (t.w : Int), .slice a2 (nw t.w) c2, .slice b2 (tabT t).length d2] 75)) = W4 at *
  generalize w2.heap.size = D4 at *
  have HTL := Lib.hid (show (tabT t).length = t.w from tabTo_len _ _)
  have HRV := Lib.hid (show StV W.heap.size (W.heap.size + 1) D4 t.w t.gen (tabT t) (.slice a2 (nw t.w) c2) (.slice b2 (tabT t).length d2) (.slice ak (nw t.w) ck) (.slice ac t.copies.length cc) (.slice ag (nw t.w) cg) (fun b => W4.heap.size ≤ b) W4 from ⟨⟨HA4.out, Nat.not_le.2 (lt_of_block HA4.out)⟩, ⟨HC4.out, Nat.not_le.2 (lt_of_block HC4.out)⟩, HB4.out, Nat.not_le.2 (lt_of_block HB4.out), HR4.out.mono (fun i hi e => absurd hi (Nat.not_lt.2 e))⟩)
  go_cut [5] (fun s5 wx => ∃ (Y B : Nat) (a5 : Option Addr) (c5 : Nat), s5 = .pointer (some ⟨Y, 0, none⟩) ∧ Hid (StT (fun b => M b ∨ b = W.heap.size + 1) W wx t.w (closZ t.gen (tabT t) t.w 0) Y B (.slice a5 (nw t.w) c5) (.slice none 0 0) [] (StV W.heap.size (W.heap.size + 1) D4 t.w t.gen (tabT t) (.slice a2 (nw t.w) c2) (.slice b2 (tabT t).length d2) (.slice ak (nw t.w) ck) (.slice ac t.copies.length cc) (.slice ag (nw t.w) cg))))
  case first =>
    have cA := cellOf HA4.out
    have cB := cellOf HB4.out
    have l0 : W4.cell? ⟨W.heap.size, 0, none⟩ = some (.int .i64 (t.w : Int)) := cA 0
    have l1 : W4.cell? ⟨D4, 0, none⟩ = some (.int .i64 (t.w : Int)) := cB 0
    have l2 : W4.cell? ⟨D4, 1, none⟩ = some (.slice a2 (nw t.w) c2) := cB 1
    have l3 : W4.cell? ⟨D4, 2, none⟩ = some (.slice b2 (tabT t).length d2) := cB 2
    have l4 : Ext No W4 W4 := Ext.refl _ _
    have hlA : W.heap.size < W4.heap.size := lt_of_block HA4.out
    have hlC : W.heap.size + 1 < W4.heap.size := lt_of_block HC4.out
    have hlD : D4 < W4.heap.size := lt_of_block HB4.out
    have HM4 : Hid (∀ b, (M b ∨ b = W.heap.size + 1) → b < W4.heap.size) := Lib.hid (fun b hb => by
      rcases hb with hb | rfl
      · exact Nat.lt_of_lt_of_le (HM.out b hb) HX4.out.size
      · exact hlC)
    clear cA cB
    go_region_held3 (fun w' => w'.cell? ⟨W.heap.size, 0, none⟩ = some (.int .i64 (t.w : Int)) ∧ w'.cell? ⟨D4, 0, none⟩ = some (.int .i64 (t.w : Int)) ∧ w'.cell? ⟨D4, 1, none⟩ = some (.slice a2 (nw t.w) c2) ∧ w'.cell? ⟨D4, 2, none⟩ = some (.slice b2 (tabT t).length d2) ∧ Ext No W4 w')
      ((go_split_ands; refine ⟨?_, ?_, ?_, ?_, ?_⟩ <;> (repeat (first | (with_reducible assumption) | (with_reducible exact Ext.refl _ _) | (with_reducible refine keepD ?_) | (with_reducible refine keepA ?_) | (with_reducible refine Ext.drew ?_) | (with_reducible refine Ext.alloc ?_ _) | (with_reducible refine BoxR.drew ?_) | (with_reducible refine BoxR.alloc ?_ _) | (with_reducible refine BoxR.set ?_ _ _) | ((with_reducible refine keepS ?_ ?_); (first | (with_reducible assumption) | omega | (simp; omega) | (exact Nat.le_refl _))) | (with_reducible refine Ext.setAt ?_ _ _) | ((with_reducible refine Ext.own ?_ ?_ _); rotate_left; (first | (with_reducible assumption) | omega | (simp; omega) | (exact Nat.le_refl _))) | (with_reducible refine keepN hyA ?_) | (with_reducible refine Ext.transNo ?_ hyA) | (with_reducible refine BoxR.ext ?_ hyA)))))
      (first
        | ((go_at_call 29); (try go_split_ands); (with_reducible refine (rempty_any t.w _ hw).mono ?_); (have hx5a := (show Ext No W4 _ from by with_reducible assumption)); (rintro e5 w5 ⟨g5, rfl, hb5, hg5, hyA⟩); (have hyA2 := hyA); (have hx5 := Ext.transNo hx5a hyA); (have hs5 := hx5.size); (have hg5a := Nat.le_trans hx5a.size hg5))
        | ((go_at_call 59); (try go_split_ands); (with_reducible refine (rclosure_g t.w t.gen 0 g5 (tabT t) _ _ _ (HR4.out.set.no.extNo ?_) (HR4.out.sets.no.extNo ?_) HTL.out hw (Nat.two_pow_pos _) (hb5.out.ext ?_)).mono ?_); (with_reducible assumption); (with_reducible assumption); (repeat (first | (with_reducible exact Ext.refl _ _) | (with_reducible assumption) | (with_reducible refine Ext.drew ?_) | (with_reducible refine Ext.alloc ?_ _))); (have hx6 := (show Ext No W4 _ from by with_reducible assumption)); (have hs6 := hx6.size); (rintro e7 w7 ⟨a7, c7, rfl, hs7, hyA⟩); (have hyC := hyA); (have hx7 := Ext.transNo hx6 hyC); (first | (with_reducible have hi := two_facts2 hyC (alloc_top (o := (.cells #[.int .i64 0, .slice none 0 0, .slice none 0 0] 75)) rfl)) | (with_reducible have hi := two_facts2 hyC (hyA2.blk (alloc_top (o := (.cells #[.int .i64 0, .slice none 0 0, .slice none 0 0] 75)) rfl) no_no)) | skip); (try ((obtain ⟨hi, hlt⟩ := hi); (have HI := Lib.hid hi); (have HL := Lib.hid hlt); (have cI := cellOf hi); (have fI := freeOf hi); (clear hi hlt)))))
    all_goals
      go_wp2_with fail
      go_meet
      first
      | exact ⟨_, _, a7, c7, rfl, Lib.hid (StT.late (keeps_sv _ _ _ _ _ _ _ _ _ _ _) (HX4.out.transNo hx7) HM4.out HX4.out.size hs6 hg5a hyC.size hs7.out ((keeps_sv _ _ _ _ _ _ _ _ _ _ _).ext HRV.out hx7 (fun _ _ x => x.elim)))⟩
      | exact ⟨_, _, a7, c7, rfl, Lib.hid (StT.early (keeps_sv _ _ _ _ _ _ _ _ _ _ _) (HX4.out.transNo hx7) HM4.out HX4.out.size hs6 hg5a hs7.out ((keeps_sv _ _ _ _ _ _ _ _ _ _ _).ext HRV.out hx7 (fun _ _ x => x.elim)) (by first | exact Nat.le_refl _ | exact hs5) HL.out (by first | exact Nat.ne_of_lt (show W4.heap.size < g5 from by have h1 := hg5; simp at h1; omega) | exact Nat.ne_of_gt (lt_of_block hb5.out)) HI.out)⟩
  case rest =>
  obtain ⟨Y, B, a5, c5, rfl, hm⟩ := hcut
  rename World => W6
  clear HA4 HB4 HC4 HR4 HX4 HRV
  have cA := cellOf hm.out.r2.1.1
  go_wp2_with fail
  clear cA
  have hwl : (t.w : Int) ≤ 256 := by omega
  go_loopw [6] (fun i wr => ∃ (k : Nat) (av : Option Addr) (cv : Nat) (L : List (RawSet × Value)), k ≤ t.w ∧ i = .int .i64 k ∧ Hid (L.map Prod.fst = (starTab t k).map (setN t.w)) ∧ Hid (StT (fun b => M b ∨ b = W.heap.size + 1) W wr t.w (closZ t.gen (tabT t) t.w 0) Y B (.slice a5 (nw t.w) c5) (.slice av L.length cv) L (StV W.heap.size (W.heap.size + 1) D4 t.w t.gen (tabT t) (.slice a2 (nw t.w) c2) (.slice b2 (tabT t).length d2) (.slice ak (nw t.w) ck) (.slice ac t.copies.length cc) (.slice ag (nw t.w) cg)))) (fun i _ => t.w - (intOf i).toNat)
  case atStart => exact ⟨0, none, 0, [], Nat.zero_le _, rfl, Lib.hid rfl, hm⟩
  case round =>
    clear hm
    obtain ⟨k, av, cv, L, hk, rfl, HL, hm⟩ := hrel
    rename World => wr
    have hpos : (0 : Int) ≤ (k : Int) := by omega
    have hLn : L.length ≤ 256 := by have := congrArg List.length HL.out; simp [starTab] at this; omega
    have cA := cellOf hm.out.r2.1.1
    by_cases hlt : k < t.w
    · have hlz : (k : Int) < (t.w : Int) := by omega
      have HKK : Hid (Value.int .i64 ((k : Int) + 1) = .int .i64 ((k + 1 : Nat) : Int)) := Lib.hid (by rw [show ((k + 1 : Nat) : Int) = (k : Int) + 1 from by omega])
      have HSN : Hid (starTab t (k + 1) = starTab t k ++ [closZ t.gen (tabT t) t.w (2 ^ k)]) := Lib.hid (starTab_snoc _ _)
      go_wp2_with fail
      have cB := cellOf hm.out.r2.2.2.1
      have l0 : wr.cell? ⟨W.heap.size, 0, none⟩ = some (.int .i64 (t.w : Int)) := cA 0
      have l1 : wr.cell? ⟨D4, 0, none⟩ = some (.int .i64 (t.w : Int)) := cB 0
      have l2 : wr.cell? ⟨D4, 1, none⟩ = some (.slice a2 (nw t.w) c2) := cB 1
      have l3 : wr.cell? ⟨D4, 2, none⟩ = some (.slice b2 (tabT t).length d2) := cB 2
      have n0 : W.heap.size ≠ Y := fun e => hm.out.r2.1.2 (.inl e)
      have n1 : D4 ≠ Y := fun e => hm.out.r2.2.2.2.1 (.inl e)
      have hvA : ¬ (Value.slice av L.length cv).ownBlock = some W.heap.size := fun e => hm.out.r2.1.2 (.inr (hm.out.s.lt _ e).1)
      have hv4 : ¬ (Value.slice av L.length cv).ownBlock = some D4 := fun e => hm.out.r2.2.2.2.1 (.inr (hm.out.s.lt _ e).1)
      clear cA cB
      refine wp_region_held_drew (S := (fun w' => w'.cell? ⟨W.heap.size, 0, none⟩ = some (.int .i64 (t.w : Int)) ∧ w'.cell? ⟨D4, 0, none⟩ = some (.int .i64 (t.w : Int)) ∧ w'.cell? ⟨D4, 1, none⟩ = some (.slice a2 (nw t.w) c2) ∧ w'.cell? ⟨D4, 2, none⟩ = some (.slice b2 (tabT t).length d2))) (by kernel_rfl) ?_ (fun hHeld => ?_)
      · (go_split_ands; refine ⟨?_, ?_, ?_, ?_⟩ <;> (repeat (first | (with_reducible assumption) | (with_reducible exact Ext.refl _ _) | (with_reducible refine keepD ?_) | (with_reducible refine keepA ?_) | (with_reducible refine Ext.drew ?_) | (with_reducible refine Ext.alloc ?_ _) | (with_reducible refine BoxR.drew ?_) | (with_reducible refine BoxR.alloc ?_ _) | (with_reducible refine BoxR.set ?_ _ _) | ((with_reducible refine keepS ?_ ?_); (first | (with_reducible assumption) | omega | (simp; omega) | (exact Nat.le_refl _))) | (with_reducible refine Ext.setAt ?_ _ _) | ((with_reducible refine Ext.own ?_ ?_ _); rotate_left; (first | (with_reducible assumption) | omega | (simp; omega) | (exact Nat.le_refl _))) | (with_reducible refine keepN hyA ?_) | (with_reducible refine Ext.transNo ?_ hyA) | (with_reducible refine BoxR.ext ?_ hyA))))
      replace hm := Lib.hid (hm.out.stepNo (keeps_sv _ _ _ _ _ _ _ _ _ _ _) (Ext.refl No wr).drew)
      generalize wr.drew = v0 at *
      refine held_take (i := 0) (v := ?_) rfl (by kernel_rfl) (by kernel_rfl) (by kernel_rfl) (fun _ _ _ h => h) rfl (fun w hSw => ?_) hHeld ?_
      rotate_left
      · (try dsimp only at hSw); go_simp; (try with_reducible rfl)
      try simp only [Act.put, List.setIfInBounds_toArray, List.set_cons_zero, List.set_cons_succ]
      refine held_take (i := 2) (v := ?_) rfl (by kernel_rfl) (by kernel_rfl) (by kernel_rfl) (fun _ _ _ h => h) rfl (fun w hSw => ?_) hHeld ?_
      rotate_left
      · (try dsimp only at hSw); go_simp; (try with_reducible rfl)
      try simp only [Act.put, List.setIfInBounds_toArray, List.set_cons_zero, List.set_cons_succ]
      refine held_take (i := 3) (v := ?_) rfl (by kernel_rfl) (by kernel_rfl) (by kernel_rfl) (fun _ _ _ h => h) rfl (fun w hSw => ?_) hHeld ?_
      rotate_left
      · (try dsimp only at hSw); go_simp; (try with_reducible rfl)
      try simp only [Act.put, List.setIfInBounds_toArray, List.set_cons_zero, List.set_cons_succ]
      refine held_take (i := 4) (v := ?_) rfl (by kernel_rfl) (by kernel_rfl) (by kernel_rfl) (fun _ _ _ h => h) rfl (fun w hSw => ?_) hHeld ?_
      rotate_left
      · (try dsimp only at hSw); go_simp; (try with_reducible rfl)
      try simp only [Act.put, List.setIfInBounds_toArray, List.set_cons_zero, List.set_cons_succ]
      refine held_take (i := 5) (v := ?_) rfl (by kernel_rfl) (by kernel_rfl) (by kernel_rfl) (fun _ _ _ h => h) rfl (fun w hSw => ?_) hHeld ?_
      rotate_left
      · (try dsimp only at hSw); go_simp; (try with_reducible rfl)
      try simp only [Act.put, List.setIfInBounds_toArray, List.set_cons_zero, List.set_cons_succ]
      refine held_take (i := 7) (v := ?_) rfl (by kernel_rfl) (by kernel_rfl) (by kernel_rfl) (fun _ _ _ h => h) rfl (fun w hSw => ?_) hHeld ?_
      rotate_left
      · (try dsimp only at hSw); go_simp; (try with_reducible rfl)
      try simp only [Act.put, List.setIfInBounds_toArray, List.set_cons_zero, List.set_cons_succ]
      refine held_next2 (i := 1) (j := 6) (by kernel_rfl) (NextOp.mk rfl rfl (fun K hK => ?_)) (NextOp.mk rfl rfl (fun K hK => ?_))
      · ((have cX := cellOf hm.out.boxX); go_simp; (clear cX))
        refine hK.out _ _ ?_ (fun hNew => ?_)
        · (go_split_ands; refine ⟨?_, ?_, ?_, ?_⟩ <;> (repeat (first | (with_reducible assumption) | (with_reducible exact Ext.refl _ _) | (with_reducible refine keepD ?_) | (with_reducible refine keepA ?_) | (with_reducible refine Ext.drew ?_) | (with_reducible refine Ext.alloc ?_ _) | (with_reducible refine BoxR.drew ?_) | (with_reducible refine BoxR.alloc ?_ _) | (with_reducible refine BoxR.set ?_ _ _) | ((with_reducible refine keepS ?_ ?_); (first | (with_reducible assumption) | omega | (simp; omega) | (exact Nat.le_refl _))) | (with_reducible refine Ext.setAt ?_ _ _) | ((with_reducible refine Ext.own ?_ ?_ _); rotate_left; (first | (with_reducible assumption) | omega | (simp; omega) | (exact Nat.le_refl _))) | (with_reducible refine keepN hyA ?_) | (with_reducible refine Ext.transNo ?_ hyA) | (with_reducible refine BoxR.ext ?_ hyA))))
        clear hK K hHeld
        have hHeld := hNew
        clear hNew
        skip
        try simp only [Act.put, List.setIfInBounds_toArray, List.set_cons_zero, List.set_cons_succ]
        refine held_call (i := 6) rfl (by kernel_rfl) rfl (fun K hK => ?_)
        (go_simp; go_at_call 29; (with_reducible refine (rempty_any t.w _ hw).mono ?_); (rintro e6 w6 ⟨g6, rfl, hb6, _, hyA⟩); go_simp)
        refine hK.out _ _ ?_ (fun hNew => ?_)
        · (go_split_ands; refine ⟨?_, ?_, ?_, ?_⟩ <;> (repeat (first | (with_reducible assumption) | (with_reducible exact Ext.refl _ _) | (with_reducible refine keepD ?_) | (with_reducible refine keepA ?_) | (with_reducible refine Ext.drew ?_) | (with_reducible refine Ext.alloc ?_ _) | (with_reducible refine BoxR.drew ?_) | (with_reducible refine BoxR.alloc ?_ _) | (with_reducible refine BoxR.set ?_ _ _) | ((with_reducible refine keepS ?_ ?_); (first | (with_reducible assumption) | omega | (simp; omega) | (exact Nat.le_refl _))) | (with_reducible refine Ext.setAt ?_ _ _) | ((with_reducible refine Ext.own ?_ ?_ _); rotate_left; (first | (with_reducible assumption) | omega | (simp; omega) | (exact Nat.le_refl _))) | (with_reducible refine keepN hyA ?_) | (with_reducible refine Ext.transNo ?_ hyA) | (with_reducible refine BoxR.ext ?_ hyA))))
        clear hK K hHeld
        have hHeld := hNew
        clear hNew
        replace hm := Lib.hid (hm.out.stepNo (keeps_sv _ _ _ _ _ _ _ _ _ _ _) hyA)
        clear hyA
        try simp only [Act.put, List.setIfInBounds_toArray, List.set_cons_zero, List.set_cons_succ]
        refine held_call (i := 8) rfl (by kernel_rfl) rfl (fun K hK => ?_)
        (go_simp; go_at_call 36; (with_reducible refine (rput_any t.w 0 k _ _ hlt (BlkW.setNo hb6.out hw (Nat.two_pow_pos _))).mono ?_); (rintro e7 w7 ⟨g7, rfl, hb7, hg7, hyA⟩); (have hlo7 := hg7); (have hMg : ¬ (fun b => ((M b ∨ b = W.heap.size + 1) ∨ b = Y) ∨ (Value.slice av L.length cv).ownBlock = some b) g7 := fun e => Nat.lt_irrefl _ (Nat.lt_of_lt_of_le ((hm.out.hM (fun b hb => by rcases hb with hb | rfl; exact Nat.lt_of_lt_of_le (HM.out b hb) hm.out.ext.size; exact lt_of_block hm.out.r2.2.1.1)) g7 e) hlo7)); go_simp)
        refine hK.out _ _ ?_ (fun hNew => ?_)
        · (go_split_ands; refine ⟨?_, ?_, ?_, ?_⟩ <;> (repeat (first | (with_reducible assumption) | (with_reducible exact Ext.refl _ _) | (with_reducible refine keepD ?_) | (with_reducible refine keepA ?_) | (with_reducible refine Ext.drew ?_) | (with_reducible refine Ext.alloc ?_ _) | (with_reducible refine BoxR.drew ?_) | (with_reducible refine BoxR.alloc ?_ _) | (with_reducible refine BoxR.set ?_ _ _) | ((with_reducible refine keepS ?_ ?_); (first | (with_reducible assumption) | omega | (simp; omega) | (exact Nat.le_refl _))) | (with_reducible refine Ext.setAt ?_ _ _) | ((with_reducible refine Ext.own ?_ ?_ _); rotate_left; (first | (with_reducible assumption) | omega | (simp; omega) | (exact Nat.le_refl _))) | (with_reducible refine keepN hyA ?_) | (with_reducible refine Ext.transNo ?_ hyA) | (with_reducible refine BoxR.ext ?_ hyA))))
        clear hK K hHeld
        have hHeld := hNew
        clear hNew
        replace hm := Lib.hid (hm.out.stepNo (keeps_sv _ _ _ _ _ _ _ _ _ _ _) hyA)
        clear hyA
        try simp only [Act.put, List.setIfInBounds_toArray, List.set_cons_zero, List.set_cons_succ]
        refine held_call (i := 9) rfl (by kernel_rfl) rfl (fun K hK => ?_)
        (go_simp; go_at_call 59; (with_reducible refine (rclosure_any (fun b => ((M b ∨ b = W.heap.size + 1) ∨ b = Y) ∨ (Value.slice av L.length cv).ownBlock = some b) t.w t.gen (0 ||| 2 ^ k) (tabT t) _ _ _ _ ?_ (StV.rows hm.out.r2).set.no (StV.rows hm.out.r2).sets.no HTL.out (hb7.out.set hw (orN_lt (Nat.two_pow_pos _) (bitN_lt hlt)) hMg)).mono ?_); (exact (hm.out.hM (fun b hb => by rcases hb with hb | rfl; exact Nat.lt_of_lt_of_le (HM.out b hb) hm.out.ext.size; exact lt_of_block hm.out.r2.2.1.1))); (rintro e8 w8 ⟨a8, c8, rfl, hs8, hyA⟩); go_simp)
        refine hK.out _ _ ?_ (fun hNew => ?_)
        · (go_split_ands; refine ⟨?_, ?_, ?_, ?_⟩ <;> (repeat (first | (with_reducible assumption) | (with_reducible exact Ext.refl _ _) | (with_reducible refine keepD ?_) | (with_reducible refine keepA ?_) | (with_reducible refine Ext.drew ?_) | (with_reducible refine Ext.alloc ?_ _) | (with_reducible refine BoxR.drew ?_) | (with_reducible refine BoxR.alloc ?_ _) | (with_reducible refine BoxR.set ?_ _ _) | ((with_reducible refine keepS ?_ ?_); (first | (with_reducible assumption) | omega | (simp; omega) | (exact Nat.le_refl _))) | (with_reducible refine Ext.setAt ?_ _ _) | ((with_reducible refine Ext.own ?_ ?_ _); rotate_left; (first | (with_reducible assumption) | omega | (simp; omega) | (exact Nat.le_refl _))) | (with_reducible refine keepN hyA ?_) | (with_reducible refine Ext.transNo ?_ hyA) | (with_reducible refine BoxR.ext ?_ hyA))))
        clear hK K hHeld
        have hHeld := hNew
        clear hNew
        replace hm := Lib.hid (hm.out.stepNo (keeps_sv _ _ _ _ _ _ _ _ _ _ _) hyA)
        rw [Nat.zero_or] at hs8
        have hs9 := Lib.hid hs8.out
        clear hyA hb6 hb7 hs8
        try simp only [Act.put, List.setIfInBounds_toArray, List.set_cons_zero, List.set_cons_succ]
        refine held_call (i := 10) rfl (by kernel_rfl) rfl (fun K hK => ?_)
        go_simp
        refine hK.out _ _ ?_ (fun hNew => ?_)
        · (go_split_ands; refine ⟨?_, ?_, ?_, ?_⟩ <;> (repeat (first | (with_reducible assumption) | (with_reducible exact Ext.refl _ _) | (with_reducible refine keepD ?_) | (with_reducible refine keepA ?_) | (with_reducible refine Ext.drew ?_) | (with_reducible refine Ext.alloc ?_ _) | (with_reducible refine BoxR.drew ?_) | (with_reducible refine BoxR.alloc ?_ _) | (with_reducible refine BoxR.set ?_ _ _) | ((with_reducible refine keepS ?_ ?_); (first | (with_reducible assumption) | omega | (simp; omega) | (exact Nat.le_refl _))) | (with_reducible refine Ext.setAt ?_ _ _) | ((with_reducible refine Ext.own ?_ ?_ _); rotate_left; (first | (with_reducible assumption) | omega | (simp; omega) | (exact Nat.le_refl _))) | (with_reducible refine keepN hyA ?_) | (with_reducible refine Ext.transNo ?_ hyA) | (with_reducible refine BoxR.ext ?_ hyA))))
        clear hK K hHeld
        have hHeld := hNew
        clear hNew
        skip
        try simp only [Act.put, List.setIfInBounds_toArray, List.set_cons_zero, List.set_cons_succ]
        refine held_call (i := 11) rfl (by kernel_rfl) rfl (fun K hK => ?_)
        ((refine wp_app _ (.tmp 28) (.tmp 37) 68 rfl B 25 i0 _ 2 32 Tryd.underlying68 hi0 hz0 hz1 hz2 rfl (by omega) (.slice av L.length cv) L.length (flatP L) rfl (row_keep hm.out.s.own ((Ext.refl No _).alloc _) (fun _ _ x => x)) No (some ⟨w8.heap.size, 0, none⟩) 1 1 [.int .i64 (t.w : Int), .slice a8 (nw t.w) c8] rfl (Row.block (alloc_top rfl) rfl no_no (by omega)) (by simp [Value.oneCell']) (by omega) (by omega) (by have := hm.out.bw; simp; omega) ?_); (intro v1 w9 hown1 hg1 hv1); (have hyE : Ext (fun k => (Value.slice av L.length cv).ownBlock = some k) (w8.alloc (.cells #[.int .i64 (t.w : Int), .slice a8 (nw t.w) c8] 25)) w9 := (Ext.refl _ _).grown hg1 (fun k hk _ => hk)); (obtain ⟨hm9, hX9⟩ := hm.out.app (p := (setN t.w (closZ t.gen (tabT t) t.w (2 ^ k)), .slice a8 (nw t.w) c8)) (keeps_sv _ _ _ _ _ _ _ _ _ _ _) hs9.out.words hown1 hg1 hv1); (have HM9 := Lib.hid hm9); (have HX9 := Lib.hid hX9); (obtain ⟨a9, c9, hs9'⟩ := hm9.s.slice); (subst hs9'); (clear hm9 hX9 hown1 hg1 hv1))
        refine hK.out _ _ ?_ (fun hNew => ?_)
        · (go_split_ands; refine ⟨?_, ?_, ?_, ?_⟩ <;> ((with_reducible refine Ext.keepM hyE ?_ ?_); rotate_left; (first | exact hv4 | exact hvA); (repeat (first | (with_reducible assumption) | (with_reducible exact Ext.refl _ _) | (with_reducible refine keepD ?_) | (with_reducible refine keepA ?_) | (with_reducible refine Ext.drew ?_) | (with_reducible refine Ext.alloc ?_ _) | (with_reducible refine BoxR.drew ?_) | (with_reducible refine BoxR.alloc ?_ _) | (with_reducible refine BoxR.set ?_ _ _) | ((with_reducible refine keepS ?_ ?_); (first | (with_reducible assumption) | omega | (simp; omega) | (exact Nat.le_refl _))) | (with_reducible refine Ext.setAt ?_ _ _) | ((with_reducible refine Ext.own ?_ ?_ _); rotate_left; (first | (with_reducible assumption) | omega | (simp; omega) | (exact Nat.le_refl _))) | (with_reducible refine keepN hyA ?_) | (with_reducible refine Ext.transNo ?_ hyA) | (with_reducible refine BoxR.ext ?_ hyA)))))
        clear hK K hHeld
        have hHeld := hNew
        clear hNew
        clear hyE hm
        try simp only [Act.put, List.setIfInBounds_toArray, List.set_cons_zero, List.set_cons_succ]
        refine held_take (i := 12) (v := ?_) rfl (by kernel_rfl) (by kernel_rfl) (by kernel_rfl) (fun _ _ _ h => h) rfl (fun w hSw => ?_) hHeld ?_
        rotate_left
        · (try dsimp only at hSw); go_simp; (try with_reducible rfl)
        try simp only [Act.put, List.setIfInBounds_toArray, List.set_cons_zero, List.set_cons_succ]
        refine held_call (i := 13) rfl (by kernel_rfl) rfl (fun K hK => ?_)
        ((have cX := cellOf HX9.out); (have fX := freeOf HX9.out); go_simp; (clear cX fX))
        refine hK.out _ _ ?_ (fun hNew => ?_)
        · (go_split_ands; refine ⟨?_, ?_, ?_, ?_⟩ <;> (repeat (first | (with_reducible assumption) | (with_reducible exact Ext.refl _ _) | (with_reducible refine keepD ?_) | (with_reducible refine keepA ?_) | (with_reducible refine Ext.drew ?_) | (with_reducible refine Ext.alloc ?_ _) | (with_reducible refine BoxR.drew ?_) | (with_reducible refine BoxR.alloc ?_ _) | (with_reducible refine BoxR.set ?_ _ _) | ((with_reducible refine keepS ?_ ?_); (first | (with_reducible assumption) | omega | (simp; omega) | (exact Nat.le_refl _))) | (with_reducible refine Ext.setAt ?_ _ _) | ((with_reducible refine Ext.own ?_ ?_ _); rotate_left; (first | (with_reducible assumption) | omega | (simp; omega) | (exact Nat.le_refl _))) | (with_reducible refine keepN hyA ?_) | (with_reducible refine Ext.transNo ?_ hyA) | (with_reducible refine BoxR.ext ?_ hyA))))
        clear hK K hHeld
        have hHeld := hNew
        clear hNew
        clear HX9
        try simp only [Act.put, List.setIfInBounds_toArray, List.set_cons_zero, List.set_cons_succ]
        refine wpAnyH_done (by kernel_rfl) ?_ _
        go_wp2_with fail
        go_roundw
        case rel => exact ⟨k + 1, a9, c9, L ++ [(setN t.w (closZ t.gen (tabT t) t.w (2 ^ k)), .slice a8 (nw t.w) c8)], by omega, HKK.out, Lib.hid (by rw [List.map_append, HL.out, HSN.out, List.map_append]; rfl), by have := HM9; simp only [List.length_append, List.length_cons, List.length_nil] at this ⊢; exact this⟩
        case measure => simp [intOf]; omega
      · (go_simp; go_at_call 29; (with_reducible refine (rempty_any t.w _ hw).mono ?_); (rintro e6 w6 ⟨g6, rfl, hb6, _, hyA⟩); go_simp)
        refine hK.out _ _ ?_ (fun hNew => ?_)
        · (go_split_ands; refine ⟨?_, ?_, ?_, ?_⟩ <;> (repeat (first | (with_reducible assumption) | (with_reducible exact Ext.refl _ _) | (with_reducible refine keepD ?_) | (with_reducible refine keepA ?_) | (with_reducible refine Ext.drew ?_) | (with_reducible refine Ext.alloc ?_ _) | (with_reducible refine BoxR.drew ?_) | (with_reducible refine BoxR.alloc ?_ _) | (with_reducible refine BoxR.set ?_ _ _) | ((with_reducible refine keepS ?_ ?_); (first | (with_reducible assumption) | omega | (simp; omega) | (exact Nat.le_refl _))) | (with_reducible refine Ext.setAt ?_ _ _) | ((with_reducible refine Ext.own ?_ ?_ _); rotate_left; (first | (with_reducible assumption) | omega | (simp; omega) | (exact Nat.le_refl _))) | (with_reducible refine keepN hyA ?_) | (with_reducible refine Ext.transNo ?_ hyA) | (with_reducible refine BoxR.ext ?_ hyA))))
        clear hK K hHeld
        have hHeld := hNew
        clear hNew
        replace hm := Lib.hid (hm.out.stepNo (keeps_sv _ _ _ _ _ _ _ _ _ _ _) hyA)
        clear hyA
        try simp only [Act.put, List.setIfInBounds_toArray, List.set_cons_zero, List.set_cons_succ]
        refine held_next2 (i := 1) (j := 8) (by kernel_rfl) (NextOp.mk rfl rfl (fun K hK => ?_)) (NextOp.mk rfl rfl (fun K hK => ?_))
        · ((have cX := cellOf hm.out.boxX); go_simp; (clear cX))
          refine hK.out _ _ ?_ (fun hNew => ?_)
          · (go_split_ands; refine ⟨?_, ?_, ?_, ?_⟩ <;> (repeat (first | (with_reducible assumption) | (with_reducible exact Ext.refl _ _) | (with_reducible refine keepD ?_) | (with_reducible refine keepA ?_) | (with_reducible refine Ext.drew ?_) | (with_reducible refine Ext.alloc ?_ _) | (with_reducible refine BoxR.drew ?_) | (with_reducible refine BoxR.alloc ?_ _) | (with_reducible refine BoxR.set ?_ _ _) | ((with_reducible refine keepS ?_ ?_); (first | (with_reducible assumption) | omega | (simp; omega) | (exact Nat.le_refl _))) | (with_reducible refine Ext.setAt ?_ _ _) | ((with_reducible refine Ext.own ?_ ?_ _); rotate_left; (first | (with_reducible assumption) | omega | (simp; omega) | (exact Nat.le_refl _))) | (with_reducible refine keepN hyA ?_) | (with_reducible refine Ext.transNo ?_ hyA) | (with_reducible refine BoxR.ext ?_ hyA))))
          clear hK K hHeld
          have hHeld := hNew
          clear hNew
          skip
          try simp only [Act.put, List.setIfInBounds_toArray, List.set_cons_zero, List.set_cons_succ]
          refine held_call (i := 8) rfl (by kernel_rfl) rfl (fun K hK => ?_)
          (go_simp; go_at_call 36; (with_reducible refine (rput_any t.w 0 k _ _ hlt (BlkW.setNo hb6.out hw (Nat.two_pow_pos _))).mono ?_); (rintro e7 w7 ⟨g7, rfl, hb7, hg7, hyA⟩); (have hlo7 := hg7); (have hMg : ¬ (fun b => ((M b ∨ b = W.heap.size + 1) ∨ b = Y) ∨ (Value.slice av L.length cv).ownBlock = some b) g7 := fun e => Nat.lt_irrefl _ (Nat.lt_of_lt_of_le ((hm.out.hM (fun b hb => by rcases hb with hb | rfl; exact Nat.lt_of_lt_of_le (HM.out b hb) hm.out.ext.size; exact lt_of_block hm.out.r2.2.1.1)) g7 e) hlo7)); go_simp)
          refine hK.out _ _ ?_ (fun hNew => ?_)
          · (go_split_ands; refine ⟨?_, ?_, ?_, ?_⟩ <;> (repeat (first | (with_reducible assumption) | (with_reducible exact Ext.refl _ _) | (with_reducible refine keepD ?_) | (with_reducible refine keepA ?_) | (with_reducible refine Ext.drew ?_) | (with_reducible refine Ext.alloc ?_ _) | (with_reducible refine BoxR.drew ?_) | (with_reducible refine BoxR.alloc ?_ _) | (with_reducible refine BoxR.set ?_ _ _) | ((with_reducible refine keepS ?_ ?_); (first | (with_reducible assumption) | omega | (simp; omega) | (exact Nat.le_refl _))) | (with_reducible refine Ext.setAt ?_ _ _) | ((with_reducible refine Ext.own ?_ ?_ _); rotate_left; (first | (with_reducible assumption) | omega | (simp; omega) | (exact Nat.le_refl _))) | (with_reducible refine keepN hyA ?_) | (with_reducible refine Ext.transNo ?_ hyA) | (with_reducible refine BoxR.ext ?_ hyA))))
          clear hK K hHeld
          have hHeld := hNew
          clear hNew
          replace hm := Lib.hid (hm.out.stepNo (keeps_sv _ _ _ _ _ _ _ _ _ _ _) hyA)
          clear hyA
          try simp only [Act.put, List.setIfInBounds_toArray, List.set_cons_zero, List.set_cons_succ]
          refine held_call (i := 9) rfl (by kernel_rfl) rfl (fun K hK => ?_)
          (go_simp; go_at_call 59; (with_reducible refine (rclosure_any (fun b => ((M b ∨ b = W.heap.size + 1) ∨ b = Y) ∨ (Value.slice av L.length cv).ownBlock = some b) t.w t.gen (0 ||| 2 ^ k) (tabT t) _ _ _ _ ?_ (StV.rows hm.out.r2).set.no (StV.rows hm.out.r2).sets.no HTL.out (hb7.out.set hw (orN_lt (Nat.two_pow_pos _) (bitN_lt hlt)) hMg)).mono ?_); (exact (hm.out.hM (fun b hb => by rcases hb with hb | rfl; exact Nat.lt_of_lt_of_le (HM.out b hb) hm.out.ext.size; exact lt_of_block hm.out.r2.2.1.1))); (rintro e8 w8 ⟨a8, c8, rfl, hs8, hyA⟩); go_simp)
          refine hK.out _ _ ?_ (fun hNew => ?_)
          · (go_split_ands; refine ⟨?_, ?_, ?_, ?_⟩ <;> (repeat (first | (with_reducible assumption) | (with_reducible exact Ext.refl _ _) | (with_reducible refine keepD ?_) | (with_reducible refine keepA ?_) | (with_reducible refine Ext.drew ?_) | (with_reducible refine Ext.alloc ?_ _) | (with_reducible refine BoxR.drew ?_) | (with_reducible refine BoxR.alloc ?_ _) | (with_reducible refine BoxR.set ?_ _ _) | ((with_reducible refine keepS ?_ ?_); (first | (with_reducible assumption) | omega | (simp; omega) | (exact Nat.le_refl _))) | (with_reducible refine Ext.setAt ?_ _ _) | ((with_reducible refine Ext.own ?_ ?_ _); rotate_left; (first | (with_reducible assumption) | omega | (simp; omega) | (exact Nat.le_refl _))) | (with_reducible refine keepN hyA ?_) | (with_reducible refine Ext.transNo ?_ hyA) | (with_reducible refine BoxR.ext ?_ hyA))))
          clear hK K hHeld
          have hHeld := hNew
          clear hNew
          replace hm := Lib.hid (hm.out.stepNo (keeps_sv _ _ _ _ _ _ _ _ _ _ _) hyA)
          rw [Nat.zero_or] at hs8
          have hs9 := Lib.hid hs8.out
          clear hyA hb6 hb7 hs8
          try simp only [Act.put, List.setIfInBounds_toArray, List.set_cons_zero, List.set_cons_succ]
          refine held_call (i := 10) rfl (by kernel_rfl) rfl (fun K hK => ?_)
          go_simp
          refine hK.out _ _ ?_ (fun hNew => ?_)
          · (go_split_ands; refine ⟨?_, ?_, ?_, ?_⟩ <;> (repeat (first | (with_reducible assumption) | (with_reducible exact Ext.refl _ _) | (with_reducible refine keepD ?_) | (with_reducible refine keepA ?_) | (with_reducible refine Ext.drew ?_) | (with_reducible refine Ext.alloc ?_ _) | (with_reducible refine BoxR.drew ?_) | (with_reducible refine BoxR.alloc ?_ _) | (with_reducible refine BoxR.set ?_ _ _) | ((with_reducible refine keepS ?_ ?_); (first | (with_reducible assumption) | omega | (simp; omega) | (exact Nat.le_refl _))) | (with_reducible refine Ext.setAt ?_ _ _) | ((with_reducible refine Ext.own ?_ ?_ _); rotate_left; (first | (with_reducible assumption) | omega | (simp; omega) | (exact Nat.le_refl _))) | (with_reducible refine keepN hyA ?_) | (with_reducible refine Ext.transNo ?_ hyA) | (with_reducible refine BoxR.ext ?_ hyA))))
          clear hK K hHeld
          have hHeld := hNew
          clear hNew
          skip
          try simp only [Act.put, List.setIfInBounds_toArray, List.set_cons_zero, List.set_cons_succ]
          refine held_call (i := 11) rfl (by kernel_rfl) rfl (fun K hK => ?_)
          ((refine wp_app _ (.tmp 28) (.tmp 37) 68 rfl B 25 i0 _ 2 32 Tryd.underlying68 hi0 hz0 hz1 hz2 rfl (by omega) (.slice av L.length cv) L.length (flatP L) rfl (row_keep hm.out.s.own ((Ext.refl No _).alloc _) (fun _ _ x => x)) No (some ⟨w8.heap.size, 0, none⟩) 1 1 [.int .i64 (t.w : Int), .slice a8 (nw t.w) c8] rfl (Row.block (alloc_top rfl) rfl no_no (by omega)) (by simp [Value.oneCell']) (by omega) (by omega) (by have := hm.out.bw; simp; omega) ?_); (intro v1 w9 hown1 hg1 hv1); (have hyE : Ext (fun k => (Value.slice av L.length cv).ownBlock = some k) (w8.alloc (.cells #[.int .i64 (t.w : Int), .slice a8 (nw t.w) c8] 25)) w9 := (Ext.refl _ _).grown hg1 (fun k hk _ => hk)); (obtain ⟨hm9, hX9⟩ := hm.out.app (p := (setN t.w (closZ t.gen (tabT t) t.w (2 ^ k)), .slice a8 (nw t.w) c8)) (keeps_sv _ _ _ _ _ _ _ _ _ _ _) hs9.out.words hown1 hg1 hv1); (have HM9 := Lib.hid hm9); (have HX9 := Lib.hid hX9); (obtain ⟨a9, c9, hs9'⟩ := hm9.s.slice); (subst hs9'); (clear hm9 hX9 hown1 hg1 hv1))
          refine hK.out _ _ ?_ (fun hNew => ?_)
          · (go_split_ands; refine ⟨?_, ?_, ?_, ?_⟩ <;> ((with_reducible refine Ext.keepM hyE ?_ ?_); rotate_left; (first | exact hv4 | exact hvA); (repeat (first | (with_reducible assumption) | (with_reducible exact Ext.refl _ _) | (with_reducible refine keepD ?_) | (with_reducible refine keepA ?_) | (with_reducible refine Ext.drew ?_) | (with_reducible refine Ext.alloc ?_ _) | (with_reducible refine BoxR.drew ?_) | (with_reducible refine BoxR.alloc ?_ _) | (with_reducible refine BoxR.set ?_ _ _) | ((with_reducible refine keepS ?_ ?_); (first | (with_reducible assumption) | omega | (simp; omega) | (exact Nat.le_refl _))) | (with_reducible refine Ext.setAt ?_ _ _) | ((with_reducible refine Ext.own ?_ ?_ _); rotate_left; (first | (with_reducible assumption) | omega | (simp; omega) | (exact Nat.le_refl _))) | (with_reducible refine keepN hyA ?_) | (with_reducible refine Ext.transNo ?_ hyA) | (with_reducible refine BoxR.ext ?_ hyA)))))
          clear hK K hHeld
          have hHeld := hNew
          clear hNew
          clear hyE hm
          try simp only [Act.put, List.setIfInBounds_toArray, List.set_cons_zero, List.set_cons_succ]
          refine held_take (i := 12) (v := ?_) rfl (by kernel_rfl) (by kernel_rfl) (by kernel_rfl) (fun _ _ _ h => h) rfl (fun w hSw => ?_) hHeld ?_
          rotate_left
          · (try dsimp only at hSw); go_simp; (try with_reducible rfl)
          try simp only [Act.put, List.setIfInBounds_toArray, List.set_cons_zero, List.set_cons_succ]
          refine held_call (i := 13) rfl (by kernel_rfl) rfl (fun K hK => ?_)
          ((have cX := cellOf HX9.out); (have fX := freeOf HX9.out); go_simp; (clear cX fX))
          refine hK.out _ _ ?_ (fun hNew => ?_)
          · (go_split_ands; refine ⟨?_, ?_, ?_, ?_⟩ <;> (repeat (first | (with_reducible assumption) | (with_reducible exact Ext.refl _ _) | (with_reducible refine keepD ?_) | (with_reducible refine keepA ?_) | (with_reducible refine Ext.drew ?_) | (with_reducible refine Ext.alloc ?_ _) | (with_reducible refine BoxR.drew ?_) | (with_reducible refine BoxR.alloc ?_ _) | (with_reducible refine BoxR.set ?_ _ _) | ((with_reducible refine keepS ?_ ?_); (first | (with_reducible assumption) | omega | (simp; omega) | (exact Nat.le_refl _))) | (with_reducible refine Ext.setAt ?_ _ _) | ((with_reducible refine Ext.own ?_ ?_ _); rotate_left; (first | (with_reducible assumption) | omega | (simp; omega) | (exact Nat.le_refl _))) | (with_reducible refine keepN hyA ?_) | (with_reducible refine Ext.transNo ?_ hyA) | (with_reducible refine BoxR.ext ?_ hyA))))
          clear hK K hHeld
          have hHeld := hNew
          clear hNew
          clear HX9
          try simp only [Act.put, List.setIfInBounds_toArray, List.set_cons_zero, List.set_cons_succ]
          refine wpAnyH_done (by kernel_rfl) ?_ _
          go_wp2_with fail
          go_roundw
          case rel => exact ⟨k + 1, a9, c9, L ++ [(setN t.w (closZ t.gen (tabT t) t.w (2 ^ k)), .slice a8 (nw t.w) c8)], by omega, HKK.out, Lib.hid (by rw [List.map_append, HL.out, HSN.out, List.map_append]; rfl), by have := HM9; simp only [List.length_append, List.length_cons, List.length_nil] at this ⊢; exact this⟩
          case measure => simp [intOf]; omega
        · (go_simp; go_at_call 36; (with_reducible refine (rput_any t.w 0 k _ _ hlt (BlkW.setNo hb6.out hw (Nat.two_pow_pos _))).mono ?_); (rintro e7 w7 ⟨g7, rfl, hb7, hg7, hyA⟩); (have hlo7 := hg7); (have hMg : ¬ (fun b => ((M b ∨ b = W.heap.size + 1) ∨ b = Y) ∨ (Value.slice av L.length cv).ownBlock = some b) g7 := fun e => Nat.lt_irrefl _ (Nat.lt_of_lt_of_le ((hm.out.hM (fun b hb => by rcases hb with hb | rfl; exact Nat.lt_of_lt_of_le (HM.out b hb) hm.out.ext.size; exact lt_of_block hm.out.r2.2.1.1)) g7 e) hlo7)); go_simp)
          refine hK.out _ _ ?_ (fun hNew => ?_)
          · (go_split_ands; refine ⟨?_, ?_, ?_, ?_⟩ <;> (repeat (first | (with_reducible assumption) | (with_reducible exact Ext.refl _ _) | (with_reducible refine keepD ?_) | (with_reducible refine keepA ?_) | (with_reducible refine Ext.drew ?_) | (with_reducible refine Ext.alloc ?_ _) | (with_reducible refine BoxR.drew ?_) | (with_reducible refine BoxR.alloc ?_ _) | (with_reducible refine BoxR.set ?_ _ _) | ((with_reducible refine keepS ?_ ?_); (first | (with_reducible assumption) | omega | (simp; omega) | (exact Nat.le_refl _))) | (with_reducible refine Ext.setAt ?_ _ _) | ((with_reducible refine Ext.own ?_ ?_ _); rotate_left; (first | (with_reducible assumption) | omega | (simp; omega) | (exact Nat.le_refl _))) | (with_reducible refine keepN hyA ?_) | (with_reducible refine Ext.transNo ?_ hyA) | (with_reducible refine BoxR.ext ?_ hyA))))
          clear hK K hHeld
          have hHeld := hNew
          clear hNew
          replace hm := Lib.hid (hm.out.stepNo (keeps_sv _ _ _ _ _ _ _ _ _ _ _) hyA)
          clear hyA
          try simp only [Act.put, List.setIfInBounds_toArray, List.set_cons_zero, List.set_cons_succ]
          refine held_next2 (i := 1) (j := 9) (by kernel_rfl) (NextOp.mk rfl rfl (fun K hK => ?_)) (NextOp.mk rfl rfl (fun K hK => ?_))
          · ((have cX := cellOf hm.out.boxX); go_simp; (clear cX))
            refine hK.out _ _ ?_ (fun hNew => ?_)
            · (go_split_ands; refine ⟨?_, ?_, ?_, ?_⟩ <;> (repeat (first | (with_reducible assumption) | (with_reducible exact Ext.refl _ _) | (with_reducible refine keepD ?_) | (with_reducible refine keepA ?_) | (with_reducible refine Ext.drew ?_) | (with_reducible refine Ext.alloc ?_ _) | (with_reducible refine BoxR.drew ?_) | (with_reducible refine BoxR.alloc ?_ _) | (with_reducible refine BoxR.set ?_ _ _) | ((with_reducible refine keepS ?_ ?_); (first | (with_reducible assumption) | omega | (simp; omega) | (exact Nat.le_refl _))) | (with_reducible refine Ext.setAt ?_ _ _) | ((with_reducible refine Ext.own ?_ ?_ _); rotate_left; (first | (with_reducible assumption) | omega | (simp; omega) | (exact Nat.le_refl _))) | (with_reducible refine keepN hyA ?_) | (with_reducible refine Ext.transNo ?_ hyA) | (with_reducible refine BoxR.ext ?_ hyA))))
            clear hK K hHeld
            have hHeld := hNew
            clear hNew
            skip
            try simp only [Act.put, List.setIfInBounds_toArray, List.set_cons_zero, List.set_cons_succ]
            refine held_call (i := 9) rfl (by kernel_rfl) rfl (fun K hK => ?_)
            (go_simp; go_at_call 59; (with_reducible refine (rclosure_any (fun b => ((M b ∨ b = W.heap.size + 1) ∨ b = Y) ∨ (Value.slice av L.length cv).ownBlock = some b) t.w t.gen (0 ||| 2 ^ k) (tabT t) _ _ _ _ ?_ (StV.rows hm.out.r2).set.no (StV.rows hm.out.r2).sets.no HTL.out (hb7.out.set hw (orN_lt (Nat.two_pow_pos _) (bitN_lt hlt)) hMg)).mono ?_); (exact (hm.out.hM (fun b hb => by rcases hb with hb | rfl; exact Nat.lt_of_lt_of_le (HM.out b hb) hm.out.ext.size; exact lt_of_block hm.out.r2.2.1.1))); (rintro e8 w8 ⟨a8, c8, rfl, hs8, hyA⟩); go_simp)
            refine hK.out _ _ ?_ (fun hNew => ?_)
            · (go_split_ands; refine ⟨?_, ?_, ?_, ?_⟩ <;> (repeat (first | (with_reducible assumption) | (with_reducible exact Ext.refl _ _) | (with_reducible refine keepD ?_) | (with_reducible refine keepA ?_) | (with_reducible refine Ext.drew ?_) | (with_reducible refine Ext.alloc ?_ _) | (with_reducible refine BoxR.drew ?_) | (with_reducible refine BoxR.alloc ?_ _) | (with_reducible refine BoxR.set ?_ _ _) | ((with_reducible refine keepS ?_ ?_); (first | (with_reducible assumption) | omega | (simp; omega) | (exact Nat.le_refl _))) | (with_reducible refine Ext.setAt ?_ _ _) | ((with_reducible refine Ext.own ?_ ?_ _); rotate_left; (first | (with_reducible assumption) | omega | (simp; omega) | (exact Nat.le_refl _))) | (with_reducible refine keepN hyA ?_) | (with_reducible refine Ext.transNo ?_ hyA) | (with_reducible refine BoxR.ext ?_ hyA))))
            clear hK K hHeld
            have hHeld := hNew
            clear hNew
            replace hm := Lib.hid (hm.out.stepNo (keeps_sv _ _ _ _ _ _ _ _ _ _ _) hyA)
            rw [Nat.zero_or] at hs8
            have hs9 := Lib.hid hs8.out
            clear hyA hb6 hb7 hs8
            try simp only [Act.put, List.setIfInBounds_toArray, List.set_cons_zero, List.set_cons_succ]
            refine held_call (i := 10) rfl (by kernel_rfl) rfl (fun K hK => ?_)
            go_simp
            refine hK.out _ _ ?_ (fun hNew => ?_)
            · (go_split_ands; refine ⟨?_, ?_, ?_, ?_⟩ <;> (repeat (first | (with_reducible assumption) | (with_reducible exact Ext.refl _ _) | (with_reducible refine keepD ?_) | (with_reducible refine keepA ?_) | (with_reducible refine Ext.drew ?_) | (with_reducible refine Ext.alloc ?_ _) | (with_reducible refine BoxR.drew ?_) | (with_reducible refine BoxR.alloc ?_ _) | (with_reducible refine BoxR.set ?_ _ _) | ((with_reducible refine keepS ?_ ?_); (first | (with_reducible assumption) | omega | (simp; omega) | (exact Nat.le_refl _))) | (with_reducible refine Ext.setAt ?_ _ _) | ((with_reducible refine Ext.own ?_ ?_ _); rotate_left; (first | (with_reducible assumption) | omega | (simp; omega) | (exact Nat.le_refl _))) | (with_reducible refine keepN hyA ?_) | (with_reducible refine Ext.transNo ?_ hyA) | (with_reducible refine BoxR.ext ?_ hyA))))
            clear hK K hHeld
            have hHeld := hNew
            clear hNew
            skip
            try simp only [Act.put, List.setIfInBounds_toArray, List.set_cons_zero, List.set_cons_succ]
            refine held_call (i := 11) rfl (by kernel_rfl) rfl (fun K hK => ?_)
            ((refine wp_app _ (.tmp 28) (.tmp 37) 68 rfl B 25 i0 _ 2 32 Tryd.underlying68 hi0 hz0 hz1 hz2 rfl (by omega) (.slice av L.length cv) L.length (flatP L) rfl (row_keep hm.out.s.own ((Ext.refl No _).alloc _) (fun _ _ x => x)) No (some ⟨w8.heap.size, 0, none⟩) 1 1 [.int .i64 (t.w : Int), .slice a8 (nw t.w) c8] rfl (Row.block (alloc_top rfl) rfl no_no (by omega)) (by simp [Value.oneCell']) (by omega) (by omega) (by have := hm.out.bw; simp; omega) ?_); (intro v1 w9 hown1 hg1 hv1); (have hyE : Ext (fun k => (Value.slice av L.length cv).ownBlock = some k) (w8.alloc (.cells #[.int .i64 (t.w : Int), .slice a8 (nw t.w) c8] 25)) w9 := (Ext.refl _ _).grown hg1 (fun k hk _ => hk)); (obtain ⟨hm9, hX9⟩ := hm.out.app (p := (setN t.w (closZ t.gen (tabT t) t.w (2 ^ k)), .slice a8 (nw t.w) c8)) (keeps_sv _ _ _ _ _ _ _ _ _ _ _) hs9.out.words hown1 hg1 hv1); (have HM9 := Lib.hid hm9); (have HX9 := Lib.hid hX9); (obtain ⟨a9, c9, hs9'⟩ := hm9.s.slice); (subst hs9'); (clear hm9 hX9 hown1 hg1 hv1))
            refine hK.out _ _ ?_ (fun hNew => ?_)
            · (go_split_ands; refine ⟨?_, ?_, ?_, ?_⟩ <;> ((with_reducible refine Ext.keepM hyE ?_ ?_); rotate_left; (first | exact hv4 | exact hvA); (repeat (first | (with_reducible assumption) | (with_reducible exact Ext.refl _ _) | (with_reducible refine keepD ?_) | (with_reducible refine keepA ?_) | (with_reducible refine Ext.drew ?_) | (with_reducible refine Ext.alloc ?_ _) | (with_reducible refine BoxR.drew ?_) | (with_reducible refine BoxR.alloc ?_ _) | (with_reducible refine BoxR.set ?_ _ _) | ((with_reducible refine keepS ?_ ?_); (first | (with_reducible assumption) | omega | (simp; omega) | (exact Nat.le_refl _))) | (with_reducible refine Ext.setAt ?_ _ _) | ((with_reducible refine Ext.own ?_ ?_ _); rotate_left; (first | (with_reducible assumption) | omega | (simp; omega) | (exact Nat.le_refl _))) | (with_reducible refine keepN hyA ?_) | (with_reducible refine Ext.transNo ?_ hyA) | (with_reducible refine BoxR.ext ?_ hyA)))))
            clear hK K hHeld
            have hHeld := hNew
            clear hNew
            clear hyE hm
            try simp only [Act.put, List.setIfInBounds_toArray, List.set_cons_zero, List.set_cons_succ]
            refine held_take (i := 12) (v := ?_) rfl (by kernel_rfl) (by kernel_rfl) (by kernel_rfl) (fun _ _ _ h => h) rfl (fun w hSw => ?_) hHeld ?_
            rotate_left
            · (try dsimp only at hSw); go_simp; (try with_reducible rfl)
            try simp only [Act.put, List.setIfInBounds_toArray, List.set_cons_zero, List.set_cons_succ]
            refine held_call (i := 13) rfl (by kernel_rfl) rfl (fun K hK => ?_)
            ((have cX := cellOf HX9.out); (have fX := freeOf HX9.out); go_simp; (clear cX fX))
            refine hK.out _ _ ?_ (fun hNew => ?_)
            · (go_split_ands; refine ⟨?_, ?_, ?_, ?_⟩ <;> (repeat (first | (with_reducible assumption) | (with_reducible exact Ext.refl _ _) | (with_reducible refine keepD ?_) | (with_reducible refine keepA ?_) | (with_reducible refine Ext.drew ?_) | (with_reducible refine Ext.alloc ?_ _) | (with_reducible refine BoxR.drew ?_) | (with_reducible refine BoxR.alloc ?_ _) | (with_reducible refine BoxR.set ?_ _ _) | ((with_reducible refine keepS ?_ ?_); (first | (with_reducible assumption) | omega | (simp; omega) | (exact Nat.le_refl _))) | (with_reducible refine Ext.setAt ?_ _ _) | ((with_reducible refine Ext.own ?_ ?_ _); rotate_left; (first | (with_reducible assumption) | omega | (simp; omega) | (exact Nat.le_refl _))) | (with_reducible refine keepN hyA ?_) | (with_reducible refine Ext.transNo ?_ hyA) | (with_reducible refine BoxR.ext ?_ hyA))))
            clear hK K hHeld
            have hHeld := hNew
            clear hNew
            clear HX9
            try simp only [Act.put, List.setIfInBounds_toArray, List.set_cons_zero, List.set_cons_succ]
            refine wpAnyH_done (by kernel_rfl) ?_ _
            go_wp2_with fail
            go_roundw
            case rel => exact ⟨k + 1, a9, c9, L ++ [(setN t.w (closZ t.gen (tabT t) t.w (2 ^ k)), .slice a8 (nw t.w) c8)], by omega, HKK.out, Lib.hid (by rw [List.map_append, HL.out, HSN.out, List.map_append]; rfl), by have := HM9; simp only [List.length_append, List.length_cons, List.length_nil] at this ⊢; exact this⟩
            case measure => simp [intOf]; omega
          · (go_simp; go_at_call 59; (with_reducible refine (rclosure_any (fun b => ((M b ∨ b = W.heap.size + 1) ∨ b = Y) ∨ (Value.slice av L.length cv).ownBlock = some b) t.w t.gen (0 ||| 2 ^ k) (tabT t) _ _ _ _ ?_ (StV.rows hm.out.r2).set.no (StV.rows hm.out.r2).sets.no HTL.out (hb7.out.set hw (orN_lt (Nat.two_pow_pos _) (bitN_lt hlt)) hMg)).mono ?_); (exact (hm.out.hM (fun b hb => by rcases hb with hb | rfl; exact Nat.lt_of_lt_of_le (HM.out b hb) hm.out.ext.size; exact lt_of_block hm.out.r2.2.1.1))); (rintro e8 w8 ⟨a8, c8, rfl, hs8, hyA⟩); go_simp)
            refine hK.out _ _ ?_ (fun hNew => ?_)
            · (go_split_ands; refine ⟨?_, ?_, ?_, ?_⟩ <;> (repeat (first | (with_reducible assumption) | (with_reducible exact Ext.refl _ _) | (with_reducible refine keepD ?_) | (with_reducible refine keepA ?_) | (with_reducible refine Ext.drew ?_) | (with_reducible refine Ext.alloc ?_ _) | (with_reducible refine BoxR.drew ?_) | (with_reducible refine BoxR.alloc ?_ _) | (with_reducible refine BoxR.set ?_ _ _) | ((with_reducible refine keepS ?_ ?_); (first | (with_reducible assumption) | omega | (simp; omega) | (exact Nat.le_refl _))) | (with_reducible refine Ext.setAt ?_ _ _) | ((with_reducible refine Ext.own ?_ ?_ _); rotate_left; (first | (with_reducible assumption) | omega | (simp; omega) | (exact Nat.le_refl _))) | (with_reducible refine keepN hyA ?_) | (with_reducible refine Ext.transNo ?_ hyA) | (with_reducible refine BoxR.ext ?_ hyA))))
            clear hK K hHeld
            have hHeld := hNew
            clear hNew
            replace hm := Lib.hid (hm.out.stepNo (keeps_sv _ _ _ _ _ _ _ _ _ _ _) hyA)
            rw [Nat.zero_or] at hs8
            have hs9 := Lib.hid hs8.out
            clear hyA hb6 hb7 hs8
            try simp only [Act.put, List.setIfInBounds_toArray, List.set_cons_zero, List.set_cons_succ]
            refine held_next2 (i := 1) (j := 10) (by kernel_rfl) (NextOp.mk rfl rfl (fun K hK => ?_)) (NextOp.mk rfl rfl (fun K hK => ?_))
            · ((have cX := cellOf hm.out.boxX); go_simp; (clear cX))
              refine hK.out _ _ ?_ (fun hNew => ?_)
              · (go_split_ands; refine ⟨?_, ?_, ?_, ?_⟩ <;> (repeat (first | (with_reducible assumption) | (with_reducible exact Ext.refl _ _) | (with_reducible refine keepD ?_) | (with_reducible refine keepA ?_) | (with_reducible refine Ext.drew ?_) | (with_reducible refine Ext.alloc ?_ _) | (with_reducible refine BoxR.drew ?_) | (with_reducible refine BoxR.alloc ?_ _) | (with_reducible refine BoxR.set ?_ _ _) | ((with_reducible refine keepS ?_ ?_); (first | (with_reducible assumption) | omega | (simp; omega) | (exact Nat.le_refl _))) | (with_reducible refine Ext.setAt ?_ _ _) | ((with_reducible refine Ext.own ?_ ?_ _); rotate_left; (first | (with_reducible assumption) | omega | (simp; omega) | (exact Nat.le_refl _))) | (with_reducible refine keepN hyA ?_) | (with_reducible refine Ext.transNo ?_ hyA) | (with_reducible refine BoxR.ext ?_ hyA))))
              clear hK K hHeld
              have hHeld := hNew
              clear hNew
              skip
              try simp only [Act.put, List.setIfInBounds_toArray, List.set_cons_zero, List.set_cons_succ]
              refine held_call (i := 10) rfl (by kernel_rfl) rfl (fun K hK => ?_)
              go_simp
              refine hK.out _ _ ?_ (fun hNew => ?_)
              · (go_split_ands; refine ⟨?_, ?_, ?_, ?_⟩ <;> (repeat (first | (with_reducible assumption) | (with_reducible exact Ext.refl _ _) | (with_reducible refine keepD ?_) | (with_reducible refine keepA ?_) | (with_reducible refine Ext.drew ?_) | (with_reducible refine Ext.alloc ?_ _) | (with_reducible refine BoxR.drew ?_) | (with_reducible refine BoxR.alloc ?_ _) | (with_reducible refine BoxR.set ?_ _ _) | ((with_reducible refine keepS ?_ ?_); (first | (with_reducible assumption) | omega | (simp; omega) | (exact Nat.le_refl _))) | (with_reducible refine Ext.setAt ?_ _ _) | ((with_reducible refine Ext.own ?_ ?_ _); rotate_left; (first | (with_reducible assumption) | omega | (simp; omega) | (exact Nat.le_refl _))) | (with_reducible refine keepN hyA ?_) | (with_reducible refine Ext.transNo ?_ hyA) | (with_reducible refine BoxR.ext ?_ hyA))))
              clear hK K hHeld
              have hHeld := hNew
              clear hNew
              skip
              try simp only [Act.put, List.setIfInBounds_toArray, List.set_cons_zero, List.set_cons_succ]
              refine held_call (i := 11) rfl (by kernel_rfl) rfl (fun K hK => ?_)
              ((refine wp_app _ (.tmp 28) (.tmp 37) 68 rfl B 25 i0 _ 2 32 Tryd.underlying68 hi0 hz0 hz1 hz2 rfl (by omega) (.slice av L.length cv) L.length (flatP L) rfl (row_keep hm.out.s.own ((Ext.refl No _).alloc _) (fun _ _ x => x)) No (some ⟨w8.heap.size, 0, none⟩) 1 1 [.int .i64 (t.w : Int), .slice a8 (nw t.w) c8] rfl (Row.block (alloc_top rfl) rfl no_no (by omega)) (by simp [Value.oneCell']) (by omega) (by omega) (by have := hm.out.bw; simp; omega) ?_); (intro v1 w9 hown1 hg1 hv1); (have hyE : Ext (fun k => (Value.slice av L.length cv).ownBlock = some k) (w8.alloc (.cells #[.int .i64 (t.w : Int), .slice a8 (nw t.w) c8] 25)) w9 := (Ext.refl _ _).grown hg1 (fun k hk _ => hk)); (obtain ⟨hm9, hX9⟩ := hm.out.app (p := (setN t.w (closZ t.gen (tabT t) t.w (2 ^ k)), .slice a8 (nw t.w) c8)) (keeps_sv _ _ _ _ _ _ _ _ _ _ _) hs9.out.words hown1 hg1 hv1); (have HM9 := Lib.hid hm9); (have HX9 := Lib.hid hX9); (obtain ⟨a9, c9, hs9'⟩ := hm9.s.slice); (subst hs9'); (clear hm9 hX9 hown1 hg1 hv1))
              refine hK.out _ _ ?_ (fun hNew => ?_)
              · (go_split_ands; refine ⟨?_, ?_, ?_, ?_⟩ <;> ((with_reducible refine Ext.keepM hyE ?_ ?_); rotate_left; (first | exact hv4 | exact hvA); (repeat (first | (with_reducible assumption) | (with_reducible exact Ext.refl _ _) | (with_reducible refine keepD ?_) | (with_reducible refine keepA ?_) | (with_reducible refine Ext.drew ?_) | (with_reducible refine Ext.alloc ?_ _) | (with_reducible refine BoxR.drew ?_) | (with_reducible refine BoxR.alloc ?_ _) | (with_reducible refine BoxR.set ?_ _ _) | ((with_reducible refine keepS ?_ ?_); (first | (with_reducible assumption) | omega | (simp; omega) | (exact Nat.le_refl _))) | (with_reducible refine Ext.setAt ?_ _ _) | ((with_reducible refine Ext.own ?_ ?_ _); rotate_left; (first | (with_reducible assumption) | omega | (simp; omega) | (exact Nat.le_refl _))) | (with_reducible refine keepN hyA ?_) | (with_reducible refine Ext.transNo ?_ hyA) | (with_reducible refine BoxR.ext ?_ hyA)))))
              clear hK K hHeld
              have hHeld := hNew
              clear hNew
              clear hyE hm
              try simp only [Act.put, List.setIfInBounds_toArray, List.set_cons_zero, List.set_cons_succ]
              refine held_take (i := 12) (v := ?_) rfl (by kernel_rfl) (by kernel_rfl) (by kernel_rfl) (fun _ _ _ h => h) rfl (fun w hSw => ?_) hHeld ?_
              rotate_left
              · (try dsimp only at hSw); go_simp; (try with_reducible rfl)
              try simp only [Act.put, List.setIfInBounds_toArray, List.set_cons_zero, List.set_cons_succ]
              refine held_call (i := 13) rfl (by kernel_rfl) rfl (fun K hK => ?_)
              ((have cX := cellOf HX9.out); (have fX := freeOf HX9.out); go_simp; (clear cX fX))
              refine hK.out _ _ ?_ (fun hNew => ?_)
              · (go_split_ands; refine ⟨?_, ?_, ?_, ?_⟩ <;> (repeat (first | (with_reducible assumption) | (with_reducible exact Ext.refl _ _) | (with_reducible refine keepD ?_) | (with_reducible refine keepA ?_) | (with_reducible refine Ext.drew ?_) | (with_reducible refine Ext.alloc ?_ _) | (with_reducible refine BoxR.drew ?_) | (with_reducible refine BoxR.alloc ?_ _) | (with_reducible refine BoxR.set ?_ _ _) | ((with_reducible refine keepS ?_ ?_); (first | (with_reducible assumption) | omega | (simp; omega) | (exact Nat.le_refl _))) | (with_reducible refine Ext.setAt ?_ _ _) | ((with_reducible refine Ext.own ?_ ?_ _); rotate_left; (first | (with_reducible assumption) | omega | (simp; omega) | (exact Nat.le_refl _))) | (with_reducible refine keepN hyA ?_) | (with_reducible refine Ext.transNo ?_ hyA) | (with_reducible refine BoxR.ext ?_ hyA))))
              clear hK K hHeld
              have hHeld := hNew
              clear hNew
              clear HX9
              try simp only [Act.put, List.setIfInBounds_toArray, List.set_cons_zero, List.set_cons_succ]
              refine wpAnyH_done (by kernel_rfl) ?_ _
              go_wp2_with fail
              go_roundw
              case rel => exact ⟨k + 1, a9, c9, L ++ [(setN t.w (closZ t.gen (tabT t) t.w (2 ^ k)), .slice a8 (nw t.w) c8)], by omega, HKK.out, Lib.hid (by rw [List.map_append, HL.out, HSN.out, List.map_append]; rfl), by have := HM9; simp only [List.length_append, List.length_cons, List.length_nil] at this ⊢; exact this⟩
              case measure => simp [intOf]; omega
            · go_simp
              refine hK.out _ _ ?_ (fun hNew => ?_)
              · (go_split_ands; refine ⟨?_, ?_, ?_, ?_⟩ <;> (repeat (first | (with_reducible assumption) | (with_reducible exact Ext.refl _ _) | (with_reducible refine keepD ?_) | (with_reducible refine keepA ?_) | (with_reducible refine Ext.drew ?_) | (with_reducible refine Ext.alloc ?_ _) | (with_reducible refine BoxR.drew ?_) | (with_reducible refine BoxR.alloc ?_ _) | (with_reducible refine BoxR.set ?_ _ _) | ((with_reducible refine keepS ?_ ?_); (first | (with_reducible assumption) | omega | (simp; omega) | (exact Nat.le_refl _))) | (with_reducible refine Ext.setAt ?_ _ _) | ((with_reducible refine Ext.own ?_ ?_ _); rotate_left; (first | (with_reducible assumption) | omega | (simp; omega) | (exact Nat.le_refl _))) | (with_reducible refine keepN hyA ?_) | (with_reducible refine Ext.transNo ?_ hyA) | (with_reducible refine BoxR.ext ?_ hyA))))
              clear hK K hHeld
              have hHeld := hNew
              clear hNew
              skip
              try simp only [Act.put, List.setIfInBounds_toArray, List.set_cons_zero, List.set_cons_succ]
              refine held_call (i := 1) rfl (by kernel_rfl) rfl (fun K hK => ?_)
              ((have cX := cellOf hm.out.boxX); (have cX2 := cellOf (alloc_under (o := (.cells #[.int .i64 (t.w : Int), .slice a8 (nw t.w) c8] 25)) hm.out.boxX)); go_simp; (clear cX cX2))
              refine hK.out _ _ ?_ (fun hNew => ?_)
              · (go_split_ands; refine ⟨?_, ?_, ?_, ?_⟩ <;> (repeat (first | (with_reducible assumption) | (with_reducible exact Ext.refl _ _) | (with_reducible refine keepD ?_) | (with_reducible refine keepA ?_) | (with_reducible refine Ext.drew ?_) | (with_reducible refine Ext.alloc ?_ _) | (with_reducible refine BoxR.drew ?_) | (with_reducible refine BoxR.alloc ?_ _) | (with_reducible refine BoxR.set ?_ _ _) | ((with_reducible refine keepS ?_ ?_); (first | (with_reducible assumption) | omega | (simp; omega) | (exact Nat.le_refl _))) | (with_reducible refine Ext.setAt ?_ _ _) | ((with_reducible refine Ext.own ?_ ?_ _); rotate_left; (first | (with_reducible assumption) | omega | (simp; omega) | (exact Nat.le_refl _))) | (with_reducible refine keepN hyA ?_) | (with_reducible refine Ext.transNo ?_ hyA) | (with_reducible refine BoxR.ext ?_ hyA))))
              clear hK K hHeld
              have hHeld := hNew
              clear hNew
              skip
              try simp only [Act.put, List.setIfInBounds_toArray, List.set_cons_zero, List.set_cons_succ]
              refine held_call (i := 11) rfl (by kernel_rfl) rfl (fun K hK => ?_)
              ((refine wp_app _ (.tmp 28) (.tmp 37) 68 rfl B 25 i0 _ 2 32 Tryd.underlying68 hi0 hz0 hz1 hz2 rfl (by omega) (.slice av L.length cv) L.length (flatP L) rfl (row_keep hm.out.s.own ((Ext.refl No _).alloc _) (fun _ _ x => x)) No (some ⟨w8.heap.size, 0, none⟩) 1 1 [.int .i64 (t.w : Int), .slice a8 (nw t.w) c8] rfl (Row.block (alloc_top rfl) rfl no_no (by omega)) (by simp [Value.oneCell']) (by omega) (by omega) (by have := hm.out.bw; simp; omega) ?_); (intro v1 w9 hown1 hg1 hv1); (have hyE : Ext (fun k => (Value.slice av L.length cv).ownBlock = some k) (w8.alloc (.cells #[.int .i64 (t.w : Int), .slice a8 (nw t.w) c8] 25)) w9 := (Ext.refl _ _).grown hg1 (fun k hk _ => hk)); (obtain ⟨hm9, hX9⟩ := hm.out.app (p := (setN t.w (closZ t.gen (tabT t) t.w (2 ^ k)), .slice a8 (nw t.w) c8)) (keeps_sv _ _ _ _ _ _ _ _ _ _ _) hs9.out.words hown1 hg1 hv1); (have HM9 := Lib.hid hm9); (have HX9 := Lib.hid hX9); (obtain ⟨a9, c9, hs9'⟩ := hm9.s.slice); (subst hs9'); (clear hm9 hX9 hown1 hg1 hv1))
              refine hK.out _ _ ?_ (fun hNew => ?_)
              · (go_split_ands; refine ⟨?_, ?_, ?_, ?_⟩ <;> ((with_reducible refine Ext.keepM hyE ?_ ?_); rotate_left; (first | exact hv4 | exact hvA); (repeat (first | (with_reducible assumption) | (with_reducible exact Ext.refl _ _) | (with_reducible refine keepD ?_) | (with_reducible refine keepA ?_) | (with_reducible refine Ext.drew ?_) | (with_reducible refine Ext.alloc ?_ _) | (with_reducible refine BoxR.drew ?_) | (with_reducible refine BoxR.alloc ?_ _) | (with_reducible refine BoxR.set ?_ _ _) | ((with_reducible refine keepS ?_ ?_); (first | (with_reducible assumption) | omega | (simp; omega) | (exact Nat.le_refl _))) | (with_reducible refine Ext.setAt ?_ _ _) | ((with_reducible refine Ext.own ?_ ?_ _); rotate_left; (first | (with_reducible assumption) | omega | (simp; omega) | (exact Nat.le_refl _))) | (with_reducible refine keepN hyA ?_) | (with_reducible refine Ext.transNo ?_ hyA) | (with_reducible refine BoxR.ext ?_ hyA)))))
              clear hK K hHeld
              have hHeld := hNew
              clear hNew
              clear hyE hm
              try simp only [Act.put, List.setIfInBounds_toArray, List.set_cons_zero, List.set_cons_succ]
              refine held_take (i := 12) (v := ?_) rfl (by kernel_rfl) (by kernel_rfl) (by kernel_rfl) (fun _ _ _ h => h) rfl (fun w hSw => ?_) hHeld ?_
              rotate_left
              · (try dsimp only at hSw); go_simp; (try with_reducible rfl)
              try simp only [Act.put, List.setIfInBounds_toArray, List.set_cons_zero, List.set_cons_succ]
              refine held_call (i := 13) rfl (by kernel_rfl) rfl (fun K hK => ?_)
              ((have cX := cellOf HX9.out); (have fX := freeOf HX9.out); go_simp; (clear cX fX))
              refine hK.out _ _ ?_ (fun hNew => ?_)
              · (go_split_ands; refine ⟨?_, ?_, ?_, ?_⟩ <;> (repeat (first | (with_reducible assumption) | (with_reducible exact Ext.refl _ _) | (with_reducible refine keepD ?_) | (with_reducible refine keepA ?_) | (with_reducible refine Ext.drew ?_) | (with_reducible refine Ext.alloc ?_ _) | (with_reducible refine BoxR.drew ?_) | (with_reducible refine BoxR.alloc ?_ _) | (with_reducible refine BoxR.set ?_ _ _) | ((with_reducible refine keepS ?_ ?_); (first | (with_reducible assumption) | omega | (simp; omega) | (exact Nat.le_refl _))) | (with_reducible refine Ext.setAt ?_ _ _) | ((with_reducible refine Ext.own ?_ ?_ _); rotate_left; (first | (with_reducible assumption) | omega | (simp; omega) | (exact Nat.le_refl _))) | (with_reducible refine keepN hyA ?_) | (with_reducible refine Ext.transNo ?_ hyA) | (with_reducible refine BoxR.ext ?_ hyA))))
              clear hK K hHeld
              have hHeld := hNew
              clear hNew
              clear HX9
              try simp only [Act.put, List.setIfInBounds_toArray, List.set_cons_zero, List.set_cons_succ]
              refine wpAnyH_done (by kernel_rfl) ?_ _
              go_wp2_with fail
              go_roundw
              case rel => exact ⟨k + 1, a9, c9, L ++ [(setN t.w (closZ t.gen (tabT t) t.w (2 ^ k)), .slice a8 (nw t.w) c8)], by omega, HKK.out, Lib.hid (by rw [List.map_append, HL.out, HSN.out, List.map_append]; rfl), by have := HM9; simp only [List.length_append, List.length_cons, List.length_nil] at this ⊢; exact this⟩
              case measure => simp [intOf]; omega
    · obtain rfl : k = t.w := by omega
      have hge : ¬ (t.w : Int) < (t.w : Int) := by omega
      have cX := cellOf hm.out.boxX
      have HSV := Lib.hid (show SetsV No wr (.slice av L.length cv) t.w (starTab t t.w) from ⟨⟨L, hm.out.s.sets (M := No) (fun _ _ x => x) (fun _ x => x.elim), HL.out⟩, hw, fun m hmm => by
        obtain ⟨b, hb, rfl⟩ := List.mem_map.1 hmm
        exact (clos_any (tabT_lt HO.out) (orN_lt HO.out.gen (bitN_lt (List.mem_range.1 hb)))).lt⟩)
      clear hLn
      go_wp2_with fail
      refine (rmade_any (fun b => M b ∨ b = W.heap.size + 1) t.w (closZ t.gen (tabT t) t.w 0) (starTab t t.w) _ _ _ (fun b hb => ?_) (hm.out.gen.mono (fun i hi e => .inl e)) HSV.out (starTab_len _ _)).mono ?_
      · rcases hb with hb | rfl
        · exact Nat.lt_of_lt_of_le (HM.out b hb) hm.out.ext.size
        · exact lt_of_block hm.out.r2.2.1.1
      rintro e6 w6 hpost
      have HXF := Lib.hid hm.out.ext
      have HC6 : Hid (∀ (w' : World), Ext No wr w' → w'.heap[W.heap.size + 1]? = some (.cells #[.int .i64 0, .slice none 0 0, .int .i64 0, .slice none 0 0, .slice none 0 0] 28 (0, 0))) := Lib.hid (fun w' hx => hx.blk hm.out.r2.2.1.1 no_no)
      clear hm cX HSV cA
      by_cases hc : (copTo t.w (closZ t.gen (tabT t) t.w 0) (starTab t t.w) t.w).length ≤ 64
      · have hp1 := hpost.1 hc
        generalize htr : closeT t.w (closZ t.gen (tabT t) t.w 0) (starTab t t.w) = tr at hp1
        obtain ⟨fg, eg, fk, ek, fc, ec, rfl, hTr, hx6⟩ := hp1
        have hCb := HC6.out _ hx6
        have cC := cellOf hCb
        have fC := freeOf hCb
        have HCb := Lib.hid hCb
        have HTR := Lib.hid htr
        clear hpost hCb htr
        go_wp2_with fail
        have hfin := BoxR.fin5 ⟨_, rfl, HCb.out⟩ (.int .i64 (tr.w : Int)) (.slice fg (nw tr.w) eg) (.int .i64 (tr.w : Int)) (.slice fk (nw tr.w) ek) (.slice fc tr.copies.length ec)
        have hE := set5 w6 (W.heap.size + 1) (.int .i64 (tr.w : Int)) (.slice fg (nw tr.w) eg) (.int .i64 (tr.w : Int)) (.slice fk (nw tr.w) ek) (.slice fc tr.copies.length ec)
        clear cC fC
        generalize (((((w6.setCell ⟨W.heap.size + 1, 0, none⟩ (.int .i64 (tr.w : Int))).setCell ⟨W.heap.size + 1, 1, none⟩ (.slice fg (nw tr.w) eg)).setCell ⟨W.heap.size + 1, 2, none⟩ (.int .i64 (tr.w : Int))).setCell ⟨W.heap.size + 1, 3, none⟩ (.slice fk (nw tr.w) ek)).setCell ⟨W.heap.size + 1, 4, none⟩ (.slice fc tr.copies.length ec)) = WF at *
        have cF := cellOf hfin
        refine ret_ex rfl ?_
        simp [results, Tryd.results28, go_sem, cF]
        refine ⟨fun _ => ?_, fun h => absurd hc (by omega)⟩
        rw [HTR.out]
        exact ⟨fg, eg, fk, ek, fc, ec, rfl, Lib.hid ((hTr.out.ext hE (fun i _ e => .inr e)).mono (fun i _ e => .inl e)), (HXF.out.transNo hx6).trans2 hE (fun i hi e => by unfold At at e; omega)⟩
      · obtain ⟨rfl, hx6⟩ := hpost.2 (by omega)
        have hCb := HC6.out _ hx6
        have cC := cellOf hCb
        have fC := freeOf hCb
        have HCb := Lib.hid hCb
        clear hpost hCb
        go_wp2_with fail
        have hfin := BoxR.fin5 ⟨_, rfl, HCb.out⟩ (.int .i64 0) (.slice none 0 0) (.int .i64 0) (.slice none 0 0) (.slice none 0 0)
        have hE := set5 w6 (W.heap.size + 1) (.int .i64 0) (.slice none 0 0) (.int .i64 0) (.slice none 0 0) (.slice none 0 0)
        clear cC fC
        generalize (((((w6.setCell ⟨W.heap.size + 1, 0, none⟩ (.int .i64 0)).setCell ⟨W.heap.size + 1, 1, none⟩ (.slice none 0 0)).setCell ⟨W.heap.size + 1, 2, none⟩ (.int .i64 0)).setCell ⟨W.heap.size + 1, 3, none⟩ (.slice none 0 0)).setCell ⟨W.heap.size + 1, 4, none⟩ (.slice none 0 0)) = WF at *
        have cF := cellOf hfin
        refine ret_ex rfl ?_
        simp [results, Tryd.results28, go_sem, cF]
        exact ⟨fun h => absurd h hc, fun _ => ⟨rfl, (HXF.out.transNo hx6).trans2 hE (fun i hi e => by unfold At at e; omega)⟩⟩
end Go.Proofs.YtgakojgkkdmabaaDoor

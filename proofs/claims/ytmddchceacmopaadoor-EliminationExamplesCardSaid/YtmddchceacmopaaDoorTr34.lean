
import Derived.Test.YtmddchceacmopaaDoorTr30
set_option linter.unusedVariables false
set_option linter.unusedSimpArgs false
namespace Go.Proofs.YtmddchceacmopaaDoor
open Go Go.RowKit
structure StM (M : Nat → Prop) (W wr : World) (w g X : Nat) (s1 v : Value) (L : List (RawSet × Value)) (R2 : (Nat → Prop) → World → Prop) : Prop where
 ext : Ext No W wr
 boxX : wr.heap[X]? = some (.cells #[.int .i64 (w : Int), s1, v] 113 (0, 0))
 gen : SetAt (fun b => M b ∨ b = X ∨ X < b) wr s1 w g
 s : SetsOwn (fun b => M b ∨ b = X) wr (X + 1) v L
 r2 : R2 (fun b => b = X ∨ X < b) wr
 low : W.heap.size ≤ X
section
variable {M : Nat → Prop} {W wr w' : World} {w g X : Nat} {s1 v v' : Value} {L : List (RawSet × Value)} {R2 : (Nat → Prop) → World → Prop} {p : RawSet × Value}
theorem StM.stepNo (h : StM M W wr w g X s1 v L R2) (k : Keeps R2) (hx : Ext No wr w') : StM M W w' w g X s1 v L R2 :=
 ⟨h.ext.transNo hx, hx.blk h.boxX no_no, h.gen.extNo hx, h.s.extNo hx, k.ext h.r2 hx (fun _ _ x => x.elim), h.low⟩
theorem StM.hM (hM : ∀ b, M b → b < wr.heap.size) (h : StM M W wr w g X s1 v L R2) : ∀ b, ((M b ∨ b = X) ∨ v.ownBlock = some b) → b < wr.heap.size := fun b hb => by
 rcases hb with (hb | rfl) | hb
 ·exact hM b hb
 ·exact lt_of_block h.boxX
 exact (h.s.lt b hb).2
theorem StM.app {o : Obj} (h : StM M W wr w g X s1 v L R2) (k : Keeps R2) (hp : WordsAt (fun b => (M b ∨ b = X) ∨ v.ownBlock = some b) wr p.2 p.1.words) (hown : w'.ownsRow (X + 1) 24 2 v' (L.length + 1) (flatP L ++ cellsP p))
  (hg : (wr.alloc o).grownBy w' v.ownBlock) (hv : v'.ownBlock = v.ownBlock ∨ v'.ownBlock = some (wr.alloc o).heap.size) :
  StM M W (w'.setCell ⟨X, 2, none⟩ v') w g X s1 v' (L ++ [p]) R2 ∧ w'.heap[X]? = some (.cells #[.int .i64 (w : Int), s1, v] 113 (0, 0)) := by
 obtain ⟨h1, hE⟩ := h.s.app hp hown hg hv
 have hl := h.low
 have hne : ∀ k, k ≤ X → ¬ v.ownBlock = some k := fun k hk e => by have := (h.s.lt k e).1; omega
 have hE2 : Ext (At X) w' (w'.setCell ⟨X, 2, none⟩ v') := (Ext.refl (At X) _).setAt _ _
 have hX := hE.blk h.boxX (hne X (Nat.le_refl _))
 have hgt : ∀ i, v.ownBlock = some i → X < i := fun i e => by have := (h.s.lt i e).1; omega
 refine ⟨⟨?_, (set_same (j := 2) hX).trans rfl, (h.gen.ext hE (fun i _ e => .inr (.inr (hgt i e)))).ext hE2 (fun i _ e => .inr (.inl e)), h1.ext hE2 (fun i hi e => by unfold At at e; omega) (fun i e => .inr e), k.ext (k.ext h.r2 hE (fun i _ e => .inr (hgt i e))) hE2 (fun i _ e => .inl e), hl⟩, hX⟩
 refine (h.ext.trans2 hE (fun i hi e => ?_)).trans2 hE2 (fun i hi e => by unfold At at e; omega)
 have := hgt i e
 omega
end
def StR (A C D w g : Nat) (rs : List Nat) (sg so sk sc s0 : Value) (M : Nat → Prop) (W : World) : Prop :=
 (W.heap[A]? = some (.cells #[.int .i64 (w : Int), s0, .int .i64 (w : Int), sk, sc] 30 (0, 0)) ∧ ¬ M A) ∧ (W.heap[C]? = some (.cells #[.int .i64 0, .slice none 0 0, .int .i64 0, .slice none 0 0, .slice none 0 0] 30 (0, 0)) ∧ ¬ M C) ∧ BoxRows D w g rs sg so M W
theorem keeps_st (A C D w g : Nat) (rs : List Nat) (sg so sk sc s0 : Value) : Keeps (StR A C D w g rs sg so sk sc s0) :=
 ⟨fun h hx hm => ⟨⟨hx.blk h.1.1 (fun e => h.1.2 (hm _ (lt_of_block h.1.1) e)), h.1.2⟩, ⟨hx.blk h.2.1.1 (fun e => h.2.1.2 (hm _ (lt_of_block h.2.1.1) e)), h.2.1.2⟩, (keeps_box D w g rs sg so).ext h.2.2 hx hm⟩,
  fun h hm => ⟨⟨h.1.1, fun e => h.1.2 (hm _ (lt_of_block h.1.1) e)⟩, ⟨h.2.1.1, fun e => h.2.1.2 (hm _ (lt_of_block h.2.1.1) e)⟩, (keeps_box D w g rs sg so).mono h.2.2 hm⟩⟩
set_option maxRecDepth 100000 in
set_option maxHeartbeats 8000000 in
theorem star_any (M : Nat → Prop) (t : TrD) (g1 k1 c1 : Value) (W : World) (hM : ∀ b, M b → b < W.heap.size) (hT : TabW W) (h : TrAt No W g1 k1 c1 t) :
  Calls Tryd.prog 67 #[.agg #[.int .i64 (t.w : Int), g1, .int .i64 (t.w : Int), k1, c1]] W (ClosePost M t.w (closN (rowsN t t.w t.copies.length) t.w t.gen) (starRows t.w (rowsN t t.w t.copies.length) t.w) W) := by
 have H := Lib.hid h
 have HM := Lib.hid hM
 have HT := Lib.hid hT
 obtain ⟨ag, cg, rfl⟩ := h.gen.slice
 obtain ⟨ak, ck, rfl⟩ := h.kill.slice
 obtain ⟨ac, cc, rfl⟩ := Row.slice h.copies
 have hw := h.ok.w
 obtain ⟨i0, hi0, hz0, hz1, hz2⟩ := info_parts infoS
 clear h hM hT
 go_enter Tryd.func67, Tryd.ntmps67
 go_wp2_with fail
 have hx0 : Ext No W ((W.alloc (.cells #[.int .i64 (t.w : Int), .slice ag (nw t.w) cg, .int .i64 (t.w : Int), .slice ak (nw t.w) ck, .slice ac t.copies.length cc] 30)).alloc (.cells #[.int .i64 0, .slice none 0 0, .int .i64 0, .slice none 0 0, .slice none 0 0] 30)) := ((Ext.refl _ _).alloc _).alloc _
 have hA : ((W.alloc (.cells #[.int .i64 (t.w : Int), .slice ag (nw t.w) cg, .int .i64 (t.w : Int), .slice ak (nw t.w) ck, .slice ac t.copies.length cc] 30)).alloc (.cells #[.int .i64 0, .slice none 0 0, .int .i64 0, .slice none 0 0, .slice none 0 0] 30)).heap[W.heap.size]? = some (.cells #[.int .i64 (t.w : Int), .slice ag (nw t.w) cg, .int .i64 (t.w : Int), .slice ak (nw t.w) ck, .slice ac t.copies.length cc] 30 (0, 0)) := alloc_under (alloc_top rfl)
 have hC : ((W.alloc (.cells #[.int .i64 (t.w : Int), .slice ag (nw t.w) cg, .int .i64 (t.w : Int), .slice ak (nw t.w) ck, .slice ac t.copies.length cc] 30)).alloc (.cells #[.int .i64 0, .slice none 0 0, .int .i64 0, .slice none 0 0, .slice none 0 0] 30)).heap[W.heap.size + 1]? = some (.cells #[.int .i64 0, .slice none 0 0, .int .i64 0, .slice none 0 0, .slice none 0 0] 30 (0, 0)) := alloc_top (by simp)
 generalize ((W.alloc (.cells #[.int .i64 (t.w : Int), .slice ag (nw t.w) cg, .int .i64 (t.w : Int), .slice ak (nw t.w) ck, .slice ac t.copies.length cc] 30)).alloc (.cells #[.int .i64 0, .slice none 0 0, .int .i64 0, .slice none 0 0, .slice none 0 0] 30)) = W2 at *
 refine (validTr_any t _ _ _ _ (H.out.extNo hx0)).mono ?_
 rintro e1 w1 ⟨rfl, hx1⟩
 have hx := Lib.hid (hx0.transNo hx1)
 have HA := Lib.hid (hx1.blk hA no_no)
 have HC := Lib.hid (hx1.blk hC no_no)
 clear hx0 hx1 hA hC
 have cA := cellOf HA.out
 go_wp2_with fail
 refine (open_any (fun b => M b ∨ b = W.heap.size + 1) t _ _ _ _ (fun b hb => ?_) (H.out.extNo hx.out)).mono ?_
 ·rcases hb with hb | rfl
  ·exact Nat.lt_of_lt_of_le (HM.out b hb) hx.out.size
  exact lt_of_block HC.out
 rintro e2 w2 ⟨a2, c2, b2, d2, rfl, hrows, hx2⟩
 have HXF := Lib.hid (hx.out.transNo hx2)
 have HCC := Lib.hid (hx2.blk HC.out no_no)
 have HAA := Lib.hid (hx2.blk HA.out no_no)
 have hb4 : (w2.alloc (.cells #[.int .i64 (t.w : Int), .slice a2 (nw t.w) c2, .slice b2 (rowsN t t.w t.copies.length).length d2] 113)).heap[w2.heap.size]? = some (.cells #[.int .i64 (t.w : Int), .slice a2 (nw t.w) c2, .slice b2 (rowsN t t.w t.copies.length).length d2] 113 (0, 0)) := alloc_top rfl
 have hx4 : Ext No w2 (w2.alloc (.cells #[.int .i64 (t.w : Int), .slice a2 (nw t.w) c2, .slice b2 (rowsN t t.w t.copies.length).length d2] 113)) := (Ext.refl _ _).alloc _
 have HB4 := Lib.hid hb4
 have HX4 := Lib.hid (HXF.out.transNo hx4)
 have HA4 := Lib.hid (hx4.blk HAA.out no_no)
 have HC4 := Lib.hid (hx4.blk HCC.out no_no)
 have HR4 := Lib.hid (hrows.out.extNo hx4)
 have HT4 := Lib.hid (HT.out.ext HX4.out)
 have cB := cellOf hb4
 clear hx2 HC hrows cA HA hx HAA HCC hb4 hx4 HXF
 go_wp2_with fail
 generalize (w2.alloc (.cells #[.int .i64 (t.w : Int), .slice a2 (nw t.w) c2, .slice b2 (rowsN t t.w t.copies.length).length d2] 113)) = W4 at *
 generalize w2.heap.size = D4 at *
 clear cB
 refine (closure_any (fun b => M b ∨ b = W.heap.size + 1) t.w t.gen (rowsN t t.w t.copies.length) _ _ _ _ (fun b hb => ?_) HT4.out (shp _ _ _) HR4.out.sets.no (rowsN_len _ _ _) HR4.out.set).mono ?_
 ·rcases hb with hb | rfl
  ·exact Nat.lt_of_lt_of_le (HM.out b hb) HX4.out.size
  exact lt_of_block HC4.out
 rintro e5 w5 ⟨a5, c5, rfl, hs5, hx5⟩
 have hlt5 := lt_of_block (hx5.blk HC4.out no_no)
 have hltA := lt_of_block (hx5.blk HA4.out no_no)
 have hltD := lt_of_block (hx5.blk HB4.out no_no)
 have hx6 : Ext No w5 (w5.alloc (.cells #[.int .i64 (t.w : Int), .slice a5 (nw t.w) c5, .slice none 0 0] 113)) := (Ext.refl _ _).alloc _
 have hm := Lib.hid (show StM (fun b => M b ∨ b = W.heap.size + 1) W (w5.alloc (.cells #[.int .i64 (t.w : Int), .slice a5 (nw t.w) c5, .slice none 0 0] 113)) t.w (closN (rowsN t t.w t.copies.length) t.w t.gen) w5.heap.size (.slice a5 (nw t.w) c5) (.slice none 0 0) [] (StR W.heap.size (W.heap.size + 1) D4 t.w t.gen (rowsN t t.w t.copies.length) (.slice a2 (nw t.w) c2) (.slice b2 (rowsN t t.w t.copies.length).length d2) (.slice ak (nw t.w) ck) (.slice ac t.copies.length cc) (.slice ag (nw t.w) cg)) from
  ⟨(HX4.out.transNo hx5).alloc _, alloc_top rfl, (hs5.out.mono (fun i hi e => by
   rcases e with e | e | e
   ·exact e
   ·omega
   ·omega)).extNo hx6, SetsOwn.nil _ _ _, ⟨⟨alloc_under (hx5.blk HA4.out no_no), by omega⟩, ⟨alloc_under (hx5.blk HC4.out no_no), by omega⟩, alloc_under (hx5.blk HB4.out no_no), by omega, ((HR4.out.extNo hx5).mono (fun i hi e => by
   rcases e with e | e
   ·omega
   omega)).extNo hx6⟩, by omega⟩)
 have HT6 := Lib.hid ((HT4.out.ext hx5).ext hx6)
 have hCX : W.heap.size + 1 < w5.heap.size := hlt5
 clear hx5 hx6 hs5 HA4 HB4 HC4 HR4 HT4 HX4 hlt5 hltA hltD HT
 have cA := cellOf hm.out.r2.1.1
 go_wp2_with fail
 clear cA
 generalize (w5.alloc (.cells #[.int .i64 (t.w : Int), .slice a5 (nw t.w) c5, .slice none 0 0] 113)) = W6 at *
 generalize w5.heap.size = X at *
 have hwl : (t.w : Int) ≤ 256 := by omega
 go_loopw [23] (fun i wr => ∃ (k : Nat) (av : Option Addr) (cv : Nat) (L : List (RawSet × Value)), k ≤ t.w ∧ i = .int .i64 k ∧ Hid (L.map Prod.fst = (starRows t.w (rowsN t t.w t.copies.length) k).map (setN t.w)) ∧ Hid (TabW wr) ∧ Hid (StM (fun b => M b ∨ b = W.heap.size + 1) W wr t.w (closN (rowsN t t.w t.copies.length) t.w t.gen) X (.slice a5 (nw t.w) c5) (.slice av L.length cv) L (StR W.heap.size (W.heap.size + 1) D4 t.w t.gen (rowsN t t.w t.copies.length) (.slice a2 (nw t.w) c2) (.slice b2 (rowsN t t.w t.copies.length).length d2) (.slice ak (nw t.w) ck) (.slice ac t.copies.length cc) (.slice ag (nw t.w) cg)))) (fun i _ => t.w - (intOf i).toNat)
 case atStart => exact ⟨0, none, 0, [], Nat.zero_le _, rfl, Lib.hid rfl, HT6, hm⟩
 clear hm HT6
 obtain ⟨k, av, cv, L, hk, rfl, HL, hT, hm⟩ := hrel
 rename World => wr
 have hpos : (0 : Int) ≤ (k : Int) := by omega
 have hLn : L.length ≤ 256 := by have := congrArg List.length HL.out; simp [starRows] at this; omega
 by_cases hlt : k < t.w
 ·have HKK : Hid (Value.int .i64 ((k : Int) + 1) = .int .i64 ((k + 1 : Nat) : Int)) := Lib.hid (by rw [show ((k + 1 : Nat) : Int) = (k : Int) + 1 from by omega])
  have cA := cellOf hm.out.r2.1.1
  have hx1 : Ext No wr (wr.alloc (.cells #[.int .i64 (k : Int)] 3)) := (Ext.refl _ _).alloc _
  have hm1 := Lib.hid (hm.out.stepNo (keeps_st _ _ _ _ _ _ _ _ _ _ _) hx1)
  have hT1 := Lib.hid (hT.out.ext hx1)
  have hrow : Row No (wr.alloc (.cells #[.int .i64 (k : Int)] 3)) 1 (.slice (some ⟨wr.heap.size, 0, none⟩) 1 1) 1 (ints [(k : Int)]) := Row.block (alloc_top rfl) rfl no_no (by omega)
  have HROW := Lib.hid hrow
  clear hm hT hx1 hrow
  go_wp2_with fail
  clear cA
  generalize (wr.alloc (.cells #[.int .i64 (k : Int)] 3)) = Wk at *
  refine (of_any (fun b => ((M b ∨ b = W.heap.size + 1) ∨ b = X) ∨ (Value.slice av L.length cv).ownBlock = some b) t.w [(k : Int)] _ _ (hm1.out.hM (fun b hb => ?_)) hw HROW.out (fun x hx => ?_)).mono ?_
  ·rcases hb with hb | rfl
   ·exact Nat.lt_of_lt_of_le (HM.out b hb) hm1.out.ext.size
   exact lt_of_block hm1.out.r2.2.1.1
  ·rw [List.mem_singleton.1 hx]; omega
  rintro e7 w7 ⟨a7, c7, rfl, hs7, hx7⟩
  rw [ofN_one] at hs7
  have hbS : (w7.alloc (.cells #[.int .i64 (t.w : Int), .slice a7 (nw t.w) c7] 24)).heap[w7.heap.size]? = some (.cells #[.int .i64 (t.w : Int), .slice a7 (nw t.w) c7] 24 (0, 0)) := alloc_top rfl
  have hx8 : Ext No w7 (w7.alloc (.cells #[.int .i64 (t.w : Int), .slice a7 (nw t.w) c7] 24)) := (Ext.refl _ _).alloc _
  have hm7 := hm1.out.stepNo (keeps_st _ _ _ _ _ _ _ _ _ _ _) hx7
  have hSX : w7.heap.size ≠ X := fun e => by have := lt_of_block hm7.boxX; omega
  have hvS : ¬ (Value.slice av L.length cv).ownBlock = some w7.heap.size := fun e => by have := (hm7.s.lt _ e).2; omega
  have hm := Lib.hid (hm7.stepNo (keeps_st _ _ _ _ _ _ _ _ _ _ _) hx8)
  have hT := Lib.hid ((hT1.out.ext hx7).ext hx8)
  have hset := Lib.hid (hs7.out.extNo hx8)
  have HBS := Lib.hid hbS
  clear hm1 hT1 hx7 hx8 hm7 hs7 hbS HROW
  go_wp2_with fail
  generalize (w7.alloc (.cells #[.int .i64 (t.w : Int), .slice a7 (nw t.w) c7] 24)) = Vr at *
  generalize w7.heap.size = Sb at *
  have cD4 := cellOf hm.out.r2.2.2.1
  have cSb := cellOf HBS.out
  have l0 : Vr.cell? ⟨D4, 0, none⟩ = some (.int .i64 (t.w : Int)) := cD4 0
  have l1 : Vr.cell? ⟨D4, 1, none⟩ = some (.slice a2 (nw t.w) c2) := cD4 1
  have l2 : Vr.cell? ⟨D4, 2, none⟩ = some (.slice b2 (rowsN t t.w t.copies.length).length d2) := cD4 2
  have l3 : Vr.cell? ⟨Sb, 0, none⟩ = some (.int .i64 (t.w : Int)) := cSb 0
  have l4 : Vr.cell? ⟨Sb, 1, none⟩ = some (.slice a7 (nw t.w) c7) := cSb 1
  have n1 : D4 ≠ X := fun e => hm.out.r2.2.2.2.1 (.inl e)
  have hv4 : ¬ (Value.slice av L.length cv).ownBlock = some D4 := fun e => hm.out.r2.2.2.2.1 (.inr (by have := (hm.out.s.lt _ e).1; omega))
  have n2 : Sb ≠ X := hSX
  have HSN : Hid (starRows t.w (rowsN t t.w t.copies.length) (k + 1) = starRows t.w (rowsN t t.w t.copies.length) k ++ [closN (rowsN t t.w t.copies.length) t.w (2 ^ k)]) := Lib.hid (starRows_snoc _ _ _)
  clear cD4 cSb hSX
  refine wp_region_held_drew (S := (fun w' => w'.cell? ⟨D4, 0, none⟩ = some (.int .i64 (t.w : Int)) ∧ w'.cell? ⟨D4, 1, none⟩ = some (.slice a2 (nw t.w) c2) ∧ w'.cell? ⟨D4, 2, none⟩ = some (.slice b2 (rowsN t t.w t.copies.length).length d2) ∧ w'.cell? ⟨Sb, 0, none⟩ = some (.int .i64 (t.w : Int)) ∧ w'.cell? ⟨Sb, 1, none⟩ = some (.slice a7 (nw t.w) c7))) (by kernel_rfl) ?_ (fun hHeld => ?_)
  ·(go_split_ands; refine ⟨?_, ?_, ?_, ?_, ?_⟩ <;> (repeat (first | (with_reducible assumption) | (with_reducible exact Ext.refl _ _) | (with_reducible refine keepD ?_) | (with_reducible refine keepA ?_) | (with_reducible refine Ext.drew ?_) | (with_reducible refine Ext.alloc ?_ _) | (with_reducible refine BoxR.drew ?_) | (with_reducible refine BoxR.alloc ?_ _) | (with_reducible refine BoxR.set ?_ _ _) | ((with_reducible refine keepS ?_ ?_); (first | (with_reducible assumption) | omega | (simp; omega) | (exact Nat.le_refl _))) | (with_reducible refine Ext.setAt ?_ _ _) | ((with_reducible refine Ext.own ?_ ?_ _); rotate_left; (first | (with_reducible assumption) | omega | (simp; omega) | (exact Nat.le_refl _))) | (with_reducible refine keepN hyA ?_) | (with_reducible refine Ext.transNo ?_ hyA) | (with_reducible refine BoxR.ext ?_ hyA))))
  replace hm := Lib.hid (hm.out.stepNo (keeps_st _ _ _ _ _ _ _ _ _ _ _) (Ext.refl No Vr).drew)
  replace hT := Lib.hid (hT.out.ext (Ext.refl No Vr).drew)
  replace hset := Lib.hid (hset.out.extNo (Ext.refl No Vr).drew)
  clear HBS
  generalize Vr.drew = v0 at *
  refine hHs [0, 2, 3] ?_
  iterate 3
   refine hTn ?_ hHeld (fun w hSw => ?_) ?_
   rotate_left
   ·(try dsimp only at hSw); go_simp; (try with_reducible rfl)
   simp only [Act.put, nzA, nzB, nzC]
  refine hHe ?_
  refine held_next2 (i := 1) (j := 4) (by kernel_rfl) (NextOp.mk rfl rfl (fun K hK => ?_)) (NextOp.mk rfl rfl (fun K hK => ?_))
  ·((have cX := cellOf hm.out.boxX); go_simp; (clear cX))
   refine hK.out _ _ ?_ ?_
   ·(go_split_ands; refine ⟨?_, ?_, ?_, ?_, ?_⟩ <;> (repeat (first | (with_reducible assumption) | (with_reducible exact Ext.refl _ _) | (with_reducible refine keepD ?_) | (with_reducible refine keepA ?_) | (with_reducible refine Ext.drew ?_) | (with_reducible refine Ext.alloc ?_ _) | (with_reducible refine BoxR.drew ?_) | (with_reducible refine BoxR.alloc ?_ _) | (with_reducible refine BoxR.set ?_ _ _) | ((with_reducible refine keepS ?_ ?_); (first | (with_reducible assumption) | omega | (simp; omega) | (exact Nat.le_refl _))) | (with_reducible refine Ext.setAt ?_ _ _) | ((with_reducible refine Ext.own ?_ ?_ _); rotate_left; (first | (with_reducible assumption) | omega | (simp; omega) | (exact Nat.le_refl _))) | (with_reducible refine keepN hyA ?_) | (with_reducible refine Ext.transNo ?_ hyA) | (with_reducible refine BoxR.ext ?_ hyA))))
   clear hK K hHeld
   intro hHeld
   skip
   try simp only [Act.put, nzA, nzB, nzC]
   refine hHc 4 fun K hK => ?_
   (go_simp; go_at_call 95; (with_reducible refine (closure_any (fun b => ((M b ∨ b = W.heap.size + 1) ∨ b = X) ∨ (Value.slice av L.length cv).ownBlock = some b) t.w (2 ^ k) (rowsN t t.w t.copies.length) _ _ _ _ ?_ ?_ (shp _ _ _) ?_ (rowsN_len _ _ _) ?_).mono ?_); (exact hm.out.hM (fun b hb => by rcases hb with hb | rfl; exact Nat.lt_of_lt_of_le (HM.out b hb) hm.out.ext.size; exact lt_of_block hm.out.r2.2.1.1)); (exact hT.out); (exact hm.out.r2.2.2.2.2.sets.no); (exact hset.out); (rintro e8 w8 ⟨a8, c8, rfl, hs8, hyA⟩); go_simp)
   refine hK.out _ _ ?_ ?_
   ·(go_split_ands; refine ⟨?_, ?_, ?_, ?_, ?_⟩ <;> (repeat (first | (with_reducible assumption) | (with_reducible exact Ext.refl _ _) | (with_reducible refine keepD ?_) | (with_reducible refine keepA ?_) | (with_reducible refine Ext.drew ?_) | (with_reducible refine Ext.alloc ?_ _) | (with_reducible refine BoxR.drew ?_) | (with_reducible refine BoxR.alloc ?_ _) | (with_reducible refine BoxR.set ?_ _ _) | ((with_reducible refine keepS ?_ ?_); (first | (with_reducible assumption) | omega | (simp; omega) | (exact Nat.le_refl _))) | (with_reducible refine Ext.setAt ?_ _ _) | ((with_reducible refine Ext.own ?_ ?_ _); rotate_left; (first | (with_reducible assumption) | omega | (simp; omega) | (exact Nat.le_refl _))) | (with_reducible refine keepN hyA ?_) | (with_reducible refine Ext.transNo ?_ hyA) | (with_reducible refine BoxR.ext ?_ hyA))))
   clear hK K hHeld
   intro hHeld
   replace hm := Lib.hid (hm.out.stepNo (keeps_st _ _ _ _ _ _ _ _ _ _ _) hyA)
   replace hT := Lib.hid (hT.out.ext hyA)
   have hs9 := Lib.hid hs8.out
   clear hyA hset hs8
   try simp only [Act.put, nzA, nzB, nzC]
   refine hHc 5 fun K hK => ?_
   go_simp
   refine hK.out _ _ ?_ ?_
   ·(go_split_ands; refine ⟨?_, ?_, ?_, ?_, ?_⟩ <;> (repeat (first | (with_reducible assumption) | (with_reducible exact Ext.refl _ _) | (with_reducible refine keepD ?_) | (with_reducible refine keepA ?_) | (with_reducible refine Ext.drew ?_) | (with_reducible refine Ext.alloc ?_ _) | (with_reducible refine BoxR.drew ?_) | (with_reducible refine BoxR.alloc ?_ _) | (with_reducible refine BoxR.set ?_ _ _) | ((with_reducible refine keepS ?_ ?_); (first | (with_reducible assumption) | omega | (simp; omega) | (exact Nat.le_refl _))) | (with_reducible refine Ext.setAt ?_ _ _) | ((with_reducible refine Ext.own ?_ ?_ _); rotate_left; (first | (with_reducible assumption) | omega | (simp; omega) | (exact Nat.le_refl _))) | (with_reducible refine keepN hyA ?_) | (with_reducible refine Ext.transNo ?_ hyA) | (with_reducible refine BoxR.ext ?_ hyA))))
   clear hK K hHeld
   intro hHeld
   have _hb := hs9
   try simp only [Act.put, nzA, nzB, nzC]
   refine hHc 6 fun K hK => ?_
   ((refine wp_app _ (.tmp 36) (.tmp 40) 31 rfl (X + 1) 24 i0 _ 2 32 Tryd.underlying31 hi0 hz0 hz1 hz2 rfl (by omega) (.slice av L.length cv) L.length (flatP L) rfl (row_keep hm.out.s.own ((Ext.refl No _).alloc _) (fun _ _ x => x)) No (some ⟨w8.heap.size, 0, none⟩) 1 1 [.int .i64 (t.w : Int), .slice a8 (nw t.w) c8] rfl (Row.block (alloc_top rfl) rfl no_no (by omega)) (by simp [Value.oneCell']) (by omega) (by omega) (by simp; exact Nat.le_of_lt (lt_of_block hm.out.boxX)) ?_); (intro v1 w9 hown1 hg1 hv1); (have hyE0 : Ext (fun k => (Value.slice av L.length cv).ownBlock = some k) w8 w9 := ((Ext.refl _ w8).alloc _).grown hg1 (fun k hk _ => hk)); (have hyE : Ext (fun k => (Value.slice av L.length cv).ownBlock = some k) (w8.alloc (.cells #[.int .i64 (t.w : Int), .slice a8 (nw t.w) c8] 24)) w9 := (Ext.refl _ _).grown hg1 (fun k hk _ => hk)); (obtain ⟨hm9, hX9⟩ := hm.out.app (p := (setN t.w (closN (rowsN t t.w t.copies.length) t.w (2 ^ k)), .slice a8 (nw t.w) c8)) (keeps_st _ _ _ _ _ _ _ _ _ _ _) hs9.out.words hown1 hg1 hv1); (have HM9 := Lib.hid hm9); (have HX9 := Lib.hid hX9); (have HT9 := Lib.hid (hT.out.extM hyE0 (fun e => by have h1 := (hm.out.s.lt _ e).1; omega))); (obtain ⟨a9, c9, hs9'⟩ := hm9.s.slice); (subst hs9'); (clear hm9 hX9 hown1 hg1 hv1))
   refine hK.out _ _ ?_ ?_
   ·(go_split_ands; refine ⟨?_, ?_, ?_, ?_, ?_⟩ <;> ((with_reducible refine Ext.keepM hyE ?_ ?_); rotate_left; (first | exact hv4 | exact hvS); (repeat (first | (with_reducible assumption) | (with_reducible exact Ext.refl _ _) | (with_reducible refine keepD ?_) | (with_reducible refine keepA ?_) | (with_reducible refine Ext.drew ?_) | (with_reducible refine Ext.alloc ?_ _) | (with_reducible refine BoxR.drew ?_) | (with_reducible refine BoxR.alloc ?_ _) | (with_reducible refine BoxR.set ?_ _ _) | ((with_reducible refine keepS ?_ ?_); (first | (with_reducible assumption) | omega | (simp; omega) | (exact Nat.le_refl _))) | (with_reducible refine Ext.setAt ?_ _ _) | ((with_reducible refine Ext.own ?_ ?_ _); rotate_left; (first | (with_reducible assumption) | omega | (simp; omega) | (exact Nat.le_refl _))) | (with_reducible refine keepN hyA ?_) | (with_reducible refine Ext.transNo ?_ hyA) | (with_reducible refine BoxR.ext ?_ hyA)))))
   clear hK K hHeld
   intro hHeld
   clear hyE hyE0 hm hT
   try simp only [Act.put, nzA, nzB, nzC]
   refine hTk 7 ?_ hHeld (fun w hSw => ?_) ?_
   rotate_left
   ·(try dsimp only at hSw); go_simp; (try with_reducible rfl)
   simp only [Act.put, nzA, nzB, nzC]
   refine hHc 8 fun K hK => ?_
   ((have cX := cellOf HX9.out); (have fX := freeOf HX9.out); go_simp; (clear cX fX))
   refine hK.out _ _ ?_ ?_
   ·(go_split_ands; refine ⟨?_, ?_, ?_, ?_, ?_⟩ <;> (repeat (first | (with_reducible assumption) | (with_reducible exact Ext.refl _ _) | (with_reducible refine keepD ?_) | (with_reducible refine keepA ?_) | (with_reducible refine Ext.drew ?_) | (with_reducible refine Ext.alloc ?_ _) | (with_reducible refine BoxR.drew ?_) | (with_reducible refine BoxR.alloc ?_ _) | (with_reducible refine BoxR.set ?_ _ _) | ((with_reducible refine keepS ?_ ?_); (first | (with_reducible assumption) | omega | (simp; omega) | (exact Nat.le_refl _))) | (with_reducible refine Ext.setAt ?_ _ _) | ((with_reducible refine Ext.own ?_ ?_ _); rotate_left; (first | (with_reducible assumption) | omega | (simp; omega) | (exact Nat.le_refl _))) | (with_reducible refine keepN hyA ?_) | (with_reducible refine Ext.transNo ?_ hyA) | (with_reducible refine BoxR.ext ?_ hyA))))
   clear hK K hHeld
   intro hHeld
   clear HX9
   try simp only [Act.put, nzA, nzB, nzC]
   refine wpAnyH_done (by kernel_rfl) ?_ _
   go_wp2_with fail
   have HTF := Lib.hid (HT9.out.extM ((Ext.refl (At X) w9).setAt 2 (Value.slice a9 (L ++ [(setN t.w (closN (rowsN t t.w t.copies.length) t.w (2 ^ k)), Value.slice a8 (nw t.w) c8)]).length c9)) (fun e => by unfold At at e; omega))
   simp only [List.length_append, List.length_cons, List.length_nil] at HTF
   go_roundw
   case rel => exact ⟨k + 1, a9, c9, L ++ [(setN t.w (closN (rowsN t t.w t.copies.length) t.w (2 ^ k)), .slice a8 (nw t.w) c8)], by omega, HKK.out, Lib.hid (by rw [List.map_append, HL.out, HSN.out, List.map_append]; rfl), HTF, by have := HM9; simp only [List.length_append, List.length_cons, List.length_nil] at this ⊢; exact this⟩
   case measure => simp [intOf]; omega
  (go_simp; go_at_call 95; (with_reducible refine (closure_any (fun b => ((M b ∨ b = W.heap.size + 1) ∨ b = X) ∨ (Value.slice av L.length cv).ownBlock = some b) t.w (2 ^ k) (rowsN t t.w t.copies.length) _ _ _ _ ?_ ?_ (shp _ _ _) ?_ (rowsN_len _ _ _) ?_).mono ?_); (exact hm.out.hM (fun b hb => by rcases hb with hb | rfl; exact Nat.lt_of_lt_of_le (HM.out b hb) hm.out.ext.size; exact lt_of_block hm.out.r2.2.1.1)); (exact hT.out); (exact hm.out.r2.2.2.2.2.sets.no); (exact hset.out); (rintro e8 w8 ⟨a8, c8, rfl, hs8, hyA⟩); go_simp)
  refine hK.out _ _ ?_ ?_
  ·(go_split_ands; refine ⟨?_, ?_, ?_, ?_, ?_⟩ <;> (repeat (first | (with_reducible assumption) | (with_reducible exact Ext.refl _ _) | (with_reducible refine keepD ?_) | (with_reducible refine keepA ?_) | (with_reducible refine Ext.drew ?_) | (with_reducible refine Ext.alloc ?_ _) | (with_reducible refine BoxR.drew ?_) | (with_reducible refine BoxR.alloc ?_ _) | (with_reducible refine BoxR.set ?_ _ _) | ((with_reducible refine keepS ?_ ?_); (first | (with_reducible assumption) | omega | (simp; omega) | (exact Nat.le_refl _))) | (with_reducible refine Ext.setAt ?_ _ _) | ((with_reducible refine Ext.own ?_ ?_ _); rotate_left; (first | (with_reducible assumption) | omega | (simp; omega) | (exact Nat.le_refl _))) | (with_reducible refine keepN hyA ?_) | (with_reducible refine Ext.transNo ?_ hyA) | (with_reducible refine BoxR.ext ?_ hyA))))
  clear hK K hHeld
  intro hHeld
  replace hm := Lib.hid (hm.out.stepNo (keeps_st _ _ _ _ _ _ _ _ _ _ _) hyA)
  replace hT := Lib.hid (hT.out.ext hyA)
  have hs9 := Lib.hid hs8.out
  clear hyA hset hs8
  try simp only [Act.put, nzA, nzB, nzC]
  refine held_next2 (i := 1) (j := 5) (by kernel_rfl) (NextOp.mk rfl rfl (fun K hK => ?_)) (NextOp.mk rfl rfl (fun K hK => ?_))
  ·((have cX := cellOf hm.out.boxX); go_simp; (clear cX))
   refine hK.out _ _ ?_ ?_
   ·(go_split_ands; refine ⟨?_, ?_, ?_, ?_, ?_⟩ <;> (repeat (first | (with_reducible assumption) | (with_reducible exact Ext.refl _ _) | (with_reducible refine keepD ?_) | (with_reducible refine keepA ?_) | (with_reducible refine Ext.drew ?_) | (with_reducible refine Ext.alloc ?_ _) | (with_reducible refine BoxR.drew ?_) | (with_reducible refine BoxR.alloc ?_ _) | (with_reducible refine BoxR.set ?_ _ _) | ((with_reducible refine keepS ?_ ?_); (first | (with_reducible assumption) | omega | (simp; omega) | (exact Nat.le_refl _))) | (with_reducible refine Ext.setAt ?_ _ _) | ((with_reducible refine Ext.own ?_ ?_ _); rotate_left; (first | (with_reducible assumption) | omega | (simp; omega) | (exact Nat.le_refl _))) | (with_reducible refine keepN hyA ?_) | (with_reducible refine Ext.transNo ?_ hyA) | (with_reducible refine BoxR.ext ?_ hyA))))
   clear hK K hHeld
   intro hHeld
   skip
   try simp only [Act.put, nzA, nzB, nzC]
   refine hHc 5 fun K hK => ?_
   go_simp
   refine hK.out _ _ ?_ ?_
   ·(go_split_ands; refine ⟨?_, ?_, ?_, ?_, ?_⟩ <;> (repeat (first | (with_reducible assumption) | (with_reducible exact Ext.refl _ _) | (with_reducible refine keepD ?_) | (with_reducible refine keepA ?_) | (with_reducible refine Ext.drew ?_) | (with_reducible refine Ext.alloc ?_ _) | (with_reducible refine BoxR.drew ?_) | (with_reducible refine BoxR.alloc ?_ _) | (with_reducible refine BoxR.set ?_ _ _) | ((with_reducible refine keepS ?_ ?_); (first | (with_reducible assumption) | omega | (simp; omega) | (exact Nat.le_refl _))) | (with_reducible refine Ext.setAt ?_ _ _) | ((with_reducible refine Ext.own ?_ ?_ _); rotate_left; (first | (with_reducible assumption) | omega | (simp; omega) | (exact Nat.le_refl _))) | (with_reducible refine keepN hyA ?_) | (with_reducible refine Ext.transNo ?_ hyA) | (with_reducible refine BoxR.ext ?_ hyA))))
   clear hK K hHeld
   intro hHeld
   have _hb := hs9
   try simp only [Act.put, nzA, nzB, nzC]
   refine hHc 6 fun K hK => ?_
   ((refine wp_app _ (.tmp 36) (.tmp 40) 31 rfl (X + 1) 24 i0 _ 2 32 Tryd.underlying31 hi0 hz0 hz1 hz2 rfl (by omega) (.slice av L.length cv) L.length (flatP L) rfl (row_keep hm.out.s.own ((Ext.refl No _).alloc _) (fun _ _ x => x)) No (some ⟨w8.heap.size, 0, none⟩) 1 1 [.int .i64 (t.w : Int), .slice a8 (nw t.w) c8] rfl (Row.block (alloc_top rfl) rfl no_no (by omega)) (by simp [Value.oneCell']) (by omega) (by omega) (by simp; exact Nat.le_of_lt (lt_of_block hm.out.boxX)) ?_); (intro v1 w9 hown1 hg1 hv1); (have hyE0 : Ext (fun k => (Value.slice av L.length cv).ownBlock = some k) w8 w9 := ((Ext.refl _ w8).alloc _).grown hg1 (fun k hk _ => hk)); (have hyE : Ext (fun k => (Value.slice av L.length cv).ownBlock = some k) (w8.alloc (.cells #[.int .i64 (t.w : Int), .slice a8 (nw t.w) c8] 24)) w9 := (Ext.refl _ _).grown hg1 (fun k hk _ => hk)); (obtain ⟨hm9, hX9⟩ := hm.out.app (p := (setN t.w (closN (rowsN t t.w t.copies.length) t.w (2 ^ k)), .slice a8 (nw t.w) c8)) (keeps_st _ _ _ _ _ _ _ _ _ _ _) hs9.out.words hown1 hg1 hv1); (have HM9 := Lib.hid hm9); (have HX9 := Lib.hid hX9); (have HT9 := Lib.hid (hT.out.extM hyE0 (fun e => by have h1 := (hm.out.s.lt _ e).1; omega))); (obtain ⟨a9, c9, hs9'⟩ := hm9.s.slice); (subst hs9'); (clear hm9 hX9 hown1 hg1 hv1))
   refine hK.out _ _ ?_ ?_
   ·(go_split_ands; refine ⟨?_, ?_, ?_, ?_, ?_⟩ <;> ((with_reducible refine Ext.keepM hyE ?_ ?_); rotate_left; (first | exact hv4 | exact hvS); (repeat (first | (with_reducible assumption) | (with_reducible exact Ext.refl _ _) | (with_reducible refine keepD ?_) | (with_reducible refine keepA ?_) | (with_reducible refine Ext.drew ?_) | (with_reducible refine Ext.alloc ?_ _) | (with_reducible refine BoxR.drew ?_) | (with_reducible refine BoxR.alloc ?_ _) | (with_reducible refine BoxR.set ?_ _ _) | ((with_reducible refine keepS ?_ ?_); (first | (with_reducible assumption) | omega | (simp; omega) | (exact Nat.le_refl _))) | (with_reducible refine Ext.setAt ?_ _ _) | ((with_reducible refine Ext.own ?_ ?_ _); rotate_left; (first | (with_reducible assumption) | omega | (simp; omega) | (exact Nat.le_refl _))) | (with_reducible refine keepN hyA ?_) | (with_reducible refine Ext.transNo ?_ hyA) | (with_reducible refine BoxR.ext ?_ hyA)))))
   clear hK K hHeld
   intro hHeld
   clear hyE hyE0 hm hT
   try simp only [Act.put, nzA, nzB, nzC]
   refine hTk 7 ?_ hHeld (fun w hSw => ?_) ?_
   rotate_left
   ·(try dsimp only at hSw); go_simp; (try with_reducible rfl)
   simp only [Act.put, nzA, nzB, nzC]
   refine hHc 8 fun K hK => ?_
   ((have cX := cellOf HX9.out); (have fX := freeOf HX9.out); go_simp; (clear cX fX))
   refine hK.out _ _ ?_ ?_
   ·(go_split_ands; refine ⟨?_, ?_, ?_, ?_, ?_⟩ <;> (repeat (first | (with_reducible assumption) | (with_reducible exact Ext.refl _ _) | (with_reducible refine keepD ?_) | (with_reducible refine keepA ?_) | (with_reducible refine Ext.drew ?_) | (with_reducible refine Ext.alloc ?_ _) | (with_reducible refine BoxR.drew ?_) | (with_reducible refine BoxR.alloc ?_ _) | (with_reducible refine BoxR.set ?_ _ _) | ((with_reducible refine keepS ?_ ?_); (first | (with_reducible assumption) | omega | (simp; omega) | (exact Nat.le_refl _))) | (with_reducible refine Ext.setAt ?_ _ _) | ((with_reducible refine Ext.own ?_ ?_ _); rotate_left; (first | (with_reducible assumption) | omega | (simp; omega) | (exact Nat.le_refl _))) | (with_reducible refine keepN hyA ?_) | (with_reducible refine Ext.transNo ?_ hyA) | (with_reducible refine BoxR.ext ?_ hyA))))
   clear hK K hHeld
   intro hHeld
   clear HX9
   try simp only [Act.put, nzA, nzB, nzC]
   refine wpAnyH_done (by kernel_rfl) ?_ _
   go_wp2_with fail
   have HTF := Lib.hid (HT9.out.extM ((Ext.refl (At X) w9).setAt 2 (Value.slice a9 (L ++ [(setN t.w (closN (rowsN t t.w t.copies.length) t.w (2 ^ k)), Value.slice a8 (nw t.w) c8)]).length c9)) (fun e => by unfold At at e; omega))
   simp only [List.length_append, List.length_cons, List.length_nil] at HTF
   go_roundw
   case rel => exact ⟨k + 1, a9, c9, L ++ [(setN t.w (closN (rowsN t t.w t.copies.length) t.w (2 ^ k)), .slice a8 (nw t.w) c8)], by omega, HKK.out, Lib.hid (by rw [List.map_append, HL.out, HSN.out, List.map_append]; rfl), HTF, by have := HM9; simp only [List.length_append, List.length_cons, List.length_nil] at this ⊢; exact this⟩
   case measure => simp [intOf]; omega
  go_simp
  refine hK.out _ _ ?_ ?_
  ·(go_split_ands; refine ⟨?_, ?_, ?_, ?_, ?_⟩ <;> (repeat (first | (with_reducible assumption) | (with_reducible exact Ext.refl _ _) | (with_reducible refine keepD ?_) | (with_reducible refine keepA ?_) | (with_reducible refine Ext.drew ?_) | (with_reducible refine Ext.alloc ?_ _) | (with_reducible refine BoxR.drew ?_) | (with_reducible refine BoxR.alloc ?_ _) | (with_reducible refine BoxR.set ?_ _ _) | ((with_reducible refine keepS ?_ ?_); (first | (with_reducible assumption) | omega | (simp; omega) | (exact Nat.le_refl _))) | (with_reducible refine Ext.setAt ?_ _ _) | ((with_reducible refine Ext.own ?_ ?_ _); rotate_left; (first | (with_reducible assumption) | omega | (simp; omega) | (exact Nat.le_refl _))) | (with_reducible refine keepN hyA ?_) | (with_reducible refine Ext.transNo ?_ hyA) | (with_reducible refine BoxR.ext ?_ hyA))))
  clear hK K hHeld
  intro hHeld
  have _hb := hs9
  try simp only [Act.put, nzA, nzB, nzC]
  refine hHc 1 fun K hK => ?_
  ((have cX := cellOf hm.out.boxX); (have cX2 := cellOf (alloc_under (o := .cells #[.int .i64 (t.w : Int), .slice a8 (nw t.w) c8] 24) hm.out.boxX)); go_simp; (clear cX cX2))
  refine hK.out _ _ ?_ ?_
  ·(go_split_ands; refine ⟨?_, ?_, ?_, ?_, ?_⟩ <;> (repeat (first | (with_reducible assumption) | (with_reducible exact Ext.refl _ _) | (with_reducible refine keepD ?_) | (with_reducible refine keepA ?_) | (with_reducible refine Ext.drew ?_) | (with_reducible refine Ext.alloc ?_ _) | (with_reducible refine BoxR.drew ?_) | (with_reducible refine BoxR.alloc ?_ _) | (with_reducible refine BoxR.set ?_ _ _) | ((with_reducible refine keepS ?_ ?_); (first | (with_reducible assumption) | omega | (simp; omega) | (exact Nat.le_refl _))) | (with_reducible refine Ext.setAt ?_ _ _) | ((with_reducible refine Ext.own ?_ ?_ _); rotate_left; (first | (with_reducible assumption) | omega | (simp; omega) | (exact Nat.le_refl _))) | (with_reducible refine keepN hyA ?_) | (with_reducible refine Ext.transNo ?_ hyA) | (with_reducible refine BoxR.ext ?_ hyA))))
  clear hK K hHeld
  intro hHeld
  skip
  try simp only [Act.put, nzA, nzB, nzC]
  refine hHc 6 fun K hK => ?_
  ((refine wp_app _ (.tmp 36) (.tmp 40) 31 rfl (X + 1) 24 i0 _ 2 32 Tryd.underlying31 hi0 hz0 hz1 hz2 rfl (by omega) (.slice av L.length cv) L.length (flatP L) rfl (row_keep hm.out.s.own ((Ext.refl No _).alloc _) (fun _ _ x => x)) No (some ⟨w8.heap.size, 0, none⟩) 1 1 [.int .i64 (t.w : Int), .slice a8 (nw t.w) c8] rfl (Row.block (alloc_top rfl) rfl no_no (by omega)) (by simp [Value.oneCell']) (by omega) (by omega) (by simp; exact Nat.le_of_lt (lt_of_block hm.out.boxX)) ?_); (intro v1 w9 hown1 hg1 hv1); (have hyE0 : Ext (fun k => (Value.slice av L.length cv).ownBlock = some k) w8 w9 := ((Ext.refl _ w8).alloc _).grown hg1 (fun k hk _ => hk)); (have hyE : Ext (fun k => (Value.slice av L.length cv).ownBlock = some k) (w8.alloc (.cells #[.int .i64 (t.w : Int), .slice a8 (nw t.w) c8] 24)) w9 := (Ext.refl _ _).grown hg1 (fun k hk _ => hk)); (obtain ⟨hm9, hX9⟩ := hm.out.app (p := (setN t.w (closN (rowsN t t.w t.copies.length) t.w (2 ^ k)), .slice a8 (nw t.w) c8)) (keeps_st _ _ _ _ _ _ _ _ _ _ _) hs9.out.words hown1 hg1 hv1); (have HM9 := Lib.hid hm9); (have HX9 := Lib.hid hX9); (have HT9 := Lib.hid (hT.out.extM hyE0 (fun e => by have h1 := (hm.out.s.lt _ e).1; omega))); (obtain ⟨a9, c9, hs9'⟩ := hm9.s.slice); (subst hs9'); (clear hm9 hX9 hown1 hg1 hv1))
  refine hK.out _ _ ?_ ?_
  ·(go_split_ands; refine ⟨?_, ?_, ?_, ?_, ?_⟩ <;> ((with_reducible refine Ext.keepM hyE ?_ ?_); rotate_left; (first | exact hv4 | exact hvS); (repeat (first | (with_reducible assumption) | (with_reducible exact Ext.refl _ _) | (with_reducible refine keepD ?_) | (with_reducible refine keepA ?_) | (with_reducible refine Ext.drew ?_) | (with_reducible refine Ext.alloc ?_ _) | (with_reducible refine BoxR.drew ?_) | (with_reducible refine BoxR.alloc ?_ _) | (with_reducible refine BoxR.set ?_ _ _) | ((with_reducible refine keepS ?_ ?_); (first | (with_reducible assumption) | omega | (simp; omega) | (exact Nat.le_refl _))) | (with_reducible refine Ext.setAt ?_ _ _) | ((with_reducible refine Ext.own ?_ ?_ _); rotate_left; (first | (with_reducible assumption) | omega | (simp; omega) | (exact Nat.le_refl _))) | (with_reducible refine keepN hyA ?_) | (with_reducible refine Ext.transNo ?_ hyA) | (with_reducible refine BoxR.ext ?_ hyA)))))
  clear hK K hHeld
  intro hHeld
  clear hyE hyE0 hm hT
  try simp only [Act.put, nzA, nzB, nzC]
  refine hTk 7 ?_ hHeld (fun w hSw => ?_) ?_
  rotate_left
  ·(try dsimp only at hSw); go_simp; (try with_reducible rfl)
  simp only [Act.put, nzA, nzB, nzC]
  refine hHc 8 fun K hK => ?_
  ((have cX := cellOf HX9.out); (have fX := freeOf HX9.out); go_simp; (clear cX fX))
  refine hK.out _ _ ?_ ?_
  ·(go_split_ands; refine ⟨?_, ?_, ?_, ?_, ?_⟩ <;> (repeat (first | (with_reducible assumption) | (with_reducible exact Ext.refl _ _) | (with_reducible refine keepD ?_) | (with_reducible refine keepA ?_) | (with_reducible refine Ext.drew ?_) | (with_reducible refine Ext.alloc ?_ _) | (with_reducible refine BoxR.drew ?_) | (with_reducible refine BoxR.alloc ?_ _) | (with_reducible refine BoxR.set ?_ _ _) | ((with_reducible refine keepS ?_ ?_); (first | (with_reducible assumption) | omega | (simp; omega) | (exact Nat.le_refl _))) | (with_reducible refine Ext.setAt ?_ _ _) | ((with_reducible refine Ext.own ?_ ?_ _); rotate_left; (first | (with_reducible assumption) | omega | (simp; omega) | (exact Nat.le_refl _))) | (with_reducible refine keepN hyA ?_) | (with_reducible refine Ext.transNo ?_ hyA) | (with_reducible refine BoxR.ext ?_ hyA))))
  clear hK K hHeld
  intro hHeld
  clear HX9
  try simp only [Act.put, nzA, nzB, nzC]
  refine wpAnyH_done (by kernel_rfl) ?_ _
  go_wp2_with fail
  have HTF := Lib.hid (HT9.out.extM ((Ext.refl (At X) w9).setAt 2 (Value.slice a9 (L ++ [(setN t.w (closN (rowsN t t.w t.copies.length) t.w (2 ^ k)), Value.slice a8 (nw t.w) c8)]).length c9)) (fun e => by unfold At at e; omega))
  simp only [List.length_append, List.length_cons, List.length_nil] at HTF
  go_roundw
  case rel => exact ⟨k + 1, a9, c9, L ++ [(setN t.w (closN (rowsN t t.w t.copies.length) t.w (2 ^ k)), .slice a8 (nw t.w) c8)], by omega, HKK.out, Lib.hid (by rw [List.map_append, HL.out, HSN.out, List.map_append]; rfl), HTF, by have := HM9; simp only [List.length_append, List.length_cons, List.length_nil] at this ⊢; exact this⟩
  case measure => simp [intOf]; omega
 obtain rfl : k = t.w := by omega
 have cX := cellOf hm.out.boxX
 have HLL := Lib.hid (show L.length = (starRows t.w (rowsN t t.w t.copies.length) t.w).length by have := congrArg List.length HL.out; simpa using this)
 have HRL : Hid (∀ m ∈ rowsN t t.w t.copies.length, m < 2 ^ t.w) := Lib.hid (hm.out.r2.2.2.2.2.hm)
 have HSV := Lib.hid (show SetsV No wr (.slice av L.length cv) t.w (starRows t.w (rowsN t t.w t.copies.length) t.w) from ⟨⟨L, hm.out.s.sets (M := No) (fun _ _ x => x) (fun _ x => x.elim), HL.out⟩, hw, fun m hmm => by
  obtain ⟨b, hb, rfl⟩ := List.mem_map.1 hmm
  exact (clos_any HRL.out (bitN_lt (List.mem_range.1 hb))).lt⟩)
 clear hLn
 go_wp2_with fail
 refine (close_any (fun b => M b ∨ b = W.heap.size + 1) t.w (closN (rowsN t t.w t.copies.length) t.w t.gen) (starRows t.w (rowsN t t.w t.copies.length) t.w) _ _ _ (fun b hb => ?_) hT.out (hm.out.gen.mono (fun i _ e => .inl e)) HSV.out (starRows_len _ _ _)).mono ?_
 ·rcases hb with hb | rfl
  ·exact Nat.lt_of_lt_of_le (HM.out b hb) hm.out.ext.size
  exact lt_of_block hm.out.r2.2.1.1
 rintro e6 w6 hpost
 have HXF := Lib.hid hm.out.ext
 have HC6 : Hid (∀ (w' : World), Ext No wr w' → w'.heap[W.heap.size + 1]? = some (.cells #[.int .i64 0, .slice none 0 0, .int .i64 0, .slice none 0 0, .slice none 0 0] 30 (0, 0))) := Lib.hid (fun w' hx => hx.blk hm.out.r2.2.1.1 no_no)
 clear hm hT cX HSV
 by_cases hc : (copTo t.w (closN (rowsN t t.w t.copies.length) t.w t.gen) (starRows t.w (rowsN t t.w t.copies.length) t.w) t.w).length ≤ 64
 ·have hp1 := hpost.1 hc
  generalize htr : closeT t.w (closN (rowsN t t.w t.copies.length) t.w t.gen) (starRows t.w (rowsN t t.w t.copies.length) t.w) = tr at hp1
  obtain ⟨fg, eg, fk, ek, fc, ec, rfl, hTr, hx6⟩ := hp1
  have hCb := HC6.out _ hx6
  have cC := cellOf hCb
  have fC := freeOf hCb
  have HCb := Lib.hid hCb
  have HTR := Lib.hid htr
  clear hpost hCb htr
  go_wp2_with fail
  have hfin := BoxR.fin5 ⟨_, rfl, HCb.out⟩ (.int .i64 (tr.w : Int)) (.slice fg (nw tr.w) eg) (.int .i64 (tr.w : Int)) (.slice fk (nw tr.w) ek) (.slice fc tr.copies.length ec)
  have hE := set5 w6 (W.heap.size + 1) (.int .i64 (tr.w : Int)) (.slice fg (nw tr.w) eg) (.int .i64 (tr.w : Int)) (.slice fk (nw tr.w) ek) (.slice fc tr.copies.length ec)
  clear cC fC
  generalize (((((w6.setCell ⟨W.heap.size + 1, 0, none⟩ (.int .i64 (tr.w : Int))).setCell ⟨W.heap.size + 1, 1, none⟩ (.slice fg (nw tr.w) eg)).setCell ⟨W.heap.size + 1, 2, none⟩ (.int .i64 (tr.w : Int))).setCell ⟨W.heap.size + 1, 3, none⟩ (.slice fk (nw tr.w) ek)).setCell ⟨W.heap.size + 1, 4, none⟩ (.slice fc tr.copies.length ec)) = WF at *
  have cF := cellOf hfin
  refine ret_ex rfl ?_
  simp [results, Tryd.results67, go_sem, cF]
  refine ⟨fun _ => ?_, fun h => absurd hc (by omega)⟩
  rw [HTR.out]
  exact ⟨fg, eg, fk, ek, fc, ec, rfl, Lib.hid ((hTr.out.ext hE (fun i _ e => .inr e)).mono (fun i _ e => .inl e)), (HXF.out.transNo hx6).trans2 hE (fun i hi e => by unfold At at e; omega)⟩
 obtain ⟨rfl, hx6⟩ := hpost.2 (by omega)
 have hCb := HC6.out _ hx6
 have cC := cellOf hCb
 have fC := freeOf hCb
 have HCb := Lib.hid hCb
 clear hpost hCb
 go_wp2_with fail
 have hfin := BoxR.fin5 ⟨_, rfl, HCb.out⟩ (.int .i64 0) (.slice none 0 0) (.int .i64 0) (.slice none 0 0) (.slice none 0 0)
 have hE := set5 w6 (W.heap.size + 1) (.int .i64 0) (.slice none 0 0) (.int .i64 0) (.slice none 0 0) (.slice none 0 0)
 clear cC fC
 generalize (((((w6.setCell ⟨W.heap.size + 1, 0, none⟩ (.int .i64 0)).setCell ⟨W.heap.size + 1, 1, none⟩ (.slice none 0 0)).setCell ⟨W.heap.size + 1, 2, none⟩ (.int .i64 0)).setCell ⟨W.heap.size + 1, 3, none⟩ (.slice none 0 0)).setCell ⟨W.heap.size + 1, 4, none⟩ (.slice none 0 0)) = WF at *
 have cF := cellOf hfin
 refine ret_ex rfl ?_
 simp [results, Tryd.results67, go_sem, cF]
 exact ⟨fun h => absurd h hc, fun _ => ⟨rfl, (HXF.out.transNo hx6).trans2 hE (fun i hi e => by unfold At at e; omega)⟩⟩

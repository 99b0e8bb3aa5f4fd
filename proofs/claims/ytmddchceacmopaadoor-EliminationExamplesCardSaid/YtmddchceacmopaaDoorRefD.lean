
import Derived.Test.YtmddchceacmopaaDoorRefC
set_option linter.unusedVariables false
set_option linter.unusedSimpArgs false
namespace Go.Proofs.YtmddchceacmopaaDoor
open Go Go.RowKit
structure RtM (M : Nat → Prop) (W wr : World) (t : TrD) (X : Nat) (sg sk sc s1 v : Value) (L : List (RawSet × Value)) : Prop where
 ext : Ext No W wr
 boxA : wr.heap[W.heap.size]? = some (.cells #[.int .i64 (t.w : Int), sg, .int .i64 (t.w : Int), sk, sc] 30 (0, 0))
 boxC : wr.heap[W.heap.size + 1]? = some (.cells #[.int .i64 0, .slice none 0 0, .slice none 0 0] 62 (0, 0))
 boxX : wr.heap[X]? = some (.cells #[.int .i64 (t.w : Int), s1, v] 62 (0, 0))
 gen : SetAt (fun b => M b ∨ b = W.heap.size + 1 ∨ b = X ∨ X < b) wr s1 t.w t.gen
 s : SetsOwn (fun b => M b ∨ b = W.heap.size + 1 ∨ b = X) wr (X + 1) v L
 big : W.heap.size + 1 < X
section
variable {M M' : Nat → Prop} {W wr w' : World} {t : TrD} {X : Nat} {sg sk sc s1 v v' : Value} {L : List (RawSet × Value)} {p : RawSet × Value}
theorem RtM.stepNo (h : RtM M W wr t X sg sk sc s1 v L) (hx : Ext No wr w') : RtM M W w' t X sg sk sc s1 v L :=
 ⟨h.ext.transNo hx, hx.blk h.boxA no_no, hx.blk h.boxC no_no, hx.blk h.boxX no_no, h.gen.extNo hx, h.s.extNo hx, h.big⟩
theorem RtM.hM (hM : ∀ b, M b → b < wr.heap.size) (h : RtM M W wr t X sg sk sc s1 v L) : ∀ b, ((M b ∨ b = W.heap.size + 1 ∨ b = X) ∨ v.ownBlock = some b) → b < wr.heap.size := fun b hb => by
 have h1 := lt_of_block h.boxX
 have h2 := h.big
 rcases hb with (hb | rfl | rfl) | hb
 ·exact hM b hb
 ·omega
 ·exact h1
 exact (h.s.lt b hb).2
theorem RtM.app {o : Obj} (h : RtM M W wr t X sg sk sc s1 v L) (hp : WordsAt (fun b => (M b ∨ b = W.heap.size + 1 ∨ b = X) ∨ v.ownBlock = some b) wr p.2 p.1.words) (hown : w'.ownsRow (X + 1) 24 2 v' (L.length + 1) (flatP L ++ cellsP p))
  (hg : (wr.alloc o).grownBy w' v.ownBlock) (hv : v'.ownBlock = v.ownBlock ∨ v'.ownBlock = some (wr.alloc o).heap.size) :
  RtM M W (w'.setCell ⟨X, 2, none⟩ v') t X sg sk sc s1 v' (L ++ [p]) ∧ w'.heap[X]? = some (.cells #[.int .i64 (t.w : Int), s1, v] 62 (0, 0)) := by
 obtain ⟨h1, hE⟩ := h.s.app hp hown hg hv
 have hb := h.big
 have hne : ∀ k, k ≤ X → ¬ v.ownBlock = some k := fun k hk e => by have := (h.s.lt k e).1; omega
 have hE2 : Ext (At X) w' (w'.setCell ⟨X, 2, none⟩ v') := (Ext.refl (At X) _).setAt _ _
 have hX := hE.blk h.boxX (hne X (Nat.le_refl _))
 refine ⟨⟨?_, ?_, ?_, ?_, ?_, ?_, hb⟩, hX⟩
 ·refine (h.ext.trans2 hE (fun i hi e => ?_)).trans2 hE2 (fun i hi e => by unfold At at e; omega)
  have := (h.s.lt i e).1
  omega
 ·exact hE2.blk (hE.blk h.boxA (hne _ (by omega))) (by unfold At; omega)
 ·exact hE2.blk (hE.blk h.boxC (hne _ (by omega))) (by unfold At; omega)
 ·exact (set_same (j := 2) hX).trans rfl
 ·refine (h.gen.ext hE (fun i _ e => ?_)).ext hE2 (fun i _ e => .inr (.inr (.inl e)))
  have := (h.s.lt i e).1
  exact .inr (.inr (.inr (by omega)))
 exact h1.ext hE2 (fun i hi e => by unfold At at e; omega) (fun i e => .inr (.inr e))
theorem RtM.mono (h : RtM M W wr t X sg sk sc s1 v L) (hm : ∀ i, i < wr.heap.size → M' i → M i) : RtM M' W wr t X sg sk sc s1 v L :=
 ⟨h.ext, h.boxA, h.boxC, h.boxX, h.gen.mono (fun i hi e => by
  rcases e with e | e
  ·exact .inl (hm i hi e)
  ·exact .inr e), h.s.mono (fun i hi e => by
  rcases e with e | e
  ·exact .inl (hm i hi e)
  exact .inr e), h.big⟩
end
def tabTo (t : TrD) (k : Nat) : List Nat := (List.range k).map fun b => applyT t (2 ^ b)
theorem tabTo_len (t : TrD) (k : Nat) : (tabTo t k).length = k := by simp [tabTo]
theorem tabTo_snoc (t : TrD) (k : Nat) : tabTo t (k + 1) = tabTo t k ++ [applyT t (2 ^ k)] := by simp [tabTo, List.range_succ]
theorem tabTo_at {t : TrD} {k a : Nat} (h : a < k) : rowAt (tabTo t k) a = applyT t (2 ^ a) := by
 rw [rowAt_get (by rw [tabTo_len]; exact h)]; simp [tabTo]
def tabT (t : TrD) : List Nat := tabTo t t.w
theorem tabT_lt {t : TrD} (ho : TrOk t) : ∀ m ∈ tabT t, m < 2 ^ t.w := fun m hm => by
 obtain ⟨b, hb, rfl⟩ := List.mem_map.1 hm
 exact applyT_lt ho (bitN_lt (List.mem_range.1 hb))
def TabPost (M : Nat → Prop) (w gen : Nat) (rs : List Nat) (W : World) (e : Ending) (w' : World) : Prop :=
 ∃ ag cg ao co, e = .returned (.agg #[.int .i64 (w : Int), .slice ag (nw w) cg, .slice ao rs.length co]) ∧ Hid (RowsO w gen rs (.slice ag (nw w) cg) (.slice ao rs.length co) M w') ∧ (∀ b, (Value.slice ao rs.length co).ownBlock = some b → W.heap.size ≤ b) ∧ Ext No W w'
set_option maxRecDepth 100000 in
set_option maxHeartbeats 8000000 in
theorem rtable_own (M : Nat → Prop) (t : TrD) (sg sk sc : Value) (W : World) (hM : ∀ b, M b → b < W.heap.size) (h : TrAt M W sg sk sc t) :
  Calls Tryd.prog 23 #[.agg #[.int .i64 (t.w : Int), sg, .int .i64 (t.w : Int), sk, sc]] W (TabPost M t.w t.gen (tabT t) W) := by
 have H := Lib.hid h
 have HM := Lib.hid hM
 have HO := Lib.hid h.ok
 obtain ⟨ag, cg, rfl⟩ := h.gen.slice
 obtain ⟨ak, ck, rfl⟩ := h.kill.slice
 obtain ⟨ac, cc, rfl⟩ := Row.slice h.copies
 have hw := h.ok.w
 obtain ⟨i0, hi0, hz0, hz1, hz2⟩ := info_parts infoS
 clear h hM
 go_enter Tryd.func23, Tryd.ntmps23
 go_wp2_with fail
 have hm0 : Hid (∃ (av : Option Addr) (cv : Nat) (L : List (RawSet × Value)), av = none ∧ cv = 0 ∧ L = [] ∧ RtM M W (((W.alloc (.cells #[.int .i64 (t.w : Int), .slice ag (nw t.w) cg, .int .i64 (t.w : Int), .slice ak (nw t.w) ck, .slice ac t.copies.length cc] 30)).alloc (.cells #[.int .i64 0, .slice none 0 0, .slice none 0 0] 62)).alloc (.cells #[.int .i64 (t.w : Int), .slice ag (nw t.w) cg, .slice none 0 0] 62)) t (W.heap.size + 2) (.slice ag (nw t.w) cg) (.slice ak (nw t.w) ck) (.slice ac t.copies.length cc) (.slice ag (nw t.w) cg) (.slice av L.length cv) L) := Lib.hid ⟨none, 0, [], rfl, rfl, rfl,
  ⟨(((Ext.refl _ _).alloc _).alloc _).alloc _, alloc_under (alloc_under (alloc_top rfl)), alloc_under (alloc_top (by simp)), alloc_top (by simp), (H.out.gen.mono (fun i hi e => by
   rcases e with e | e | e | e
   ·exact e
   ·omega
   ·omega
   omega)).extNo ((((Ext.refl _ _).alloc _).alloc _).alloc _), SetsOwn.nil _ _ _, by omega⟩⟩
 generalize (((W.alloc (.cells #[.int .i64 (t.w : Int), .slice ag (nw t.w) cg, .int .i64 (t.w : Int), .slice ak (nw t.w) ck, .slice ac t.copies.length cc] 30)).alloc (.cells #[.int .i64 0, .slice none 0 0, .slice none 0 0] 62)).alloc (.cells #[.int .i64 (t.w : Int), .slice ag (nw t.w) cg, .slice none 0 0] 62)) = V at *
 go_loopw [4] (fun i wr => ∃ (k : Nat) (av : Option Addr) (cv : Nat) (L : List (RawSet × Value)), k ≤ t.w ∧ i = .int .i64 k ∧ L.map Prod.fst = (tabTo t k).map (setN t.w) ∧ Hid (RtM M W wr t (W.heap.size + 2) (.slice ag (nw t.w) cg) (.slice ak (nw t.w) ck) (.slice ac t.copies.length cc) (.slice ag (nw t.w) cg) (.slice av L.length cv) L)) (fun i _ => t.w - (intOf i).toNat)
 case atStart =>
  obtain ⟨av, cv, L, rfl, rfl, rfl, hm1⟩ := hm0.out
  exact ⟨0, none, 0, [], Nat.zero_le _, rfl, rfl, Lib.hid hm1⟩
 clear hm0
 obtain ⟨k, av, cv, L, hk, rfl, hL, hm⟩ := hrel
 have HL := Lib.hid hL
 clear hL
 rename World => wr
 have hpos : (0 : Int) ≤ (k : Int) := by omega
 have hwl : (t.w : Int) ≤ 256 := by omega
 have hLn : L.length ≤ 256 := by have := congrArg List.length HL.out; simp [tabTo] at this; omega
 by_cases hlt : k < t.w
 ·have hlz : (k : Int) < (t.w : Int) := by omega
  have HKK : Hid (Value.int .i64 ((k : Int) + 1) = .int .i64 ((k + 1 : Nat) : Int)) := Lib.hid (by rw [show ((k + 1 : Nat) : Int) = (k : Int) + 1 from by omega])
  have HSN : Hid (tabTo t (k + 1) = tabTo t k ++ [applyT t (2 ^ k)]) := Lib.hid (tabTo_snoc _ _)
  have cA := cellOf hm.out.boxA
  go_wp2_with fail
  have l0 : wr.cell? ⟨W.heap.size, 0, none⟩ = some (.int .i64 (t.w : Int)) := cA 0
  have l1 : wr.cell? ⟨W.heap.size, 1, none⟩ = some (.slice ag (nw t.w) cg) := cA 1
  have l2 : wr.cell? ⟨W.heap.size, 2, none⟩ = some (.int .i64 (t.w : Int)) := cA 2
  have l3 : wr.cell? ⟨W.heap.size, 3, none⟩ = some (.slice ak (nw t.w) ck) := cA 3
  have l4 : wr.cell? ⟨W.heap.size, 4, none⟩ = some (.slice ac t.copies.length cc) := cA 4
  have hvA : ¬ (Value.slice av L.length cv).ownBlock = some W.heap.size := fun e => by have := (hm.out.s.lt _ e).1; omega
  have hTr : Hid (TrAt (fun b => (M b ∨ b = W.heap.size + 1 ∨ b = (W.heap.size + 2)) ∨ (Value.slice av L.length cv).ownBlock = some b) W (.slice ag (nw t.w) cg) (.slice ak (nw t.w) ck) (.slice ac t.copies.length cc) t) := Lib.hid (H.out.mono (fun i hi e => by
   rcases e with (e | e | e) | e
   ·exact e
   ·omega
   ·omega
   have := (hm.out.s.lt _ e).1; omega))
  clear cA
  refine wp_region_held_drew (S := (fun w' => w'.cell? ⟨W.heap.size, 0, none⟩ = some (.int .i64 (t.w : Int)) ∧ w'.cell? ⟨W.heap.size, 1, none⟩ = some (.slice ag (nw t.w) cg) ∧ w'.cell? ⟨W.heap.size, 2, none⟩ = some (.int .i64 (t.w : Int)) ∧ w'.cell? ⟨W.heap.size, 3, none⟩ = some (.slice ak (nw t.w) ck) ∧ w'.cell? ⟨W.heap.size, 4, none⟩ = some (.slice ac t.copies.length cc))) (by kernel_rfl) ?_ (fun hHeld => ?_)
  ·(go_split_ands; refine ⟨?_, ?_, ?_, ?_, ?_⟩ <;> (repeat (first | (with_reducible assumption) | (with_reducible exact Ext.refl _ _) | (with_reducible refine keepD ?_) | (with_reducible refine keepA ?_) | (with_reducible refine Ext.drew ?_) | (with_reducible refine Ext.alloc ?_ _) | (with_reducible refine BoxR.drew ?_) | (with_reducible refine BoxR.alloc ?_ _) | (with_reducible refine BoxR.set ?_ _ _) | ((with_reducible refine keepS ?_ ?_); (first | (with_reducible assumption) | omega | (simp; omega) | (exact Nat.le_refl _))) | (with_reducible refine Ext.setAt ?_ _ _) | ((with_reducible refine Ext.own ?_ ?_ _); rotate_left; (first | (with_reducible assumption) | omega | (simp; omega) | (exact Nat.le_refl _))) | (with_reducible refine keepN hyA ?_) | (with_reducible refine Ext.transNo ?_ hyA) | (with_reducible refine BoxR.ext ?_ hyA))))
  replace hm := Lib.hid (hm.out.stepNo (Ext.refl No wr).drew)
  generalize wr.drew = v0 at *
  refine hHs [0, 2, 3, 4, 5, 7] ?_
  iterate 6
   refine hTn ?_ hHeld (fun w hSw => ?_) ?_
   rotate_left
   ·(try dsimp only at hSw); go_simp; (try with_reducible rfl)
   simp only [Act.put, nzA, nzB, nzC]
  refine hHe ?_
  refine held_next2 (i := 1) (j := 6) (by kernel_rfl) (NextOp.mk rfl rfl (fun K hK => ?_)) (NextOp.mk rfl rfl (fun K hK => ?_))
  ·((have cX := cellOf hm.out.boxX); go_simp; (clear cX))
   refine hK.out _ _ ?_ ?_
   ·(go_split_ands; refine ⟨?_, ?_, ?_, ?_, ?_⟩ <;> (repeat (first | (with_reducible assumption) | (with_reducible exact Ext.refl _ _) | (with_reducible refine keepD ?_) | (with_reducible refine keepA ?_) | (with_reducible refine Ext.drew ?_) | (with_reducible refine Ext.alloc ?_ _) | (with_reducible refine BoxR.drew ?_) | (with_reducible refine BoxR.alloc ?_ _) | (with_reducible refine BoxR.set ?_ _ _) | ((with_reducible refine keepS ?_ ?_); (first | (with_reducible assumption) | omega | (simp; omega) | (exact Nat.le_refl _))) | (with_reducible refine Ext.setAt ?_ _ _) | ((with_reducible refine Ext.own ?_ ?_ _); rotate_left; (first | (with_reducible assumption) | omega | (simp; omega) | (exact Nat.le_refl _))) | (with_reducible refine keepN hyA ?_) | (with_reducible refine Ext.transNo ?_ hyA) | (with_reducible refine BoxR.ext ?_ hyA))))
   clear hK K hHeld
   intro hHeld
   skip
   try simp only [Act.put, nzA, nzB, nzC]
   refine hHc 6 fun K hK => ?_
   (go_simp; go_at_call 5; (with_reducible refine (rempty_any t.w _ hw).mono ?_); (rintro e6 w6 ⟨g6, rfl, hb6, _, hyA⟩); go_simp)
   refine hK.out _ _ ?_ ?_
   ·(go_split_ands; refine ⟨?_, ?_, ?_, ?_, ?_⟩ <;> (repeat (first | (with_reducible assumption) | (with_reducible exact Ext.refl _ _) | (with_reducible refine keepD ?_) | (with_reducible refine keepA ?_) | (with_reducible refine Ext.drew ?_) | (with_reducible refine Ext.alloc ?_ _) | (with_reducible refine BoxR.drew ?_) | (with_reducible refine BoxR.alloc ?_ _) | (with_reducible refine BoxR.set ?_ _ _) | ((with_reducible refine keepS ?_ ?_); (first | (with_reducible assumption) | omega | (simp; omega) | (exact Nat.le_refl _))) | (with_reducible refine Ext.setAt ?_ _ _) | ((with_reducible refine Ext.own ?_ ?_ _); rotate_left; (first | (with_reducible assumption) | omega | (simp; omega) | (exact Nat.le_refl _))) | (with_reducible refine keepN hyA ?_) | (with_reducible refine Ext.transNo ?_ hyA) | (with_reducible refine BoxR.ext ?_ hyA))))
   clear hK K hHeld
   intro hHeld
   replace hm := Lib.hid (hm.out.stepNo hyA)
   clear hyA
   try simp only [Act.put, nzA, nzB, nzC]
   refine hHc 8 fun K hK => ?_
   (go_simp; go_at_call 16; (with_reducible refine (rput_any t.w 0 k _ _ hlt (BlkW.setNo hb6.out hw (Nat.two_pow_pos _))).mono ?_); (rintro e7 w7 ⟨g7, rfl, hb7, _, hyA⟩); go_simp)
   refine hK.out _ _ ?_ ?_
   ·(go_split_ands; refine ⟨?_, ?_, ?_, ?_, ?_⟩ <;> (repeat (first | (with_reducible assumption) | (with_reducible exact Ext.refl _ _) | (with_reducible refine keepD ?_) | (with_reducible refine keepA ?_) | (with_reducible refine Ext.drew ?_) | (with_reducible refine Ext.alloc ?_ _) | (with_reducible refine BoxR.drew ?_) | (with_reducible refine BoxR.alloc ?_ _) | (with_reducible refine BoxR.set ?_ _ _) | ((with_reducible refine keepS ?_ ?_); (first | (with_reducible assumption) | omega | (simp; omega) | (exact Nat.le_refl _))) | (with_reducible refine Ext.setAt ?_ _ _) | ((with_reducible refine Ext.own ?_ ?_ _); rotate_left; (first | (with_reducible assumption) | omega | (simp; omega) | (exact Nat.le_refl _))) | (with_reducible refine keepN hyA ?_) | (with_reducible refine Ext.transNo ?_ hyA) | (with_reducible refine BoxR.ext ?_ hyA))))
   clear hK K hHeld
   intro hHeld
   replace hm := Lib.hid (hm.out.stepNo hyA)
   clear hyA
   try simp only [Act.put, nzA, nzB, nzC]
   refine hHc 9 fun K hK => ?_
   (go_simp; go_at_call 49; (with_reducible refine (rvalue_any (fun b => (M b ∨ b = W.heap.size + 1 ∨ b = (W.heap.size + 2)) ∨ (Value.slice av L.length cv).ownBlock = some b) t t.w (0 ||| 2 ^ k) _ _ _ _ _ rfl ?_ (hTr.out.extNo hm.out.ext) (BlkW.setNo hb7.out hw (orN_lt (Nat.two_pow_pos _) (bitN_lt hlt)))).mono ?_); (exact hm.out.hM (fun b hb => Nat.lt_of_lt_of_le (HM.out b hb) hm.out.ext.size)); (rintro e8 w8 ⟨a8, c8, rfl, hs8, hyA⟩); go_simp)
   refine hK.out _ _ ?_ ?_
   ·(go_split_ands; refine ⟨?_, ?_, ?_, ?_, ?_⟩ <;> (repeat (first | (with_reducible assumption) | (with_reducible exact Ext.refl _ _) | (with_reducible refine keepD ?_) | (with_reducible refine keepA ?_) | (with_reducible refine Ext.drew ?_) | (with_reducible refine Ext.alloc ?_ _) | (with_reducible refine BoxR.drew ?_) | (with_reducible refine BoxR.alloc ?_ _) | (with_reducible refine BoxR.set ?_ _ _) | ((with_reducible refine keepS ?_ ?_); (first | (with_reducible assumption) | omega | (simp; omega) | (exact Nat.le_refl _))) | (with_reducible refine Ext.setAt ?_ _ _) | ((with_reducible refine Ext.own ?_ ?_ _); rotate_left; (first | (with_reducible assumption) | omega | (simp; omega) | (exact Nat.le_refl _))) | (with_reducible refine keepN hyA ?_) | (with_reducible refine Ext.transNo ?_ hyA) | (with_reducible refine BoxR.ext ?_ hyA))))
   clear hK K hHeld
   intro hHeld
   replace hm := Lib.hid (hm.out.stepNo hyA)
   rw [Nat.zero_or] at hs8
   have hs9 := Lib.hid hs8.out
   clear hyA hb6 hb7 hs8
   try simp only [Act.put, nzA, nzB, nzC]
   refine hHc 10 fun K hK => ?_
   go_simp
   refine hK.out _ _ ?_ ?_
   ·(go_split_ands; refine ⟨?_, ?_, ?_, ?_, ?_⟩ <;> (repeat (first | (with_reducible assumption) | (with_reducible exact Ext.refl _ _) | (with_reducible refine keepD ?_) | (with_reducible refine keepA ?_) | (with_reducible refine Ext.drew ?_) | (with_reducible refine Ext.alloc ?_ _) | (with_reducible refine BoxR.drew ?_) | (with_reducible refine BoxR.alloc ?_ _) | (with_reducible refine BoxR.set ?_ _ _) | ((with_reducible refine keepS ?_ ?_); (first | (with_reducible assumption) | omega | (simp; omega) | (exact Nat.le_refl _))) | (with_reducible refine Ext.setAt ?_ _ _) | ((with_reducible refine Ext.own ?_ ?_ _); rotate_left; (first | (with_reducible assumption) | omega | (simp; omega) | (exact Nat.le_refl _))) | (with_reducible refine keepN hyA ?_) | (with_reducible refine Ext.transNo ?_ hyA) | (with_reducible refine BoxR.ext ?_ hyA))))
   clear hK K hHeld
   intro hHeld
   skip
   try simp only [Act.put, nzA, nzB, nzC]
   refine hHc 11 fun K hK => ?_
   ((refine wp_app _ (.tmp 16) (.tmp 25) 31 rfl ((W.heap.size + 2) + 1) 24 i0 _ 2 32 Tryd.underlying31 hi0 hz0 hz1 hz2 rfl (by omega) (.slice av L.length cv) L.length (flatP L) rfl (row_keep hm.out.s.own ((Ext.refl No _).alloc _) (fun _ _ x => x)) No (some ⟨w8.heap.size, 0, none⟩) 1 1 [.int .i64 (t.w : Int), .slice a8 (nw t.w) c8] rfl (Row.block (alloc_top rfl) rfl no_no (by omega)) (by simp [Value.oneCell']) (by omega) (by omega) (by simp; exact Nat.le_of_lt (lt_of_block hm.out.boxX)) ?_); (intro v1 w9 hown1 hg1 hv1); (have hyE : Ext (fun k => (Value.slice av L.length cv).ownBlock = some k) (w8.alloc (.cells #[.int .i64 (t.w : Int), .slice a8 (nw t.w) c8] 24)) w9 := (Ext.refl _ _).grown hg1 (fun k hk _ => hk)); (obtain ⟨hm9, hX9⟩ := hm.out.app (p := (setN t.w (applyT t (2 ^ k)), .slice a8 (nw t.w) c8)) hs9.out.words hown1 hg1 hv1); (have HM9 := Lib.hid hm9); (have HX9 := Lib.hid hX9); (obtain ⟨a9, c9, hs9'⟩ := hm9.s.slice); (subst hs9'); (clear hm9 hX9 hown1 hg1 hv1))
   refine hK.out _ _ ?_ ?_
   ·(go_split_ands; refine ⟨?_, ?_, ?_, ?_, ?_⟩ <;> ((with_reducible refine Ext.keepM hyE ?_ ?_); rotate_left; (exact hvA); (repeat (first | (with_reducible assumption) | (with_reducible exact Ext.refl _ _) | (with_reducible refine keepD ?_) | (with_reducible refine keepA ?_) | (with_reducible refine Ext.drew ?_) | (with_reducible refine Ext.alloc ?_ _) | (with_reducible refine BoxR.drew ?_) | (with_reducible refine BoxR.alloc ?_ _) | (with_reducible refine BoxR.set ?_ _ _) | ((with_reducible refine keepS ?_ ?_); (first | (with_reducible assumption) | omega | (simp; omega) | (exact Nat.le_refl _))) | (with_reducible refine Ext.setAt ?_ _ _) | ((with_reducible refine Ext.own ?_ ?_ _); rotate_left; (first | (with_reducible assumption) | omega | (simp; omega) | (exact Nat.le_refl _))) | (with_reducible refine keepN hyA ?_) | (with_reducible refine Ext.transNo ?_ hyA) | (with_reducible refine BoxR.ext ?_ hyA)))))
   clear hK K hHeld
   intro hHeld
   clear hyE hm
   try simp only [Act.put, nzA, nzB, nzC]
   refine hTk 12 ?_ hHeld (fun w hSw => ?_) ?_
   rotate_left
   ·(try dsimp only at hSw); go_simp; (try with_reducible rfl)
   simp only [Act.put, nzA, nzB, nzC]
   refine hHc 13 fun K hK => ?_
   ((have cX := cellOf HX9.out); (have fX := freeOf HX9.out); go_simp; (clear cX fX))
   refine hK.out _ _ ?_ ?_
   ·(go_split_ands; refine ⟨?_, ?_, ?_, ?_, ?_⟩ <;> (repeat (first | (with_reducible assumption) | (with_reducible exact Ext.refl _ _) | (with_reducible refine keepD ?_) | (with_reducible refine keepA ?_) | (with_reducible refine Ext.drew ?_) | (with_reducible refine Ext.alloc ?_ _) | (with_reducible refine BoxR.drew ?_) | (with_reducible refine BoxR.alloc ?_ _) | (with_reducible refine BoxR.set ?_ _ _) | ((with_reducible refine keepS ?_ ?_); (first | (with_reducible assumption) | omega | (simp; omega) | (exact Nat.le_refl _))) | (with_reducible refine Ext.setAt ?_ _ _) | ((with_reducible refine Ext.own ?_ ?_ _); rotate_left; (first | (with_reducible assumption) | omega | (simp; omega) | (exact Nat.le_refl _))) | (with_reducible refine keepN hyA ?_) | (with_reducible refine Ext.transNo ?_ hyA) | (with_reducible refine BoxR.ext ?_ hyA))))
   clear hK K hHeld
   intro hHeld
   clear HX9
   try simp only [Act.put, nzA, nzB, nzC]
   refine wpAnyH_done (by kernel_rfl) ?_ _
   go_wp2_with fail
   go_roundw
   case rel => exact ⟨k + 1, a9, c9, L ++ [(setN t.w (applyT t (2 ^ k)), .slice a8 (nw t.w) c8)], by omega, HKK.out, by rw [List.map_append, HL.out, HSN.out, List.map_append]; rfl, by have := HM9; simp only [List.length_append, List.length_cons, List.length_nil] at this ⊢; exact this⟩
   case measure => simp [intOf]; omega
  (go_simp; go_at_call 5; (with_reducible refine (rempty_any t.w _ hw).mono ?_); (rintro e6 w6 ⟨g6, rfl, hb6, _, hyA⟩); go_simp)
  refine hK.out _ _ ?_ ?_
  ·(go_split_ands; refine ⟨?_, ?_, ?_, ?_, ?_⟩ <;> (repeat (first | (with_reducible assumption) | (with_reducible exact Ext.refl _ _) | (with_reducible refine keepD ?_) | (with_reducible refine keepA ?_) | (with_reducible refine Ext.drew ?_) | (with_reducible refine Ext.alloc ?_ _) | (with_reducible refine BoxR.drew ?_) | (with_reducible refine BoxR.alloc ?_ _) | (with_reducible refine BoxR.set ?_ _ _) | ((with_reducible refine keepS ?_ ?_); (first | (with_reducible assumption) | omega | (simp; omega) | (exact Nat.le_refl _))) | (with_reducible refine Ext.setAt ?_ _ _) | ((with_reducible refine Ext.own ?_ ?_ _); rotate_left; (first | (with_reducible assumption) | omega | (simp; omega) | (exact Nat.le_refl _))) | (with_reducible refine keepN hyA ?_) | (with_reducible refine Ext.transNo ?_ hyA) | (with_reducible refine BoxR.ext ?_ hyA))))
  clear hK K hHeld
  intro hHeld
  replace hm := Lib.hid (hm.out.stepNo hyA)
  clear hyA
  try simp only [Act.put, nzA, nzB, nzC]
  refine held_next2 (i := 1) (j := 8) (by kernel_rfl) (NextOp.mk rfl rfl (fun K hK => ?_)) (NextOp.mk rfl rfl (fun K hK => ?_))
  ·((have cX := cellOf hm.out.boxX); go_simp; (clear cX))
   refine hK.out _ _ ?_ ?_
   ·(go_split_ands; refine ⟨?_, ?_, ?_, ?_, ?_⟩ <;> (repeat (first | (with_reducible assumption) | (with_reducible exact Ext.refl _ _) | (with_reducible refine keepD ?_) | (with_reducible refine keepA ?_) | (with_reducible refine Ext.drew ?_) | (with_reducible refine Ext.alloc ?_ _) | (with_reducible refine BoxR.drew ?_) | (with_reducible refine BoxR.alloc ?_ _) | (with_reducible refine BoxR.set ?_ _ _) | ((with_reducible refine keepS ?_ ?_); (first | (with_reducible assumption) | omega | (simp; omega) | (exact Nat.le_refl _))) | (with_reducible refine Ext.setAt ?_ _ _) | ((with_reducible refine Ext.own ?_ ?_ _); rotate_left; (first | (with_reducible assumption) | omega | (simp; omega) | (exact Nat.le_refl _))) | (with_reducible refine keepN hyA ?_) | (with_reducible refine Ext.transNo ?_ hyA) | (with_reducible refine BoxR.ext ?_ hyA))))
   clear hK K hHeld
   intro hHeld
   skip
   try simp only [Act.put, nzA, nzB, nzC]
   refine hHc 8 fun K hK => ?_
   (go_simp; go_at_call 16; (with_reducible refine (rput_any t.w 0 k _ _ hlt (BlkW.setNo hb6.out hw (Nat.two_pow_pos _))).mono ?_); (rintro e7 w7 ⟨g7, rfl, hb7, _, hyA⟩); go_simp)
   refine hK.out _ _ ?_ ?_
   ·(go_split_ands; refine ⟨?_, ?_, ?_, ?_, ?_⟩ <;> (repeat (first | (with_reducible assumption) | (with_reducible exact Ext.refl _ _) | (with_reducible refine keepD ?_) | (with_reducible refine keepA ?_) | (with_reducible refine Ext.drew ?_) | (with_reducible refine Ext.alloc ?_ _) | (with_reducible refine BoxR.drew ?_) | (with_reducible refine BoxR.alloc ?_ _) | (with_reducible refine BoxR.set ?_ _ _) | ((with_reducible refine keepS ?_ ?_); (first | (with_reducible assumption) | omega | (simp; omega) | (exact Nat.le_refl _))) | (with_reducible refine Ext.setAt ?_ _ _) | ((with_reducible refine Ext.own ?_ ?_ _); rotate_left; (first | (with_reducible assumption) | omega | (simp; omega) | (exact Nat.le_refl _))) | (with_reducible refine keepN hyA ?_) | (with_reducible refine Ext.transNo ?_ hyA) | (with_reducible refine BoxR.ext ?_ hyA))))
   clear hK K hHeld
   intro hHeld
   replace hm := Lib.hid (hm.out.stepNo hyA)
   clear hyA
   try simp only [Act.put, nzA, nzB, nzC]
   refine hHc 9 fun K hK => ?_
   (go_simp; go_at_call 49; (with_reducible refine (rvalue_any (fun b => (M b ∨ b = W.heap.size + 1 ∨ b = (W.heap.size + 2)) ∨ (Value.slice av L.length cv).ownBlock = some b) t t.w (0 ||| 2 ^ k) _ _ _ _ _ rfl ?_ (hTr.out.extNo hm.out.ext) (BlkW.setNo hb7.out hw (orN_lt (Nat.two_pow_pos _) (bitN_lt hlt)))).mono ?_); (exact hm.out.hM (fun b hb => Nat.lt_of_lt_of_le (HM.out b hb) hm.out.ext.size)); (rintro e8 w8 ⟨a8, c8, rfl, hs8, hyA⟩); go_simp)
   refine hK.out _ _ ?_ ?_
   ·(go_split_ands; refine ⟨?_, ?_, ?_, ?_, ?_⟩ <;> (repeat (first | (with_reducible assumption) | (with_reducible exact Ext.refl _ _) | (with_reducible refine keepD ?_) | (with_reducible refine keepA ?_) | (with_reducible refine Ext.drew ?_) | (with_reducible refine Ext.alloc ?_ _) | (with_reducible refine BoxR.drew ?_) | (with_reducible refine BoxR.alloc ?_ _) | (with_reducible refine BoxR.set ?_ _ _) | ((with_reducible refine keepS ?_ ?_); (first | (with_reducible assumption) | omega | (simp; omega) | (exact Nat.le_refl _))) | (with_reducible refine Ext.setAt ?_ _ _) | ((with_reducible refine Ext.own ?_ ?_ _); rotate_left; (first | (with_reducible assumption) | omega | (simp; omega) | (exact Nat.le_refl _))) | (with_reducible refine keepN hyA ?_) | (with_reducible refine Ext.transNo ?_ hyA) | (with_reducible refine BoxR.ext ?_ hyA))))
   clear hK K hHeld
   intro hHeld
   replace hm := Lib.hid (hm.out.stepNo hyA)
   rw [Nat.zero_or] at hs8
   have hs9 := Lib.hid hs8.out
   clear hyA hb6 hb7 hs8
   try simp only [Act.put, nzA, nzB, nzC]
   refine hHc 10 fun K hK => ?_
   go_simp
   refine hK.out _ _ ?_ ?_
   ·(go_split_ands; refine ⟨?_, ?_, ?_, ?_, ?_⟩ <;> (repeat (first | (with_reducible assumption) | (with_reducible exact Ext.refl _ _) | (with_reducible refine keepD ?_) | (with_reducible refine keepA ?_) | (with_reducible refine Ext.drew ?_) | (with_reducible refine Ext.alloc ?_ _) | (with_reducible refine BoxR.drew ?_) | (with_reducible refine BoxR.alloc ?_ _) | (with_reducible refine BoxR.set ?_ _ _) | ((with_reducible refine keepS ?_ ?_); (first | (with_reducible assumption) | omega | (simp; omega) | (exact Nat.le_refl _))) | (with_reducible refine Ext.setAt ?_ _ _) | ((with_reducible refine Ext.own ?_ ?_ _); rotate_left; (first | (with_reducible assumption) | omega | (simp; omega) | (exact Nat.le_refl _))) | (with_reducible refine keepN hyA ?_) | (with_reducible refine Ext.transNo ?_ hyA) | (with_reducible refine BoxR.ext ?_ hyA))))
   clear hK K hHeld
   intro hHeld
   skip
   try simp only [Act.put, nzA, nzB, nzC]
   refine hHc 11 fun K hK => ?_
   ((refine wp_app _ (.tmp 16) (.tmp 25) 31 rfl ((W.heap.size + 2) + 1) 24 i0 _ 2 32 Tryd.underlying31 hi0 hz0 hz1 hz2 rfl (by omega) (.slice av L.length cv) L.length (flatP L) rfl (row_keep hm.out.s.own ((Ext.refl No _).alloc _) (fun _ _ x => x)) No (some ⟨w8.heap.size, 0, none⟩) 1 1 [.int .i64 (t.w : Int), .slice a8 (nw t.w) c8] rfl (Row.block (alloc_top rfl) rfl no_no (by omega)) (by simp [Value.oneCell']) (by omega) (by omega) (by simp; exact Nat.le_of_lt (lt_of_block hm.out.boxX)) ?_); (intro v1 w9 hown1 hg1 hv1); (have hyE : Ext (fun k => (Value.slice av L.length cv).ownBlock = some k) (w8.alloc (.cells #[.int .i64 (t.w : Int), .slice a8 (nw t.w) c8] 24)) w9 := (Ext.refl _ _).grown hg1 (fun k hk _ => hk)); (obtain ⟨hm9, hX9⟩ := hm.out.app (p := (setN t.w (applyT t (2 ^ k)), .slice a8 (nw t.w) c8)) hs9.out.words hown1 hg1 hv1); (have HM9 := Lib.hid hm9); (have HX9 := Lib.hid hX9); (obtain ⟨a9, c9, hs9'⟩ := hm9.s.slice); (subst hs9'); (clear hm9 hX9 hown1 hg1 hv1))
   refine hK.out _ _ ?_ ?_
   ·(go_split_ands; refine ⟨?_, ?_, ?_, ?_, ?_⟩ <;> ((with_reducible refine Ext.keepM hyE ?_ ?_); rotate_left; (exact hvA); (repeat (first | (with_reducible assumption) | (with_reducible exact Ext.refl _ _) | (with_reducible refine keepD ?_) | (with_reducible refine keepA ?_) | (with_reducible refine Ext.drew ?_) | (with_reducible refine Ext.alloc ?_ _) | (with_reducible refine BoxR.drew ?_) | (with_reducible refine BoxR.alloc ?_ _) | (with_reducible refine BoxR.set ?_ _ _) | ((with_reducible refine keepS ?_ ?_); (first | (with_reducible assumption) | omega | (simp; omega) | (exact Nat.le_refl _))) | (with_reducible refine Ext.setAt ?_ _ _) | ((with_reducible refine Ext.own ?_ ?_ _); rotate_left; (first | (with_reducible assumption) | omega | (simp; omega) | (exact Nat.le_refl _))) | (with_reducible refine keepN hyA ?_) | (with_reducible refine Ext.transNo ?_ hyA) | (with_reducible refine BoxR.ext ?_ hyA)))))
   clear hK K hHeld
   intro hHeld
   clear hyE hm
   try simp only [Act.put, nzA, nzB, nzC]
   refine hTk 12 ?_ hHeld (fun w hSw => ?_) ?_
   rotate_left
   ·(try dsimp only at hSw); go_simp; (try with_reducible rfl)
   simp only [Act.put, nzA, nzB, nzC]
   refine hHc 13 fun K hK => ?_
   ((have cX := cellOf HX9.out); (have fX := freeOf HX9.out); go_simp; (clear cX fX))
   refine hK.out _ _ ?_ ?_
   ·(go_split_ands; refine ⟨?_, ?_, ?_, ?_, ?_⟩ <;> (repeat (first | (with_reducible assumption) | (with_reducible exact Ext.refl _ _) | (with_reducible refine keepD ?_) | (with_reducible refine keepA ?_) | (with_reducible refine Ext.drew ?_) | (with_reducible refine Ext.alloc ?_ _) | (with_reducible refine BoxR.drew ?_) | (with_reducible refine BoxR.alloc ?_ _) | (with_reducible refine BoxR.set ?_ _ _) | ((with_reducible refine keepS ?_ ?_); (first | (with_reducible assumption) | omega | (simp; omega) | (exact Nat.le_refl _))) | (with_reducible refine Ext.setAt ?_ _ _) | ((with_reducible refine Ext.own ?_ ?_ _); rotate_left; (first | (with_reducible assumption) | omega | (simp; omega) | (exact Nat.le_refl _))) | (with_reducible refine keepN hyA ?_) | (with_reducible refine Ext.transNo ?_ hyA) | (with_reducible refine BoxR.ext ?_ hyA))))
   clear hK K hHeld
   intro hHeld
   clear HX9
   try simp only [Act.put, nzA, nzB, nzC]
   refine wpAnyH_done (by kernel_rfl) ?_ _
   go_wp2_with fail
   go_roundw
   case rel => exact ⟨k + 1, a9, c9, L ++ [(setN t.w (applyT t (2 ^ k)), .slice a8 (nw t.w) c8)], by omega, HKK.out, by rw [List.map_append, HL.out, HSN.out, List.map_append]; rfl, by have := HM9; simp only [List.length_append, List.length_cons, List.length_nil] at this ⊢; exact this⟩
   case measure => simp [intOf]; omega
  (go_simp; go_at_call 16; (with_reducible refine (rput_any t.w 0 k _ _ hlt (BlkW.setNo hb6.out hw (Nat.two_pow_pos _))).mono ?_); (rintro e7 w7 ⟨g7, rfl, hb7, _, hyA⟩); go_simp)
  refine hK.out _ _ ?_ ?_
  ·(go_split_ands; refine ⟨?_, ?_, ?_, ?_, ?_⟩ <;> (repeat (first | (with_reducible assumption) | (with_reducible exact Ext.refl _ _) | (with_reducible refine keepD ?_) | (with_reducible refine keepA ?_) | (with_reducible refine Ext.drew ?_) | (with_reducible refine Ext.alloc ?_ _) | (with_reducible refine BoxR.drew ?_) | (with_reducible refine BoxR.alloc ?_ _) | (with_reducible refine BoxR.set ?_ _ _) | ((with_reducible refine keepS ?_ ?_); (first | (with_reducible assumption) | omega | (simp; omega) | (exact Nat.le_refl _))) | (with_reducible refine Ext.setAt ?_ _ _) | ((with_reducible refine Ext.own ?_ ?_ _); rotate_left; (first | (with_reducible assumption) | omega | (simp; omega) | (exact Nat.le_refl _))) | (with_reducible refine keepN hyA ?_) | (with_reducible refine Ext.transNo ?_ hyA) | (with_reducible refine BoxR.ext ?_ hyA))))
  clear hK K hHeld
  intro hHeld
  replace hm := Lib.hid (hm.out.stepNo hyA)
  clear hyA
  try simp only [Act.put, nzA, nzB, nzC]
  refine held_next2 (i := 1) (j := 9) (by kernel_rfl) (NextOp.mk rfl rfl (fun K hK => ?_)) (NextOp.mk rfl rfl (fun K hK => ?_))
  ·((have cX := cellOf hm.out.boxX); go_simp; (clear cX))
   refine hK.out _ _ ?_ ?_
   ·(go_split_ands; refine ⟨?_, ?_, ?_, ?_, ?_⟩ <;> (repeat (first | (with_reducible assumption) | (with_reducible exact Ext.refl _ _) | (with_reducible refine keepD ?_) | (with_reducible refine keepA ?_) | (with_reducible refine Ext.drew ?_) | (with_reducible refine Ext.alloc ?_ _) | (with_reducible refine BoxR.drew ?_) | (with_reducible refine BoxR.alloc ?_ _) | (with_reducible refine BoxR.set ?_ _ _) | ((with_reducible refine keepS ?_ ?_); (first | (with_reducible assumption) | omega | (simp; omega) | (exact Nat.le_refl _))) | (with_reducible refine Ext.setAt ?_ _ _) | ((with_reducible refine Ext.own ?_ ?_ _); rotate_left; (first | (with_reducible assumption) | omega | (simp; omega) | (exact Nat.le_refl _))) | (with_reducible refine keepN hyA ?_) | (with_reducible refine Ext.transNo ?_ hyA) | (with_reducible refine BoxR.ext ?_ hyA))))
   clear hK K hHeld
   intro hHeld
   skip
   try simp only [Act.put, nzA, nzB, nzC]
   refine hHc 9 fun K hK => ?_
   (go_simp; go_at_call 49; (with_reducible refine (rvalue_any (fun b => (M b ∨ b = W.heap.size + 1 ∨ b = (W.heap.size + 2)) ∨ (Value.slice av L.length cv).ownBlock = some b) t t.w (0 ||| 2 ^ k) _ _ _ _ _ rfl ?_ (hTr.out.extNo hm.out.ext) (BlkW.setNo hb7.out hw (orN_lt (Nat.two_pow_pos _) (bitN_lt hlt)))).mono ?_); (exact hm.out.hM (fun b hb => Nat.lt_of_lt_of_le (HM.out b hb) hm.out.ext.size)); (rintro e8 w8 ⟨a8, c8, rfl, hs8, hyA⟩); go_simp)
   refine hK.out _ _ ?_ ?_
   ·(go_split_ands; refine ⟨?_, ?_, ?_, ?_, ?_⟩ <;> (repeat (first | (with_reducible assumption) | (with_reducible exact Ext.refl _ _) | (with_reducible refine keepD ?_) | (with_reducible refine keepA ?_) | (with_reducible refine Ext.drew ?_) | (with_reducible refine Ext.alloc ?_ _) | (with_reducible refine BoxR.drew ?_) | (with_reducible refine BoxR.alloc ?_ _) | (with_reducible refine BoxR.set ?_ _ _) | ((with_reducible refine keepS ?_ ?_); (first | (with_reducible assumption) | omega | (simp; omega) | (exact Nat.le_refl _))) | (with_reducible refine Ext.setAt ?_ _ _) | ((with_reducible refine Ext.own ?_ ?_ _); rotate_left; (first | (with_reducible assumption) | omega | (simp; omega) | (exact Nat.le_refl _))) | (with_reducible refine keepN hyA ?_) | (with_reducible refine Ext.transNo ?_ hyA) | (with_reducible refine BoxR.ext ?_ hyA))))
   clear hK K hHeld
   intro hHeld
   replace hm := Lib.hid (hm.out.stepNo hyA)
   rw [Nat.zero_or] at hs8
   have hs9 := Lib.hid hs8.out
   clear hyA hb6 hb7 hs8
   try simp only [Act.put, nzA, nzB, nzC]
   refine hHc 10 fun K hK => ?_
   go_simp
   refine hK.out _ _ ?_ ?_
   ·(go_split_ands; refine ⟨?_, ?_, ?_, ?_, ?_⟩ <;> (repeat (first | (with_reducible assumption) | (with_reducible exact Ext.refl _ _) | (with_reducible refine keepD ?_) | (with_reducible refine keepA ?_) | (with_reducible refine Ext.drew ?_) | (with_reducible refine Ext.alloc ?_ _) | (with_reducible refine BoxR.drew ?_) | (with_reducible refine BoxR.alloc ?_ _) | (with_reducible refine BoxR.set ?_ _ _) | ((with_reducible refine keepS ?_ ?_); (first | (with_reducible assumption) | omega | (simp; omega) | (exact Nat.le_refl _))) | (with_reducible refine Ext.setAt ?_ _ _) | ((with_reducible refine Ext.own ?_ ?_ _); rotate_left; (first | (with_reducible assumption) | omega | (simp; omega) | (exact Nat.le_refl _))) | (with_reducible refine keepN hyA ?_) | (with_reducible refine Ext.transNo ?_ hyA) | (with_reducible refine BoxR.ext ?_ hyA))))
   clear hK K hHeld
   intro hHeld
   skip
   try simp only [Act.put, nzA, nzB, nzC]
   refine hHc 11 fun K hK => ?_
   ((refine wp_app _ (.tmp 16) (.tmp 25) 31 rfl ((W.heap.size + 2) + 1) 24 i0 _ 2 32 Tryd.underlying31 hi0 hz0 hz1 hz2 rfl (by omega) (.slice av L.length cv) L.length (flatP L) rfl (row_keep hm.out.s.own ((Ext.refl No _).alloc _) (fun _ _ x => x)) No (some ⟨w8.heap.size, 0, none⟩) 1 1 [.int .i64 (t.w : Int), .slice a8 (nw t.w) c8] rfl (Row.block (alloc_top rfl) rfl no_no (by omega)) (by simp [Value.oneCell']) (by omega) (by omega) (by simp; exact Nat.le_of_lt (lt_of_block hm.out.boxX)) ?_); (intro v1 w9 hown1 hg1 hv1); (have hyE : Ext (fun k => (Value.slice av L.length cv).ownBlock = some k) (w8.alloc (.cells #[.int .i64 (t.w : Int), .slice a8 (nw t.w) c8] 24)) w9 := (Ext.refl _ _).grown hg1 (fun k hk _ => hk)); (obtain ⟨hm9, hX9⟩ := hm.out.app (p := (setN t.w (applyT t (2 ^ k)), .slice a8 (nw t.w) c8)) hs9.out.words hown1 hg1 hv1); (have HM9 := Lib.hid hm9); (have HX9 := Lib.hid hX9); (obtain ⟨a9, c9, hs9'⟩ := hm9.s.slice); (subst hs9'); (clear hm9 hX9 hown1 hg1 hv1))
   refine hK.out _ _ ?_ ?_
   ·(go_split_ands; refine ⟨?_, ?_, ?_, ?_, ?_⟩ <;> ((with_reducible refine Ext.keepM hyE ?_ ?_); rotate_left; (exact hvA); (repeat (first | (with_reducible assumption) | (with_reducible exact Ext.refl _ _) | (with_reducible refine keepD ?_) | (with_reducible refine keepA ?_) | (with_reducible refine Ext.drew ?_) | (with_reducible refine Ext.alloc ?_ _) | (with_reducible refine BoxR.drew ?_) | (with_reducible refine BoxR.alloc ?_ _) | (with_reducible refine BoxR.set ?_ _ _) | ((with_reducible refine keepS ?_ ?_); (first | (with_reducible assumption) | omega | (simp; omega) | (exact Nat.le_refl _))) | (with_reducible refine Ext.setAt ?_ _ _) | ((with_reducible refine Ext.own ?_ ?_ _); rotate_left; (first | (with_reducible assumption) | omega | (simp; omega) | (exact Nat.le_refl _))) | (with_reducible refine keepN hyA ?_) | (with_reducible refine Ext.transNo ?_ hyA) | (with_reducible refine BoxR.ext ?_ hyA)))))
   clear hK K hHeld
   intro hHeld
   clear hyE hm
   try simp only [Act.put, nzA, nzB, nzC]
   refine hTk 12 ?_ hHeld (fun w hSw => ?_) ?_
   rotate_left
   ·(try dsimp only at hSw); go_simp; (try with_reducible rfl)
   simp only [Act.put, nzA, nzB, nzC]
   refine hHc 13 fun K hK => ?_
   ((have cX := cellOf HX9.out); (have fX := freeOf HX9.out); go_simp; (clear cX fX))
   refine hK.out _ _ ?_ ?_
   ·(go_split_ands; refine ⟨?_, ?_, ?_, ?_, ?_⟩ <;> (repeat (first | (with_reducible assumption) | (with_reducible exact Ext.refl _ _) | (with_reducible refine keepD ?_) | (with_reducible refine keepA ?_) | (with_reducible refine Ext.drew ?_) | (with_reducible refine Ext.alloc ?_ _) | (with_reducible refine BoxR.drew ?_) | (with_reducible refine BoxR.alloc ?_ _) | (with_reducible refine BoxR.set ?_ _ _) | ((with_reducible refine keepS ?_ ?_); (first | (with_reducible assumption) | omega | (simp; omega) | (exact Nat.le_refl _))) | (with_reducible refine Ext.setAt ?_ _ _) | ((with_reducible refine Ext.own ?_ ?_ _); rotate_left; (first | (with_reducible assumption) | omega | (simp; omega) | (exact Nat.le_refl _))) | (with_reducible refine keepN hyA ?_) | (with_reducible refine Ext.transNo ?_ hyA) | (with_reducible refine BoxR.ext ?_ hyA))))
   clear hK K hHeld
   intro hHeld
   clear HX9
   try simp only [Act.put, nzA, nzB, nzC]
   refine wpAnyH_done (by kernel_rfl) ?_ _
   go_wp2_with fail
   go_roundw
   case rel => exact ⟨k + 1, a9, c9, L ++ [(setN t.w (applyT t (2 ^ k)), .slice a8 (nw t.w) c8)], by omega, HKK.out, by rw [List.map_append, HL.out, HSN.out, List.map_append]; rfl, by have := HM9; simp only [List.length_append, List.length_cons, List.length_nil] at this ⊢; exact this⟩
   case measure => simp [intOf]; omega
  (go_simp; go_at_call 49; (with_reducible refine (rvalue_any (fun b => (M b ∨ b = W.heap.size + 1 ∨ b = (W.heap.size + 2)) ∨ (Value.slice av L.length cv).ownBlock = some b) t t.w (0 ||| 2 ^ k) _ _ _ _ _ rfl ?_ (hTr.out.extNo hm.out.ext) (BlkW.setNo hb7.out hw (orN_lt (Nat.two_pow_pos _) (bitN_lt hlt)))).mono ?_); (exact hm.out.hM (fun b hb => Nat.lt_of_lt_of_le (HM.out b hb) hm.out.ext.size)); (rintro e8 w8 ⟨a8, c8, rfl, hs8, hyA⟩); go_simp)
  refine hK.out _ _ ?_ ?_
  ·(go_split_ands; refine ⟨?_, ?_, ?_, ?_, ?_⟩ <;> (repeat (first | (with_reducible assumption) | (with_reducible exact Ext.refl _ _) | (with_reducible refine keepD ?_) | (with_reducible refine keepA ?_) | (with_reducible refine Ext.drew ?_) | (with_reducible refine Ext.alloc ?_ _) | (with_reducible refine BoxR.drew ?_) | (with_reducible refine BoxR.alloc ?_ _) | (with_reducible refine BoxR.set ?_ _ _) | ((with_reducible refine keepS ?_ ?_); (first | (with_reducible assumption) | omega | (simp; omega) | (exact Nat.le_refl _))) | (with_reducible refine Ext.setAt ?_ _ _) | ((with_reducible refine Ext.own ?_ ?_ _); rotate_left; (first | (with_reducible assumption) | omega | (simp; omega) | (exact Nat.le_refl _))) | (with_reducible refine keepN hyA ?_) | (with_reducible refine Ext.transNo ?_ hyA) | (with_reducible refine BoxR.ext ?_ hyA))))
  clear hK K hHeld
  intro hHeld
  replace hm := Lib.hid (hm.out.stepNo hyA)
  rw [Nat.zero_or] at hs8
  have hs9 := Lib.hid hs8.out
  clear hyA hb6 hb7 hs8
  try simp only [Act.put, nzA, nzB, nzC]
  refine held_next2 (i := 1) (j := 10) (by kernel_rfl) (NextOp.mk rfl rfl (fun K hK => ?_)) (NextOp.mk rfl rfl (fun K hK => ?_))
  ·((have cX := cellOf hm.out.boxX); go_simp; (clear cX))
   refine hK.out _ _ ?_ ?_
   ·(go_split_ands; refine ⟨?_, ?_, ?_, ?_, ?_⟩ <;> (repeat (first | (with_reducible assumption) | (with_reducible exact Ext.refl _ _) | (with_reducible refine keepD ?_) | (with_reducible refine keepA ?_) | (with_reducible refine Ext.drew ?_) | (with_reducible refine Ext.alloc ?_ _) | (with_reducible refine BoxR.drew ?_) | (with_reducible refine BoxR.alloc ?_ _) | (with_reducible refine BoxR.set ?_ _ _) | ((with_reducible refine keepS ?_ ?_); (first | (with_reducible assumption) | omega | (simp; omega) | (exact Nat.le_refl _))) | (with_reducible refine Ext.setAt ?_ _ _) | ((with_reducible refine Ext.own ?_ ?_ _); rotate_left; (first | (with_reducible assumption) | omega | (simp; omega) | (exact Nat.le_refl _))) | (with_reducible refine keepN hyA ?_) | (with_reducible refine Ext.transNo ?_ hyA) | (with_reducible refine BoxR.ext ?_ hyA))))
   clear hK K hHeld
   intro hHeld
   skip
   try simp only [Act.put, nzA, nzB, nzC]
   refine hHc 10 fun K hK => ?_
   go_simp
   refine hK.out _ _ ?_ ?_
   ·(go_split_ands; refine ⟨?_, ?_, ?_, ?_, ?_⟩ <;> (repeat (first | (with_reducible assumption) | (with_reducible exact Ext.refl _ _) | (with_reducible refine keepD ?_) | (with_reducible refine keepA ?_) | (with_reducible refine Ext.drew ?_) | (with_reducible refine Ext.alloc ?_ _) | (with_reducible refine BoxR.drew ?_) | (with_reducible refine BoxR.alloc ?_ _) | (with_reducible refine BoxR.set ?_ _ _) | ((with_reducible refine keepS ?_ ?_); (first | (with_reducible assumption) | omega | (simp; omega) | (exact Nat.le_refl _))) | (with_reducible refine Ext.setAt ?_ _ _) | ((with_reducible refine Ext.own ?_ ?_ _); rotate_left; (first | (with_reducible assumption) | omega | (simp; omega) | (exact Nat.le_refl _))) | (with_reducible refine keepN hyA ?_) | (with_reducible refine Ext.transNo ?_ hyA) | (with_reducible refine BoxR.ext ?_ hyA))))
   clear hK K hHeld
   intro hHeld
   skip
   try simp only [Act.put, nzA, nzB, nzC]
   refine hHc 11 fun K hK => ?_
   ((refine wp_app _ (.tmp 16) (.tmp 25) 31 rfl ((W.heap.size + 2) + 1) 24 i0 _ 2 32 Tryd.underlying31 hi0 hz0 hz1 hz2 rfl (by omega) (.slice av L.length cv) L.length (flatP L) rfl (row_keep hm.out.s.own ((Ext.refl No _).alloc _) (fun _ _ x => x)) No (some ⟨w8.heap.size, 0, none⟩) 1 1 [.int .i64 (t.w : Int), .slice a8 (nw t.w) c8] rfl (Row.block (alloc_top rfl) rfl no_no (by omega)) (by simp [Value.oneCell']) (by omega) (by omega) (by simp; exact Nat.le_of_lt (lt_of_block hm.out.boxX)) ?_); (intro v1 w9 hown1 hg1 hv1); (have hyE : Ext (fun k => (Value.slice av L.length cv).ownBlock = some k) (w8.alloc (.cells #[.int .i64 (t.w : Int), .slice a8 (nw t.w) c8] 24)) w9 := (Ext.refl _ _).grown hg1 (fun k hk _ => hk)); (obtain ⟨hm9, hX9⟩ := hm.out.app (p := (setN t.w (applyT t (2 ^ k)), .slice a8 (nw t.w) c8)) hs9.out.words hown1 hg1 hv1); (have HM9 := Lib.hid hm9); (have HX9 := Lib.hid hX9); (obtain ⟨a9, c9, hs9'⟩ := hm9.s.slice); (subst hs9'); (clear hm9 hX9 hown1 hg1 hv1))
   refine hK.out _ _ ?_ ?_
   ·(go_split_ands; refine ⟨?_, ?_, ?_, ?_, ?_⟩ <;> ((with_reducible refine Ext.keepM hyE ?_ ?_); rotate_left; (exact hvA); (repeat (first | (with_reducible assumption) | (with_reducible exact Ext.refl _ _) | (with_reducible refine keepD ?_) | (with_reducible refine keepA ?_) | (with_reducible refine Ext.drew ?_) | (with_reducible refine Ext.alloc ?_ _) | (with_reducible refine BoxR.drew ?_) | (with_reducible refine BoxR.alloc ?_ _) | (with_reducible refine BoxR.set ?_ _ _) | ((with_reducible refine keepS ?_ ?_); (first | (with_reducible assumption) | omega | (simp; omega) | (exact Nat.le_refl _))) | (with_reducible refine Ext.setAt ?_ _ _) | ((with_reducible refine Ext.own ?_ ?_ _); rotate_left; (first | (with_reducible assumption) | omega | (simp; omega) | (exact Nat.le_refl _))) | (with_reducible refine keepN hyA ?_) | (with_reducible refine Ext.transNo ?_ hyA) | (with_reducible refine BoxR.ext ?_ hyA)))))
   clear hK K hHeld
   intro hHeld
   clear hyE hm
   try simp only [Act.put, nzA, nzB, nzC]
   refine hTk 12 ?_ hHeld (fun w hSw => ?_) ?_
   rotate_left
   ·(try dsimp only at hSw); go_simp; (try with_reducible rfl)
   simp only [Act.put, nzA, nzB, nzC]
   refine hHc 13 fun K hK => ?_
   ((have cX := cellOf HX9.out); (have fX := freeOf HX9.out); go_simp; (clear cX fX))
   refine hK.out _ _ ?_ ?_
   ·(go_split_ands; refine ⟨?_, ?_, ?_, ?_, ?_⟩ <;> (repeat (first | (with_reducible assumption) | (with_reducible exact Ext.refl _ _) | (with_reducible refine keepD ?_) | (with_reducible refine keepA ?_) | (with_reducible refine Ext.drew ?_) | (with_reducible refine Ext.alloc ?_ _) | (with_reducible refine BoxR.drew ?_) | (with_reducible refine BoxR.alloc ?_ _) | (with_reducible refine BoxR.set ?_ _ _) | ((with_reducible refine keepS ?_ ?_); (first | (with_reducible assumption) | omega | (simp; omega) | (exact Nat.le_refl _))) | (with_reducible refine Ext.setAt ?_ _ _) | ((with_reducible refine Ext.own ?_ ?_ _); rotate_left; (first | (with_reducible assumption) | omega | (simp; omega) | (exact Nat.le_refl _))) | (with_reducible refine keepN hyA ?_) | (with_reducible refine Ext.transNo ?_ hyA) | (with_reducible refine BoxR.ext ?_ hyA))))
   clear hK K hHeld
   intro hHeld
   clear HX9
   try simp only [Act.put, nzA, nzB, nzC]
   refine wpAnyH_done (by kernel_rfl) ?_ _
   go_wp2_with fail
   go_roundw
   case rel => exact ⟨k + 1, a9, c9, L ++ [(setN t.w (applyT t (2 ^ k)), .slice a8 (nw t.w) c8)], by omega, HKK.out, by rw [List.map_append, HL.out, HSN.out, List.map_append]; rfl, by have := HM9; simp only [List.length_append, List.length_cons, List.length_nil] at this ⊢; exact this⟩
   case measure => simp [intOf]; omega
  go_simp
  refine hK.out _ _ ?_ ?_
  ·(go_split_ands; refine ⟨?_, ?_, ?_, ?_, ?_⟩ <;> (repeat (first | (with_reducible assumption) | (with_reducible exact Ext.refl _ _) | (with_reducible refine keepD ?_) | (with_reducible refine keepA ?_) | (with_reducible refine Ext.drew ?_) | (with_reducible refine Ext.alloc ?_ _) | (with_reducible refine BoxR.drew ?_) | (with_reducible refine BoxR.alloc ?_ _) | (with_reducible refine BoxR.set ?_ _ _) | ((with_reducible refine keepS ?_ ?_); (first | (with_reducible assumption) | omega | (simp; omega) | (exact Nat.le_refl _))) | (with_reducible refine Ext.setAt ?_ _ _) | ((with_reducible refine Ext.own ?_ ?_ _); rotate_left; (first | (with_reducible assumption) | omega | (simp; omega) | (exact Nat.le_refl _))) | (with_reducible refine keepN hyA ?_) | (with_reducible refine Ext.transNo ?_ hyA) | (with_reducible refine BoxR.ext ?_ hyA))))
  clear hK K hHeld
  intro hHeld
  skip
  try simp only [Act.put, nzA, nzB, nzC]
  refine hHc 1 fun K hK => ?_
  ((have cX := cellOf hm.out.boxX); (have cX2 := cellOf (alloc_under (o := (.cells #[.int .i64 (t.w : Int), .slice a8 (nw t.w) c8] 24)) hm.out.boxX)); go_simp; (clear cX cX2))
  refine hK.out _ _ ?_ ?_
  ·(go_split_ands; refine ⟨?_, ?_, ?_, ?_, ?_⟩ <;> (repeat (first | (with_reducible assumption) | (with_reducible exact Ext.refl _ _) | (with_reducible refine keepD ?_) | (with_reducible refine keepA ?_) | (with_reducible refine Ext.drew ?_) | (with_reducible refine Ext.alloc ?_ _) | (with_reducible refine BoxR.drew ?_) | (with_reducible refine BoxR.alloc ?_ _) | (with_reducible refine BoxR.set ?_ _ _) | ((with_reducible refine keepS ?_ ?_); (first | (with_reducible assumption) | omega | (simp; omega) | (exact Nat.le_refl _))) | (with_reducible refine Ext.setAt ?_ _ _) | ((with_reducible refine Ext.own ?_ ?_ _); rotate_left; (first | (with_reducible assumption) | omega | (simp; omega) | (exact Nat.le_refl _))) | (with_reducible refine keepN hyA ?_) | (with_reducible refine Ext.transNo ?_ hyA) | (with_reducible refine BoxR.ext ?_ hyA))))
  clear hK K hHeld
  intro hHeld
  skip
  try simp only [Act.put, nzA, nzB, nzC]
  refine hHc 11 fun K hK => ?_
  ((refine wp_app _ (.tmp 16) (.tmp 25) 31 rfl ((W.heap.size + 2) + 1) 24 i0 _ 2 32 Tryd.underlying31 hi0 hz0 hz1 hz2 rfl (by omega) (.slice av L.length cv) L.length (flatP L) rfl (row_keep hm.out.s.own ((Ext.refl No _).alloc _) (fun _ _ x => x)) No (some ⟨w8.heap.size, 0, none⟩) 1 1 [.int .i64 (t.w : Int), .slice a8 (nw t.w) c8] rfl (Row.block (alloc_top rfl) rfl no_no (by omega)) (by simp [Value.oneCell']) (by omega) (by omega) (by simp; exact Nat.le_of_lt (lt_of_block hm.out.boxX)) ?_); (intro v1 w9 hown1 hg1 hv1); (have hyE : Ext (fun k => (Value.slice av L.length cv).ownBlock = some k) (w8.alloc (.cells #[.int .i64 (t.w : Int), .slice a8 (nw t.w) c8] 24)) w9 := (Ext.refl _ _).grown hg1 (fun k hk _ => hk)); (obtain ⟨hm9, hX9⟩ := hm.out.app (p := (setN t.w (applyT t (2 ^ k)), .slice a8 (nw t.w) c8)) hs9.out.words hown1 hg1 hv1); (have HM9 := Lib.hid hm9); (have HX9 := Lib.hid hX9); (obtain ⟨a9, c9, hs9'⟩ := hm9.s.slice); (subst hs9'); (clear hm9 hX9 hown1 hg1 hv1))
  refine hK.out _ _ ?_ ?_
  ·(go_split_ands; refine ⟨?_, ?_, ?_, ?_, ?_⟩ <;> ((with_reducible refine Ext.keepM hyE ?_ ?_); rotate_left; (exact hvA); (repeat (first | (with_reducible assumption) | (with_reducible exact Ext.refl _ _) | (with_reducible refine keepD ?_) | (with_reducible refine keepA ?_) | (with_reducible refine Ext.drew ?_) | (with_reducible refine Ext.alloc ?_ _) | (with_reducible refine BoxR.drew ?_) | (with_reducible refine BoxR.alloc ?_ _) | (with_reducible refine BoxR.set ?_ _ _) | ((with_reducible refine keepS ?_ ?_); (first | (with_reducible assumption) | omega | (simp; omega) | (exact Nat.le_refl _))) | (with_reducible refine Ext.setAt ?_ _ _) | ((with_reducible refine Ext.own ?_ ?_ _); rotate_left; (first | (with_reducible assumption) | omega | (simp; omega) | (exact Nat.le_refl _))) | (with_reducible refine keepN hyA ?_) | (with_reducible refine Ext.transNo ?_ hyA) | (with_reducible refine BoxR.ext ?_ hyA)))))
  clear hK K hHeld
  intro hHeld
  clear hyE hm
  try simp only [Act.put, nzA, nzB, nzC]
  refine hTk 12 ?_ hHeld (fun w hSw => ?_) ?_
  rotate_left
  ·(try dsimp only at hSw); go_simp; (try with_reducible rfl)
  simp only [Act.put, nzA, nzB, nzC]
  refine hHc 13 fun K hK => ?_
  ((have cX := cellOf HX9.out); (have fX := freeOf HX9.out); go_simp; (clear cX fX))
  refine hK.out _ _ ?_ ?_
  ·(go_split_ands; refine ⟨?_, ?_, ?_, ?_, ?_⟩ <;> (repeat (first | (with_reducible assumption) | (with_reducible exact Ext.refl _ _) | (with_reducible refine keepD ?_) | (with_reducible refine keepA ?_) | (with_reducible refine Ext.drew ?_) | (with_reducible refine Ext.alloc ?_ _) | (with_reducible refine BoxR.drew ?_) | (with_reducible refine BoxR.alloc ?_ _) | (with_reducible refine BoxR.set ?_ _ _) | ((with_reducible refine keepS ?_ ?_); (first | (with_reducible assumption) | omega | (simp; omega) | (exact Nat.le_refl _))) | (with_reducible refine Ext.setAt ?_ _ _) | ((with_reducible refine Ext.own ?_ ?_ _); rotate_left; (first | (with_reducible assumption) | omega | (simp; omega) | (exact Nat.le_refl _))) | (with_reducible refine keepN hyA ?_) | (with_reducible refine Ext.transNo ?_ hyA) | (with_reducible refine BoxR.ext ?_ hyA))))
  clear hK K hHeld
  intro hHeld
  clear HX9
  try simp only [Act.put, nzA, nzB, nzC]
  refine wpAnyH_done (by kernel_rfl) ?_ _
  go_wp2_with fail
  go_roundw
  case rel => exact ⟨k + 1, a9, c9, L ++ [(setN t.w (applyT t (2 ^ k)), .slice a8 (nw t.w) c8)], by omega, HKK.out, by rw [List.map_append, HL.out, HSN.out, List.map_append]; rfl, by have := HM9; simp only [List.length_append, List.length_cons, List.length_nil] at this ⊢; exact this⟩
  case measure => simp [intOf]; omega
 obtain rfl : k = t.w := by omega
 have cX := cellOf hm.out.boxX
 have cA := cellOf hm.out.boxA
 have cC := cellOf hm.out.boxC
 have fC := freeOf hm.out.boxC
 have hne : ¬ W.heap.size + 1 = W.heap.size + 2 := by omega
 have hge : ¬ (t.w : Int) < (t.w : Int) := by omega
 go_wp2_with fail
 have hE : Ext (At (W.heap.size + 1)) wr (((wr.setCell ⟨W.heap.size + 1, 0, none⟩ (.int .i64 (t.w : Int))).setCell ⟨W.heap.size + 1, 1, none⟩ (.slice ag (nw t.w) cg)).setCell ⟨W.heap.size + 1, 2, none⟩ (.slice av L.length cv)) := (((Ext.refl (At (W.heap.size + 1)) _).setAt _ _).setAt _ _).setAt _ _
 have hbF := (set_same (j := 2) (u := .slice av L.length cv) (set_same (j := 1) (u := .slice ag (nw t.w) cg) (set_same (j := 0) (u := .int .i64 (t.w : Int)) hm.out.boxC))).trans rfl
 clear cX cA cC fC
 generalize (((wr.setCell ⟨W.heap.size + 1, 0, none⟩ (.int .i64 (t.w : Int))).setCell ⟨W.heap.size + 1, 1, none⟩ (.slice ag (nw t.w) cg)).setCell ⟨W.heap.size + 1, 2, none⟩ (.slice av L.length cv)) = WF at *
 have cF := cellOf hbF
 refine ret_ex rfl ?_
 simp [results, Tryd.results23, go_sem, cF]
 have hLk : L.length = (tabT t).length := by have := congrArg List.length HL.out; unfold tabT; simpa using this
 have hsF := hm.out.s.ext hE (fun i hi e => by unfold At at e; omega) (fun i e => .inr (.inl e))
 have hgF := hm.out.gen.ext hE (fun i _ e => .inr (.inl e))
 refine ⟨ag, cg, av, cv, by rw [hLk], Lib.hid ?_, fun b hb => by rw [← hLk] at hb; have h1 := (hsF.lt b hb).1; have h2 := hm.out.big; omega, hm.out.ext.trans2 hE (fun i hi e => by unfold At at e; omega)⟩
 rw [← hLk]
 refine ⟨hgF.mono (fun i _ e => ?_), ⟨L, ⟨row_base hsF.own (Nat.zero_le _), fun p hp => (hsF.ok p hp).mono (fun i _ e => ?_)⟩, HL.out⟩, fun b hb hmb => ?_, tabT_lt HO.out⟩
 ·rcases e with e | e
  ·exact .inl e
  have := (hsF.lt i e).1
  exact .inr (.inr (.inr (by omega)))
 ·rcases e with e | e
  ·exact .inl (.inl e)
  exact .inr e
 have := HM.out b hmb
 have := (hsF.lt b hb).1
 omega

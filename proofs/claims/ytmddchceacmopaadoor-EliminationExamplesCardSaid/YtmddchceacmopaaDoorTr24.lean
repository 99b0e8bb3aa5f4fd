
import Derived.Test.YtmddchceacmopaaDoorTrD
set_option linter.unusedVariables false
set_option linter.unusedSimpArgs false
namespace Go.Proofs.YtmddchceacmopaaDoor
open Go Go.RowKit
set_option maxRecDepth 100000 in
set_option maxHeartbeats 4000000 in
theorem open_any (M : Nat → Prop) (t : TrD) (sg sk sc : Value) (W : World) (hM : ∀ b, M b → b < W.heap.size) (h : TrAt No W sg sk sc t) :
  Calls Tryd.prog 70 #[.agg #[.int .i64 (t.w : Int), sg, .int .i64 (t.w : Int), sk, sc]] W (RowsPost M t.w t.gen (rowsN t t.w t.copies.length) W) := by
 have H := Lib.hid h
 have HM := Lib.hid hM
 have HO := Lib.hid h.ok
 obtain ⟨ag, cg, rfl⟩ := h.gen.slice
 obtain ⟨ak, ck, rfl⟩ := h.kill.slice
 obtain ⟨ac, cc, rfl⟩ := Row.slice h.copies
 have hlen := h.ok.len
 have hw := h.ok.w
 obtain ⟨i0, hi0, hz0, hz1, hz2⟩ := info_parts infoS
 clear h hM
 go_enter Tryd.func70, Tryd.ntmps70
 go_wp2_with fail
 have hx0 : Ext No W ((W.alloc (.cells #[.int .i64 (t.w : Int), .slice ag (nw t.w) cg, .int .i64 (t.w : Int), .slice ak (nw t.w) ck, .slice ac t.copies.length cc] 30)).alloc (.cells #[.int .i64 0, .slice none 0 0, .slice none 0 0] 113)) := ((Ext.refl _ _).alloc _).alloc _
 have hA : ((W.alloc (.cells #[.int .i64 (t.w : Int), .slice ag (nw t.w) cg, .int .i64 (t.w : Int), .slice ak (nw t.w) ck, .slice ac t.copies.length cc] 30)).alloc (.cells #[.int .i64 0, .slice none 0 0, .slice none 0 0] 113)).heap[W.heap.size]? = some (.cells #[.int .i64 (t.w : Int), .slice ag (nw t.w) cg, .int .i64 (t.w : Int), .slice ak (nw t.w) ck, .slice ac t.copies.length cc] 30 (0, 0)) := alloc_under (alloc_top rfl)
 have hC : ((W.alloc (.cells #[.int .i64 (t.w : Int), .slice ag (nw t.w) cg, .int .i64 (t.w : Int), .slice ak (nw t.w) ck, .slice ac t.copies.length cc] 30)).alloc (.cells #[.int .i64 0, .slice none 0 0, .slice none 0 0] 113)).heap[W.heap.size + 1]? = some (.cells #[.int .i64 0, .slice none 0 0, .slice none 0 0] 113 (0, 0)) := alloc_top (by simp)
 generalize ((W.alloc (.cells #[.int .i64 (t.w : Int), .slice ag (nw t.w) cg, .int .i64 (t.w : Int), .slice ak (nw t.w) ck, .slice ac t.copies.length cc] 30)).alloc (.cells #[.int .i64 0, .slice none 0 0, .slice none 0 0] 113)) = W2 at *
 have hC1 := lt_of_block hC
 refine (tclone_any (fun b => M b ∨ b = W.heap.size + 1) t.w t.gen _ _ (fun b hb => ?_) (H.out.gen.extNo hx0)).mono ?_
 ·rcases hb with hb | rfl
  ·exact Nat.lt_of_lt_of_le (HM.out b hb) hx0.size
  exact hC1
 rintro e1 w1 ⟨a1, c1, rfl, hs1, hx1⟩
 have hszC := lt_of_block (hx1.blk hC no_no)
 have hm1 := Lib.hid (show OpM M W (w1.alloc (.cells #[.int .i64 (t.w : Int), .slice a1 (nw t.w) c1, .slice none 0 0] 113)) t w1.heap.size (.slice ag (nw t.w) cg) (.slice ak (nw t.w) ck) (.slice ac t.copies.length cc) (.slice a1 (nw t.w) c1) (.slice none 0 0) [] from
  ⟨(hx0.transNo hx1).alloc _, alloc_under (hx1.blk hA no_no), alloc_under (hx1.blk hC no_no), alloc_top rfl, (hs1.out.mono (fun i hi e => by
   rcases e with e | e | e | e
   ·exact .inl e
   ·exact .inr e
   ·omega
   omega)).extNo ((Ext.refl _ _).alloc _), SetsOwn.nil _ _ _, hszC⟩)
 clear hx0 hA hC hC1 hs1 hx1 hszC
 have cA := cellOf hm1.out.boxA
 go_wp2_with fail
 generalize (w1.alloc (.cells #[.int .i64 (t.w : Int), .slice a1 (nw t.w) c1, .slice none 0 0] 113)) = W1 at *
 generalize w1.heap.size = X at *
 clear cA
 go_loopw [16] (fun i wr => ∃ (k : Nat) (av : Option Addr) (cv : Nat) (L : List (RawSet × Value)), k ≤ t.w ∧ i = .int .i64 k ∧ L.map Prod.fst = (rowsN t k 0).map (setN t.w) ∧ Hid (OpM M W wr t X (.slice ag (nw t.w) cg) (.slice ak (nw t.w) ck) (.slice ac t.copies.length cc) (.slice a1 (nw t.w) c1) (.slice av L.length cv) L)) (fun i _ => t.w - (intOf i).toNat)
 case atStart => exact ⟨0, none, 0, [], Nat.zero_le _, rfl, rfl, hm1⟩
 clear hm1
 obtain ⟨k, av, cv, L, hk, rfl, hL, hm⟩ := hrel
 have HL := Lib.hid hL
 clear hL
 rename World => wr
 have hpos : (0 : Int) ≤ (k : Int) := by omega
 have hwl : (t.w : Int) ≤ 256 := by omega
 have hLn : L.length ≤ 256 := by have := congrArg List.length HL.out; simp [rowsN] at this; omega
 by_cases hlt : k < t.w
 ·have hLk : Hid (L.length = k) := Lib.hid (by have := congrArg List.length HL.out; simpa [rowsN] using this)
  have HKK : Hid (Value.int .i64 ((k : Int) + 1) = .int .i64 ((k + 1 : Nat) : Int)) := Lib.hid (by rw [show ((k + 1 : Nat) : Int) = (k : Int) + 1 from by omega])
  have cA := cellOf hm.out.boxA
  go_wp2_with fail
  refine (bempty_any (fun b => (M b ∨ b = W.heap.size + 1 ∨ b = X) ∨ (Value.slice av L.length cv).ownBlock = some b) t.w _ (hm.out.hM (fun b hb => Nat.lt_of_lt_of_le (HM.out b hb) hm.out.ext.size)) hw).mono ?_
  rintro e2 w2 ⟨a2, c2, rfl, hs2, hx2⟩
  have hx3 : Ext No w2 (w2.alloc (.cells #[.int .i64 (t.w : Int), .slice a2 (nw t.w) c2] 24)) := (Ext.refl _ _).alloc _
  have hm2 := hm.out.stepNo hx2
  have hXS : X < w2.heap.size := lt_of_block hm2.boxX
  have hvS : ¬ (Value.slice av L.length cv).ownBlock = some w2.heap.size := fun e => by have := (hm2.s.lt _ e).2; omega
  have hm3 := Lib.hid ((hm2.mono (M' := fun b => M b ∨ b = w2.heap.size) (fun i hi e => by
   rcases e with e | e
   ·exact e
   omega)).stepNo hx3)
  have hs3 := Lib.hid ((hs2.out.mono (M' := fun b => ((M b ∨ b = w2.heap.size) ∨ b = W.heap.size + 1 ∨ b = X) ∨ (Value.slice av L.length cv).ownBlock = some b) (fun i hi e => by
   rcases e with ((e | e) | e) | e
   ·exact .inl (.inl e)
   ·omega
   ·exact .inl (.inr e)
   exact .inr e)).extNo hx3)
  clear hm2
  have hbS : (w2.alloc (.cells #[.int .i64 (t.w : Int), .slice a2 (nw t.w) c2] 24)).heap[w2.heap.size]? = some (.cells #[.int .i64 (t.w : Int), .slice a2 (nw t.w) c2] 24 (0, 0)) := alloc_top rfl
  have HBS := Lib.hid hbS
  clear hx2 hx3 hm hs2 cA hbS
  have cA := cellOf hm3.out.boxA
  go_wp2_with fail
  clear cA
  generalize (w2.alloc (.cells #[.int .i64 (t.w : Int), .slice a2 (nw t.w) c2] 24)) = W3 at *
  generalize w2.heap.size = S at *
  refine (has_any t.w t.kill _ k _ (H.out.kill.extNo hm3.out.ext)).mono ?_
  rintro e4 w4 ⟨rfl, hx4⟩
  have hm4 := Lib.hid (hm3.out.stepNo hx4)
  have hs4 := Lib.hid (hs3.out.extNo hx4)
  have HB4 := Lib.hid (hx4.blk HBS.out no_no)
  clear hx4 hm3 hs3 HBS
  cases hh : hasZ t.w t.kill k with
  | true =>
   have HR : Hid (rowN t k 0 = 0) := Lib.hid (by rw [rowN, hh]; rfl)
   clear hh
   have cS := cellOf HB4.out
   have cX := cellOf hm4.out.boxX
   go_wp2_with (at_builtin; (refine wpList_app _ rfl (.tmp 38) (.tmp 40) 31 rfl (X + 1) 24 i0 _ 2 32 Tryd.underlying31 hi0 hz0 hz1 hz2 rfl (by omega) (.slice av L.length cv) L.length (flatP L) rfl (row_keep hm4.out.s.own ((Ext.refl No _).alloc _) (fun _ _ x => x)) No (some ⟨w4.heap.size, 0, none⟩) 1 1 [.int .i64 (t.w : Int), .slice a2 (nw t.w) c2] rfl (Row.block (alloc_top rfl) rfl no_no (by omega)) (by simp [Value.oneCell']) (by omega) (by omega) (by simp; exact Nat.le_of_lt (lt_of_block hm4.out.boxX)) ?_); (intro v1 w5 hown1 hg1 hv1); (obtain ⟨hm6, hX6⟩ := hm4.out.app (p := (setN t.w 0, .slice a2 (nw t.w) c2)) hs4.out.words hown1 hg1 hv1); (have cX6 := cellOf hX6); (have fX6 := freeOf hX6); (have HM6 := Lib.hid (hm6.mono (M' := M) (fun i _ e => .inl e))); (have HX6 := Lib.hid hX6); (obtain ⟨a6, c6, hs6⟩ := hm6.s.slice); (subst hs6); (clear hm6 hX6 hown1 hg1 hv1))
   go_roundw
   case rel => exact ⟨k + 1, a6, c6, L ++ [(setN t.w 0, .slice a2 (nw t.w) c2)], by omega, HKK.out, by rw [List.map_append, HL.out, rowsN_snoc, List.map_append, HR.out]; rfl, by have := HM6; simp only [List.length_append, List.length_cons, List.length_nil] at this ⊢; exact this⟩
   case measure => simp [intOf]; omega
  | false =>
   have HR : Hid (rowN t k 0 = 0 ||| 2 ^ k) := Lib.hid (by rw [rowN, hh]; simp)
   clear hh
   have cS := cellOf HB4.out
   go_wp2_with fail
   refine (with_any (fun b => ((M b ∨ b = S) ∨ b = W.heap.size + 1 ∨ b = X) ∨ (Value.slice av L.length cv).ownBlock = some b) t.w 0 k _ _ (hm4.out.hM (fun b hb => ?_)) hlt hs4.out.no).mono ?_
   ·rcases hb with hb | rfl
    ·exact Nat.lt_of_lt_of_le (HM.out b hb) hm4.out.ext.size
    exact lt_of_block HB4.out
   rintro e5 w5 ⟨a5, c5, rfl, hs5, hx5⟩
   have hm5 := Lib.hid (hm4.out.stepNo hx5)
   have HB5 := Lib.hid (hx5.blk HB4.out no_no)
   have hm6 := Lib.hid (hm5.out.box (u0 := .int .i64 (t.w : Int)) (u1 := .slice a5 (nw t.w) c5) hXS hvS (.inr rfl))
   have hE6 : Ext (At S) w5 ((w5.setCell ⟨S, 0, none⟩ (.int .i64 (t.w : Int))).setCell ⟨S, 1, none⟩ (.slice a5 (nw t.w) c5)) := ((Ext.refl (At S) _).setAt _ _).setAt _ _
   have hs6 := Lib.hid (hs5.out.ext hE6 (fun i _ e => .inl (.inl (.inr e))))
   clear hm4 hs4 HB4 hx5 cS hs5 hE6
   have cS := cellOf HB5.out
   have fS := freeOf HB5.out
   have HB6 := (set_same (j := 1) (u := .slice a5 (nw t.w) c5) (set_same (j := 0) (u := .int .i64 (t.w : Int)) HB5.out)).trans rfl
   have cX := cellOf hm6.out.boxX
   have cS6 := cellOf HB6
   clear HB6
   generalize hw6 : ((w5.setCell ⟨S, 0, none⟩ (.int .i64 (t.w : Int))).setCell ⟨S, 1, none⟩ (.slice a5 (nw t.w) c5)) = w6 at *
   go_wp2_with (at_builtin; (refine wpList_app _ rfl (.tmp 38) (.tmp 40) 31 rfl (X + 1) 24 i0 _ 2 32 Tryd.underlying31 hi0 hz0 hz1 hz2 rfl (by omega) (.slice av L.length cv) L.length (flatP L) rfl (row_keep hm6.out.s.own ((Ext.refl No _).alloc _) (fun _ _ x => x)) No (some ⟨w6.heap.size, 0, none⟩) 1 1 [.int .i64 (t.w : Int), .slice a5 (nw t.w) c5] rfl (Row.block (alloc_top rfl) rfl no_no (by omega)) (by simp [Value.oneCell']) (by omega) (by omega) (by simp; exact Nat.le_of_lt (lt_of_block hm6.out.boxX)) ?_); (intro v1 w5 hown1 hg1 hv1); (obtain ⟨hm7, hX6⟩ := hm6.out.app (p := (setN t.w (0 ||| 2 ^ k), .slice a5 (nw t.w) c5)) hs6.out.words hown1 hg1 hv1); (have cX6 := cellOf hX6); (have fX6 := freeOf hX6); (have HM6 := Lib.hid (hm7.mono (M' := M) (fun i _ e => .inl e))); (have HX6 := Lib.hid hX6); (obtain ⟨a6, c6, hsl6⟩ := hm7.s.slice); (subst hsl6); (clear hm7 hX6 hown1 hg1 hv1))
   go_roundw
   case rel => exact ⟨k + 1, a6, c6, L ++ [(setN t.w (0 ||| 2 ^ k), .slice a5 (nw t.w) c5)], by omega, HKK.out, by rw [List.map_append, HL.out, rowsN_snoc, List.map_append, HR.out]; rfl, by have := HM6; simp only [List.length_append, List.length_cons, List.length_nil] at this ⊢; exact this⟩
   case measure => simp [intOf]; omega
 obtain rfl : k = t.w := by omega
 have cA := cellOf hm.out.boxA
 go_wp2_with fail
 clear cA hLn
 obtain ⟨wo, rfl⟩ : ∃ wo : World, wo = wr := ⟨_, rfl⟩
 go_loopw [47] (fun i wr => ∃ (j : Nat) (av : Option Addr) (cv : Nat) (L : List (RawSet × Value)), j ≤ t.copies.length ∧ i = .int .i64 j ∧ L.map Prod.fst = (rowsN t t.w j).map (setN t.w) ∧ Hid (OpM M W wr t X (.slice ag (nw t.w) cg) (.slice ak (nw t.w) ck) (.slice ac t.copies.length cc) (.slice a1 (nw t.w) c1) (.slice av L.length cv) L)) (fun i _ => t.copies.length - (intOf i).toNat)
 case atStart => exact ⟨0, av, cv, L, Nat.zero_le _, rfl, HL.out, hm⟩
 clear hm HL
 obtain ⟨j, av, cv, L, hj, rfl, hL, hm⟩ := hrel
 have HL := Lib.hid hL
 clear hL
 rename World => wi
 have hposj : (0 : Int) ≤ (j : Int) := by omega
 by_cases hlt : j < t.copies.length
 ·obtain ⟨b, off, cap', hsl, _, _, hcell⟩ := CopiesAt.at (Row.extNo H.out.copies hm.out.ext) hlt
  simp only [Value.slice.injEq] at hsl
  obtain ⟨rfl, _, rfl⟩ := hsl
  obtain ⟨q0, q1⟩ := hcell j hlt
  clear hcell
  obtain ⟨i1, i2⟩ := HO.out.inr j hlt
  obtain ⟨f, hf, hf2⟩ := inB_true i1
  obtain ⟨g, hg, hg2⟩ := inB_true i2
  have hLk : L.length = t.w := by have := congrArg List.length HL.out; simpa [rowsN] using this
  have hfL : f < L.length := by omega
  have HST := Lib.hid (rowsN_step (k := j) hlt hf hg (by omega))
  have HLf : Hid (L[f].1 = setN t.w (rowN t f j)) := Lib.hid (by
   have := congrArg (fun l => l[f]?) HL.out
   have hf3 : f < (rowsN t t.w j).length := by rw [rowsN_len]; omega
   simpa [hfL, hf3, rowsN_get] using this)
  have hrl := Lib.hid (rowN_lt HO.out (a := f) (by omega) j)
  have HKK : Hid (Value.int .i64 ((j : Int) + 1) = .int .i64 ((j + 1 : Nat) : Int)) := Lib.hid (by rw [show ((j + 1 : Nat) : Int) = (j : Int) + 1 from by omega])
  rw [hf] at q0
  rw [hg] at q1
  have hgw : g < t.w := by omega
  have HLW := Lib.hid hLk
  clear hf hg i1 i2 hf2 hg2 hLk
  have hx7 := (Ext.refl No wi).alloc (.cells #[.int .i64 (f : Int), .int .i64 (g : Int)] 27)
  have hD : (wi.alloc (.cells #[.int .i64 (f : Int), .int .i64 (g : Int)] 27)).heap[wi.heap.size]? = some (.cells #[.int .i64 (f : Int), .int .i64 (g : Int)] 27 (0, 0)) := alloc_top rfl
  have hm7 := Lib.hid (hm.out.stepNo hx7)
  obtain ⟨gg, rfl, hgg, hgl, _, hel, hfr⟩ := hm.out.s.ownAt hfL
  go_wp2_with fail
  obtain ⟨z0, z1⟩ := hel f hfL
  have f0 := hfr (f * 2)
  have f1 := hfr (f * 2 + 1)
  have hok := hm.out.s.ok L[f] (List.getElem_mem _)
  rw [HLf.out] at z0 hok
  obtain ⟨ae, ce, hse⟩ := (show SetAt _ _ _ t.w (rowN t f j) from ⟨hok, hw, hrl.out⟩).slice
  have HSE := Lib.hid (show SetAt No (wi.alloc (.cells #[.int .i64 (f : Int), .int .i64 (g : Int)] 27)) (.slice ae (nw t.w) ce) t.w (rowN t f j) from by
   rw [hse] at hok
   exact (show SetAt _ _ _ t.w (rowN t f j) from ⟨hok, hw, hrl.out⟩).no.extNo hx7)
  rw [hse] at z1
  have z0' : (wi.alloc (.cells #[.int .i64 (f : Int), .int .i64 (g : Int)] 27)).cell? ⟨gg, f * 2, none⟩ = some (.int .i64 (t.w : Int)) := keepA z0
  have z1' : (wi.alloc (.cells #[.int .i64 (f : Int), .int .i64 (g : Int)] 27)).cell? ⟨gg, f * 2 + 1, none⟩ = some (.slice ae (nw t.w) ce) := keepA z1
  have hgD : gg < wi.heap.size := hgl
  have l0 : (wi.alloc (.cells #[.int .i64 (f : Int), .int .i64 (g : Int)] 27)).cell? ⟨X, 2, none⟩ = some (.slice (some ⟨gg, 0, none⟩) L.length cv) := cellOf hm7.out.boxX 2
  have l1 : (wi.alloc (.cells #[.int .i64 (f : Int), .int .i64 (g : Int)] 27)).cell? ⟨wi.heap.size, 0, none⟩ = some (.int .i64 (f : Int)) := cellOf hD 0
  have l2 : (wi.alloc (.cells #[.int .i64 (f : Int), .int .i64 (g : Int)] 27)).cell? ⟨wi.heap.size, 1, none⟩ = some (.int .i64 (g : Int)) := cellOf hD 1
  have fr7 : ∀ q, (wi.alloc (.cells #[.int .i64 (f : Int), .int .i64 (g : Int)] 27)).frozen? ⟨gg, q, none⟩ = false := fun q => (hx7.frozen (p := ⟨gg, q, none⟩) hgl no_no).trans (hfr q)
  have HFR := Lib.hid fr7
  have HZ := Lib.hid (And.intro z0' z1')
  clear hx7 hD hm hel hfr z0 z1 f0 f1 hok hse fr7 q0 q1
  generalize (wi.alloc (.cells #[.int .i64 (f : Int), .int .i64 (g : Int)] 27)) = W7 at *
  generalize wi.heap.size = D at *
  have hXg : X < gg := hgg
  have n1 : X ≠ gg := by omega
  have n2 : D ≠ gg := by omega
  have hfz : (0 : Int) ≤ (f : Int) := by omega
  have hfl : (f : Int) < (L.length : Int) := by omega
  have HMS := Lib.hid (hm7.out.hM (fun b hb => Nat.lt_of_lt_of_le (HM.out b hb) hm7.out.ext.size))
  clear hgl hgg
  refine wp_region_held_drew (S := (fun w' => w'.cell? ⟨X, 2, none⟩ = some (.slice (some ⟨gg, 0, none⟩) L.length cv) ∧ w'.cell? ⟨D, 0, none⟩ = some (.int .i64 (f : Int)) ∧ w'.cell? ⟨D, 1, none⟩ = some (.int .i64 (g : Int)))) (by kernel_rfl) ?_ (fun hHeld => ?_)
  ·(go_split_ands; refine ⟨?_, ?_, ?_⟩ <;> (repeat (first | (with_reducible assumption) | (with_reducible exact Ext.refl _ _) | (with_reducible refine keepD ?_) | (with_reducible refine keepA ?_) | (with_reducible refine Ext.drew ?_) | (with_reducible refine Ext.alloc ?_ _) | (with_reducible refine BoxR.drew ?_) | (with_reducible refine BoxR.alloc ?_ _) | (with_reducible refine BoxR.set ?_ _ _) | ((with_reducible refine keepS ?_ ?_); (first | (with_reducible assumption) | omega | (simp; omega) | (exact Nat.le_refl _))) | (with_reducible refine Ext.setAt ?_ _ _) | ((with_reducible refine Ext.own ?_ ?_ _); rotate_left; (first | (with_reducible assumption) | omega | (simp; omega) | (exact Nat.le_refl _))) | (with_reducible refine keepN hyA ?_) | (with_reducible refine Ext.transNo ?_ hyA) | (with_reducible refine BoxR.ext ?_ hyA))))
  refine hHs [0, 1, 2, 3, 4, 5, 6, 7, 8, 10, 11] ?_
  iterate 11
   refine hTn ?_ hHeld (fun w hSw => ?_) ?_
   rotate_left
   ·(try dsimp only at hSw); go_simp; (try with_reducible rfl)
   simp only [Act.put, nzA, nzB, nzC]
  refine hHe ?_
  refine hHc 9 fun K hK => ?_
  go_simp
  refine hK.out _ _ ?_ ?_
  ·(go_split_ands; refine ⟨?_, ?_, ?_⟩ <;> (repeat (first | (with_reducible assumption) | (with_reducible exact Ext.refl _ _) | (with_reducible refine keepD ?_) | (with_reducible refine keepA ?_) | (with_reducible refine Ext.drew ?_) | (with_reducible refine Ext.alloc ?_ _) | (with_reducible refine BoxR.drew ?_) | (with_reducible refine BoxR.alloc ?_ _) | (with_reducible refine BoxR.set ?_ _ _) | ((with_reducible refine keepS ?_ ?_); (first | (with_reducible assumption) | omega | (simp; omega) | (exact Nat.le_refl _))) | (with_reducible refine Ext.setAt ?_ _ _) | ((with_reducible refine Ext.own ?_ ?_ _); rotate_left; (first | (with_reducible assumption) | omega | (simp; omega) | (exact Nat.le_refl _))) | (with_reducible refine keepN hyA ?_) | (with_reducible refine Ext.transNo ?_ hyA) | (with_reducible refine BoxR.ext ?_ hyA))))
  clear hK K hHeld
  intro hHeld
  try simp only [Act.put, nzA, nzB, nzC]
  refine hHc 12 fun K hK => ?_
  (go_simp; go_at_call 93; (with_reducible refine (with_any (fun b => (M b ∨ b = W.heap.size + 1 ∨ b = X) ∨ (Value.slice (some ⟨gg, 0, none⟩) L.length cv).ownBlock = some b) t.w (rowN t f j) g _ _ ?_ hgw ?_).mono ?_); (exact HMS.out); (first | exact HSE.out | exact HSE.out.extNo (Ext.refl No W7).drew); (rintro e3 w3 ⟨a3, c3, rfl, hs3, hyA⟩); (have hs3' := Lib.hid hs3.out); (have hyB : Ext No W7 w3 := by first | exact hyA | exact (Ext.refl No W7).drew.transNo hyA); (have hm8 := Lib.hid (hm7.out.stepNo hyB)); (have z3 := keepN hyB HZ.out.1); (have z4 := keepN hyB HZ.out.2); (have f3 := (hyB.frozen (p := ⟨gg, f * 2, none⟩) (World.block_lt_of_cell? W7 _ HZ.out.1) no_no).trans (HFR.out (f * 2))); (have f4 := (hyB.frozen (p := ⟨gg, f * 2 + 1, none⟩) (World.block_lt_of_cell? W7 _ HZ.out.2) no_no).trans (HFR.out (f * 2 + 1))); go_simp)
  refine hK.out _ _ ?_ ?_
  ·(go_split_ands; refine ⟨?_, ?_, ?_⟩ <;> (repeat (first | (with_reducible assumption) | (with_reducible exact Ext.refl _ _) | (with_reducible refine keepD ?_) | (with_reducible refine keepA ?_) | (with_reducible refine Ext.drew ?_) | (with_reducible refine Ext.alloc ?_ _) | (with_reducible refine BoxR.drew ?_) | (with_reducible refine BoxR.alloc ?_ _) | (with_reducible refine BoxR.set ?_ _ _) | ((with_reducible refine keepS ?_ ?_); (first | (with_reducible assumption) | omega | (simp; omega) | (exact Nat.le_refl _))) | (with_reducible refine Ext.setAt ?_ _ _) | ((with_reducible refine Ext.own ?_ ?_ _); rotate_left; (first | (with_reducible assumption) | omega | (simp; omega) | (exact Nat.le_refl _))) | (with_reducible refine keepN hyA ?_) | (with_reducible refine Ext.transNo ?_ hyA) | (with_reducible refine BoxR.ext ?_ hyA))))
  clear hK K hHeld
  intro hHeld
  refine hHs [13, 14, 15, 16] ?_
  iterate 4
   refine hTn ?_ hHeld (fun w hSw => ?_) ?_
   rotate_left
   ·(try dsimp only at hSw); go_simp; (try with_reducible rfl)
   simp only [Act.put, nzA, nzB, nzC]
  refine hHe ?_
  refine hHc 17 fun K hK => ?_
  go_simp
  refine hK.out _ _ ?_ ?_
  ·(go_split_ands; refine ⟨?_, ?_, ?_⟩ <;> (repeat (first | (with_reducible assumption) | (with_reducible exact Ext.refl _ _) | (with_reducible refine keepD ?_) | (with_reducible refine keepA ?_) | (with_reducible refine Ext.drew ?_) | (with_reducible refine Ext.alloc ?_ _) | (with_reducible refine BoxR.drew ?_) | (with_reducible refine BoxR.alloc ?_ _) | (with_reducible refine BoxR.set ?_ _ _) | ((with_reducible refine keepS ?_ ?_); (first | (with_reducible assumption) | omega | (simp; omega) | (exact Nat.le_refl _))) | (with_reducible refine Ext.setAt ?_ _ _) | ((with_reducible refine Ext.own ?_ ?_ _); rotate_left; (first | (with_reducible assumption) | omega | (simp; omega) | (exact Nat.le_refl _))) | (with_reducible refine keepN hyA ?_) | (with_reducible refine Ext.transNo ?_ hyA) | (with_reducible refine BoxR.ext ?_ hyA))))
  clear hK K hHeld
  intro hHeld
  try simp only [Act.put, nzA, nzB, nzC]
  refine wpAnyH_done (by kernel_rfl) ?_ _
  go_wp2_with fail
  have hput := hm8.out.put (p := (setN t.w (rowN t f j ||| 2 ^ g), .slice a3 (nw t.w) c3)) hfL (hs3'.out.words.mono (fun i _ e => by
   rcases e with e | rfl
   ·exact .inl e
   exact .inr rfl))
  go_roundw
  case rel => exact ⟨j + 1, some ⟨gg, 0, none⟩, cv, L.set f (setN t.w (rowN t f j ||| 2 ^ g), .slice a3 (nw t.w) c3), by omega, HKK.out, by rw [List.map_set, HL.out, HST.out, List.map_set], Lib.hid (by rw [List.length_set]; exact hput)⟩
  case measure => simp [intOf]; omega
 obtain rfl : j = t.copies.length := by omega
 have HLk := Lib.hid (show L.length = t.w by have := congrArg List.length HL.out; simpa [rowsN] using this)
 have cX := cellOf hm.out.boxX
 have cC := cellOf hm.out.boxC
 have fC := freeOf hm.out.boxC
 have hne : ¬ W.heap.size + 1 = X := by have := hm.out.big; omega
 go_wp2_with fail
 have hE : Ext (At (W.heap.size + 1)) wi (((wi.setCell ⟨W.heap.size + 1, 0, none⟩ (.int .i64 (t.w : Int))).setCell ⟨W.heap.size + 1, 1, none⟩ (.slice a1 (nw t.w) c1)).setCell ⟨W.heap.size + 1, 2, none⟩ (.slice av L.length cv)) := (((Ext.refl (At (W.heap.size + 1)) _).setAt _ _).setAt _ _).setAt _ _
 have hbF := (set_same (j := 2) (u := .slice av L.length cv) (set_same (j := 1) (u := .slice a1 (nw t.w) c1) (set_same (j := 0) (u := .int .i64 (t.w : Int)) hm.out.boxC))).trans rfl
 clear cX cC fC
 generalize (((wi.setCell ⟨W.heap.size + 1, 0, none⟩ (.int .i64 (t.w : Int))).setCell ⟨W.heap.size + 1, 1, none⟩ (.slice a1 (nw t.w) c1)).setCell ⟨W.heap.size + 1, 2, none⟩ (.slice av L.length cv)) = WF at *
 have cF := cellOf hbF
 refine ret_ex rfl ?_
 simp [results, Tryd.results70, go_sem, cF]
 have hLk := HLk.out
 have hbig := hm.out.big
 have hsF := hm.out.s.ext hE (fun i hi e => by unfold At at e; omega) (fun i e => .inr (.inl e))
 refine ⟨a1, c1, av, cv, by rw [rowsN_len, hLk], Lib.hid ?_, hm.out.ext.trans2 hE (fun i hi e => by unfold At at e; omega)⟩
 have hgF := hm.out.gen.ext hE (fun i _ e => .inr (.inl e))
 rw [rowsN_len, ← hLk]
 rw [← hLk] at hgF
 refine ⟨hgF.mono (fun i _ e => ?_), ⟨L, ⟨row_base hsF.own (Nat.zero_le _), fun p hp => (hsF.ok p hp).mono (fun i _ e => ?_)⟩, by rw [HL.out, hLk]⟩, fun b hb hmb => ?_, fun m hmm => ?_⟩
 ·rcases e with e | e
  ·exact .inl e
  have := (hsF.lt i e).1
  exact .inr (.inr (.inr (by omega)))
 ·rcases e with e | e
  ·exact .inl (.inl e)
  exact .inr e
 ·have := HM.out b hmb
  have := (hsF.lt b hb).1
  omega
 obtain ⟨a, ha, rfl⟩ := List.mem_map.1 hmm
 rw [hLk]
 exact rowN_lt HO.out (by have := List.mem_range.1 ha; omega) _


import Derived.Test.YtmddchceacmopaaDoorRefE
set_option linter.unusedVariables false
set_option linter.unusedSimpArgs false
namespace Go.Proofs.YtmddchceacmopaaDoor
open Go Go.RowKit
def imgTo (z : Nat) (rs : List Nat) (s : Nat) : Nat → Nat
 | 0 => z
 | k + 1 => if s.testBit k then orN (imgTo z rs s k) (rowAt rs k) else imgTo z rs s k
theorem imgTo_bit {z : Nat} {rs : List Nat} {s j : Nat} : ∀ k, (imgTo z rs s k).testBit j = true ↔ z.testBit j = true ∨ ∃ b, b < k ∧ s.testBit b = true ∧ (rowAt rs b).testBit j = true
 | 0 => ⟨.inl, fun h => by rcases h with h | ⟨b, h, _⟩; exact h; omega⟩
 | k + 1 => by
  rw [imgTo]
  by_cases hs : s.testBit k = true
  ·rw [if_pos hs, show orN (imgTo z rs s k) (rowAt rs k) = imgTo z rs s k ||| rowAt rs k from rfl, Nat.testBit_or, Bool.or_eq_true, imgTo_bit k]
   constructor
   ·rintro ((h | ⟨b, h1, h2, h3⟩) | h)
    ·exact .inl h
    ·exact .inr ⟨b, by omega, h2, h3⟩
    exact .inr ⟨k, by omega, hs, h⟩
   rintro (h | ⟨b, h1, h2, h3⟩)
   ·exact .inl (.inl h)
   by_cases e : b = k
   ·exact .inr (e ▸ h3)
   exact .inl (.inr ⟨b, by omega, h2, h3⟩)
  rw [if_neg hs, imgTo_bit k]
  constructor
  ·rintro (h | ⟨b, h1, h2, h3⟩)
   ·exact .inl h
   exact .inr ⟨b, by omega, h2, h3⟩
  rintro (h | ⟨b, h1, h2, h3⟩)
  ·exact .inl h
  by_cases e : b = k
  ·exact absurd (e ▸ h2) hs
  exact .inr ⟨b, by omega, h2, h3⟩
theorem imgTo_end (z : Nat) (rs : List Nat) (w s : Nat) : imgTo z rs s w = orN z (imgN rs w s) := Nat.eq_of_testBit_eq fun j => bool_ext (by
 rw [imgTo_bit, show orN z (imgN rs w s) = z ||| imgN rs w s from rfl, Nat.testBit_or, Bool.or_eq_true, imgN_bit]; rfl)
structure ImT (M : Nat → Prop) (W wr : World) (w m D : Nat) (sg so ss s1 : Value) : Prop where
 ext : Ext No W wr
 boxA : wr.heap[W.heap.size]? = some (.cells #[.int .i64 (w : Int), sg, so] 62 (0, 0))
 boxB : wr.heap[W.heap.size + 1]? = some (.cells #[.int .i64 (w : Int), ss] 24 (0, 0))
 boxC : wr.heap[W.heap.size + 2]? = some (.cells #[.int .i64 0, .slice none 0 0] 24 (0, 0))
 boxD : wr.heap[D]? = some (.cells #[.int .i64 (w : Int), s1] 24 (0, 0))
 set : SetAt (fun b => M b ∨ b = W.heap.size + 2 ∨ b = D) wr s1 w m
 big : W.heap.size + 2 < D
section
variable {M : Nat → Prop} {W wr w' : World} {w m m' D : Nat} {sg so ss s1 s2 : Value}
theorem ImT.stepNo (h : ImT M W wr w m D sg so ss s1) (hx : Ext No wr w') : ImT M W w' w m D sg so ss s1 :=
 ⟨h.ext.transNo hx, hx.blk h.boxA no_no, hx.blk h.boxB no_no, hx.blk h.boxC no_no, hx.blk h.boxD no_no, h.set.extNo hx, h.big⟩
theorem ImT.hM (hM : ∀ b, M b → b < W.heap.size) (h : ImT M W wr w m D sg so ss s1) : ∀ b, (M b ∨ b = W.heap.size + 2 ∨ b = D) → b < wr.heap.size := fun b hb => by
 have h1 := lt_of_block h.boxD
 have h2 := h.big
 rcases hb with hb | rfl | rfl
 ·have := hM b hb; omega
 ·omega
 exact h1
theorem ImT.put (h : ImT M W wr w m D sg so ss s1) (hs : SetAt (fun b => M b ∨ b = W.heap.size + 2 ∨ b = D) wr s2 w m') : ImT M W ((wr.setCell ⟨D, 0, none⟩ (.int .i64 (w : Int))).setCell ⟨D, 1, none⟩ s2) w m' D sg so ss s2 := by
 have h1 := h.big
 have hE : Ext (At D) wr ((wr.setCell ⟨D, 0, none⟩ (.int .i64 (w : Int))).setCell ⟨D, 1, none⟩ s2) := ((Ext.refl (At D) _).setAt _ _).setAt _ _
 exact ⟨h.ext.trans2 hE (fun i hi e => by unfold At at e; omega), hE.blk h.boxA (by unfold At; omega), hE.blk h.boxB (by unfold At; omega), hE.blk h.boxC (by unfold At; omega), (set_same (j := 1) (set_same (j := 0) h.boxD)).trans rfl, hs.ext hE (fun i _ e => .inr (.inr e)), h1⟩
end
set_option maxRecDepth 100000 in
set_option maxHeartbeats 4000000 in
theorem rimage_any (M : Nat → Prop) (w z s : Nat) (rs : List Nat) (sg so ss : Value) (W : World) (hM : ∀ b, M b → b < W.heap.size) (hg : SetAt M W sg w z) (hr : SetsV No W so w rs) (hl : rs.length = w) (hs : SetAt No W ss w s) :
  Calls Tryd.prog 24 #[.agg #[.int .i64 (w : Int), sg, so], .agg #[.int .i64 (w : Int), ss]] W (SetPost M w (orN z (imgN rs w s)) W) := by
 have HR := Lib.hid hr
 have HS := Lib.hid hs
 have HM := Lib.hid hM
 have HG := Lib.hid hg
 have HLR := Lib.hid hl
 have HRM := Lib.hid hr.hm
 obtain ⟨ag, cg, rfl⟩ := hg.slice
 obtain ⟨ao, co, rfl⟩ := hr.slice
 obtain ⟨a1, c1, rfl⟩ := hs.slice
 have hw := hs.hw
 clear hr hs hM hg hl
 go_enter Tryd.func24, Tryd.ntmps24
 go_wp2_with fail
 have hm0 := Lib.hid (show ImT M W ((((W.alloc (.cells #[.int .i64 (w : Int), .slice ag (nw w) cg, .slice ao rs.length co] 62)).alloc (.cells #[.int .i64 (w : Int), .slice a1 (nw w) c1] 24)).alloc (.cells #[.int .i64 0, .slice none 0 0] 24)).alloc (.cells #[.int .i64 (w : Int), .slice ag (nw w) cg] 24)) w (imgTo z rs s 0) (W.heap.size + 3) (.slice ag (nw w) cg) (.slice ao rs.length co) (.slice a1 (nw w) c1) (.slice ag (nw w) cg) from
  ⟨((((Ext.refl _ _).alloc _).alloc _).alloc _).alloc _, alloc_under (alloc_under (alloc_under (alloc_top rfl))), alloc_under (alloc_under (alloc_top (by simp))), alloc_under (alloc_top (by simp)), alloc_top (by simp),
   (HG.out.mono (fun i hi e => by rcases e with e | e | e; exact e; omega; omega)).extNo (((((Ext.refl _ _).alloc _).alloc _).alloc _).alloc _), by omega⟩)
 generalize ((((W.alloc (.cells #[.int .i64 (w : Int), .slice ag (nw w) cg, .slice ao rs.length co] 62)).alloc (.cells #[.int .i64 (w : Int), .slice a1 (nw w) c1] 24)).alloc (.cells #[.int .i64 0, .slice none 0 0] 24)).alloc (.cells #[.int .i64 (w : Int), .slice ag (nw w) cg] 24)) = V at *
 go_loopw [6] (fun i wr => ∃ (k : Nat) (a' : Option Addr) (c' : Nat), k ≤ w ∧ i = .int .i64 k ∧ Hid (ImT M W wr w (imgTo z rs s k) (W.heap.size + 3) (.slice ag (nw w) cg) (.slice ao rs.length co) (.slice a1 (nw w) c1) (.slice a' (nw w) c'))) (fun i _ => w - (intOf i).toNat)
 case atStart => exact ⟨0, _, _, Nat.zero_le _, rfl, hm0⟩
 clear hm0
 obtain ⟨k, a', c', hk, rfl, hm⟩ := hrel
 rename World => wr
 have hpos : (0 : Int) ≤ (k : Int) := by omega
 have cB := cellOf hm.out.boxB
 by_cases hlt : k < w
 ·have hlz : (k : Int) < (w : Int) := by omega
  have HKK : Hid (Value.int .i64 ((k : Int) + 1) = .int .i64 ((k + 1 : Nat) : Int)) := Lib.hid (by rw [show ((k + 1 : Nat) : Int) = (k : Int) + 1 from by omega])
  go_wp2_with fail
  clear cB
  obtain ⟨bb, hbb⟩ : ∃ bb, s.testBit k = bb := ⟨_, rfl⟩
  have HBB := Lib.hid hbb
  refine (rhas_b w s bb _ (k : Int) _ (by rw [hasZ_nat hlt]; exact hbb) (HS.out.extNo hm.out.ext)).mono ?_
  rintro e1 w1 ⟨rfl, hy1⟩
  have hm1 := Lib.hid (hm.out.stepNo hy1)
  clear hm hy1 hbb
  cases bb
  ·have HST : Hid (imgTo z rs s (k + 1) = imgTo z rs s k) := Lib.hid (by rw [imgTo, HBB.out]; rfl)
   clear HBB
   go_wp2_with fail
   go_roundw
   case rel => exact ⟨k + 1, _, _, by omega, HKK.out, by rw [HST.out]; exact hm1⟩
   case measure => simp [intOf]; omega
  have hkr : k < rs.length := by have := HLR.out; omega
  have HST : Hid (imgTo z rs s (k + 1) = orN (imgTo z rs s k) rs[k]) := Lib.hid (by rw [imgTo, HBB.out, if_pos rfl, rowAt_get hkr])
  clear HBB
  go_wp2_with fail
  obtain ⟨gg, go, gc, ae, ce, hsr, hgl, _, z0, z1, hE⟩ := (HR.out.extNo hm1.out.ext).at hkr
  simp only [Value.slice.injEq] at hsr
  obtain ⟨rfl, _, rfl⟩ := hsr
  have HE := Lib.hid hE.out
  have hDg : (W.heap.size + 3) ≠ gg := fun e => by
   have h2 := (HR.out).at hkr
   obtain ⟨g2, o2, _, _, _, e2, hl2, _⟩ := h2
   simp only [Value.slice.injEq, Option.some.injEq, Addr.mk.injEq] at e2
   obtain ⟨⟨rfl, _⟩, _⟩ := e2
   omega
  have hgD : gg ≠ (W.heap.size + 3) := fun e => hDg e.symm
  have l0 : w1.cell? ⟨W.heap.size, 2, none⟩ = some (.slice (some ⟨gg, go, none⟩) rs.length co) := cellOf hm1.out.boxA 2
  have hle : W.heap.size ≤ (W.heap.size + 3) := by omega
  have l3 : Ext No W w1 := hm1.out.ext
  have cD := cellOf hm1.out.boxD
  have hkz : (k : Int) < (rs.length : Int) := by omega
  clear hE hgl
  refine wp_region_held_drew (S := (fun w' => w'.cell? ⟨W.heap.size, 2, none⟩ = some (.slice (some ⟨gg, go, none⟩) rs.length co) ∧ w'.cell? ⟨gg, go + k * 2, none⟩ = some (.int .i64 (w : Int)) ∧ w'.cell? ⟨gg, go + k * 2 + 1, none⟩ = some (.slice ae (nw w) ce) ∧ Ext No W w')) (by kernel_rfl) ?_ (fun hHeld => ?_)
  ·(go_split_ands; refine ⟨?_, ?_, ?_, ?_⟩ <;> (repeat (first | (with_reducible assumption) | (with_reducible exact Ext.refl _ _) | (with_reducible refine keepD ?_) | (with_reducible refine keepA ?_) | (with_reducible refine Ext.drew ?_) | (with_reducible refine Ext.alloc ?_ _) | (with_reducible refine BoxR.drew ?_) | (with_reducible refine BoxR.alloc ?_ _) | (with_reducible refine BoxR.set ?_ _ _) | ((with_reducible refine keepS ?_ ?_); (first | (with_reducible assumption) | omega | (simp; omega) | (exact Nat.le_refl _))) | (with_reducible refine Ext.setAt ?_ _ _) | ((with_reducible refine Ext.own ?_ ?_ _); rotate_left; (first | (with_reducible assumption) | omega | (simp; omega) | (exact Nat.le_refl _))) | (with_reducible refine keepN hyA ?_) | (with_reducible refine Ext.transNo ?_ hyA) | (with_reducible refine BoxR.ext ?_ hyA))))
  refine hHs [1, 2, 3, 4, 5] ?_
  iterate 5
   refine hTn ?_ hHeld (fun w hSw => ?_) ?_
   rotate_left
   ·(try dsimp only at hSw); go_simp; (try with_reducible rfl)
   simp only [Act.put, nzA, nzB, nzC]
  refine hHe ?_
  refine hHc 0 fun K hK => ?_
  go_simp
  refine hK.out _ _ ?_ ?_
  ·(go_split_ands; refine ⟨?_, ?_, ?_, ?_⟩ <;> (repeat (first | (with_reducible assumption) | (with_reducible exact Ext.refl _ _) | (with_reducible refine keepD ?_) | (with_reducible refine keepA ?_) | (with_reducible refine Ext.drew ?_) | (with_reducible refine Ext.alloc ?_ _) | (with_reducible refine BoxR.drew ?_) | (with_reducible refine BoxR.alloc ?_ _) | (with_reducible refine BoxR.set ?_ _ _) | ((with_reducible refine keepS ?_ ?_); (first | (with_reducible assumption) | omega | (simp; omega) | (exact Nat.le_refl _))) | (with_reducible refine Ext.setAt ?_ _ _) | ((with_reducible refine Ext.own ?_ ?_ _); rotate_left; (first | (with_reducible assumption) | omega | (simp; omega) | (exact Nat.le_refl _))) | (with_reducible refine keepN hyA ?_) | (with_reducible refine Ext.transNo ?_ hyA) | (with_reducible refine BoxR.ext ?_ hyA))))
  clear hK K hHeld
  intro hHeld
  try simp only [Act.put, nzA, nzB, nzC]
  refine hHc 6 fun K hK => ?_
  (go_simp; go_at_call 51; (with_reducible refine (rjoin_any (fun b => M b ∨ b = W.heap.size + 2 ∨ b = (W.heap.size + 3)) w (imgTo z rs s k) rs[k] _ _ _ ?_ ?_ ?_).mono ?_); (first | exact hm1.out.hM HM.out | exact (hm1.out.stepNo (Ext.refl No w1).drew).hM HM.out); (first | exact hm1.out.set.no | exact hm1.out.set.no.extNo (Ext.refl No w1).drew); (first | exact HE.out | exact HE.out.extNo (Ext.refl No w1).drew); (rintro e3 w3 ⟨a3, c3, rfl, hs3, hyA⟩); (have hyB : Ext No w1 w3 := by first | exact hyA | exact (Ext.refl No w1).drew.transNo hyA); (have hm3 := Lib.hid (hm1.out.stepNo hyB)); (have hs4 := Lib.hid hs3.out); (have c3D := cellOf hm3.out.boxD); (have f3D := freeOf hm3.out.boxD); go_simp)
  refine hK.out _ _ ?_ ?_
  ·(go_split_ands; refine ⟨?_, ?_, ?_, ?_⟩ <;> (repeat (first | (with_reducible assumption) | (with_reducible exact Ext.refl _ _) | (with_reducible refine keepD ?_) | (with_reducible refine keepA ?_) | (with_reducible refine Ext.drew ?_) | (with_reducible refine Ext.alloc ?_ _) | (with_reducible refine BoxR.drew ?_) | (with_reducible refine BoxR.alloc ?_ _) | (with_reducible refine BoxR.set ?_ _ _) | ((with_reducible refine keepS ?_ ?_); (first | (with_reducible assumption) | omega | (simp; omega) | (exact Nat.le_refl _))) | (with_reducible refine Ext.setAt ?_ _ _) | ((with_reducible refine Ext.own ?_ ?_ _); rotate_left; (first | (with_reducible assumption) | omega | (simp; omega) | (exact Nat.le_refl _))) | (with_reducible refine keepN hyA ?_) | (with_reducible refine Ext.transNo ?_ hyA) | (with_reducible refine BoxR.ext ?_ hyA))))
  clear hK K hHeld
  intro hHeld
  refine hHc 7 fun K hK => ?_
  go_simp
  refine hK.out _ _ ?_ ?_
  ·(go_split_ands; refine ⟨?_, ?_, ?_, ?_⟩ <;> (repeat (first | (with_reducible assumption) | (with_reducible exact Ext.refl _ _) | (with_reducible refine keepD ?_) | (with_reducible refine keepA ?_) | (with_reducible refine Ext.drew ?_) | (with_reducible refine Ext.alloc ?_ _) | (with_reducible refine BoxR.drew ?_) | (with_reducible refine BoxR.alloc ?_ _) | (with_reducible refine BoxR.set ?_ _ _) | ((with_reducible refine keepS ?_ ?_); (first | (with_reducible assumption) | omega | (simp; omega) | (exact Nat.le_refl _))) | (with_reducible refine Ext.setAt ?_ _ _) | ((with_reducible refine Ext.own ?_ ?_ _); rotate_left; (first | (with_reducible assumption) | omega | (simp; omega) | (exact Nat.le_refl _))) | (with_reducible refine keepN hyA ?_) | (with_reducible refine Ext.transNo ?_ hyA) | (with_reducible refine BoxR.ext ?_ hyA))))
  clear hK K hHeld
  intro hHeld
  try simp only [Act.put, nzA, nzB, nzC]
  refine wpAnyH_done (by kernel_rfl) ?_ _
  go_wp2_with fail
  have hput := hm3.out.put hs4.out
  go_roundw
  case rel => exact ⟨k + 1, a3, c3, by omega, HKK.out, Lib.hid (by rw [HST.out]; exact hput)⟩
  case measure => simp [intOf]; omega
 obtain rfl : k = w := by omega
 have hge : ¬ (k : Int) < (k : Int) := by omega
 have cD := cellOf hm.out.boxD
 have cC := cellOf hm.out.boxC
 have fC := freeOf hm.out.boxC
 have hne : ¬ W.heap.size + 2 = (W.heap.size + 3) := by omega
 go_wp2_with fail
 have hE : Ext (At (W.heap.size + 2)) wr ((wr.setCell ⟨W.heap.size + 2, 0, none⟩ (.int .i64 (k : Int))).setCell ⟨W.heap.size + 2, 1, none⟩ (.slice a' (nw k) c')) := ((Ext.refl (At (W.heap.size + 2)) _).setAt _ _).setAt _ _
 have hbF := (set_same (j := 1) (u := .slice a' (nw k) c') (set_same (j := 0) (u := .int .i64 (k : Int)) hm.out.boxC)).trans rfl
 clear cB cD cC fC
 generalize ((wr.setCell ⟨W.heap.size + 2, 0, none⟩ (.int .i64 (k : Int))).setCell ⟨W.heap.size + 2, 1, none⟩ (.slice a' (nw k) c')) = WF at *
 have cF := cellOf hbF
 refine ret_ex rfl ?_
 simp [results, Tryd.results24, go_sem, cF]
 rw [imgTo_end] at hm
 exact ⟨_, _, rfl, Lib.hid ((hm.out.set.ext hE (fun i _ e => .inr (.inl e))).mono (fun i _ e => .inl e)), hm.out.ext.trans2 hE (fun i hi e => by unfold At at e; omega)⟩


import Derived.Test.YtmddchceacmopaaDoorRefD
set_option linter.unusedVariables false
set_option linter.unusedSimpArgs false
namespace Go.Proofs.YtmddchceacmopaaDoor
open Go Go.RowKit
def mixK (w : Nat) (f : Bool → Bool → Bool) (a b k : Nat) : Nat := bitsN w fun j => decide (j < k) && f (a.testBit j) (b.testBit j)
theorem mixK_lt (w : Nat) (f : Bool → Bool → Bool) (a b k : Nat) : mixK w f a b k < 2 ^ w := bitsN_lt _ _
theorem mixK_zero (w : Nat) (f : Bool → Bool → Bool) (a b : Nat) : mixK w f a b 0 = 0 := (bitsN_eq (Nat.two_pow_pos w) (fun j _ => by simp)).symm
theorem mixK_yes {w : Nat} {f : Bool → Bool → Bool} {a b k : Nat} (hk : k < w) (h : f (a.testBit k) (b.testBit k) = true) : mixK w f a b (k + 1) = mixK w f a b k ||| 2 ^ k := by
 refine bits_ext (mixK_lt w f a b (k + 1)) (orN_lt (mixK_lt w f a b k) (bitN_lt hk)) (fun j hj => ?_)
 rw [or_bit]
 unfold mixK
 rw [bitsN_bit, bitsN_bit]
 by_cases e : k = j
 ·subst e; simp [h, hj]
 have : decide (j < k + 1) = decide (j < k) := by rw [decide_eq_decide]; omega
 simp [this, e]
theorem mixK_no {w : Nat} {f : Bool → Bool → Bool} {a b k : Nat} (h : f (a.testBit k) (b.testBit k) = false) : mixK w f a b (k + 1) = mixK w f a b k := bitsN_congr (fun j _ => by
 by_cases e : k = j
 ·subst e; simp [h]
 have : decide (j < k + 1) = decide (j < k) := by rw [decide_eq_decide]; omega
 simp [this])
def fOr (x y : Bool) : Bool := x || y
theorem mixK_or {w a b : Nat} (ha : a < 2 ^ w) (hb : b < 2 ^ w) : mixK w fOr a b w = orN a b := (bitsN_eq (orN_lt ha hb) (fun j hj => by rw [Nat.testBit_or]; simp [fOr, hj])).symm
structure MxM (M : Nat → Prop) (W wr : World) (w m D : Nat) (sa sb s1 : Value) : Prop where
 ext : Ext No W wr
 boxA : wr.heap[W.heap.size]? = some (.cells #[.int .i64 (w : Int), sa] 24 (0, 0))
 boxB : wr.heap[W.heap.size + 1]? = some (.cells #[.int .i64 (w : Int), sb] 24 (0, 0))
 boxC : wr.heap[W.heap.size + 2]? = some (.cells #[.int .i64 0, .slice none 0 0] 24 (0, 0))
 boxD : wr.heap[D]? = some (.cells #[.int .i64 (w : Int), s1] 24 (0, 0))
 set : SetAt (fun b => M b ∨ b = W.heap.size + 2 ∨ b = D) wr s1 w m
 big : W.heap.size + 2 < D
section
variable {M : Nat → Prop} {W wr w' : World} {w m m' D : Nat} {sa sb s1 s2 : Value}
theorem MxM.stepNo (h : MxM M W wr w m D sa sb s1) (hx : Ext No wr w') : MxM M W w' w m D sa sb s1 :=
 ⟨h.ext.transNo hx, hx.blk h.boxA no_no, hx.blk h.boxB no_no, hx.blk h.boxC no_no, hx.blk h.boxD no_no, h.set.extNo hx, h.big⟩
theorem MxM.hM (hM : ∀ b, M b → b < W.heap.size) (h : MxM M W wr w m D sa sb s1) : ∀ b, (M b ∨ b = W.heap.size + 2 ∨ b = D) → b < wr.heap.size := fun b hb => by
 have h1 := lt_of_block h.boxD
 have h2 := h.big
 rcases hb with hb | rfl | rfl
 ·have := hM b hb; omega
 ·omega
 exact h1
theorem MxM.put (h : MxM M W wr w m D sa sb s1) (hs : SetAt (fun b => M b ∨ b = W.heap.size + 2 ∨ b = D) wr s2 w m') : MxM M W ((wr.setCell ⟨D, 0, none⟩ (.int .i64 (w : Int))).setCell ⟨D, 1, none⟩ s2) w m' D sa sb s2 := by
 have h1 := h.big
 have hE : Ext (At D) wr ((wr.setCell ⟨D, 0, none⟩ (.int .i64 (w : Int))).setCell ⟨D, 1, none⟩ s2) := ((Ext.refl (At D) _).setAt _ _).setAt _ _
 exact ⟨h.ext.trans2 hE (fun i hi e => by unfold At at e; omega), hE.blk h.boxA (by unfold At; omega), hE.blk h.boxB (by unfold At; omega), hE.blk h.boxC (by unfold At; omega), (set_same (j := 1) (set_same (j := 0) h.boxD)).trans rfl, hs.ext hE (fun i _ e => .inr (.inr e)), h1⟩
end
theorem rhas_b (w m : Nat) (bb : Bool) (sl : Value) (b : Int) (W : World) (hb : hasZ w m b = bb) (h : SetAt No W sl w m) : Calls Tryd.prog 50 #[.agg #[.int .i64 (w : Int), sl], .int .i64 b] W (BoolPost bb W) := by
 subst hb; exact rhas_any w m sl b W h
set_option maxRecDepth 100000 in
set_option maxHeartbeats 4000000 in
theorem rmixU_any (M : Nat → Prop) (w m n : Nat) (s1 s2 : Value) (W : World) (hM : ∀ b, M b → b < W.heap.size) (h1 : SetAt No W s1 w m) (h2 : SetAt No W s2 w n) :
  Calls Tryd.prog 102 #[.agg #[.int .i64 (w : Int), s1], .agg #[.int .i64 (w : Int), s2], .bool true, .bool true, .bool true] W (SetEPost M w (orN m n) W) := by
 have H1 := Lib.hid h1
 have H2 := Lib.hid h2
 have HM := Lib.hid hM
 obtain ⟨a1, c1, rfl⟩ := h1.slice
 obtain ⟨a2, c2, rfl⟩ := h2.slice
 have hw := h1.hw
 have hv1 := validB_set h1.hw h1.hm
 have hv2 := validB_set h2.hw h2.hm
 clear h1 h2 hM
 go_enter Tryd.func102, Tryd.ntmps102
 go_wp2_with fail
 have hx0 : Ext No W (((W.alloc (.cells #[.int .i64 (w : Int), .slice a1 (nw w) c1] 24)).alloc (.cells #[.int .i64 (w : Int), .slice a2 (nw w) c2] 24)).alloc (.cells #[.int .i64 0, .slice none 0 0] 24)) := (((Ext.refl _ _).alloc _).alloc _).alloc _
 have hA : (((W.alloc (.cells #[.int .i64 (w : Int), .slice a1 (nw w) c1] 24)).alloc (.cells #[.int .i64 (w : Int), .slice a2 (nw w) c2] 24)).alloc (.cells #[.int .i64 0, .slice none 0 0] 24)).heap[W.heap.size]? = some (.cells #[.int .i64 (w : Int), .slice a1 (nw w) c1] 24 (0, 0)) := alloc_under (alloc_under (alloc_top rfl))
 have hB : (((W.alloc (.cells #[.int .i64 (w : Int), .slice a1 (nw w) c1] 24)).alloc (.cells #[.int .i64 (w : Int), .slice a2 (nw w) c2] 24)).alloc (.cells #[.int .i64 0, .slice none 0 0] 24)).heap[W.heap.size + 1]? = some (.cells #[.int .i64 (w : Int), .slice a2 (nw w) c2] 24 (0, 0)) := alloc_under (alloc_top (by simp))
 have hC : (((W.alloc (.cells #[.int .i64 (w : Int), .slice a1 (nw w) c1] 24)).alloc (.cells #[.int .i64 (w : Int), .slice a2 (nw w) c2] 24)).alloc (.cells #[.int .i64 0, .slice none 0 0] 24)).heap[W.heap.size + 2]? = some (.cells #[.int .i64 0, .slice none 0 0] 24 (0, 0)) := alloc_top (by simp)
 generalize (((W.alloc (.cells #[.int .i64 (w : Int), .slice a1 (nw w) c1] 24)).alloc (.cells #[.int .i64 (w : Int), .slice a2 (nw w) c2] 24)).alloc (.cells #[.int .i64 0, .slice none 0 0] 24)) = W2 at *
 refine (rvalid_any _ (setN w m) _ (H1.out.raw.extNo hx0)).mono ?_
 rintro e1 w1 ⟨rfl, hx1⟩
 rw [hv1]
 have cA := cellOf (hx1.blk hA no_no)
 have cB := cellOf (hx1.blk hB no_no)
 go_wp2_with fail
 refine (rvalid_any _ (setN w n) _ (H2.out.raw.extNo (hx0.transNo hx1))).mono ?_
 rintro e2 w2 ⟨rfl, hx2⟩
 rw [hv2]
 have hxb := (hx0.transNo hx1).transNo hx2
 have hA2 := hx2.blk (hx1.blk hA no_no) no_no
 have hB2 := hx2.blk (hx1.blk hB no_no) no_no
 have hC2 := hx2.blk (hx1.blk hC no_no) no_no
 clear cA cB hx0 hA hB hC hx1 hx2 hv1 hv2
 have cA := cellOf hA2
 have cB := cellOf hB2
 go_wp2_with fail
 refine (rempty_any w _ hw).mono ?_
 rintro e3 w3 ⟨g3, rfl, hb3, hlo, hx3⟩
 have hszC := lt_of_block (hx3.blk hC2 no_no)
 have hm0 := Lib.hid (show MxM M W (w3.alloc (.cells #[.int .i64 (w : Int), .slice (some ⟨g3, 0, none⟩) (nw w) (nw w)] 24)) w (mixK w fOr m n 0) w3.heap.size (.slice a1 (nw w) c1) (.slice a2 (nw w) c2) (.slice (some ⟨g3, 0, none⟩) (nw w) (nw w)) from
  ⟨(hxb.transNo hx3).alloc _, alloc_under (hx3.blk hA2 no_no), alloc_under (hx3.blk hB2 no_no), alloc_under (hx3.blk hC2 no_no), alloc_top rfl, by
   rw [mixK_zero]
   refine (hb3.out.set (M := fun b => M b ∨ b = W.heap.size + 2 ∨ b = w3.heap.size) hw (Nat.two_pow_pos w) (fun e => ?_)).extNo ((Ext.refl _ _).alloc _)
   have h4 := lt_of_block hC2
   have h5 := lt_of_block hb3.out
   have h6 := hxb.size
   rcases e with e | e | e
   ·have := HM.out _ e; omega
   ·omega
   omega, hszC⟩)
 clear cA cB hA2 hB2 hC2 hb3 hlo hx3 hszC hxb
 go_wp2_with fail
 generalize (w3.alloc (.cells #[.int .i64 (w : Int), .slice (some ⟨g3, 0, none⟩) (nw w) (nw w)] 24)) = V at *
 generalize w3.heap.size = D at *
 go_loopw [13] (fun i wr => ∃ (k : Nat) (ao : Option Addr) (co : Nat), k ≤ w ∧ i = .int .i64 k ∧ Hid (MxM M W wr w (mixK w fOr m n k) D (.slice a1 (nw w) c1) (.slice a2 (nw w) c2) (.slice ao (nw w) co))) (fun i _ => w - (intOf i).toNat)
 case atStart => exact ⟨0, _, _, Nat.zero_le _, rfl, hm0⟩
 clear hm0
 obtain ⟨k, ao, co, hk, rfl, hm⟩ := hrel
 rename World => wr
 have hpos : (0 : Int) ≤ (k : Int) := by omega
 have cA := cellOf hm.out.boxA
 by_cases hlt : k < w
 ·have hlz : (k : Int) < (w : Int) := by omega
  have HKK : Hid (Value.int .i64 ((k : Int) + 1) = .int .i64 ((k + 1 : Nat) : Int)) := Lib.hid (by rw [show ((k + 1 : Nat) : Int) = (k : Int) + 1 from by omega])
  go_wp2_with fail
  have l0 : wr.cell? ⟨W.heap.size, 0, none⟩ = some (.int .i64 (w : Int)) := cA 0
  have l1 : wr.cell? ⟨W.heap.size, 1, none⟩ = some (.slice a1 (nw w) c1) := cA 1
  have l2 : wr.cell? ⟨W.heap.size + 1, 0, none⟩ = some (.int .i64 (w : Int)) := cellOf hm.out.boxB 0
  have l3 : wr.cell? ⟨W.heap.size + 1, 1, none⟩ = some (.slice a2 (nw w) c2) := cellOf hm.out.boxB 1
  have l4 : Ext No wr wr := Ext.refl _ _
  clear cA
  have HH1 := Lib.hid (H1.out.extNo hm.out.ext)
  have HH2 := Lib.hid (H2.out.extNo hm.out.ext)
  obtain ⟨bx, hbx⟩ : ∃ bx, m.testBit k = bx := ⟨_, rfl⟩
  obtain ⟨by', hby⟩ : ∃ by', n.testBit k = by' := ⟨_, rfl⟩
  have HBX := Lib.hid (show hasZ w m (k : Int) = bx from by rw [hasZ_nat hlt]; exact hbx)
  have HBY := Lib.hid (show hasZ w n (k : Int) = by' from by rw [hasZ_nat hlt]; exact hby)
  have HBXX := Lib.hid hbx
  have HBYY := Lib.hid hby
  clear hbx hby
  go_region_held3 (fun w' => w'.cell? ⟨W.heap.size, 0, none⟩ = some (.int .i64 (w : Int)) ∧ w'.cell? ⟨W.heap.size, 1, none⟩ = some (.slice a1 (nw w) c1) ∧ w'.cell? ⟨W.heap.size + 1, 0, none⟩ = some (.int .i64 (w : Int)) ∧ w'.cell? ⟨W.heap.size + 1, 1, none⟩ = some (.slice a2 (nw w) c2) ∧ Ext No wr w')
   ((go_split_ands; refine ⟨?_, ?_, ?_, ?_, ?_⟩ <;> (repeat (first | (with_reducible assumption) | (with_reducible exact Ext.refl _ _) | (with_reducible refine keepD ?_) | (with_reducible refine keepA ?_) | (with_reducible refine Ext.drew ?_) | (with_reducible refine Ext.alloc ?_ _) | (with_reducible refine BoxR.drew ?_) | (with_reducible refine BoxR.alloc ?_ _) | (with_reducible refine BoxR.set ?_ _ _) | ((with_reducible refine keepS ?_ ?_); (first | (with_reducible assumption) | omega | (simp; omega) | (exact Nat.le_refl _))) | (with_reducible refine Ext.setAt ?_ _ _) | ((with_reducible refine Ext.own ?_ ?_ _); rotate_left; (first | (with_reducible assumption) | omega | (simp; omega) | (exact Nat.le_refl _))) | (with_reducible refine keepN hyA ?_) | (with_reducible refine Ext.transNo ?_ hyA) | (with_reducible refine BoxR.ext ?_ hyA)))))
   (first
    | ((go_at_call 50); (try go_split_ands); (with_reducible refine (rhas_b w m bx _ (k : Int) _ HBX.out (HH1.out.extNo ?_)).mono ?_); (with_reducible assumption); (rintro e4 w4 ⟨rfl, hyA⟩); (have hx4 := Ext.transNo (show Ext No wr _ from by with_reducible assumption) hyA))
    | ((go_at_call 50); (try go_split_ands); (with_reducible refine (rhas_b w n by' _ (k : Int) _ HBY.out (HH2.out.extNo ?_)).mono ?_); (with_reducible assumption); (rintro e5 w5 ⟨rfl, hyA⟩); (have hx5 := Ext.transNo (show Ext No wr _ from by with_reducible assumption) hyA)))
  have hm2 := Lib.hid (hm.out.stepNo hx5)
  clear hm
  have hbx := HBXX.out
  have hby := HBYY.out
  clear HBX HBY HBXX HBYY HH1 HH2
  cases bx <;> cases by'
  ·have HF : Hid (fOr (m.testBit k) (n.testBit k) = false) := Lib.hid (by rw [hbx, hby]; rfl)
   clear hbx hby
   have HV := Lib.hid (mixK_no (w := w) HF.out)
   go_wp2_with fail
   go_roundw
   case rel => exact ⟨k + 1, _, _, by omega, HKK.out, by rw [HV.out]; exact hm2⟩
   case measure => simp [intOf]; omega
  ·have HF : Hid (fOr (m.testBit k) (n.testBit k) = true) := Lib.hid (by rw [hbx, hby]; rfl)
   clear hbx hby
   have HV := Lib.hid (mixK_yes (w := w) hlt HF.out)
   have cD := cellOf hm2.out.boxD
   go_wp2_with fail
   clear cD
   refine (rput_any w (mixK w fOr m n k) k _ _ hlt hm2.out.set.no).mono ?_
   rintro e5 w5 ⟨g5, rfl, hb5, hlo, hy5⟩
   have hm5 := Lib.hid (hm2.out.stepNo hy5)
   have hset := hb5.out.set (M := fun b => M b ∨ b = W.heap.size + 2 ∨ b = D) hw (orN_lt (mixK_lt w fOr m n k) (bitN_lt hlt)) (fun e => by have := hm2.out.hM HM.out g5 e; omega)
   have HP := Lib.hid (hm5.out.put hset)
   have cD := cellOf hm5.out.boxD
   have fD := freeOf hm5.out.boxD
   clear hm2 hset hlo hb5 hy5
   go_wp2_with fail
   clear cD fD
   go_roundw
   case rel => exact ⟨k + 1, _, _, by omega, HKK.out, by rw [HV.out]; exact HP⟩
   case measure => simp [intOf]; omega
  ·have HF : Hid (fOr (m.testBit k) (n.testBit k) = true) := Lib.hid (by rw [hbx, hby]; rfl)
   clear hbx hby
   have HV := Lib.hid (mixK_yes (w := w) hlt HF.out)
   have cD := cellOf hm2.out.boxD
   go_wp2_with fail
   clear cD
   refine (rput_any w (mixK w fOr m n k) k _ _ hlt hm2.out.set.no).mono ?_
   rintro e5 w5 ⟨g5, rfl, hb5, hlo, hy5⟩
   have hm5 := Lib.hid (hm2.out.stepNo hy5)
   have hset := hb5.out.set (M := fun b => M b ∨ b = W.heap.size + 2 ∨ b = D) hw (orN_lt (mixK_lt w fOr m n k) (bitN_lt hlt)) (fun e => by have := hm2.out.hM HM.out g5 e; omega)
   have HP := Lib.hid (hm5.out.put hset)
   have cD := cellOf hm5.out.boxD
   have fD := freeOf hm5.out.boxD
   clear hm2 hset hlo hb5 hy5
   go_wp2_with fail
   clear cD fD
   go_roundw
   case rel => exact ⟨k + 1, _, _, by omega, HKK.out, by rw [HV.out]; exact HP⟩
   case measure => simp [intOf]; omega
  have HF : Hid (fOr (m.testBit k) (n.testBit k) = true) := Lib.hid (by rw [hbx, hby]; rfl)
  clear hbx hby
  have HV := Lib.hid (mixK_yes (w := w) hlt HF.out)
  have cD := cellOf hm2.out.boxD
  go_wp2_with fail
  clear cD
  refine (rput_any w (mixK w fOr m n k) k _ _ hlt hm2.out.set.no).mono ?_
  rintro e5 w5 ⟨g5, rfl, hb5, hlo, hy5⟩
  have hm5 := Lib.hid (hm2.out.stepNo hy5)
  have hset := hb5.out.set (M := fun b => M b ∨ b = W.heap.size + 2 ∨ b = D) hw (orN_lt (mixK_lt w fOr m n k) (bitN_lt hlt)) (fun e => by have := hm2.out.hM HM.out g5 e; omega)
  have HP := Lib.hid (hm5.out.put hset)
  have cD := cellOf hm5.out.boxD
  have fD := freeOf hm5.out.boxD
  clear hm2 hset hlo hb5 hy5
  go_wp2_with fail
  clear cD fD
  go_roundw
  case rel => exact ⟨k + 1, _, _, by omega, HKK.out, by rw [HV.out]; exact HP⟩
  case measure => simp [intOf]; omega
 obtain rfl : k = w := by omega
 have hge : ¬ (k : Int) < (k : Int) := by omega
 have cD := cellOf hm.out.boxD
 have cC := cellOf hm.out.boxC
 have fC := freeOf hm.out.boxC
 have hne : ¬ W.heap.size + 2 = D := by have := hm.out.big; omega
 go_wp2_with fail
 have hE : Ext (At (W.heap.size + 2)) wr ((wr.setCell ⟨W.heap.size + 2, 0, none⟩ (.int .i64 (k : Int))).setCell ⟨W.heap.size + 2, 1, none⟩ (.slice ao (nw k) co)) := ((Ext.refl (At (W.heap.size + 2)) _).setAt _ _).setAt _ _
 have hbF := (set_same (j := 1) (u := .slice ao (nw k) co) (set_same (j := 0) (u := .int .i64 (k : Int)) hm.out.boxC)).trans rfl
 clear cA cD cC fC
 generalize ((wr.setCell ⟨W.heap.size + 2, 0, none⟩ (.int .i64 (k : Int))).setCell ⟨W.heap.size + 2, 1, none⟩ (.slice ao (nw k) co)) = WF at *
 have cF := cellOf hbF
 refine ret_ex rfl ?_
 simp [results, Tryd.results102, go_sem, cF]
 rw [mixK_or H1.out.hm H2.out.hm] at hm
 exact ⟨_, _, rfl, Lib.hid ((hm.out.set.ext hE (fun i _ e => .inr (.inl e))).mono (fun i _ e => .inl e)), hm.out.ext.trans2 hE (fun i hi e => by unfold At at e; omega)⟩
set_option maxHeartbeats 1000000 in
theorem runion_any (M : Nat → Prop) (w m n : Nat) (s1 s2 : Value) (W : World) (hM : ∀ b, M b → b < W.heap.size) (h1 : SetAt No W s1 w m) (h2 : SetAt No W s2 w n) :
  Calls Tryd.prog 81 #[.agg #[.int .i64 (w : Int), s1], .agg #[.int .i64 (w : Int), s2]] W (SetEPost M w (orN m n) W) := by
 have H1 := Lib.hid h1
 have H2 := Lib.hid h2
 have HM := Lib.hid hM
 obtain ⟨a1, c1, rfl⟩ := h1.slice
 obtain ⟨a2, c2, rfl⟩ := h2.slice
 clear h1 h2 hM
 go_enter Tryd.func81, Tryd.ntmps81
 go_wp2_with fail
 have hx0 : Ext No W (((W.alloc (.cells #[.int .i64 (w : Int), .slice a1 (nw w) c1] 24)).alloc (.cells #[.int .i64 (w : Int), .slice a2 (nw w) c2] 24)).alloc (.cells #[.int .i64 0, .slice none 0 0] 24)) := (((Ext.refl _ _).alloc _).alloc _).alloc _
 have hC : (((W.alloc (.cells #[.int .i64 (w : Int), .slice a1 (nw w) c1] 24)).alloc (.cells #[.int .i64 (w : Int), .slice a2 (nw w) c2] 24)).alloc (.cells #[.int .i64 0, .slice none 0 0] 24)).heap[W.heap.size + 2]? = some (.cells #[.int .i64 0, .slice none 0 0] 24 (0, 0)) := alloc_top (by simp)
 generalize (((W.alloc (.cells #[.int .i64 (w : Int), .slice a1 (nw w) c1] 24)).alloc (.cells #[.int .i64 (w : Int), .slice a2 (nw w) c2] 24)).alloc (.cells #[.int .i64 0, .slice none 0 0] 24)) = W2 at *
 have hC1 := lt_of_block hC
 refine (rmixU_any (fun b => M b ∨ b = W.heap.size + 2) w m n _ _ _ (fun b hb => ?_) (H1.out.extNo hx0) (H2.out.extNo hx0)).mono ?_
 ·rcases hb with hb | rfl
  ·exact Nat.lt_of_lt_of_le (HM.out b hb) hx0.size
  exact hC1
 rintro e1 w1 ⟨a, c, rfl, hs, hx1⟩
 have hC2 := hx1.blk hC no_no
 have cC := cellOf hC2
 have fC := freeOf hC2
 have hxa := hx0.transNo hx1
 clear hx0 hx1 hC hC1
 go_wp2_with fail
 have hE : Ext (At (W.heap.size + 2)) w1 ((w1.setCell ⟨W.heap.size + 2, 0, none⟩ (.int .i64 (w : Int))).setCell ⟨W.heap.size + 2, 1, none⟩ (.slice a (nw w) c)) := ((Ext.refl (At (W.heap.size + 2)) _).setAt _ _).setAt _ _
 have hbF := (set_same (j := 1) (u := .slice a (nw w) c) (set_same (j := 0) (u := .int .i64 (w : Int)) hC2)).trans rfl
 clear cC fC
 generalize ((w1.setCell ⟨W.heap.size + 2, 0, none⟩ (.int .i64 (w : Int))).setCell ⟨W.heap.size + 2, 1, none⟩ (.slice a (nw w) c)) = WF at *
 have cF := cellOf hbF
 refine ret_ex rfl ?_
 simp [results, Tryd.results81, go_sem, cF]
 exact ⟨_, _, rfl, Lib.hid ((hs.out.ext hE (fun i _ e => .inr e)).mono (fun i _ e => .inl e)), hxa.trans2 hE (fun i hi e => by unfold At at e; omega)⟩
set_option maxHeartbeats 1000000 in
theorem rjoin_any (M : Nat → Prop) (w m n : Nat) (s1 s2 : Value) (W : World) (hM : ∀ b, M b → b < W.heap.size) (h1 : SetAt No W s1 w m) (h2 : SetAt No W s2 w n) :
  Calls Tryd.prog 51 #[.agg #[.int .i64 (w : Int), s1], .agg #[.int .i64 (w : Int), s2]] W (SetPost M w (orN m n) W) := by
 have H1 := Lib.hid h1
 have H2 := Lib.hid h2
 have HM := Lib.hid hM
 obtain ⟨a1, c1, rfl⟩ := h1.slice
 obtain ⟨a2, c2, rfl⟩ := h2.slice
 clear h1 h2 hM
 go_enter Tryd.func51, Tryd.ntmps51
 go_wp2_with fail
 have hx0 : Ext No W (((W.alloc (.cells #[.int .i64 (w : Int), .slice a1 (nw w) c1] 24)).alloc (.cells #[.int .i64 (w : Int), .slice a2 (nw w) c2] 24)).alloc (.cells #[.int .i64 0, .slice none 0 0] 24)) := (((Ext.refl _ _).alloc _).alloc _).alloc _
 have hC : (((W.alloc (.cells #[.int .i64 (w : Int), .slice a1 (nw w) c1] 24)).alloc (.cells #[.int .i64 (w : Int), .slice a2 (nw w) c2] 24)).alloc (.cells #[.int .i64 0, .slice none 0 0] 24)).heap[W.heap.size + 2]? = some (.cells #[.int .i64 0, .slice none 0 0] 24 (0, 0)) := alloc_top (by simp)
 generalize (((W.alloc (.cells #[.int .i64 (w : Int), .slice a1 (nw w) c1] 24)).alloc (.cells #[.int .i64 (w : Int), .slice a2 (nw w) c2] 24)).alloc (.cells #[.int .i64 0, .slice none 0 0] 24)) = W2 at *
 have hC1 := lt_of_block hC
 refine (runion_any (fun b => M b ∨ b = W.heap.size + 2) w m n _ _ _ (fun b hb => ?_) (H1.out.extNo hx0) (H2.out.extNo hx0)).mono ?_
 ·rcases hb with hb | rfl
  ·exact Nat.lt_of_lt_of_le (HM.out b hb) hx0.size
  exact hC1
 rintro e1 w1 ⟨a, c, rfl, hs, hx1⟩
 have hy : Ext No w1 (w1.alloc (.cells #[.int .i64 (w : Int), .slice a (nw w) c] 24)) := (Ext.refl _ _).alloc _
 have hC2 := hy.blk (hx1.blk hC no_no) no_no
 have hD2 := alloc_top (w := w1) (o := .cells #[.int .i64 (w : Int), .slice a (nw w) c] 24) rfl
 have cC := cellOf hC2
 have fC := freeOf hC2
 have cD := cellOf hD2
 have hxa := (hx0.transNo hx1).transNo hy
 have hs2 := Lib.hid (hs.out.extNo hy)
 have hne : ¬ W.heap.size + 2 = w1.heap.size := by have := lt_of_block (hx1.blk hC no_no); omega
 clear hx0 hx1 hC hC1 hs hy
 go_wp2_with fail
 generalize (w1.alloc (.cells #[.int .i64 (w : Int), .slice a (nw w) c] 24)) = w2 at *
 have hE : Ext (At (W.heap.size + 2)) w2 ((w2.setCell ⟨W.heap.size + 2, 0, none⟩ (.int .i64 (w : Int))).setCell ⟨W.heap.size + 2, 1, none⟩ (.slice a (nw w) c)) := ((Ext.refl (At (W.heap.size + 2)) _).setAt _ _).setAt _ _
 have hbF := (set_same (j := 1) (u := .slice a (nw w) c) (set_same (j := 0) (u := .int .i64 (w : Int)) hC2)).trans rfl
 clear cC fC cD
 generalize ((w2.setCell ⟨W.heap.size + 2, 0, none⟩ (.int .i64 (w : Int))).setCell ⟨W.heap.size + 2, 1, none⟩ (.slice a (nw w) c)) = WF at *
 have cF := cellOf hbF
 refine ret_ex rfl ?_
 simp [results, Tryd.results51, go_sem, cF]
 exact ⟨_, _, rfl, Lib.hid ((hs2.out.ext hE (fun i _ e => .inr e)).mono (fun i _ e => .inl e)), hxa.trans2 hE (fun i hi e => by unfold At at e; omega)⟩

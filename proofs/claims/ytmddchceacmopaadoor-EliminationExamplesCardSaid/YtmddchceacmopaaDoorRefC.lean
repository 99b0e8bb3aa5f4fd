
import Derived.Test.YtmddchceacmopaaDoorRefB
set_option linter.unusedVariables false
set_option linter.unusedSimpArgs false
namespace Go.Proofs.YtmddchceacmopaaDoor
open Go Go.RowKit
def valN (t : TrD) (s a : Nat) : Nat := bitsN t.w fun j => inK t s j a
def valB (t : TrD) (s a b : Nat) : Nat := bitsN t.w fun j => inK t s j a || (hasZ t.w s a && (decide (j < b) && followsB t a j))
theorem valB_lt (t : TrD) (s a b : Nat) : valB t s a b < 2 ^ t.w := bitsN_lt _ _
theorem valN_zero {t : TrD} (ho : TrOk t) (s : Nat) : valN t s 0 = t.gen := (bitsN_eq ho.gen (fun b hb => (hasZ_nat hb).symm)).symm
theorem valN_last {t : TrD} (ho : TrOk t) {s : Nat} (hs : s < 2 ^ t.w) : valN t s t.w = applyT t s := (bitsN_eq (applyT_lt ho hs) (fun b hb => by rw [← hasZ_nat hb]; exact apply_law ho hb)).symm
theorem valB_zero (t : TrD) (s a : Nat) : valB t s a 0 = valN t s a := bitsN_congr (fun j _ => by simp)
theorem valB_end {t : TrD} {s a b : Nat} (h : hasZ t.w s a = false ∨ b = t.w) : valB t s a b = valN t s (a + 1) := bitsN_congr (fun j hj => by
 rw [inK]
 rcases h with h | h
 ·simp [h]
 subst h; simp [hj])
theorem valB_yes {t : TrD} {s a b : Nat} (hb : b < t.w) (h : hasZ t.w s a = true) (hf : followsB t a b = true) : valB t s a (b + 1) = valB t s a b ||| 2 ^ b := by
 refine bits_ext (valB_lt t s a (b + 1)) (orN_lt (valB_lt t s a b) (bitN_lt hb)) (fun j hj => ?_)
 rw [or_bit]
 unfold valB
 rw [bitsN_bit, bitsN_bit, h]
 by_cases e : b = j
 ·subst e; simp [hf, hj]
 have : decide (j < b + 1) = decide (j < b) := by rw [decide_eq_decide]; omega
 simp [this, e]
theorem valB_no {t : TrD} {s a b : Nat} (hf : followsB t a b = false) : valB t s a (b + 1) = valB t s a b := bitsN_congr (fun j _ => by
 by_cases e : b = j
 ·subst e; simp [hf]
 have : decide (j < b + 1) = decide (j < b) := by rw [decide_eq_decide]; omega
 simp [this])
set_option maxRecDepth 100000 in
set_option maxHeartbeats 4000000 in
theorem rvalue_any (M : Nat → Prop) (t : TrD) (w s : Nat) (sg sk sc ss : Value) (W : World) (hw : t.w = w) (hM : ∀ b, M b → b < W.heap.size) (h : TrAt M W sg sk sc t) (hs : SetAt No W ss w s) :
  Calls Tryd.prog 49 #[.agg #[.int .i64 (w : Int), sg, .int .i64 (w : Int), sk, sc], .agg #[.int .i64 (w : Int), ss]] W (SetPost M w (applyT t s) W) := by
 subst hw
 have H := Lib.hid h
 have HS := Lib.hid hs
 have HM := Lib.hid hM
 obtain ⟨ag, cg, rfl⟩ := h.gen.slice
 obtain ⟨ak, ck, rfl⟩ := h.kill.slice
 obtain ⟨ac, cc, rfl⟩ := Row.slice h.copies
 obtain ⟨a1, c1, rfl⟩ := hs.slice
 have hw := hs.hw
 have HO := Lib.hid h.ok
 clear h hs hM
 go_enter Tryd.func49, Tryd.ntmps49
 go_wp2_with fail
 have hm0 := Lib.hid (show ApMem M W ((((W.alloc (.cells #[.int .i64 (t.w : Int), .slice ag (nw t.w) cg, .int .i64 (t.w : Int), .slice ak (nw t.w) ck, .slice ac t.copies.length cc] 30)).alloc (.cells #[.int .i64 (t.w : Int), .slice a1 (nw t.w) c1] 24)).alloc (.cells #[.int .i64 0, .slice none 0 0] 24)).alloc (.cells #[.int .i64 (t.w : Int), .slice ag (nw t.w) cg] 24)) t s (valN t s 0) (W.heap.size + 3) (.slice ag (nw t.w) cg) (.slice ak (nw t.w) ck) (.slice ac t.copies.length cc) (.slice a1 (nw t.w) c1) (.slice ag (nw t.w) cg) from
  ⟨((((Ext.refl _ _).alloc _).alloc _).alloc _).alloc _, alloc_under (alloc_under (alloc_under (alloc_top rfl))), alloc_under (alloc_under (alloc_top (by simp))), alloc_under (alloc_top (by simp)), alloc_top (by simp),
   by rw [valN_zero HO.out]; exact (H.out.gen.mono (fun i hi e => by rcases e with e | e | e; exact e; omega; omega)).extNo (((((Ext.refl _ _).alloc _).alloc _).alloc _).alloc _), by omega⟩)
 generalize ((((W.alloc (.cells #[.int .i64 (t.w : Int), .slice ag (nw t.w) cg, .int .i64 (t.w : Int), .slice ak (nw t.w) ck, .slice ac t.copies.length cc] 30)).alloc (.cells #[.int .i64 (t.w : Int), .slice a1 (nw t.w) c1] 24)).alloc (.cells #[.int .i64 0, .slice none 0 0] 24)).alloc (.cells #[.int .i64 (t.w : Int), .slice ag (nw t.w) cg] 24)) = W0 at *
 go_loopw [6] (fun i wr => ∃ (a : Nat) (ao : Option Addr) (co : Nat), a ≤ t.w ∧ i = .int .i64 a ∧ Hid (ApMem M W wr t s (valN t s a) (W.heap.size + 3) (.slice ag (nw t.w) cg) (.slice ak (nw t.w) ck) (.slice ac t.copies.length cc) (.slice a1 (nw t.w) c1) (.slice ao (nw t.w) co))) (fun i _ => t.w - (intOf i).toNat)
 case atStart => exact ⟨0, _, _, Nat.zero_le _, rfl, hm0⟩
 clear hm0
 obtain ⟨a, ao, co, ha, rfl, hm⟩ := hrel
 rename World => wr
 have hpos : (0 : Int) ≤ (a : Int) := by omega
 by_cases hlt : a < t.w
 ·have hlz : (a : Int) < (t.w : Int) := by omega
  have HKK : Hid (Value.int .i64 ((a : Int) + 1) = .int .i64 ((a + 1 : Nat) : Int)) := Lib.hid (by rw [show ((a + 1 : Nat) : Int) = (a : Int) + 1 from by omega])
  have cS := cellOf hm.out.boxS
  go_wp2_with fail
  clear cS
  rw [← valB_zero] at hm
  go_loopw [7] (fun i wr => ∃ (b : Nat) (ao : Option Addr) (co : Nat), b ≤ t.w ∧ i = .int .i64 b ∧ Hid (ApMem M W wr t s (valB t s a b) (W.heap.size + 3) (.slice ag (nw t.w) cg) (.slice ak (nw t.w) ck) (.slice ac t.copies.length cc) (.slice a1 (nw t.w) c1) (.slice ao (nw t.w) co))) (fun i _ => t.w - (intOf i).toNat)
  case atStart => exact ⟨0, _, _, Nat.zero_le _, rfl, hm⟩
  clear hm
  obtain ⟨b, ap, cp, hb, rfl, hm⟩ := hrel
  rename World => wi
  have hposb : (0 : Int) ≤ (b : Int) := by omega
  have cS := cellOf hm.out.boxS
  go_wp2_with fail
  clear cS
  refine (rhas_any t.w s _ (a : Int) _ (HS.out.extNo hm.out.ext)).mono ?_
  rintro e1 w1 ⟨he1, hy1⟩
  have hm1 := Lib.hid (hm.out.stepNo hy1)
  clear hm hy1
  have cS := cellOf hm1.out.boxS
  cases hh : hasZ t.w s (a : Int)
  ·rw [hh] at he1
   subst he1
   have HV := Lib.hid (valB_end (t := t) (s := s) (a := a) (b := b) (.inl hh))
   clear hh
   go_wp2_with fail
   go_roundw
   case rel => exact ⟨a + 1, _, _, by omega, HKK.out, by rw [← HV.out]; exact hm1⟩
   case measure => simp [intOf]; omega
  rw [hh] at he1
  subst he1
  have HH := Lib.hid hh
  clear hh
  by_cases hlb : b < t.w
  ·have hlbz : (b : Int) < (t.w : Int) := by omega
   have HKB : Hid (Value.int .i64 ((b : Int) + 1) = .int .i64 ((b + 1 : Nat) : Int)) := Lib.hid (by rw [show ((b + 1 : Nat) : Int) = (b : Int) + 1 from by omega])
   have cT := cellOf hm1.out.boxT
   go_wp2_with fail
   clear cS cT
   refine (rfollows_any t t.w _ _ _ (a : Int) (b : Int) _ rfl (H.out.no.extNo hm1.out.ext)).mono ?_
   rintro e2 w2 ⟨he2, hy2⟩
   have hm2 := Lib.hid (hm1.out.stepNo hy2)
   clear hm1 hy2
   cases hf : followsB t (a : Int) (b : Int)
   ·rw [hf] at he2
    subst he2
    have HV := Lib.hid (valB_no (t := t) (s := s) (a := a) (b := b) hf)
    clear hf
    go_wp2_with fail
    go_roundw
    case rel => exact ⟨b + 1, _, _, by omega, HKB.out, by rw [HV.out]; exact hm2⟩
    case measure => simp [intOf]; omega
   rw [hf] at he2
   subst he2
   have HV := Lib.hid (valB_yes hlb HH.out hf)
   clear hf
   have cD := cellOf hm2.out.boxD
   go_wp2_with fail
   clear cD
   refine (rput_any t.w (valB t s a b) b _ _ hlb hm2.out.set.no).mono ?_
   rintro e3 w3 ⟨g, rfl, hbg, hlo, hy3⟩
   have hm3 := Lib.hid (hm2.out.stepNo hy3)
   have hset := hbg.out.set (M := fun b => M b ∨ b = W.heap.size + 2 ∨ b = W.heap.size + 3) hw (orN_lt (valB_lt t s a b) (bitN_lt hlb)) (fun e => by have := hm2.out.hM HM.out g e; omega)
   have hput := hm3.out.put hset
   have cD := cellOf hm3.out.boxD
   have fD := freeOf hm3.out.boxD
   have HP := Lib.hid hput
   clear hm2 hset hput hlo hbg hy3
   go_wp2_with fail
   clear cD fD
   go_roundw
   case rel => exact ⟨b + 1, _, _, by omega, HKB.out, by rw [HV.out]; exact HP⟩
   case measure => simp [intOf]; omega
  obtain rfl : b = t.w := by omega
  have hge : ¬ (t.w : Int) < (t.w : Int) := by omega
  have HV := Lib.hid (valB_end (t := t) (s := s) (a := a) (b := t.w) (.inr rfl))
  go_wp2_with fail
  go_roundw
  case rel => exact ⟨a + 1, _, _, by omega, HKK.out, by rw [← HV.out]; exact hm1⟩
  case measure => simp [intOf]; omega
 obtain rfl : a = t.w := by omega
 have hge : ¬ (t.w : Int) < (t.w : Int) := by omega
 have cS := cellOf hm.out.boxS
 have cD := cellOf hm.out.boxD
 have cC := cellOf hm.out.boxC
 have fC := freeOf hm.out.boxC
 have hne : ¬ W.heap.size + 2 = W.heap.size + 3 := by omega
 go_wp2_with fail
 have hE : Ext (At (W.heap.size + 2)) wr ((wr.setCell ⟨W.heap.size + 2, 0, none⟩ (.int .i64 (t.w : Int))).setCell ⟨W.heap.size + 2, 1, none⟩ (.slice ao (nw t.w) co)) := ((Ext.refl (At (W.heap.size + 2)) _).setAt _ _).setAt _ _
 have hbF := (set_same (j := 1) (u := .slice ao (nw t.w) co) (set_same (j := 0) (u := .int .i64 (t.w : Int)) hm.out.boxC)).trans rfl
 clear cS cD cC fC
 generalize ((wr.setCell ⟨W.heap.size + 2, 0, none⟩ (.int .i64 (t.w : Int))).setCell ⟨W.heap.size + 2, 1, none⟩ (.slice ao (nw t.w) co)) = WF at *
 have cF := cellOf hbF
 refine ret_ex rfl ?_
 simp [results, Tryd.results49, go_sem, cF]
 rw [valN_last HO.out HS.out.hm] at hm
 exact ⟨_, _, rfl, Lib.hid ((hm.out.set.ext hE (fun i _ e => .inr (.inl e))).mono (fun i _ e => .inl e)), hm.out.ext.trans2 hE (fun i hi e => by unfold At at e; omega)⟩

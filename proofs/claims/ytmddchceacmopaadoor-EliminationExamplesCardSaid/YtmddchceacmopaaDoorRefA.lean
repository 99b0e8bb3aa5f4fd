
import Derived.Test.YtmddchceacmopaaDoorTr32
import Derived.Test.YtmddchceacmopaaDoorTr34
import Derived.Test.YtmddchceacmopaaDoorREq
set_option linter.unusedVariables false
set_option linter.unusedSimpArgs false
namespace Go.Proofs.YtmddchceacmopaaDoor
open Go Go.RowKit
theorem membersN_congr {w m m' : Nat} (h : ∀ b, b < w → m.testBit b = m'.testBit b) : membersN w m = membersN w m' := by
 unfold membersN
 rw [List.filter_congr (fun b hb => h b (List.mem_range.1 hb))]
theorem copTo_congr {w g : Nat} {rs rs' : List Nat} (h : ∀ a b, a < w → b < w → g.testBit b = false → (rowAt rs a).testBit b = (rowAt rs' a).testBit b) : ∀ k, k ≤ w → copTo w g rs k = copTo w g rs' k
 | 0, _ => rfl
 | k + 1, hk => by
  have e : membersN w (diffN (rowAt rs k) g) = membersN w (diffN (rowAt rs' k) g) := membersN_congr (fun b hb => by
   rw [diffN_bit, diffN_bit]
   cases hg : g.testBit b with
   | true => simp
   | false => rw [h k b (by omega) hb hg])
  rw [copTo, copTo, copTo_congr h k (by omega), e]
theorem killTo_congr {w g : Nat} {rs rs' : List Nat} (hg : g < 2 ^ w) (h : ∀ a b, a < w → b < w → g.testBit b = false → (rowAt rs a).testBit b = (rowAt rs' a).testBit b) : killTo w g rs w = killTo w g rs' w := by
 refine bits_ext (killTo_lt hg w (Nat.le_refl _)) (killTo_lt hg w (Nat.le_refl _)) (fun b hb => ?_)
 rw [killTo_bit, killTo_bit, hasZ_nat hb, hasZ_nat hb]
 cases hgb : g.testBit b with
 | true => rfl
 | false => rw [h b b hb hb hgb]
theorem bool_ext {a b : Bool} (h : a = true ↔ b = true) : a = b := by cases a <;> cases b <;> simp_all
theorem applyT_lt {t : TrD} {s : Nat} (ho : TrOk t) (hs : s < 2 ^ t.w) : applyT t s < 2 ^ t.w := applyN_lt ho hs _
end Go.Proofs.YtmddchceacmopaaDoor

namespace Go.Proofs.YtmddchceacmopaaDoor
open Go Go.RowKit
theorem BlkW.setNo {w m g : Nat} {w' : World} (h : BlkW w' g w m) (hw : w ≤ 256) (hm : m < 2 ^ w) : SetAt No w' (.slice (some ⟨g, 0, none⟩) (nw w) (nw w)) w m := h.set hw hm no_no
theorem SetAt.early {L m D : Nat} {w7 : World} {sl u0 u1 : Value} (h : SetAt (Lo L) w7 sl 2 m) (hlt : D < L) : SetAt No ((w7.setCell ⟨D, 0, none⟩ u0).setCell ⟨D, 1, none⟩ u1) sl 2 m :=
 (h.ext (ext_two (W := w7) (w1 := w7) (Ext.refl _ _) D) (fun i _ e => by cases e; exact hlt)).no
end Go.Proofs.YtmddchceacmopaaDoor

namespace Go.Proofs.YtmddchceacmopaaDoor
open Go Go.RowKit
theorem small_len {w gen : Nat} {rs : List Nat} (h8 : w ≤ 8) : (copTo w gen rs w).length ≤ 64 := Nat.le_trans (copTo_len w gen rs w) (Nat.mul_le_mul h8 h8)
end Go.Proofs.YtmddchceacmopaaDoor

namespace Go.Proofs.YtmddchceacmopaaDoor
open Go Go.RowKit
section
variable {M M' : Nat → Prop} {D w n m : Nat} {t : TrD} {ag ak ac a : Option Addr} {cg ck cc c : Nat} {wr w' : World}
theorem TrAt.early (h : TrAt M wr (.slice ag (nw w) cg) (.slice ak (nw w) ck) (.slice ac n cc) t) (hM : ∀ i, M' i → wr.heap.size ≤ i) : TrAt M' wr (.slice ag (nw w) cg) (.slice ak (nw w) ck) (.slice ac n cc) t := h.mono (fun i hi e => absurd hi (Nat.not_lt.2 (hM i e)))
end
def TrWM (M : Nat → Prop) (w : Nat) (t' : TrD) (W : World) (e : Ending) (w' : World) : Prop :=
 ∃ ag cg ak ck ac n cc, e = .returned (.tuple #[.agg #[.int .i64 (w : Int), .slice ag (nw w) cg, .int .i64 (w : Int), .slice ak (nw w) ck, .slice ac n cc], .int .i64 0]) ∧
  Hid (TrAt M w' (.slice ag (nw w) cg) (.slice ak (nw w) ck) (.slice ac n cc) t') ∧ Ext No W w'
theorem ClosePost.smallM {M : Nat → Prop} {w gen : Nat} {rs : List Nat} {W w' : World} {e : Ending} (h : ClosePost M w gen rs W e w') (h8 : w ≤ 8) : TrWM M w (closeT w gen rs) W e w' := by
 obtain ⟨ag, cg, ak, ck, ac, cc, h1, h2, h3⟩ := h.1 (small_len h8)
 exact ⟨ag, cg, ak, ck, ac, _, cc, h1, h2, h3⟩
theorem star8M (M : Nat → Prop) (t : TrD) (w : Nat) (g1 k1 c1 : Value) (W : World) (hw : t.w = w) (hM : ∀ b, M b → b < W.heap.size) (h8 : w ≤ 8) (hT : TabW W) (h1 : TrAt No W g1 k1 c1 t) :
  Calls Tryd.prog 67 #[.agg #[.int .i64 (w : Int), g1, .int .i64 (w : Int), k1, c1]] W (TrWM M w (starT t) W) := by
 subst hw
 exact (star_any M t _ _ _ _ hM hT h1).mono (fun _ _ h => h.smallM h8)
theorem join8M (M : Nat → Prop) (t u : TrD) (w : Nat) (g1 k1 c1 g2 k2 c2 : Value) (W : World) (hw : t.w = w) (hu : u.w = w) (hM : ∀ b, M b → b < W.heap.size) (h8 : w ≤ 8) (hT : TabW W) (h1 : TrAt No W g1 k1 c1 t) (h2 : TrAt No W g2 k2 c2 u) :
  Calls Tryd.prog 77 #[.agg #[.int .i64 (w : Int), g1, .int .i64 (w : Int), k1, c1], .agg #[.int .i64 (w : Int), g2, .int .i64 (w : Int), k2, c2]] W (TrWM M w (joinT t u) W) := by
 subst hw
 exact (join_any M t u _ _ _ _ _ _ _ hM hT h1 h2 hu).mono (fun _ _ h => h.smallM h8)
theorem comp8M (M : Nat → Prop) (t u : TrD) (w : Nat) (g1 k1 c1 g2 k2 c2 : Value) (W : World) (hw : t.w = w) (hu : u.w = w) (hM : ∀ b, M b → b < W.heap.size) (h8 : w ≤ 8) (hT : TabW W) (h1 : TrAt No W g1 k1 c1 t) (h2 : TrAt No W g2 k2 c2 u) :
  Calls Tryd.prog 46 #[.agg #[.int .i64 (w : Int), g1, .int .i64 (w : Int), k1, c1], .agg #[.int .i64 (w : Int), g2, .int .i64 (w : Int), k2, c2]] W (TrWM M w (compT t u) W) := by
 subst hw
 exact (compose_any M t u _ _ _ _ _ _ _ hM hT h1 h2 hu).mono (fun _ _ h => h.smallM h8)
def eqD (t u : TrD) : Bool := eqT (rawT t) (rawT u)
theorem eqD_iff {t u : TrD} (ht : TrOk t) (hu : TrOk u) : eqD t u = true ↔ t = u := by
 constructor
 ·intro h
  simp only [eqD, eqT, sameB, Bool.and_eq_true, decide_eq_true_eq] at h
  obtain ⟨⟨h1, h2⟩, ⟨_, h3⟩, h4⟩ := h
  obtain ⟨tw, tg, tk, tc⟩ := t
  obtain ⟨uw, ug, uk, uc⟩ := u
  simp only [rawT, setN] at h1 h2 h3 h4
  have e : tw = uw := by omega
  subst e
  obtain rfl : tg = ug := wordsN_inj ht.gen hu.gen h2
  obtain rfl : tk = uk := wordsN_inj ht.kill hu.kill h3
  rw [h4]
 rintro rfl
 simp [eqD, eqT, sameB]
theorem requals_w (t u : TrD) (w : Nat) (g1 k1 c1 g2 k2 c2 : Value) (W : World) (hw : t.w = w) (hu : u.w = w) (h1 : TrAt No W g1 k1 c1 t) (h2 : TrAt No W g2 k2 c2 u) :
  Calls Tryd.prog 9 #[.agg #[.int .i64 (w : Int), g1, .int .i64 (w : Int), k1, c1], .agg #[.int .i64 (w : Int), g2, .int .i64 (w : Int), k2, c2]] W (BoolPost (eqD t u) W) := by
 subst hw
 have := requals_any (rawT t) (rawT u) g1 k1 c1 g2 k2 c2 W h1.raw h2.raw
 have e : ((rawT u).gen.width, (rawT u).kill.width) = (((t.w : Nat) : Int), ((t.w : Nat) : Int)) := by rw [← hu]; rfl
 rw [show (rawT u).gen.width = ((t.w : Nat) : Int) from congrArg Prod.fst e, show (rawT u).kill.width = ((t.w : Nat) : Int) from congrArg Prod.snd e] at this
 exact this
theorem requals_true (t u : TrD) (w : Nat) (g1 k1 c1 g2 k2 c2 : Value) (W : World) (hw : t.w = w) (hu : u.w = w) (e : u = t) (h1 : TrAt No W g1 k1 c1 t) (h2 : TrAt No W g2 k2 c2 u) :
  Calls Tryd.prog 9 #[.agg #[.int .i64 (w : Int), g1, .int .i64 (w : Int), k1, c1], .agg #[.int .i64 (w : Int), g2, .int .i64 (w : Int), k2, c2]] W (BoolPost true W) := by
 have := requals_w t u w g1 k1 c1 g2 k2 c2 W hw hu h1 h2
 rw [(eqD_iff h1.ok h2.ok).2 e.symm] at this
 exact this
end Go.Proofs.YtmddchceacmopaaDoor

namespace Go.Proofs.YtmddchceacmopaaDoor
open Go Go.RowKit
def beforeB (a b : Int × Int) : Bool := decide (a.1 < b.1) || (decide (a.1 = b.1) && decide (a.2 < b.2))
theorem before_cmp (a b : Int × Int) : beforeB a b = decide (compareZ a b < 0) := by
 unfold beforeB compareZ orZ cmpZ
 by_cases h1 : a.1 < b.1
 ·simp [h1]
 by_cases h2 : b.1 < a.1
 ·have h3 : ¬ a.1 = b.1 := by omega
  simp [h1, h2, h3]
 have h3 : a.1 = b.1 := by omega
 by_cases h4 : a.2 < b.2
 ·simp [h3, h4]
 by_cases h5 : b.2 < a.2
 ·simp [h3, h4, h5]
 simp [h3, h4, h5]
theorem rbefore_any (a b : Int × Int) (W : World) : Calls Tryd.prog 79 #[.agg #[.int .i64 a.1, .int .i64 a.2], .agg #[.int .i64 b.1, .int .i64 b.2]] W (BoolPost (beforeB a b) W) := by
 obtain ⟨a1, a2⟩ := a
 obtain ⟨b1, b2⟩ := b
 simp only [beforeB]
 by_cases h1 : a1 < b1
 ·have h1' : decide (a1 < b1) = true := by simpa using h1
  rw [h1', Bool.true_or]
  go_enter Tryd.func79, Tryd.ntmps79
  go_wp2_with fail
  go_ret
  exact ⟨rfl, by (repeat (first | (with_reducible exact Ext.refl _ _) | (with_reducible assumption) | (with_reducible refine Ext.drewN ?_ _) | (with_reducible refine Ext.drew ?_) | (with_reducible refine Ext.alloc ?_ _)))⟩
 have h1' : decide (a1 < b1) = false := by simpa using h1
 by_cases h2 : a1 = b1
 ·have h2' : (a1 == b1) = true := by simpa using h2
  rw [h1', Bool.false_or, show decide (a1 = b1) = true from by simpa using h2, Bool.true_and]
  clear h1 h2
  cases h3 : decide (a2 < b2)
  all_goals
   go_enter Tryd.func79, Tryd.ntmps79
   go_wp2_with fail
   go_ret
   exact ⟨rfl, by (repeat (first | (with_reducible exact Ext.refl _ _) | (with_reducible assumption) | (with_reducible refine Ext.drewN ?_ _) | (with_reducible refine Ext.drew ?_) | (with_reducible refine Ext.alloc ?_ _)))⟩
 have h2' : (a1 == b1) = false := by simpa using h2
 rw [h1', Bool.false_or, show decide (a1 = b1) = false from by simpa using h2, Bool.false_and]
 clear h1 h2
 go_enter Tryd.func79, Tryd.ntmps79
 go_wp2_with fail
 go_ret
 exact ⟨rfl, by (repeat (first | (with_reducible exact Ext.refl _ _) | (with_reducible assumption) | (with_reducible refine Ext.drewN ?_ _) | (with_reducible refine Ext.drew ?_) | (with_reducible refine Ext.alloc ?_ _)))⟩
set_option maxHeartbeats 1000000 in
theorem rhas_any (w m : Nat) (sl : Value) (b : Int) (W : World) (h : SetAt No W sl w m) : Calls Tryd.prog 50 #[.agg #[.int .i64 (w : Int), sl], .int .i64 b] W (BoolPost (hasZ w m b) W) := by
 have H := Lib.hid h
 obtain ⟨a, c, rfl⟩ := h.slice
 have hv := validB_set h.hw h.hm
 have hw := h.hw
 clear h
 unfold hasZ
 cases hb : inB w b with
 | false =>
  have hcs : b < 0 ∨ 0 ≤ b ∧ (w : Int) ≤ b := by simp only [inB, decide_eq_false_iff_not] at hb; omega
  clear hb
  rcases hcs with h0 | ⟨h0, h1⟩
  ·have h0' : decide (0 ≤ b) = false := by simpa using h0
   go_enter Tryd.func50, Tryd.ntmps50
   go_wp2_with fail
   refine (rvalid_any _ (setN w m) _ (H.out.raw.extNo ((Ext.refl _ _).alloc _))).mono ?_
   rintro e1 w1 ⟨rfl, hx1⟩
   rw [hv]
   have cB := cellOf (hx1.blk (alloc_top (w := W) rfl) (fun x => x.elim))
   have hxa : Ext No W w1 := ((Ext.refl _ _).alloc _).transNo hx1
   go_wp2_with fail
   go_ret
   exact ⟨rfl, hxa⟩
  have h0' : decide (0 ≤ b) = true := by simpa using h0
  have h1' : decide (b < (w : Int)) = false := by simpa using h1
  go_enter Tryd.func50, Tryd.ntmps50
  go_wp2_with fail
  refine (rvalid_any _ (setN w m) _ (H.out.raw.extNo ((Ext.refl _ _).alloc _))).mono ?_
  rintro e1 w1 ⟨rfl, hx1⟩
  rw [hv]
  have cB := cellOf (hx1.blk (alloc_top (w := W) rfl) (fun x => x.elim))
  have hxa : Ext No W w1 := ((Ext.refl _ _).alloc _).transNo hx1
  go_wp2_with fail
  go_ret
  exact ⟨rfl, hxa⟩
 | true =>
  obtain ⟨k, rfl, hk⟩ := inB_true hb
  have hkw : k < w := by omega
  have hn : k / 64 < nw w := by unfold nw; omega
  obtain ⟨b0, off, cap, hsl, hb1, _, hc⟩ := H.out.at (by omega)
  simp only [Value.slice.injEq] at hsl
  obtain ⟨rfl, _, rfl⟩ := hsl
  have hc1 := hc (k / 64) hn
  have ht := bit_test _ (k % 64) (wordN_lt m (k / 64))
  rw [testBit_word] at ht
  have hk0 : (0 : Int) ≤ (k : Int) := by omega
  have hk2 : (k : Int) ≤ 256 := by omega
  have hu : IntKind.u64.wrap (k : Int) = k := wrapU k (by omega)
  clear hc hb
  simp only [Bool.true_and, Int.toNat_natCast]
  cases hbit : m.testBit k
  all_goals
   rw [hbit] at ht
   simp only [if_true, if_false, Bool.false_eq_true] at ht
   go_enter Tryd.func50, Tryd.ntmps50
   go_wp2_with fail
   refine (rvalid_any _ (setN w m) _ (H.out.raw.extNo ((Ext.refl _ _).alloc _))).mono ?_
   rintro e1 w1 ⟨rfl, hx1⟩
   rw [hv]
   have cB := cellOf (hx1.blk (alloc_top (w := W) rfl) (fun x => x.elim))
   have hxa : Ext No W w1 := ((Ext.refl _ _).alloc _).transNo hx1
   have hc2 := hxa.keep hc1
   go_wp2_with fail
   go_ret
   exact ⟨rfl, hxa⟩
set_option maxRecDepth 100000 in
set_option maxHeartbeats 2000000 in
theorem rfollows_any (t : TrD) (w : Nat) (sg sk sc : Value) (a b : Int) (W : World) (hw : t.w = w) (h : TrAt No W sg sk sc t) : Calls Tryd.prog 80 #[.agg #[.int .i64 (w : Int), sg, .int .i64 (w : Int), sk, sc], .int .i64 a, .int .i64 b] W (BoolPost (followsB t a b) W) := by
 subst hw
 have H := Lib.hid h
 obtain ⟨ag, cg, rfl⟩ := h.gen.slice
 obtain ⟨ak, ck, rfl⟩ := h.kill.slice
 obtain ⟨ac, cc, rfl⟩ := Row.slice h.copies
 have hbig : t.copies.length ≤ 64 := h.ok.len
 clear h
 have hx0 : Ext No W (W.alloc (.cells #[.int .i64 (t.w : Int), .slice ag (nw t.w) cg, .int .i64 (t.w : Int), .slice ak (nw t.w) ck, .slice ac t.copies.length cc] 30)) := (Ext.refl _ _).alloc _
 have hA0 : (W.alloc (.cells #[.int .i64 (t.w : Int), .slice ag (nw t.w) cg, .int .i64 (t.w : Int), .slice ak (nw t.w) ck, .slice ac t.copies.length cc] 30)).heap[W.heap.size]? = some (.cells #[.int .i64 (t.w : Int), .slice ag (nw t.w) cg, .int .i64 (t.w : Int), .slice ak (nw t.w) ck, .slice ac t.copies.length cc] 30 (0, 0)) := alloc_top rfl
 by_cases hab : (a == b && !hasZ t.w t.kill a) = true
 ·simp only [Bool.and_eq_true, beq_iff_eq, Bool.not_eq_true'] at hab
  obtain ⟨rfl, hz⟩ := hab
  have e : followsB t a a = true := by simp [followsB, hz]
  rw [e]
  go_enter Tryd.func80, Tryd.ntmps80
  go_wp2_with fail
  refine (rhas_any t.w t.kill _ a _ (H.out.kill.extNo hx0)).mono ?_
  rintro e1 w1 ⟨rfl, hx1⟩
  rw [hz]
  go_wp2_with fail
  go_ret
  exact ⟨rfl, hx0.transNo hx1⟩
 have hab' : (a == b && !hasZ t.w t.kill a) = false := by simpa using hab
 have e : followsB t a b = hasC t.copies (a, b) := by
  unfold followsB
  by_cases hq : a = b
  ·subst hq
   have hz : hasZ t.w t.kill a = true := by simpa using hab'
   simp [hz]
  simp [hq]
 rw [e]
 have HE : Hid (∃ bb : Bool, (a == b) = bb ∧ (bb = true → hasZ t.w t.kill a = true)) := Lib.hid ⟨_, rfl, fun h => by rw [h] at hab'; simpa using hab'⟩
 clear hab hab' e
 obtain ⟨bb, he, hbb⟩ := HE.out
 clear HE
 have HBB := Lib.hid hbb
 clear hbb
 cases bb
 ·
  go_enter Tryd.func80, Tryd.ntmps80
  go_wp2_with fail
  have HX := Lib.hid hx0
  have HA := Lib.hid hA0
  generalize (W.alloc (.cells #[.int .i64 (t.w : Int), .slice ag (nw t.w) cg, .int .i64 (t.w : Int), .slice ak (nw t.w) ck, .slice ac t.copies.length cc] 30)) = w1 at *
  clear hx0 hA0 he HBB
  go_loopw [7] (fun i wr => ∃ k : Nat, k ≤ t.copies.length ∧ i = .int .i64 k ∧ Hid (∀ j (h : j < t.copies.length), j < k → t.copies[j] ≠ (a, b)) ∧ Hid (Ext No w1 wr)) (fun i _ => t.copies.length - (intOf i).toNat)
  case atStart => exact ⟨0, Nat.zero_le _, rfl, Lib.hid (fun j _ h => absurd h (Nat.not_lt_zero _)), Lib.hid (Ext.refl _ _)⟩
  obtain ⟨k, hk, rfl, hq, hx⟩ := hrel
  rename World => wr
  have cA := cellOf (hx.out.blk HA.out no_no)
  have hpos : (0 : Int) ≤ (k : Int) := by omega
  by_cases hlt : k < t.copies.length
  ·obtain ⟨bu, ou, pu, hsu, _, _, hcu⟩ := CopiesAt.at (Row.extNo H.out.copies (HX.out.transNo hx.out)) hlt
   simp only [Value.slice.injEq] at hsu
   obtain ⟨rfl, _, rfl⟩ := hsu
   obtain ⟨q0, q1⟩ := hcu k hlt
   obtain ⟨x, hxe⟩ : ∃ x, x = t.copies[k] := ⟨_, rfl⟩
   rw [← hxe] at q0 q1
   have HXE := Lib.hid hxe
   clear hcu hxe
   have HKK : Hid (Value.int .i64 ((k : Int) + 1) = .int .i64 ((k + 1 : Nat) : Int)) := Lib.hid (by rw [show ((k + 1 : Nat) : Int) = (k : Int) + 1 from by omega])
   have hlz : (k : Int) < (t.copies.length : Int) := by omega
   obtain ⟨x1, x2⟩ := x
   simp only at q0 q1
   by_cases h1 : x1 = a
   ·have h1' : (x1 == a) = true := by simpa using h1
    by_cases h2 : x2 = b
    ·have h2' : (x2 == b) = true := by simpa using h2
     have e : hasC t.copies (a, b) = true := hasC_true hlt (by rw [← HXE.out, h1, h2])
     clear h1 h2
     go_wp2_with fail
     go_ret
     rw [e]
     exact ⟨rfl, HX.out.transNo hx.out⟩
    have h2' : (x2 == b) = false := by simpa using h2
    have HN : Hid (t.copies[k] ≠ (a, b)) := Lib.hid (fun h => h2 (by rw [← HXE.out] at h; exact congrArg Prod.snd h))
    clear h1 h2
    go_wp2_with fail
    go_roundw
    case rel => exact ⟨k + 1, by omega, HKK.out, Lib.hid (fun j hj hjk => by
     by_cases e : j = k
     ·subst e; exact HN.out
     exact hq.out j hj (by omega)), hx⟩
    case measure => simp [intOf]; omega
   have h1' : (x1 == a) = false := by simpa using h1
   have HN : Hid (t.copies[k] ≠ (a, b)) := Lib.hid (fun h => h1 (by rw [← HXE.out] at h; exact congrArg Prod.fst h))
   clear h1
   go_wp2_with fail
   go_roundw
   case rel => exact ⟨k + 1, by omega, HKK.out, Lib.hid (fun j hj hjk => by
    by_cases e : j = k
    ·subst e; exact HN.out
    exact hq.out j hj (by omega)), hx⟩
   case measure => simp [intOf]; omega
  have hge : ¬ (k : Int) < (t.copies.length : Int) := by omega
  have e : hasC t.copies (a, b) = false := hasC_false (fun j hj => hq.out j hj (by omega))
  go_wp2_with fail
  go_ret
  (try rw [e])
  exact ⟨rfl, HX.out.transNo hx.out⟩
 ·
  have HZ := Lib.hid (HBB.out rfl)
  clear HBB
  go_enter Tryd.func80, Tryd.ntmps80
  go_wp2_with fail
  refine (rhas_any t.w t.kill _ a _ (H.out.kill.extNo hx0)).mono ?_
  rintro e1 w1 ⟨rfl, hx1⟩
  rw [HZ.out]
  have HX := Lib.hid (hx0.transNo hx1)
  have HA := Lib.hid (hx1.blk hA0 no_no)
  clear hx0 hA0 hx1 he
  have cA := cellOf HA.out
  go_wp2_with fail
  clear cA
  go_loopw [7] (fun i wr => ∃ k : Nat, k ≤ t.copies.length ∧ i = .int .i64 k ∧ Hid (∀ j (h : j < t.copies.length), j < k → t.copies[j] ≠ (a, b)) ∧ Hid (Ext No w1 wr)) (fun i _ => t.copies.length - (intOf i).toNat)
  case atStart => exact ⟨0, Nat.zero_le _, rfl, Lib.hid (fun j _ h => absurd h (Nat.not_lt_zero _)), Lib.hid (Ext.refl _ _)⟩
  obtain ⟨k, hk, rfl, hq, hx⟩ := hrel
  rename World => wr
  have cA := cellOf (hx.out.blk HA.out no_no)
  have hpos : (0 : Int) ≤ (k : Int) := by omega
  by_cases hlt : k < t.copies.length
  ·obtain ⟨bu, ou, pu, hsu, _, _, hcu⟩ := CopiesAt.at (Row.extNo H.out.copies (HX.out.transNo hx.out)) hlt
   simp only [Value.slice.injEq] at hsu
   obtain ⟨rfl, _, rfl⟩ := hsu
   obtain ⟨q0, q1⟩ := hcu k hlt
   obtain ⟨x, hxe⟩ : ∃ x, x = t.copies[k] := ⟨_, rfl⟩
   rw [← hxe] at q0 q1
   have HXE := Lib.hid hxe
   clear hcu hxe
   have HKK : Hid (Value.int .i64 ((k : Int) + 1) = .int .i64 ((k + 1 : Nat) : Int)) := Lib.hid (by rw [show ((k + 1 : Nat) : Int) = (k : Int) + 1 from by omega])
   have hlz : (k : Int) < (t.copies.length : Int) := by omega
   obtain ⟨x1, x2⟩ := x
   simp only at q0 q1
   by_cases h1 : x1 = a
   ·have h1' : (x1 == a) = true := by simpa using h1
    by_cases h2 : x2 = b
    ·have h2' : (x2 == b) = true := by simpa using h2
     have e : hasC t.copies (a, b) = true := hasC_true hlt (by rw [← HXE.out, h1, h2])
     clear h1 h2
     go_wp2_with fail
     go_ret
     rw [e]
     exact ⟨rfl, HX.out.transNo hx.out⟩
    have h2' : (x2 == b) = false := by simpa using h2
    have HN : Hid (t.copies[k] ≠ (a, b)) := Lib.hid (fun h => h2 (by rw [← HXE.out] at h; exact congrArg Prod.snd h))
    clear h1 h2
    go_wp2_with fail
    go_roundw
    case rel => exact ⟨k + 1, by omega, HKK.out, Lib.hid (fun j hj hjk => by
     by_cases e : j = k
     ·subst e; exact HN.out
     exact hq.out j hj (by omega)), hx⟩
    case measure => simp [intOf]; omega
   have h1' : (x1 == a) = false := by simpa using h1
   have HN : Hid (t.copies[k] ≠ (a, b)) := Lib.hid (fun h => h1 (by rw [← HXE.out] at h; exact congrArg Prod.fst h))
   clear h1
   go_wp2_with fail
   go_roundw
   case rel => exact ⟨k + 1, by omega, HKK.out, Lib.hid (fun j hj hjk => by
    by_cases e : j = k
    ·subst e; exact HN.out
    exact hq.out j hj (by omega)), hx⟩
   case measure => simp [intOf]; omega
  have hge : ¬ (k : Int) < (t.copies.length : Int) := by omega
  have e : hasC t.copies (a, b) = false := hasC_false (fun j hj => hq.out j hj (by omega))
  go_wp2_with fail
  go_ret
  (try rw [e])
  exact ⟨rfl, HX.out.transNo hx.out⟩

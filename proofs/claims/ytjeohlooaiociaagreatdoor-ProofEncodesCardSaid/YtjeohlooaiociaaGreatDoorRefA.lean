
import Derived.Test.YtjeohlooaiociaaGreatDoorTrD
import Derived.Deep.LoopGhost
set_option linter.unusedVariables false
set_option linter.unusedSimpArgs false
namespace Go.Proofs.YtjeohlooaiociaaGreatDoor
open Go Go.RowKit
theorem SetAt.lo {L n w m : Nat} {M : Nat → Prop} {w7 : World} {sl : Value} (h : SetAt (Lo L) w7 sl w m) (hL : n ≤ L) (hM : ∀ i, M i → i < n) : SetAt M w7 sl w m := h.mono (fun i _ e => Nat.lt_of_lt_of_le (hM i e) hL)
end Go.Proofs.YtjeohlooaiociaaGreatDoor

namespace Go.Proofs.YtjeohlooaiociaaGreatDoor
open Go Go.RowKit
theorem zero_row {M : Nat → Prop} {w : World} {s : Nat} : Row M w s (.slice none 0 0) 0 [] := ⟨by simp, by omega, none, 0, rfl, by simp, .inl rfl⟩
end Go.Proofs.YtjeohlooaiociaaGreatDoor

namespace Go.Proofs.YtjeohlooaiociaaGreatDoor
open Go Go.RowKit
section
variable {P : Program} {ops : Array Oper} {Q : Exit → Act → World → Prop} {md : Region.Mode} {S : World → Prop}
def NextOp (P : Program) (md : Region.Mode) (ops : Array Oper) (Q : Exit → Act → World → Prop) (S : World → Prop) (fuel : Nat) (listed : Array Bool) (a : Act) (w : World) (i : Nat) : Prop :=
 ∃ o tl, ops.toList.drop i = o :: tl ∧ Region.wanted o (yielded ops a.tmps) = true ∧ ∀ K' : Act → World → Prop, Shut (∀ a w, S w → (S w → wpAnyH P md ops Q S fuel (listed.setIfInBounds i true) a w) → K' a w) → Oper.wp P o a w K' Q
theorem NextOp.mk {i : Nat} {o : Oper} {tl : List Oper} {fuel : Nat} {listed : Array Bool} {a : Act} {w : World} (ho : ops.toList.drop i = o :: tl) (hw : Region.wanted o (yielded ops a.tmps) = true)
  (h : ∀ K' : Act → World → Prop, Shut (∀ a w, S w → (S w → wpAnyH P md ops Q S fuel (listed.setIfInBounds i true) a w) → K' a w) → Oper.wp P o a w K' Q) : NextOp P md ops Q S fuel listed a w i := ⟨o, tl, ho, hw, h⟩
theorem held_next {rs : List Nat} {fuel : Nat} {listed : Array Bool} {a : Act} {w : World} (hr : Region.ready md ops listed = rs) (hne : rs ≠ []) (h : ∀ i ∈ rs, NextOp P md ops Q S fuel listed a w i) : wpAnyH P md ops Q S (fuel + 1) listed a w := by
 refine wpAnyH_ready hr hne (fun i hi => ?_)
 obtain ⟨o, tl, ho, hw, hk⟩ := h i hi
 have key : AllReadyH P md ops Q S fuel listed a w [i] := AllReadyH.cons (drop_get ho) (fun K' hK => by rw [if_pos hw]; exact hk K' hK) AllReadyH.nil
 exact key i (List.mem_singleton.2 rfl)
theorem held_next2 {i j : Nat} {fuel : Nat} {listed : Array Bool} {a : Act} {w : World} (hr : Region.ready md ops listed = [i, j]) (h1 : NextOp P md ops Q S fuel listed a w i) (h2 : NextOp P md ops Q S fuel listed a w j) : wpAnyH P md ops Q S (fuel + 1) listed a w :=
 held_next hr (by simp) (fun x hx => by
  simp only [List.mem_cons, List.not_mem_nil, or_false] at hx
  rcases hx with rfl | rfl
  ·exact h1
  exact h2)
end
end Go.Proofs.YtjeohlooaiociaaGreatDoor

namespace Go.Proofs.YtjeohlooaiociaaGreatDoor
open Go Go.RowKit
theorem clean_iff {w : Nat} {l : List Nat} (hl : ∀ n ∈ l, n < 2 ^ 64) : cleanB w l = true ↔ ∀ b, w ≤ b → b < 64 * l.length → (joinN l).testBit b = false := by
 unfold cleanB
 rw [decide_eq_true_eq]
 constructor
 ·intro h b hb _; exact bit_high h hb
 intro h
 refine Nat.lt_pow_two_of_testBit _ (fun b hb => ?_)
 by_cases hb2 : b < 64 * l.length
 ·exact h b hb hb2
 rw [joinN_bit l hl, List.getElem?_eq_none (by omega), Option.getD_none, Nat.zero_testBit]
set_option maxRecDepth 100000 in
set_option maxHeartbeats 2000000 in
theorem rvalid_any (v : Value) (s : RawSet) (W : World) (h : RawV No W v s) : Calls Tryz.prog 61 #[v] W (BoolPost (validB s) W) := by
 obtain ⟨sl, rfl, hs⟩ := h
 obtain ⟨a, c, rfl⟩ := hs.slice
 have HS := Lib.hid hs
 clear hs
 obtain ⟨width, l⟩ := s
 simp only at HS ⊢
 have hlen := HS.out.row.2.1
 by_cases h0 : width < 0
 ·have hv : validB ⟨width, l⟩ = false := by
   unfold validB
   rw [show decide (0 ≤ width ∧ width ≤ 256 ∧ l.length = nw width.toNat) = false from decide_eq_false (fun h => by omega)]; rfl
  have HV := Lib.hid hv
  clear hv
  go_enter Tryz.func61, Tryz.ntmps61
  go_wp2_with fail
  go_ret
  rw [HV.out]
  exact ⟨rfl, by (repeat (first | (with_reducible exact Ext.refl _ _) | (with_reducible assumption) | (with_reducible refine Ext.drewN ?_ _) | (with_reducible refine Ext.drew ?_) | (with_reducible refine Ext.alloc ?_ _)))⟩
 by_cases h1 : 256 < width
 ·have hv : validB ⟨width, l⟩ = false := by
   unfold validB
   rw [show decide (0 ≤ width ∧ width ≤ 256 ∧ l.length = nw width.toNat) = false from decide_eq_false (fun h => by omega)]; rfl
  have HV := Lib.hid hv
  have h0' : decide (width < 0) = false := by simpa using h0
  have h1' : decide (256 < width) = true := by simpa using h1
  clear hv
  go_enter Tryz.func61, Tryz.ntmps61
  go_wp2_with fail
  go_ret
  rw [HV.out]
  exact ⟨rfl, by (repeat (first | (with_reducible exact Ext.refl _ _) | (with_reducible assumption) | (with_reducible refine Ext.drewN ?_ _) | (with_reducible refine Ext.drew ?_) | (with_reducible refine Ext.alloc ?_ _)))⟩
 obtain ⟨w, rfl⟩ : ∃ w : Nat, width = w := ⟨width.toNat, by omega⟩
 have hw : w ≤ 256 := by omega
 have HVW := Lib.hid (validB_w (l := l) hw)
 have hn : ((w : Int) + 63) / 64 = (nw w : Int) := by unfold nw; omega
 have hw' : (w : Int) ≤ 256 := by omega
 clear h0 h1
 by_cases hl : l.length = nw w
 ·have HL := Lib.hid hl
  have hne : ((l.length : Int) != (nw w : Int)) = false := by simp [hl]
  have hl5 : l.length ≤ 5 := by rw [hl]; unfold nw; omega
  clear hl
  go_enter Tryz.func61, Tryz.ntmps61
  go_wp2_with fail
  have HA : Hid ((W.alloc (.cells #[.int .i64 (w : Int), .slice a l.length c] 50)).heap[W.heap.size]? = some (.cells #[.int .i64 (w : Int), .slice a l.length c] 50 (0, 0))) := Lib.hid (alloc_top rfl)
  have HW0 := Lib.hid (HS.out.extNo ((Ext.refl No W).alloc (.cells #[.int .i64 (w : Int), .slice a l.length c] 50)))
  have HX : Hid (Ext No W (W.alloc (.cells #[.int .i64 (w : Int), .slice a l.length c] 50))) := Lib.hid ((Ext.refl _ _).alloc _)
  generalize (W.alloc (.cells #[.int .i64 (w : Int), .slice a l.length c] 50)) = W0 at *
  have hwn : w ≤ 64 * l.length := by rw [HL.out]; exact (nw_mul w).1
  go_loop [3] (fun i => ∃ k : Nat, w ≤ k ∧ k ≤ 64 * l.length ∧ i = .int .i64 k ∧ Hid (∀ b, w ≤ b → b < k → (joinN l).testBit b = false)) (fun i => 64 * l.length - (intOf i).toNat)
  case atStart => exact ⟨w, Nat.le_refl _, hwn, rfl, Lib.hid (fun b h1 h2 => by omega)⟩
  obtain ⟨k, hwk, hk, rfl, hq⟩ := hrel
  have cA := cellOf HA.out
  have hpos : (0 : Int) ≤ (k : Int) := by omega
  by_cases hlt : k < 64 * l.length
  ·have hkl : k / 64 < l.length := by omega
   obtain ⟨b0, off, cap, hsl, _, _, hc⟩ := HW0.out.at hkl
   simp only [Value.slice.injEq] at hsl
   obtain ⟨rfl, _, rfl⟩ := hsl
   have hc1 := hc (k / 64) hkl
   have hl1 := HS.out.lt _ (List.getElem_mem hkl)
   have ht := bit_test _ (k % 64) hl1
   have hjb : (joinN l).testBit k = l[k / 64].testBit (k % 64) := by rw [joinN_bit l HS.out.lt, List.getElem?_eq_getElem hkl]; rfl
   have HJB := Lib.hid hjb
   have hk2 : (k : Int) ≤ 320 := by omega
   have hlz : (k : Int) < 64 * (l.length : Int) := by omega
   have hlz2 : (k : Int) / 64 < (l.length : Int) := by omega
   have HKK : Hid (Value.int .i64 ((k : Int) + 1) = .int .i64 ((k + 1 : Nat) : Int)) := Lib.hid (by rw [show ((k + 1 : Nat) : Int) = (k : Int) + 1 from by omega])
   clear hc hjb hl1
   generalize l[k / 64] = x at *
   cases hb : x.testBit (k % 64) with
   | true =>
    have HB := Lib.hid hb
    have hv : validB ⟨w, l⟩ = false := by
     rw [HVW.out]
     have : cleanB w l = false := by
      cases e : cleanB w l with
      | false => rfl
      | true =>
       have := (clean_iff HS.out.lt).1 e k hwk hlt
       rw [HJB.out, hb] at this; cases this
     rw [this, Bool.and_false]
    have HV := Lib.hid hv
    rw [hb, if_pos rfl] at ht
    clear hb hv
    go_wp2_with fail
    go_ret
    rw [HV.out]
    exact ⟨rfl, HX.out⟩
   | false =>
    have HB := Lib.hid hb
    rw [hb, if_neg (by simp)] at ht
    clear hb
    go_wp2_with fail
    go_round
    case rel => exact ⟨k + 1, by omega, by omega, HKK.out, Lib.hid (fun b h1 h2 => by
     by_cases e : b = k
     ·subst e; rw [HJB.out, HB.out]
     exact hq.out b h1 (by omega))⟩
    case measure => simp [intOf]; omega
  obtain rfl : k = 64 * l.length := by omega
  have hv : validB ⟨w, l⟩ = true := by
   rw [HVW.out, decide_eq_true HL.out, Bool.true_and]
   exact (clean_iff HS.out.lt).2 hq.out
  have HV := Lib.hid hv
  clear hv
  go_wp2_with fail
  go_ret
  rw [HV.out]
  exact ⟨rfl, HX.out⟩
 have hv : validB ⟨w, l⟩ = false := by rw [HVW.out, decide_eq_false hl]; rfl
 have HV := Lib.hid hv
 have hne : ((l.length : Int) != (nw w : Int)) = true := by simp; omega
 clear hv hl
 go_enter Tryz.func61, Tryz.ntmps61
 go_wp2_with fail
 go_ret
 rw [HV.out]
 exact ⟨rfl, by (repeat (first | (with_reducible exact Ext.refl _ _) | (with_reducible assumption) | (with_reducible refine Ext.drewN ?_ _) | (with_reducible refine Ext.drew ?_) | (with_reducible refine Ext.alloc ?_ _)))⟩
end Go.Proofs.YtjeohlooaiociaaGreatDoor

namespace Go.Proofs.YtjeohlooaiociaaGreatDoor
open Go Go.RowKit
theorem applyT_lt {t : TrD} {s : Nat} (ho : TrOk t) (hs : s < 2 ^ t.w) : applyT t s < 2 ^ t.w := applyN_lt ho hs _
end Go.Proofs.YtjeohlooaiociaaGreatDoor

namespace Go.Proofs.YtjeohlooaiociaaGreatDoor
open Go Go.RowKit
def beforeB (a b : Int × Int) : Bool := decide (a.1 < b.1) || (decide (a.1 = b.1) && decide (a.2 < b.2))
theorem before_cmp (a b : Int × Int) : beforeB a b = decide (compareZ a b < 0) := by
 unfold beforeB compareZ orZ cmpZ
 by_cases h1 : a.1 < b.1
 ·simp [h1]
 by_cases h2 : b.1 < a.1
 ·have h3 : ¬ a.1 = b.1 := by omega
  simp [h1, h2, h3]
 have h3 : a.1 = b.1 := by omega
 by_cases h4 : a.2 < b.2
 ·simp [h3, h4]
 by_cases h5 : b.2 < a.2
 ·simp [h3, h4, h5]
 simp [h3, h4, h5]
theorem rbefore_any (a b : Int × Int) (W : World) : Calls Tryz.prog 116 #[.agg #[.int .i64 a.1, .int .i64 a.2], .agg #[.int .i64 b.1, .int .i64 b.2]] W (BoolPost (beforeB a b) W) := by
 obtain ⟨a1, a2⟩ := a
 obtain ⟨b1, b2⟩ := b
 simp only [beforeB]
 by_cases h1 : a1 < b1
 ·have h1' : decide (a1 < b1) = true := by simpa using h1
  rw [h1', Bool.true_or]
  go_enter Tryz.func116, Tryz.ntmps116
  go_wp2_with fail
  go_ret
  exact ⟨rfl, by (repeat (first | (with_reducible exact Ext.refl _ _) | (with_reducible assumption) | (with_reducible refine Ext.drewN ?_ _) | (with_reducible refine Ext.drew ?_) | (with_reducible refine Ext.alloc ?_ _)))⟩
 have h1' : decide (a1 < b1) = false := by simpa using h1
 by_cases h2 : a1 = b1
 ·have h2' : (a1 == b1) = true := by simpa using h2
  rw [h1', Bool.false_or, show decide (a1 = b1) = true from by simpa using h2, Bool.true_and]
  clear h1 h2
  cases h3 : decide (a2 < b2)
  all_goals
   go_enter Tryz.func116, Tryz.ntmps116
   go_wp2_with fail
   go_ret
   exact ⟨rfl, by (repeat (first | (with_reducible exact Ext.refl _ _) | (with_reducible assumption) | (with_reducible refine Ext.drewN ?_ _) | (with_reducible refine Ext.drew ?_) | (with_reducible refine Ext.alloc ?_ _)))⟩
 have h2' : (a1 == b1) = false := by simpa using h2
 rw [h1', Bool.false_or, show decide (a1 = b1) = false from by simpa using h2, Bool.false_and]
 clear h1 h2
 go_enter Tryz.func116, Tryz.ntmps116
 go_wp2_with fail
 go_ret
 exact ⟨rfl, by (repeat (first | (with_reducible exact Ext.refl _ _) | (with_reducible assumption) | (with_reducible refine Ext.drewN ?_ _) | (with_reducible refine Ext.drew ?_) | (with_reducible refine Ext.alloc ?_ _)))⟩
set_option maxHeartbeats 1000000 in
theorem rhas_any (w m : Nat) (sl : Value) (b : Int) (W : World) (h : SetAt No W sl w m) : Calls Tryz.prog 44 #[.agg #[.int .i64 (w : Int), sl], .int .i64 b] W (BoolPost (hasZ w m b) W) := by
 have H := Lib.hid h
 obtain ⟨a, c, rfl⟩ := h.slice
 have hv := validB_set h.hw h.hm
 have hw := h.hw
 clear h
 unfold hasZ
 cases hb : inB w b with
 | false =>
  have hcs : b < 0 ∨ 0 ≤ b ∧ (w : Int) ≤ b := by simp only [inB, decide_eq_false_iff_not] at hb; omega
  clear hb
  rcases hcs with h0 | ⟨h0, h1⟩
  ·have h0' : decide (0 ≤ b) = false := by simpa using h0
   go_enter Tryz.func44, Tryz.ntmps44
   go_wp2_with fail
   refine (rvalid_any _ (setN w m) _ (H.out.raw.extNo ((Ext.refl _ _).alloc _))).mono ?_
   rintro e1 w1 ⟨rfl, hx1⟩
   rw [hv]
   have cB := cellOf (hx1.blk (alloc_top (w := W) rfl) (fun x => x.elim))
   have hxa : Ext No W w1 := ((Ext.refl _ _).alloc _).transNo hx1
   go_wp2_with fail
   go_ret
   exact ⟨rfl, hxa⟩
  have h0' : decide (0 ≤ b) = true := by simpa using h0
  have h1' : decide (b < (w : Int)) = false := by simpa using h1
  go_enter Tryz.func44, Tryz.ntmps44
  go_wp2_with fail
  refine (rvalid_any _ (setN w m) _ (H.out.raw.extNo ((Ext.refl _ _).alloc _))).mono ?_
  rintro e1 w1 ⟨rfl, hx1⟩
  rw [hv]
  have cB := cellOf (hx1.blk (alloc_top (w := W) rfl) (fun x => x.elim))
  have hxa : Ext No W w1 := ((Ext.refl _ _).alloc _).transNo hx1
  go_wp2_with fail
  go_ret
  exact ⟨rfl, hxa⟩
 | true =>
  obtain ⟨k, rfl, hk⟩ := inB_true hb
  have hkw : k < w := by omega
  have hn : k / 64 < nw w := by unfold nw; omega
  obtain ⟨b0, off, cap, hsl, hb1, _, hc⟩ := H.out.at (by omega)
  simp only [Value.slice.injEq] at hsl
  obtain ⟨rfl, _, rfl⟩ := hsl
  have hc1 := hc (k / 64) hn
  have ht := bit_test _ (k % 64) (wordN_lt m (k / 64))
  rw [testBit_word] at ht
  have hk0 : (0 : Int) ≤ (k : Int) := by omega
  have hk2 : (k : Int) ≤ 256 := by omega
  have hu : IntKind.u64.wrap (k : Int) = k := wrapU k (by omega)
  clear hc hb
  simp only [Bool.true_and, Int.toNat_natCast]
  cases hbit : m.testBit k
  all_goals
   rw [hbit] at ht
   simp only [if_true, if_false, Bool.false_eq_true] at ht
   go_enter Tryz.func44, Tryz.ntmps44
   go_wp2_with fail
   refine (rvalid_any _ (setN w m) _ (H.out.raw.extNo ((Ext.refl _ _).alloc _))).mono ?_
   rintro e1 w1 ⟨rfl, hx1⟩
   rw [hv]
   have cB := cellOf (hx1.blk (alloc_top (w := W) rfl) (fun x => x.elim))
   have hxa : Ext No W w1 := ((Ext.refl _ _).alloc _).transNo hx1
   have hc2 := hxa.keep hc1
   go_wp2_with fail
   go_ret
   exact ⟨rfl, hxa⟩
set_option maxRecDepth 100000 in
set_option maxHeartbeats 2000000 in
theorem rfollows_any (t : TrD) (w : Nat) (sg sk sc : Value) (a b : Int) (W : World) (hw : t.w = w) (h : TrAt No W sg sk sc t) : Calls Tryz.prog 127 #[.agg #[.int .i64 (w : Int), sg, .int .i64 (w : Int), sk, sc], .int .i64 a, .int .i64 b] W (BoolPost (followsB t a b) W) := by
 subst hw
 have H := Lib.hid h
 obtain ⟨ag, cg, rfl⟩ := h.gen.slice
 obtain ⟨ak, ck, rfl⟩ := h.kill.slice
 obtain ⟨ac, cc, rfl⟩ := Row.slice h.copies
 have hbig : t.copies.length ≤ 64 := h.ok.len
 clear h
 have hx0 : Ext No W (W.alloc (.cells #[.int .i64 (t.w : Int), .slice ag (nw t.w) cg, .int .i64 (t.w : Int), .slice ak (nw t.w) ck, .slice ac t.copies.length cc] 69)) := (Ext.refl _ _).alloc _
 have hA0 : (W.alloc (.cells #[.int .i64 (t.w : Int), .slice ag (nw t.w) cg, .int .i64 (t.w : Int), .slice ak (nw t.w) ck, .slice ac t.copies.length cc] 69)).heap[W.heap.size]? = some (.cells #[.int .i64 (t.w : Int), .slice ag (nw t.w) cg, .int .i64 (t.w : Int), .slice ak (nw t.w) ck, .slice ac t.copies.length cc] 69 (0, 0)) := alloc_top rfl
 by_cases hab : (a == b && !hasZ t.w t.kill a) = true
 ·simp only [Bool.and_eq_true, beq_iff_eq, Bool.not_eq_true'] at hab
  obtain ⟨rfl, hz⟩ := hab
  have e : followsB t a a = true := by simp [followsB, hz]
  rw [e]
  go_enter Tryz.func127, Tryz.ntmps127
  go_wp2_with fail
  refine (rhas_any t.w t.kill _ a _ (H.out.kill.extNo hx0)).mono ?_
  rintro e1 w1 ⟨rfl, hx1⟩
  rw [hz]
  go_wp2_with fail
  go_ret
  exact ⟨rfl, hx0.transNo hx1⟩
 have hab' : (a == b && !hasZ t.w t.kill a) = false := by simpa using hab
 have e : followsB t a b = hasC t.copies (a, b) := by
  unfold followsB
  by_cases hq : a = b
  ·subst hq
   have hz : hasZ t.w t.kill a = true := by simpa using hab'
   simp [hz]
  simp [hq]
 rw [e]
 have HE : Hid (∃ bb : Bool, (a == b) = bb ∧ (bb = true → hasZ t.w t.kill a = true)) := Lib.hid ⟨_, rfl, fun h => by rw [h] at hab'; simpa using hab'⟩
 clear hab hab' e
 obtain ⟨bb, he, hbb⟩ := HE.out
 clear HE
 have HBB := Lib.hid hbb
 clear hbb
 cases bb
 ·
  go_enter Tryz.func127, Tryz.ntmps127
  go_wp2_with fail
  have HX := Lib.hid hx0
  have HA := Lib.hid hA0
  generalize (W.alloc (.cells #[.int .i64 (t.w : Int), .slice ag (nw t.w) cg, .int .i64 (t.w : Int), .slice ak (nw t.w) ck, .slice ac t.copies.length cc] 69)) = w1 at *
  clear hx0 hA0 he HBB
  go_loopw [7] (fun i wr => ∃ k : Nat, k ≤ t.copies.length ∧ i = .int .i64 k ∧ Hid (∀ j (h : j < t.copies.length), j < k → t.copies[j] ≠ (a, b)) ∧ Hid (Ext No w1 wr)) (fun i _ => t.copies.length - (intOf i).toNat)
  case atStart => exact ⟨0, Nat.zero_le _, rfl, Lib.hid (fun j _ h => absurd h (Nat.not_lt_zero _)), Lib.hid (Ext.refl _ _)⟩
  obtain ⟨k, hk, rfl, hq, hx⟩ := hrel
  rename World => wr
  have cA := cellOf (hx.out.blk HA.out no_no)
  have hpos : (0 : Int) ≤ (k : Int) := by omega
  by_cases hlt : k < t.copies.length
  ·obtain ⟨bu, ou, pu, hsu, _, _, hcu⟩ := CopiesAt.at (Row.extNo H.out.copies (HX.out.transNo hx.out)) hlt
   simp only [Value.slice.injEq] at hsu
   obtain ⟨rfl, _, rfl⟩ := hsu
   obtain ⟨q0, q1⟩ := hcu k hlt
   obtain ⟨x, hxe⟩ : ∃ x, x = t.copies[k] := ⟨_, rfl⟩
   rw [← hxe] at q0 q1
   have HXE := Lib.hid hxe
   clear hcu hxe
   have HKK : Hid (Value.int .i64 ((k : Int) + 1) = .int .i64 ((k + 1 : Nat) : Int)) := Lib.hid (by rw [show ((k + 1 : Nat) : Int) = (k : Int) + 1 from by omega])
   have hlz : (k : Int) < (t.copies.length : Int) := by omega
   obtain ⟨x1, x2⟩ := x
   simp only at q0 q1
   by_cases h1 : x1 = a
   ·have h1' : (x1 == a) = true := by simpa using h1
    by_cases h2 : x2 = b
    ·have h2' : (x2 == b) = true := by simpa using h2
     have e : hasC t.copies (a, b) = true := hasC_true hlt (by rw [← HXE.out, h1, h2])
     clear h1 h2
     go_wp2_with fail
     go_ret
     rw [e]
     exact ⟨rfl, HX.out.transNo hx.out⟩
    have h2' : (x2 == b) = false := by simpa using h2
    have HN : Hid (t.copies[k] ≠ (a, b)) := Lib.hid (fun h => h2 (by rw [← HXE.out] at h; exact congrArg Prod.snd h))
    clear h1 h2
    go_wp2_with fail
    go_roundw
    case rel => exact ⟨k + 1, by omega, HKK.out, Lib.hid (fun j hj hjk => by
     by_cases e : j = k
     ·subst e; exact HN.out
     exact hq.out j hj (by omega)), hx⟩
    case measure => simp [intOf]; omega
   have h1' : (x1 == a) = false := by simpa using h1
   have HN : Hid (t.copies[k] ≠ (a, b)) := Lib.hid (fun h => h1 (by rw [← HXE.out] at h; exact congrArg Prod.fst h))
   clear h1
   go_wp2_with fail
   go_roundw
   case rel => exact ⟨k + 1, by omega, HKK.out, Lib.hid (fun j hj hjk => by
    by_cases e : j = k
    ·subst e; exact HN.out
    exact hq.out j hj (by omega)), hx⟩
   case measure => simp [intOf]; omega
  have hge : ¬ (k : Int) < (t.copies.length : Int) := by omega
  have e : hasC t.copies (a, b) = false := hasC_false (fun j hj => hq.out j hj (by omega))
  go_wp2_with fail
  go_ret
  (try rw [e])
  exact ⟨rfl, HX.out.transNo hx.out⟩
 ·
  have HZ := Lib.hid (HBB.out rfl)
  clear HBB
  go_enter Tryz.func127, Tryz.ntmps127
  go_wp2_with fail
  refine (rhas_any t.w t.kill _ a _ (H.out.kill.extNo hx0)).mono ?_
  rintro e1 w1 ⟨rfl, hx1⟩
  rw [HZ.out]
  have HX := Lib.hid (hx0.transNo hx1)
  have HA := Lib.hid (hx1.blk hA0 no_no)
  clear hx0 hA0 hx1 he
  have cA := cellOf HA.out
  go_wp2_with fail
  clear cA
  go_loopw [7] (fun i wr => ∃ k : Nat, k ≤ t.copies.length ∧ i = .int .i64 k ∧ Hid (∀ j (h : j < t.copies.length), j < k → t.copies[j] ≠ (a, b)) ∧ Hid (Ext No w1 wr)) (fun i _ => t.copies.length - (intOf i).toNat)
  case atStart => exact ⟨0, Nat.zero_le _, rfl, Lib.hid (fun j _ h => absurd h (Nat.not_lt_zero _)), Lib.hid (Ext.refl _ _)⟩
  obtain ⟨k, hk, rfl, hq, hx⟩ := hrel
  rename World => wr
  have cA := cellOf (hx.out.blk HA.out no_no)
  have hpos : (0 : Int) ≤ (k : Int) := by omega
  by_cases hlt : k < t.copies.length
  ·obtain ⟨bu, ou, pu, hsu, _, _, hcu⟩ := CopiesAt.at (Row.extNo H.out.copies (HX.out.transNo hx.out)) hlt
   simp only [Value.slice.injEq] at hsu
   obtain ⟨rfl, _, rfl⟩ := hsu
   obtain ⟨q0, q1⟩ := hcu k hlt
   obtain ⟨x, hxe⟩ : ∃ x, x = t.copies[k] := ⟨_, rfl⟩
   rw [← hxe] at q0 q1
   have HXE := Lib.hid hxe
   clear hcu hxe
   have HKK : Hid (Value.int .i64 ((k : Int) + 1) = .int .i64 ((k + 1 : Nat) : Int)) := Lib.hid (by rw [show ((k + 1 : Nat) : Int) = (k : Int) + 1 from by omega])
   have hlz : (k : Int) < (t.copies.length : Int) := by omega
   obtain ⟨x1, x2⟩ := x
   simp only at q0 q1
   by_cases h1 : x1 = a
   ·have h1' : (x1 == a) = true := by simpa using h1
    by_cases h2 : x2 = b
    ·have h2' : (x2 == b) = true := by simpa using h2
     have e : hasC t.copies (a, b) = true := hasC_true hlt (by rw [← HXE.out, h1, h2])
     clear h1 h2
     go_wp2_with fail
     go_ret
     rw [e]
     exact ⟨rfl, HX.out.transNo hx.out⟩
    have h2' : (x2 == b) = false := by simpa using h2
    have HN : Hid (t.copies[k] ≠ (a, b)) := Lib.hid (fun h => h2 (by rw [← HXE.out] at h; exact congrArg Prod.snd h))
    clear h1 h2
    go_wp2_with fail
    go_roundw
    case rel => exact ⟨k + 1, by omega, HKK.out, Lib.hid (fun j hj hjk => by
     by_cases e : j = k
     ·subst e; exact HN.out
     exact hq.out j hj (by omega)), hx⟩
    case measure => simp [intOf]; omega
   have h1' : (x1 == a) = false := by simpa using h1
   have HN : Hid (t.copies[k] ≠ (a, b)) := Lib.hid (fun h => h1 (by rw [← HXE.out] at h; exact congrArg Prod.fst h))
   clear h1
   go_wp2_with fail
   go_roundw
   case rel => exact ⟨k + 1, by omega, HKK.out, Lib.hid (fun j hj hjk => by
    by_cases e : j = k
    ·subst e; exact HN.out
    exact hq.out j hj (by omega)), hx⟩
   case measure => simp [intOf]; omega
  have hge : ¬ (k : Int) < (t.copies.length : Int) := by omega
  have e : hasC t.copies (a, b) = false := hasC_false (fun j hj => hq.out j hj (by omega))
  go_wp2_with fail
  go_ret
  (try rw [e])
  exact ⟨rfl, HX.out.transNo hx.out⟩

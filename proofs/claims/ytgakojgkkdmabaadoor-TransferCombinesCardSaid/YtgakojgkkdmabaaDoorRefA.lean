/- The reference: Before, Has, follows, ValidTransfer, Follows. -/
import Derived.Test.YtgakojgkkdmabaaDoorTr46
import Derived.Test.YtgakojgkkdmabaaDoorTr29
import Derived.Test.YtgakojgkkdmabaaDoorREq
set_option linter.unusedVariables false
set_option linter.unusedSimpArgs false
namespace Go.Proofs.YtgakojgkkdmabaaDoor
open Go Go.RowKit
def beforeB (a b : Int × Int) : Bool := decide (a.1 < b.1) || (decide (a.1 = b.1) && decide (a.2 < b.2))
theorem before_cmp (a b : Int × Int) : beforeB a b = decide (compareZ a b < 0) := by
 unfold beforeB compareZ orZ cmpZ
 by_cases h1 : a.1 < b.1
 ·simp [h1]
 ·by_cases h2 : b.1 < a.1
  ·have h3 : ¬ a.1 = b.1 := by omega
   simp [h1, h2, h3]
  ·have h3 : a.1 = b.1 := by omega
   by_cases h4 : a.2 < b.2
   ·simp [h3, h4]
   ·by_cases h5 : b.2 < a.2
    ·simp [h3, h4, h5]
    ·simp [h3, h4, h5]
theorem rbefore_any (a b : Int × Int) (W : World) : Calls Tryd.prog 76 #[.agg #[.int .i64 a.1, .int .i64 a.2], .agg #[.int .i64 b.1, .int .i64 b.2]] W (BoolPost (beforeB a b) W) := by
 obtain ⟨a1, a2⟩ := a
 obtain ⟨b1, b2⟩ := b
 simp only [beforeB]
 by_cases h1 : a1 < b1
 ·have h1' : decide (a1 < b1) = true := by simpa using h1
  rw [h1', Bool.true_or]
  go_enter Tryd.func76, Tryd.ntmps76
  go_wp2_with fail
  go_ret
  exact ⟨rfl, by (repeat (first | (with_reducible exact Ext.refl _ _) | (with_reducible assumption) | (with_reducible refine Ext.drewN ?_ _) | (with_reducible refine Ext.drew ?_) | (with_reducible refine Ext.alloc ?_ _)))⟩
 ·have h1' : decide (a1 < b1) = false := by simpa using h1
  by_cases h2 : a1 = b1
  ·have h2' : (a1 == b1) = true := by simpa using h2
   rw [h1', Bool.false_or, show decide (a1 = b1) = true from by simpa using h2, Bool.true_and]
   clear h1 h2
   cases h3 : decide (a2 < b2)
   all_goals
    go_enter Tryd.func76, Tryd.ntmps76
    go_wp2_with fail
    go_ret
    exact ⟨rfl, by (repeat (first | (with_reducible exact Ext.refl _ _) | (with_reducible assumption) | (with_reducible refine Ext.drewN ?_ _) | (with_reducible refine Ext.drew ?_) | (with_reducible refine Ext.alloc ?_ _)))⟩
  ·have h2' : (a1 == b1) = false := by simpa using h2
   rw [h1', Bool.false_or, show decide (a1 = b1) = false from by simpa using h2, Bool.false_and]
   clear h1 h2
   go_enter Tryd.func76, Tryd.ntmps76
   go_wp2_with fail
   go_ret
   exact ⟨rfl, by (repeat (first | (with_reducible exact Ext.refl _ _) | (with_reducible assumption) | (with_reducible refine Ext.drewN ?_ _) | (with_reducible refine Ext.drew ?_) | (with_reducible refine Ext.alloc ?_ _)))⟩
set_option maxHeartbeats 1000000 in
theorem rhas_any (w m : Nat) (sl : Value) (b : Int) (W : World) (h : SetAt No W sl w m) : Calls Tryd.prog 89 #[.agg #[.int .i64 (w : Int), sl], .int .i64 b] W (BoolPost (hasZ w m b) W) := by
 have H := Lib.hid h
 obtain ⟨a, c, rfl⟩ := h.slice
 have hv := validB_set h.hw h.hm
 have hw := h.hw
 clear h
 unfold hasZ
 cases hb : inB w b with
 | false =>
  have hcs : b < 0 ∨ 0 ≤ b ∧ (w : Int) ≤ b := by simp only [inB, decide_eq_false_iff_not] at hb; omega
  clear hb
  rcases hcs with h0 | ⟨h0, h1⟩
  ·have h0' : decide (0 ≤ b) = false := by simpa using h0
   go_enter Tryd.func89, Tryd.ntmps89
   go_wp2_with fail
   refine (rvalid_any _ (setN w m) _ (H.out.raw.extNo ((Ext.refl _ _).alloc _))).mono ?_
   rintro e1 w1 ⟨rfl, hx1⟩
   rw [hv]
   have cB := cellOf (hx1.blk (alloc_top (w := W) rfl) (fun x => x.elim))
   have hxa : Ext No W w1 := ((Ext.refl _ _).alloc _).transNo hx1
   go_wp2_with fail
   go_ret
   exact ⟨rfl, hxa⟩
  ·have h0' : decide (0 ≤ b) = true := by simpa using h0
   have h1' : decide (b < (w : Int)) = false := by simpa using h1
   go_enter Tryd.func89, Tryd.ntmps89
   go_wp2_with fail
   refine (rvalid_any _ (setN w m) _ (H.out.raw.extNo ((Ext.refl _ _).alloc _))).mono ?_
   rintro e1 w1 ⟨rfl, hx1⟩
   rw [hv]
   have cB := cellOf (hx1.blk (alloc_top (w := W) rfl) (fun x => x.elim))
   have hxa : Ext No W w1 := ((Ext.refl _ _).alloc _).transNo hx1
   go_wp2_with fail
   go_ret
   exact ⟨rfl, hxa⟩
 | true =>
  obtain ⟨k, rfl, hk⟩ := inB_true hb
  have hkw : k < w := by omega
  have hn : k / 64 < nw w := by unfold nw; omega
  obtain ⟨b0, off, cap, hsl, hb1, _, hc⟩ := H.out.at (by omega)
  simp only [Value.slice.injEq] at hsl
  obtain ⟨rfl, _, rfl⟩ := hsl
  have hc1 := hc (k / 64) hn
  have ht := bit_test _ (k % 64) (wordN_lt m (k / 64))
  rw [testBit_word] at ht
  have hk0 : (0 : Int) ≤ (k : Int) := by omega
  have hk2 : (k : Int) ≤ 256 := by omega
  have hu : IntKind.u64.wrap (k : Int) = k := wrapU k (by omega)
  clear hc hb
  simp only [Bool.true_and, Int.toNat_natCast]
  cases hbit : m.testBit k
  all_goals
   rw [hbit] at ht
   simp only [if_true, if_false, Bool.false_eq_true] at ht
   go_enter Tryd.func89, Tryd.ntmps89
   go_wp2_with fail
   refine (rvalid_any _ (setN w m) _ (H.out.raw.extNo ((Ext.refl _ _).alloc _))).mono ?_
   rintro e1 w1 ⟨rfl, hx1⟩
   rw [hv]
   have cB := cellOf (hx1.blk (alloc_top (w := W) rfl) (fun x => x.elim))
   have hxa : Ext No W w1 := ((Ext.refl _ _).alloc _).transNo hx1
   have hc2 := hxa.keep hc1
   go_wp2_with fail
   go_ret
   exact ⟨rfl, hxa⟩
set_option maxRecDepth 100000 in
set_option maxHeartbeats 2000000 in
theorem rfollows_any (t : TrD) (w : Nat) (sg sk sc : Value) (a b : Int) (W : World) (hw : t.w = w) (h : TrAt No W sg sk sc t) : Calls Tryd.prog 78 #[.agg #[.int .i64 (w : Int), sg, .int .i64 (w : Int), sk, sc], .int .i64 a, .int .i64 b] W (BoolPost (followsB t a b) W) := by
 subst hw
 have H := Lib.hid h
 obtain ⟨ag, cg, rfl⟩ := h.gen.slice
 obtain ⟨ak, ck, rfl⟩ := h.kill.slice
 obtain ⟨ac, cc, rfl⟩ := Row.slice h.copies
 have hbig : t.copies.length ≤ 64 := h.ok.len
 clear h
 have hx0 : Ext No W (W.alloc (.cells #[.int .i64 (t.w : Int), .slice ag (nw t.w) cg, .int .i64 (t.w : Int), .slice ak (nw t.w) ck, .slice ac t.copies.length cc] 28)) := (Ext.refl _ _).alloc _
 have hA0 : (W.alloc (.cells #[.int .i64 (t.w : Int), .slice ag (nw t.w) cg, .int .i64 (t.w : Int), .slice ak (nw t.w) ck, .slice ac t.copies.length cc] 28)).heap[W.heap.size]? = some (.cells #[.int .i64 (t.w : Int), .slice ag (nw t.w) cg, .int .i64 (t.w : Int), .slice ak (nw t.w) ck, .slice ac t.copies.length cc] 28 (0, 0)) := alloc_top rfl
 by_cases hab : (a == b && !hasZ t.w t.kill a) = true
 ·simp only [Bool.and_eq_true, beq_iff_eq, Bool.not_eq_true'] at hab
  obtain ⟨rfl, hz⟩ := hab
  have e : followsB t a a = true := by simp [followsB, hz]
  rw [e]
  go_enter Tryd.func78, Tryd.ntmps78
  go_wp2_with fail
  refine (rhas_any t.w t.kill _ a _ (H.out.kill.extNo hx0)).mono ?_
  rintro e1 w1 ⟨rfl, hx1⟩
  rw [hz]
  go_wp2_with fail
  go_ret
  exact ⟨rfl, hx0.transNo hx1⟩
 ·have hab' : (a == b && !hasZ t.w t.kill a) = false := by simpa using hab
  have e : followsB t a b = hasC t.copies (a, b) := by
   unfold followsB
   by_cases hq : a = b
   ·subst hq
    have hz : hasZ t.w t.kill a = true := by simpa using hab'
    simp [hz]
   ·simp [hq]
  rw [e]
  have HE : Hid (∃ bb : Bool, (a == b) = bb ∧ (bb = true → hasZ t.w t.kill a = true)) := Lib.hid ⟨_, rfl, fun h => by rw [h] at hab'; simpa using hab'⟩
  clear hab hab' e
  obtain ⟨bb, he, hbb⟩ := HE.out
  clear HE
  have HBB := Lib.hid hbb
  clear hbb
  cases bb
  ·
   go_enter Tryd.func78, Tryd.ntmps78
   go_wp2_with fail
   have HX := Lib.hid hx0
   have HA := Lib.hid hA0
   generalize (W.alloc (.cells #[.int .i64 (t.w : Int), .slice ag (nw t.w) cg, .int .i64 (t.w : Int), .slice ak (nw t.w) ck, .slice ac t.copies.length cc] 28)) = w1 at *
   clear hx0 hA0 he HBB
   go_loopw [7] (fun i wr => ∃ k : Nat, k ≤ t.copies.length ∧ i = .int .i64 k ∧ Hid (∀ j (h : j < t.copies.length), j < k → t.copies[j] ≠ (a, b)) ∧ Hid (Ext No w1 wr)) (fun i _ => t.copies.length - (intOf i).toNat)
   case atStart => exact ⟨0, Nat.zero_le _, rfl, Lib.hid (fun j _ h => absurd h (Nat.not_lt_zero _)), Lib.hid (Ext.refl _ _)⟩
   case round =>
    obtain ⟨k, hk, rfl, hq, hx⟩ := hrel
    rename World => wr
    have cA := cellOf (hx.out.blk HA.out no_no)
    have hpos : (0 : Int) ≤ (k : Int) := by omega
    by_cases hlt : k < t.copies.length
    ·obtain ⟨bu, ou, pu, hsu, _, _, hcu⟩ := CopiesAt.at (Row.extNo H.out.copies (HX.out.transNo hx.out)) hlt
     simp only [Value.slice.injEq] at hsu
     obtain ⟨rfl, _, rfl⟩ := hsu
     obtain ⟨q0, q1⟩ := hcu k hlt
     obtain ⟨x, hxe⟩ : ∃ x, x = t.copies[k] := ⟨_, rfl⟩
     rw [← hxe] at q0 q1
     have HXE := Lib.hid hxe
     clear hcu hxe
     have HKK : Hid (Value.int .i64 ((k : Int) + 1) = .int .i64 ((k + 1 : Nat) : Int)) := Lib.hid (by rw [show ((k + 1 : Nat) : Int) = (k : Int) + 1 from by omega])
     have hlz : (k : Int) < (t.copies.length : Int) := by omega
     obtain ⟨x1, x2⟩ := x
     simp only at q0 q1
     by_cases h1 : x1 = a
     ·have h1' : (x1 == a) = true := by simpa using h1
      by_cases h2 : x2 = b
      ·have h2' : (x2 == b) = true := by simpa using h2
       have e : hasC t.copies (a, b) = true := hasC_true hlt (by rw [← HXE.out, h1, h2])
       clear h1 h2
       go_wp2_with fail
       go_ret
       rw [e]
       exact ⟨rfl, HX.out.transNo hx.out⟩
      ·have h2' : (x2 == b) = false := by simpa using h2
       have HN : Hid (t.copies[k] ≠ (a, b)) := Lib.hid (fun h => h2 (by rw [← HXE.out] at h; exact congrArg Prod.snd h))
       clear h1 h2
       go_wp2_with fail
       go_roundw
       case rel => exact ⟨k + 1, by omega, HKK.out, Lib.hid (fun j hj hjk => by
        by_cases e : j = k
        ·subst e; exact HN.out
        ·exact hq.out j hj (by omega)), hx⟩
       case measure => simp [intOf]; omega
     ·have h1' : (x1 == a) = false := by simpa using h1
      have HN : Hid (t.copies[k] ≠ (a, b)) := Lib.hid (fun h => h1 (by rw [← HXE.out] at h; exact congrArg Prod.fst h))
      clear h1
      go_wp2_with fail
      go_roundw
      case rel => exact ⟨k + 1, by omega, HKK.out, Lib.hid (fun j hj hjk => by
       by_cases e : j = k
       ·subst e; exact HN.out
       ·exact hq.out j hj (by omega)), hx⟩
      case measure => simp [intOf]; omega
    ·have hge : ¬ (k : Int) < (t.copies.length : Int) := by omega
     have e : hasC t.copies (a, b) = false := hasC_false (fun j hj => hq.out j hj (by omega))
     go_wp2_with fail
     go_ret
     (try rw [e])
     exact ⟨rfl, HX.out.transNo hx.out⟩
  ·
   have HZ := Lib.hid (HBB.out rfl)
   clear HBB
   go_enter Tryd.func78, Tryd.ntmps78
   go_wp2_with fail
   refine (rhas_any t.w t.kill _ a _ (H.out.kill.extNo hx0)).mono ?_
   rintro e1 w1 ⟨rfl, hx1⟩
   rw [HZ.out]
   have HX := Lib.hid (hx0.transNo hx1)
   have HA := Lib.hid (hx1.blk hA0 no_no)
   clear hx0 hA0 hx1 he
   have cA := cellOf HA.out
   go_wp2_with fail
   clear cA
   go_loopw [7] (fun i wr => ∃ k : Nat, k ≤ t.copies.length ∧ i = .int .i64 k ∧ Hid (∀ j (h : j < t.copies.length), j < k → t.copies[j] ≠ (a, b)) ∧ Hid (Ext No w1 wr)) (fun i _ => t.copies.length - (intOf i).toNat)
   case atStart => exact ⟨0, Nat.zero_le _, rfl, Lib.hid (fun j _ h => absurd h (Nat.not_lt_zero _)), Lib.hid (Ext.refl _ _)⟩
   case round =>
    obtain ⟨k, hk, rfl, hq, hx⟩ := hrel
    rename World => wr
    have cA := cellOf (hx.out.blk HA.out no_no)
    have hpos : (0 : Int) ≤ (k : Int) := by omega
    by_cases hlt : k < t.copies.length
    ·obtain ⟨bu, ou, pu, hsu, _, _, hcu⟩ := CopiesAt.at (Row.extNo H.out.copies (HX.out.transNo hx.out)) hlt
     simp only [Value.slice.injEq] at hsu
     obtain ⟨rfl, _, rfl⟩ := hsu
     obtain ⟨q0, q1⟩ := hcu k hlt
     obtain ⟨x, hxe⟩ : ∃ x, x = t.copies[k] := ⟨_, rfl⟩
     rw [← hxe] at q0 q1
     have HXE := Lib.hid hxe
     clear hcu hxe
     have HKK : Hid (Value.int .i64 ((k : Int) + 1) = .int .i64 ((k + 1 : Nat) : Int)) := Lib.hid (by rw [show ((k + 1 : Nat) : Int) = (k : Int) + 1 from by omega])
     have hlz : (k : Int) < (t.copies.length : Int) := by omega
     obtain ⟨x1, x2⟩ := x
     simp only at q0 q1
     by_cases h1 : x1 = a
     ·have h1' : (x1 == a) = true := by simpa using h1
      by_cases h2 : x2 = b
      ·have h2' : (x2 == b) = true := by simpa using h2
       have e : hasC t.copies (a, b) = true := hasC_true hlt (by rw [← HXE.out, h1, h2])
       clear h1 h2
       go_wp2_with fail
       go_ret
       rw [e]
       exact ⟨rfl, HX.out.transNo hx.out⟩
      ·have h2' : (x2 == b) = false := by simpa using h2
       have HN : Hid (t.copies[k] ≠ (a, b)) := Lib.hid (fun h => h2 (by rw [← HXE.out] at h; exact congrArg Prod.snd h))
       clear h1 h2
       go_wp2_with fail
       go_roundw
       case rel => exact ⟨k + 1, by omega, HKK.out, Lib.hid (fun j hj hjk => by
        by_cases e : j = k
        ·subst e; exact HN.out
        ·exact hq.out j hj (by omega)), hx⟩
       case measure => simp [intOf]; omega
     ·have h1' : (x1 == a) = false := by simpa using h1
      have HN : Hid (t.copies[k] ≠ (a, b)) := Lib.hid (fun h => h1 (by rw [← HXE.out] at h; exact congrArg Prod.fst h))
      clear h1
      go_wp2_with fail
      go_roundw
      case rel => exact ⟨k + 1, by omega, HKK.out, Lib.hid (fun j hj hjk => by
       by_cases e : j = k
       ·subst e; exact HN.out
       ·exact hq.out j hj (by omega)), hx⟩
      case measure => simp [intOf]; omega
    ·have hge : ¬ (k : Int) < (t.copies.length : Int) := by omega
     have e : hasC t.copies (a, b) = false := hasC_false (fun j hj => hq.out j hj (by omega))
     go_wp2_with fail
     go_ret
     (try rw [e])
     exact ⟨rfl, HX.out.transNo hx.out⟩
end Go.Proofs.YtgakojgkkdmabaaDoor

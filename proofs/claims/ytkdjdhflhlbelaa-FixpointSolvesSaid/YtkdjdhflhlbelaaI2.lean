/- values of the reference. -/
import Derived.Test.YtkdjdhflhlbelaaI0
set_option linter.unusedVariables false
set_option linter.unusedSimpArgs false
namespace Go.Proofs.Ytkdjdhflhlbelaa
open Go Go.RowKit
/-- the error of a list of values: 1 invalid, 2 another width -/
def valE (x : Int) (n : Nat) (l : LS) : Int := if l.length = n ∧ (∀ p ∈ l, validB p.1 = true) then (if ∀ p ∈ l, p.1.width = x then 0 else 2) else 1
theorem valE_len {x : Int} {n : Nat} {l : LS} (h : l.length ≠ n) : valE x n l = 1 := by unfold valE; rw [if_neg (fun e => h e.1)]
theorem valE_inv {x : Int} {n : Nat} {l : LS} {p : RawSet × Value} (h : p ∈ l) (hv : validB p.1 = false) : valE x n l = 1 := by unfold valE; rw [if_neg (fun e => by have := e.2 p h; rw [hv] at this; cases this)]
theorem valE_wid {x : Int} {n : Nat} {l : LS} {p : RawSet × Value} (hl : l.length = n) (hv : ∀ p ∈ l, validB p.1 = true) (h : p ∈ l) (hw : p.1.width ≠ x) : valE x n l = 2 := by unfold valE; rw [if_pos ⟨hl, hv⟩, if_neg (fun e => hw (e p h))]
theorem valE_ok {x : Int} {n : Nat} {l : LS} (hl : l.length = n) (hv : ∀ p ∈ l, validB p.1 = true) (hw : ∀ p ∈ l, p.1.width = x) : valE x n l = 0 := by unfold valE; rw [if_pos ⟨hl, hv⟩, if_pos hw]
set_option maxRecDepth 100000 in
set_option maxHeartbeats 4000000 in
theorem rvalues_any (x : Int) (ad at1 ab : Option Addr) (nd nt nb cd ct cb : Nat) (vv : Value) (L : LS) (W : World) (h : LAt kS No W vv L) :
  Calls Try.prog 105 #[.agg #[.int .i64 x, .slice ad nd cd, .slice at1 nt ct, .slice ab nb cb], vv] W fun e w' => e = .returned (.int .i64 (valE x nb L)) ∧ Ext No W w' := by
 have H := Lib.hid h
 obtain ⟨av, cv, rfl⟩ := h.slice
 have hlv := h.row.2.1
 clear h
 go_enter Try.func105, Try.ntmps105
 have hx0 : Ext No W (W.alloc (.cells #[.int .i64 x, .slice ad nd cd, .slice at1 nt ct, .slice ab nb cb] 29)) := (Ext.refl _ _).alloc _
 have HB := Lib.hid (alloc_top (w := W) (o := .cells #[.int .i64 x, .slice ad nd cd, .slice at1 nt ct, .slice ab nb cb] 29) rfl)
 by_cases hl : L.length = nb
 ·have hl' : ((L.length : Int) != (nb : Int)) = false := by simp [hl]
  have HL := Lib.hid hl
  clear hl
  go_upto_region 3 with (fail)
  have HX := Lib.hid hx0
  clear hx0
  generalize (W.alloc (.cells #[.int .i64 x, .slice ad nd cd, .slice at1 nt ct, .slice ab nb cb] 29)) = w1 at *
  go_wp2_with fail
  go_loopw [5] (fun i wr => ∃ k : Nat, i = .int .i64 k ∧ k ≤ L.length ∧ Hid (Ext No w1 wr) ∧ Hid (∀ j (hj : j < L.length), j < k → validB L[j].1 = true)) (fun i _ => L.length - (intOf i).toNat)
  case atStart => exact ⟨0, rfl, Nat.zero_le _, Lib.hid (Ext.refl _ _), Lib.hid (fun j _ hj => absurd hj (Nat.not_lt_zero _))⟩
  case round =>
   obtain ⟨k, rfl, hk, hx, hm⟩ := hrel
   rename World => wr
   by_cases hlt : k < L.length
   ·have hlz : (k : Int) < (L.length : Int) := by omega
    obtain ⟨b, off, cap', hsl, hb1, _, hcell⟩ := (H.out.extNo (HX.out.transNo hx.out)).atS hlt
    simp only [Value.slice.injEq] at hsl
    obtain ⟨rfl, _, rfl⟩ := hsl
    obtain ⟨s0, s1⟩ := hcell k hlt
    have hs0 : WordsAt No wr L[k].2 L[k].1.words := (H.out.extNo (HX.out.transNo hx.out)).ok L[k] (List.getElem_mem hlt)
    obtain ⟨s, hse⟩ : ∃ s, s = L[k] := ⟨_, rfl⟩
    rw [← hse] at s0 s1 hs0
    obtain ⟨f7, f8, he5⟩ := hs0.slice
    rw [he5] at s1 hs0
    have HS := Lib.hid hs0
    have HSE := Lib.hid hse
    clear hcell hb1 he5 hs0 hse
    go_wp2_with fail
    go_at_call 27
    refine (rvalid_any _ s.1 _ ⟨_, rfl, HS.out⟩).mono ?_
    rintro e7 w7 ⟨rfl, hx7⟩
    cases hv : validB s.1 with
    | true =>
     have HV := Lib.hid hv
     clear hv
     go_wp2_with fail
     go_roundw
     case rel => exact ⟨k + 1, by go_num, by omega, Lib.hid (hx.out.transNo hx7), Lib.hid (fun j h1 h2 => by
      by_cases e : j = k
      ·subst e; rw [← HSE.out]; exact HV.out
      ·exact hm.out j h1 (by omega))⟩
     case measure => simp [intOf]; omega
    | false =>
     have HV := Lib.hid hv
     clear hv
     go_wp2_with fail
     go_ret
     exact ⟨by rw [valE_inv (List.getElem_mem hlt) (by rw [← HSE.out]; exact HV.out)]; rfl, HX.out.transNo (hx.out.transNo hx7)⟩
   ·have hge : ¬ (k : Int) < (L.length : Int) := by omega
    have HVA : Hid (∀ p ∈ L, validB p.1 = true) := Lib.hid (fun p hp => by
     obtain ⟨j, hj, rfl⟩ := List.mem_iff_getElem.1 hp
     exact hm.out j hj (by omega))
    clear hm
    go_wp2_with fail
    go_loopw [6] (fun i wx => ∃ k : Nat, i = .int .i64 k ∧ k ≤ L.length ∧ Hid (Ext No w1 wx) ∧ Hid (∀ j (hj : j < L.length), j < k → L[j].1.width = x)) (fun i _ => L.length - (intOf i).toNat)
    case atStart => exact ⟨0, rfl, Nat.zero_le _, hx, Lib.hid (fun j _ hj => absurd hj (Nat.not_lt_zero _))⟩
    case round =>
     clear hx hge hlt hk
     obtain ⟨k, rfl, hk, hx, hm⟩ := hrel
     rename World => wx
     by_cases hlt : k < L.length
     ·have hlz : (k : Int) < (L.length : Int) := by omega
      obtain ⟨b, off, cap', hsl, hb1, _, hcell⟩ := (H.out.extNo (HX.out.transNo hx.out)).atS hlt
      simp only [Value.slice.injEq] at hsl
      obtain ⟨rfl, _, rfl⟩ := hsl
      have s0 := (hcell k hlt).1
      obtain ⟨s, hse⟩ : ∃ s, s = L[k] := ⟨_, rfl⟩
      rw [← hse] at s0
      have HSE := Lib.hid hse
      have cB := cellOf (hx.out.blk HB.out no_no)
      clear hcell hb1 hse
      by_cases hw : s.1.width = x
      ·have hw' : (s.1.width != x) = false := by simp [hw]
       have HW := Lib.hid hw
       clear hw
       go_wp2_with fail
       go_quiet (fail)
       go_wp2_with fail
       go_roundw
       case rel => exact ⟨k + 1, by go_num, by omega, Lib.hid (hx.out.drewN _), Lib.hid (fun j h1 h2 => by
        by_cases e : j = k
        ·subst e; rw [← HSE.out]; exact HW.out
        ·exact hm.out j h1 (by omega))⟩
       case measure => simp [intOf]; omega
      ·have hw' : (s.1.width != x) = true := by simp [hw]
       go_wp2_with fail
       go_quiet (fail)
       go_wp2_with fail
       go_ret
       exact ⟨by rw [valE_wid HL.out HVA.out (List.getElem_mem hlt) (by rw [← HSE.out]; exact hw)]; rfl, HX.out.transNo (hx.out.drewN _)⟩
     ·have hge : ¬ (k : Int) < (L.length : Int) := by omega
      go_wp2_with fail
      go_ret
      exact ⟨by rw [valE_ok HL.out HVA.out (fun p hp => by
       obtain ⟨j, hj, rfl⟩ := List.mem_iff_getElem.1 hp
       exact hm.out j hj (by omega))]; rfl, HX.out.transNo hx.out⟩
 ·have hl' : ((L.length : Int) != (nb : Int)) = true := by simp; omega
  have hl'' : ¬ ((L.length : Int) = (nb : Int)) := by omega
  go_wp2_with fail
  go_ret
  exact ⟨by rw [valE_len hl]; rfl, hx0⟩
end Go.Proofs.Ytkdjdhflhlbelaa

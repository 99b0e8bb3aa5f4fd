
import Derived.Test.YtjeohlooaiociaaGreatDoorF1
set_option linter.unusedVariables false
set_option linter.unusedSimpArgs false
namespace Go.Proofs.YtjeohlooaiociaaGreatDoor
open Go Go.RowKit
theorem sumL_take {Ld : LD} {k : Nat} (hk : k < Ld.length) : sumL (Ld.take (k + 1)) = sumL (Ld.take k) + Ld[k].1.length := by
 unfold sumL
 rw [List.take_succ_eq_append_getElem hk, List.map_append, List.sum_append]
 simp
theorem sumL_le {Ld : LD} : ∀ k, sumL (Ld.take k) ≤ sumL Ld := fun k => by
 have h : sumL Ld = sumL (Ld.take k) + sumL (Ld.drop k) := by
  unfold sumL
  rw [← List.sum_append, ← List.map_append, List.take_append_drop]
 omega
set_option maxRecDepth 100000 in
set_option maxHeartbeats 4000000 in
theorem sysValid_any (x : Int) (vd vt vb : Value) (Ld : LD) (Lt : LT) (Lb : LS) (W : World) (h : YAt No W vd vt vb Ld Lt Lb) :
  Calls Tryz.prog 49 #[.agg #[.int .i64 x, vd, vt, vb]] W (Tells (VS x Ld Lt Lb) W) := by
 have H := Lib.hid h
 obtain ⟨ad, cd, rfl⟩ := h.d.slice
 obtain ⟨at1, ct, rfl⟩ := h.t.slice
 obtain ⟨ab, cb, rfl⟩ := h.b.slice
 have hld := h.d.row.2.1
 clear h
 go_enter Tryz.func49, Tryz.ntmps49
 go_wp2_with fail
 have hx0 : Ext No W (W.alloc (.cells #[.int .i64 x, .slice ad Ld.length cd, .slice at1 Lt.length ct, .slice ab Lb.length cb] 27)) := (Ext.refl _ _).alloc _
 refine (sized_any x _ _).mono ?_
 rintro e1 w1 ⟨bb, rfl, hbb, hx1⟩
 have hA := hx1.blk (alloc_top (w := W) (o := (.cells #[.int .i64 x, .slice ad Ld.length cd, .slice at1 Lt.length ct, .slice ab Lb.length cb] 27)) rfl) no_no
 have hy := hx0.transNo hx1
 cases bb with
 | false =>
  have HB := Lib.hid (tells_no hbb)
  have HY := Lib.hid hy
  clear hbb hx0 hx1 hA hy
  go_wp2_with fail
  go_ret
  exact tells_false (fun e => HB.out ⟨e.w, by have := e.n; omega⟩) HY.out
 | true =>
  have HB := Lib.hid (tells_yes hbb)
  have HY := Lib.hid hy
  have HA := Lib.hid hA
  have hn1 : (1 : Int) ≤ (Ld.length : Int) := HB.out.2.1
  have hn2 : (Ld.length : Int) ≤ 256 := HB.out.2.2
  clear hbb hx0 hx1 hA hy
  have cA := cellOf HA.out
  by_cases h1 : Lt.length = Ld.length
  ·have h1' : ((Lt.length : Int) != (Ld.length : Int)) = false := by simp [h1]
   have H1 := Lib.hid h1
   clear h1
   by_cases h2 : Lb.length = Ld.length
   ·have h2' : ((Lb.length : Int) != (Ld.length : Int)) = false := by simp [h2]
    have H2 := Lib.hid h2
    clear h2
    go_wp2_with fail
    clear cA
    go_loopw [4, 6, 32] (fun ev _ i wr => ∃ k : Nat, k ≤ Ld.length ∧ i = .int .i64 k ∧ ev = .int .i64 (sumL (Ld.take k) : Nat) ∧ sumL (Ld.take k) ≤ 1024 ∧ Hid (Ext No w1 wr) ∧ Hid (∀ j (hj : j < Ld.length), j < k → AscL Ld[j].1 Ld.length)) (fun _ _ i _ => Ld.length - (intOf i).toNat)
    case atStart => exact ⟨0, Nat.zero_le _, rfl, rfl, Nat.zero_le _, Lib.hid (Ext.refl _ _), Lib.hid (fun j _ hj => absurd hj (Nat.not_lt_zero _))⟩
    obtain ⟨k, hk, rfl, rfl, hsum, hx, hm⟩ := hrel
    rename World => wr
    by_cases hlt : k < Ld.length
    ·obtain ⟨b, off, cap', hsl, hb1, _, hcell⟩ := H.out.d.atD hlt
     simp only [Value.slice.injEq] at hsl
     obtain ⟨rfl, _, rfl⟩ := hsl
     have hyr := HY.out.transNo hx.out
     have q0 := hyr.keep (hcell k hlt)
     have hok : Ints No W .i64 Ld[k].2 Ld[k].1 := H.out.d.ok Ld[k] (List.getElem_mem hlt)
     clear hcell
     have HNX := Lib.hid (sumL_take hlt)
     obtain ⟨p, hp⟩ : ∃ p, p = Ld[k] := ⟨_, rfl⟩
     rw [← hp] at q0 hok HNX
     obtain ⟨pa, pc, hpe⟩ := Row.slice hok
     have hpl := hok.2.1
     rw [hpe] at q0
     have HOK := Lib.hid (hpe ▸ hok)
     have HYR := Lib.hid hyr
     have HP := Lib.hid hp
     clear hok hpe hp hyr
     generalize hSU : sumL (Ld.take k) = su at *
     have HSU := Lib.hid hSU
     clear hSU
     by_cases hbig : 1024 < p.1.length
     ·have hnot : Hid (¬ AscL p.1 Ld.length) := Lib.hid (fun e => by have := asc_len e (by omega); omega)
      have hko : Hid (¬ VS x Ld Lt Lb) := Lib.hid (fun e => hnot.out (by rw [HP.out]; exact e.asc _ (List.getElem_mem hlt)))
      obtain ⟨z, hz⟩ : ∃ z, IntKind.i64.wrap ((su : Int) + (p.1.length : Int)) = z := ⟨_, rfl⟩
      by_cases hc : (1024 : Int) < z
      ·go_wp2_with fail
       go_ret
       exact tells_false hko.out HYR.out
      go_wp2_with fail
      refine (ascending_any _ p.1 _ _ (Row.extNo HOK.out HYR.out)).mono ?_
      rintro e2 w2 ⟨b2, rfl, hb2, hx2⟩
      cases b2 with
      | true => exact absurd (tells_yes hb2) hnot.out
      | false =>
       clear hb2
       go_wp2_with fail
       go_ret
       exact tells_false hko.out (HYR.out.transNo hx2)
     have hadd : IntKind.i64.wrap ((su : Int) + (p.1.length : Int)) = ((su + p.1.length : Nat) : Int) := by rw [IntWalk.i64_in _ (by omega)]; omega
     obtain ⟨s2, hs2⟩ : ∃ s2, s2 = su + p.1.length := ⟨_, rfl⟩
     rw [← hs2] at hadd
     have HS2 := Lib.hid hs2
     clear hs2
     by_cases hc : s2 ≤ 1024
     ·have hc' : ¬ (1024 : Int) < (s2 : Int) := by omega
      go_wp2_with fail
      refine (ascending_any _ p.1 _ _ (Row.extNo HOK.out HYR.out)).mono ?_
      rintro e2 w2 ⟨b2, rfl, hb2, hx2⟩
      cases b2 with
      | false =>
       have HN := Lib.hid (tells_no hb2)
       clear hb2
       go_wp2_with fail
       go_ret
       exact tells_false (fun e => HN.out (by rw [HP.out]; exact e.asc _ (List.getElem_mem hlt))) (HYR.out.transNo hx2)
      | true =>
       have HN := Lib.hid (tells_yes hb2)
       clear hb2
       go_wp2_with fail
       go_roundw
       case rel => exact ⟨k + 1, by omega, by go_num, by rw [HNX.out, ← HS2.out], by rw [HNX.out, ← HS2.out]; exact hc, Lib.hid (hx.out.transNo hx2), Lib.hid (fun j hj hjk => by
        by_cases e : j = k
        ·subst e
         rw [← HP.out]
         exact HN.out
        exact hm.out j hj (by omega))⟩
       case measure => simp [intOf]; omega
     have hc' : (1024 : Int) < (s2 : Int) := by omega
     go_wp2_with fail
     go_ret
     exact tells_false (fun e => by have h3 := e.tot; have h4 := sumL_le (Ld := Ld) (k + 1); rw [HNX.out, ← HS2.out] at h4; omega) HYR.out
    have hkk : k = Ld.length := by omega
    have HK := Lib.hid hkk
    have hyr := HY.out.transNo hx.out
    have hAr := hx.out.blk HA.out no_no
    have HS := Lib.hid (show sumL Ld ≤ 1024 by rw [hkk, List.take_length] at hsum; exact hsum)
    have HYR := Lib.hid hyr
    have HAR := Lib.hid hAr
    clear hyr hAr hkk hsum
    have cA := cellOf HAR.out
    go_wp2_with fail
    refine (sets_any x _ Lb _ (H.out.b.extNo HYR.out)).mono ?_
    rintro e2 w2 ⟨b2, rfl, hb2, hx2⟩
    clear cA
    cases b2 with
    | false =>
     have HN := Lib.hid (tells_no hb2)
     clear hb2
     go_wp2_with fail
     go_ret
     exact tells_false (fun e => HN.out e.sets) (HYR.out.transNo hx2)
    | true =>
     have HN := Lib.hid (tells_yes hb2)
     clear hb2
     have hA2 := hx2.blk HAR.out no_no
     have hy2 := HYR.out.transNo hx2
     have cA := cellOf hA2
     go_wp2_with fail
     refine (containsT_any x W.heap.size _ Lt _ (H.out.t.extNo hy2) (cA 0)).mono ?_
     rintro e3 w3 ⟨b3, rfl, hb3, hx3⟩
     clear cA
     cases b3 with
     | true =>
      have HM := Lib.hid (tells_yes hb3)
      clear hb3
      go_wp2_with fail
      go_ret
      obtain ⟨q, hq, hbad⟩ := HM.out
      exact tells_false (fun e => hbad (e.trs _ (List.getElem_mem hq))) (hy2.transNo hx3)
     | false =>
      have HM := Lib.hid (tells_no hb3)
      clear hb3
      go_wp2_with fail
      go_ret
      refine tells_true ⟨HB.out.1, by omega, H1.out, H2.out, fun p hp => ?_, HS.out, HN.out, fun p hp => Classical.byContradiction fun hn => ?_⟩ (hy2.transNo hx3)
      ·obtain ⟨q, hq, rfl⟩ := List.getElem_of_mem hp
       exact hm.out q hq (by rw [HK.out]; exact hq)
      obtain ⟨q, hq, rfl⟩ := List.getElem_of_mem hp
      exact HM.out ⟨q, hq, hn⟩
   have h2' : ((Lb.length : Int) != (Ld.length : Int)) = true := by simp; omega
   have H2 := Lib.hid h2
   clear h2
   go_wp2_with fail
   go_ret
   exact tells_false (fun e => H2.out e.lb) HY.out
  have h1' : ((Lt.length : Int) != (Ld.length : Int)) = true := by simp; omega
  have H1 := Lib.hid h1
  clear h1
  go_wp2_with fail
  go_ret
  exact tells_false (fun e => H1.out e.lt) HY.out


import Derived.Test.YtmddchceacmopaaDoorI0
set_option linter.unusedVariables false
set_option linter.unusedSimpArgs false
namespace Go.Proofs.YtmddchceacmopaaDoor
open Go Go.RowKit
set_option maxRecDepth 100000 in
set_option maxHeartbeats 16000000 in
theorem rvalidSys_any (x : Int) (vd vt vb : Value) (Ld : LD) (Lt : LT) (Lb : LS) (W : World) (h : YAt No W vd vt vb Ld Lt Lb) :
  Calls Tryd.prog 56 #[.agg #[.int .i64 x, vd, vt, vb]] W (Tells (VS x Ld Lt Lb) W) := by
 have H := Lib.hid h
 obtain ⟨ad, cd, rfl⟩ := h.d.slice
 obtain ⟨at1, ct, rfl⟩ := h.t.slice
 obtain ⟨ab, cb, rfl⟩ := h.b.slice
 have hld := h.d.row.2.1
 have hlt0 := h.t.row.2.1
 have hlb0 := h.b.row.2.1
 clear h
 go_enter Tryd.func56, Tryd.ntmps56
 go_upto_region 2 with (fail)
 have hx0 : Ext No W (W.alloc (.cells #[.int .i64 x, .slice ad Ld.length cd, .slice at1 Lt.length ct, .slice ab Lb.length cb] 72)) := (Ext.refl _ _).alloc _
 have HB := Lib.hid (alloc_top (w := W) (o := .cells #[.int .i64 x, .slice ad Ld.length cd, .slice at1 Lt.length ct, .slice ab Lb.length cb] 72) rfl)
 generalize (W.alloc (.cells #[.int .i64 x, .slice ad Ld.length cd, .slice at1 Lt.length ct, .slice ab Lb.length cb] 72)) = w1 at *
 have cB := cellOf HB.out
 by_cases c1 : x < 0
 ·go_wp2_with fail
  go_ret
  exact tells_false (fun e => by have := e.w; omega) hx0
 skip
 by_cases c2 : 256 < x
 ·go_wp2_with fail
  go_ret
  exact tells_false (fun e => by have := e.w; omega) hx0
 skip
 by_cases c3 : (Lb.length : Int) < 1
 ·go_wp2_with fail
  go_ret
  exact tells_false (fun e => by have := e.n; have := e.lb; omega) hx0
 skip
 by_cases c4 : 256 < (Lb.length : Int)
 ·go_wp2_with fail
  go_ret
  exact tells_false (fun e => by have := e.n; have := e.lb; omega) hx0
 skip
 by_cases c5 : Ld.length = Lb.length
 ·have c5' : ((Ld.length : Int) != (Lb.length : Int)) = false := by simp [c5]
  have C5 := Lib.hid c5
  clear c5
  by_cases c6 : Lt.length = Lb.length
  ·have c6' : ((Lt.length : Int) != (Lb.length : Int)) = false := by simp [c6]
   have C6 := Lib.hid c6
   clear c6
   go_wp2_with fail
   have HX := Lib.hid hx0
   clear hx0 cB
   go_loopw [4, 5] (fun ev i wr => ∃ k : Nat, i = .int .i64 k ∧ ev = .int .i64 (sumL (Ld.take k) : Nat) ∧ k ≤ Lb.length ∧ sumL (Ld.take k) ≤ k * 256 ∧ Hid (Ext No w1 wr) ∧ Hid (∀ j (hj : j < Ld.length), j < k → AscL Ld[j].1 Ld.length) ∧ Hid (∀ j (hj : j < Lt.length), j < k → FitT x Lt[j].1) ∧ Hid (∀ j (hj : j < Lb.length), j < k → FitS x Lb[j].1)) (fun _ i _ => Lb.length - (intOf i).toNat)
   case atStart => exact ⟨0, rfl, rfl, Nat.zero_le _, Nat.zero_le _, Lib.hid (Ext.refl _ _), Lib.hid (fun j _ hj => absurd hj (Nat.not_lt_zero _)), Lib.hid (fun j _ hj => absurd hj (Nat.not_lt_zero _)), Lib.hid (fun j _ hj => absurd hj (Nat.not_lt_zero _))⟩
   obtain ⟨k, rfl, rfl, hk, hsum, hx, hm1, hm2, hm3⟩ := hrel
   rename World => wr
   have hk8 : k ≤ 256 := by omega
   by_cases hlt : k < Lb.length
   ·have hlz : (k : Int) < (Lb.length : Int) := by omega
    have hld2 : k < Ld.length := by rw [C5.out]; exact hlt
    have hlt2 : k < Lt.length := by rw [C6.out]; exact hlt
    have hlz5 : (k : Int) < (Ld.length : Int) := by omega
    have hlz6 : (k : Int) < (Lt.length : Int) := by omega
    have hyr := HX.out.transNo hx.out
    obtain ⟨b, off, cap', hsl, hb1, _, hcell⟩ := H.out.d.atD hld2
    simp only [Value.slice.injEq] at hsl
    obtain ⟨rfl, _, rfl⟩ := hsl
    have q0 := hyr.keep (hcell k hld2)
    obtain ⟨bt, ot, kt, hsl, hbt, _, hcet⟩ := H.out.t.atT hlt2
    simp only [Value.slice.injEq] at hsl
    obtain ⟨rfl, _, rfl⟩ := hsl
    obtain ⟨t0, t1, t2, t3, t4⟩ := hcet k hlt2
    obtain ⟨bs, os, ks, hsl, hbs, _, hces⟩ := H.out.b.atS hlt
    simp only [Value.slice.injEq] at hsl
    obtain ⟨rfl, _, rfl⟩ := hsl
    obtain ⟨s0, s1⟩ := hces k hlt
    have hd0 : Ints No wr .i64 Ld[k].2 Ld[k].1 := Row.extNo (H.out.d.ok Ld[k] (List.getElem_mem hld2)) hyr
    have hr0 : RawTAt No wr Lt[k].2.1 Lt[k].2.2.1 Lt[k].2.2.2 Lt[k].1 := (H.out.t.ok Lt[k] (List.getElem_mem hlt2)).extNo hyr
    have hs0 : WordsAt No wr Lb[k].2 Lb[k].1.words := (H.out.b.ok Lb[k] (List.getElem_mem hlt)).extNo hyr
    replace t0 := hyr.keep t0
    replace t1 := hyr.keep t1
    replace t2 := hyr.keep t2
    replace t3 := hyr.keep t3
    replace t4 := hyr.keep t4
    replace s0 := hyr.keep s0
    replace s1 := hyr.keep s1
    have HNX := Lib.hid (sumL_take hld2)
    obtain ⟨d, hd⟩ : ∃ d, d = Ld[k] := ⟨_, rfl⟩
    obtain ⟨t, hte⟩ : ∃ t, t = Lt[k] := ⟨_, rfl⟩
    obtain ⟨s, hse⟩ : ∃ s, s = Lb[k] := ⟨_, rfl⟩
    rw [← hd] at q0 hd0 HNX
    rw [← hte] at t0 t1 t2 t3 t4 hr0
    rw [← hse] at s0 s1 hs0
    clear hcell hcet hces hb1 hbt hbs hyr
    obtain ⟨e1, e2, he1⟩ := Row.slice hd0
    obtain ⟨f1, f2, he2⟩ := hr0.gen.slice
    obtain ⟨f3, f4, he3⟩ := hr0.kill.slice
    obtain ⟨f5, f6, he4⟩ := Row.slice hr0.copies
    obtain ⟨f7, f8, he5⟩ := hs0.slice
    have hdl := hd0.2.1
    rw [he1] at q0 hd0
    rw [he2] at t1 hr0
    rw [he3] at t3 hr0
    rw [he4] at t4 hr0
    rw [he5] at s1 hs0
    clear he1 he2 he3 he4 he5
    have HD := Lib.hid hd0
    have HT := Lib.hid hr0
    have HS := Lib.hid hs0
    have HQD := Lib.hid q0
    have HQT := Lib.hid (And.intro t0 (And.intro t1 (And.intro t2 (And.intro t3 t4))))
    have HQS := Lib.hid (And.intro s0 s1)
    have HDE := Lib.hid hd
    have HTE := Lib.hid hte
    have HSE := Lib.hid hse
    have HB2 := Lib.hid (hx.out.blk HB.out no_no)
    have cB := cellOf HB2.out
    have HL1 : Hid (k < Ld.length) := Lib.hid hld2
    have HL2 : Hid (k < Lt.length) := Lib.hid hlt2
    clear hd0 hr0 hs0 t0 t1 t2 t3 t4 s0 s1 hd hte hse
    by_cases hr : AscL d.1 Lb.length
    ·have HR := Lib.hid hr
     clear hr
     cases hv : validT t.1 with
     | false =>
      have HV := Lib.hid hv
      clear hv
      go_upto_region 8 with (fail)
      clear cB q0
      refine wp_region_held_drew (S := (fun w' => Ext No wr w')) (by kernel_rfl) ?_ (fun hHeld => ?_)
      ·exact (Ext.refl _ _).drew
      refine hHs [0, 1, 2, 3] ?_
      iterate 4
       refine hTn ?_ hHeld (fun w hSw => ?_) ?_
       rotate_left
       ·(have hEs : Ext No wr _ := hSw); (have q0 := cellOf (hEs.blk HB2.out no_no)); go_simp; (try with_reducible rfl)
       simp only [Act.put, nzA, nzB, nzC]
      refine hHe ?_
      refine hHs [4, 5] ?_
      iterate 2
       refine hTn ?_ hHeld (fun w hSw => ?_) ?_
       rotate_left
       ·(have hEs : Ext No wr _ := hSw); (have q0 := hEs.keep HQD.out); go_simp; (try with_reducible rfl)
       simp only [Act.put, nzA, nzB, nzC]
      refine hHe ?_
      refine hHc 6 fun K hK => ?_
      ((have hEx : Ext No wr _ := hHeld); go_simp; (go_at_call 82); (refine (rising_any _ d.1 _ _ (Row.extNo HD.out hEx)).mono ?_); (rintro e9 w9 ⟨b9, rfl, hb9, hyA⟩); (obtain rfl := tells_t hb9 HR.out); (clear hb9); go_simp)
      refine hK.out _ _ ?_ ?_
      ·exact Ext.transNo (show Ext No wr _ from hHeld) hyA
      clear hK K hHeld
      intro hHeld
      try simp only [Act.put, nzA, nzB, nzC]
      refine hHs [7, 8, 9, 10, 11, 12] ?_
      iterate 6
       refine hTn ?_ hHeld (fun w hSw => ?_) ?_
       rotate_left
       ·(have hEs : Ext No wr _ := hSw); (have q0 := cellOf (hEs.blk HB2.out no_no)); go_simp; (try with_reducible rfl)
       simp only [Act.put, nzA, nzB, nzC]
      refine hHe ?_
      refine hTk 13 ?_ hHeld (fun w hSw => ?_) ?_
      rotate_left
      ·(have hEs : Ext No wr _ := hSw); (obtain ⟨p0, p1, p2, p3, p4⟩ := HQT.out); (have x0 := hEs.keep p0); (have x1 := hEs.keep p1); (have x2 := hEs.keep p2); (have x3 := hEs.keep p3); (have x4 := hEs.keep p4); go_simp; (try with_reducible rfl)
      simp only [Act.put, nzA, nzB, nzC]
      refine hHc 14 fun K hK => ?_
      ((have hEx : Ext No wr _ := hHeld); go_simp; (go_at_call 48); (refine (rvalidT_any t.1 _ _ _ _ (HT.out.extNo hEx)).mono ?_); (rintro e8 w8 ⟨rfl, hyA⟩); (rw [HV.out]); go_simp)
      refine hK.out _ _ ?_ ?_
      ·exact Ext.transNo (show Ext No wr _ from hHeld) hyA
      clear hK K hHeld
      intro hHeld
      try simp only [Act.put, nzA, nzB, nzC]
      refine hHs [15, 16, 17] ?_
      iterate 3
       refine hTn ?_ hHeld (fun w hSw => ?_) ?_
       rotate_left
       ·go_simp; (try with_reducible rfl)
       simp only [Act.put, nzA, nzB, nzC]
      refine hHe ?_
      refine hHs [18, 19, 20, 21, 22, 23, 24, 25, 26, 27] ?_
      iterate 10
       refine hSn hHeld ?_
       simp only [Act.put, nzA, nzB, nzC]
      refine hHe ?_
      refine hHs [28, 29] ?_
      iterate 2
       refine hTn ?_ hHeld (fun w hSw => ?_) ?_
       rotate_left
       ·go_simp; (try with_reducible rfl)
       simp only [Act.put, nzA, nzB, nzC]
      refine hHe ?_
      refine hHs [30, 31, 32, 33, 34, 35, 36] ?_
      iterate 7
       refine hSn hHeld ?_
       simp only [Act.put, nzA, nzB, nzC]
      refine hHe ?_
      refine hHs [37, 38] ?_
      iterate 2
       refine hTn ?_ hHeld (fun w hSw => ?_) ?_
       rotate_left
       ·go_simp; (try with_reducible rfl)
       simp only [Act.put, nzA, nzB, nzC]
      refine hHe ?_
      refine hHs [39, 40, 41, 42, 43, 44, 45, 46, 47] ?_
      iterate 9
       refine hSn hHeld ?_
       simp only [Act.put, nzA, nzB, nzC]
      refine hHe ?_
      refine hTk 48 ?_ hHeld (fun w hSw => ?_) ?_
      rotate_left
      ·go_simp; (try with_reducible rfl)
      simp only [Act.put, nzA, nzB, nzC]
      refine wpAnyH_done (by kernel_rfl) ?_ _
      have hEx : Ext No wr _ := hHeld
      go_wp2_with fail
      go_ret
      exact tells_false (fun e => by have h := (e.trs _ (List.getElem_mem HL2.out)).1; rw [← HTE.out, HV.out] at h; cases h) (HX.out.transNo (hx.out.transNo hEx))
     | true =>
      have HV := Lib.hid hv
      clear hv
      by_cases hw : t.1.gen.width = x
      ·have hw' : (t.1.gen.width != x) = false := by simp [hw]
       have HW := Lib.hid hw
       clear hw
       cases hu : validB s.1 with
       | false =>
        have HU := Lib.hid hu
        clear hu
        go_upto_region 8 with (fail)
        clear cB q0
        refine wp_region_held_drew (S := (fun w' => Ext No wr w')) (by kernel_rfl) ?_ (fun hHeld => ?_)
        ·exact (Ext.refl _ _).drew
        refine hHs [0, 1, 2, 3] ?_
        iterate 4
         refine hTn ?_ hHeld (fun w hSw => ?_) ?_
         rotate_left
         ·(have hEs : Ext No wr _ := hSw); (have q0 := cellOf (hEs.blk HB2.out no_no)); go_simp; (try with_reducible rfl)
         simp only [Act.put, nzA, nzB, nzC]
        refine hHe ?_
        refine hHs [4, 5] ?_
        iterate 2
         refine hTn ?_ hHeld (fun w hSw => ?_) ?_
         rotate_left
         ·(have hEs : Ext No wr _ := hSw); (have q0 := hEs.keep HQD.out); go_simp; (try with_reducible rfl)
         simp only [Act.put, nzA, nzB, nzC]
        refine hHe ?_
        refine hHc 6 fun K hK => ?_
        ((have hEx : Ext No wr _ := hHeld); go_simp; (go_at_call 82); (refine (rising_any _ d.1 _ _ (Row.extNo HD.out hEx)).mono ?_); (rintro e9 w9 ⟨b9, rfl, hb9, hyA⟩); (obtain rfl := tells_t hb9 HR.out); (clear hb9); go_simp)
        refine hK.out _ _ ?_ ?_
        ·exact Ext.transNo (show Ext No wr _ from hHeld) hyA
        clear hK K hHeld
        intro hHeld
        try simp only [Act.put, nzA, nzB, nzC]
        refine hHs [7, 8, 9, 10, 11, 12] ?_
        iterate 6
         refine hTn ?_ hHeld (fun w hSw => ?_) ?_
         rotate_left
         ·(have hEs : Ext No wr _ := hSw); (have q0 := cellOf (hEs.blk HB2.out no_no)); go_simp; (try with_reducible rfl)
         simp only [Act.put, nzA, nzB, nzC]
        refine hHe ?_
        refine hTk 13 ?_ hHeld (fun w hSw => ?_) ?_
        rotate_left
        ·(have hEs : Ext No wr _ := hSw); (obtain ⟨p0, p1, p2, p3, p4⟩ := HQT.out); (have x0 := hEs.keep p0); (have x1 := hEs.keep p1); (have x2 := hEs.keep p2); (have x3 := hEs.keep p3); (have x4 := hEs.keep p4); go_simp; (try with_reducible rfl)
        simp only [Act.put, nzA, nzB, nzC]
        refine hHc 14 fun K hK => ?_
        ((have hEx : Ext No wr _ := hHeld); go_simp; (go_at_call 48); (refine (rvalidT_any t.1 _ _ _ _ (HT.out.extNo hEx)).mono ?_); (rintro e8 w8 ⟨rfl, hyA⟩); (rw [HV.out]); go_simp)
        refine hK.out _ _ ?_ ?_
        ·exact Ext.transNo (show Ext No wr _ from hHeld) hyA
        clear hK K hHeld
        intro hHeld
        try simp only [Act.put, nzA, nzB, nzC]
        refine hHs [15, 16, 17, 18, 19, 20, 21, 22, 23] ?_
        iterate 9
         refine hTn ?_ hHeld (fun w hSw => ?_) ?_
         rotate_left
         ·(have hEs : Ext No wr _ := hSw); (have q0 := cellOf (hEs.blk HB2.out no_no)); go_simp; (try with_reducible rfl)
         simp only [Act.put, nzA, nzB, nzC]
        refine hHe ?_
        refine hHs [24, 25] ?_
        iterate 2
         refine hTn ?_ hHeld (fun w hSw => ?_) ?_
         rotate_left
         ·(have hEs : Ext No wr _ := hSw); (obtain ⟨p0, p1, p2, p3, p4⟩ := HQT.out); (have q0 := hEs.keep p0); go_simp; (try with_reducible rfl)
         simp only [Act.put, nzA, nzB, nzC]
        refine hHe ?_
        refine hHs [26, 27, 28, 29, 30, 31, 32, 33] ?_
        iterate 8
         refine hTn ?_ hHeld (fun w hSw => ?_) ?_
         rotate_left
         ·(have hEs : Ext No wr _ := hSw); (have q0 := cellOf (hEs.blk HB2.out no_no)); go_simp; (try with_reducible rfl)
         simp only [Act.put, nzA, nzB, nzC]
        refine hHe ?_
        refine hTk 34 ?_ hHeld (fun w hSw => ?_) ?_
        rotate_left
        ·(have hEs : Ext No wr _ := hSw); (obtain ⟨p0, p1⟩ := HQS.out); (have x0 := hEs.keep p0); (have x1 := hEs.keep p1); go_simp; (try with_reducible rfl)
        simp only [Act.put, nzA, nzB, nzC]
        refine hHc 35 fun K hK => ?_
        ((have hEx : Ext No wr _ := hHeld); go_simp; (go_at_call 78); (refine (rvalid_any _ s.1 _ ⟨_, rfl, HS.out.extNo hEx⟩).mono ?_); (rintro e7 w7 ⟨rfl, hyA⟩); (rw [HU.out]); go_simp)
        refine hK.out _ _ ?_ ?_
        ·exact Ext.transNo (show Ext No wr _ from hHeld) hyA
        clear hK K hHeld
        intro hHeld
        try simp only [Act.put, nzA, nzB, nzC]
        refine hHs [36, 37, 38] ?_
        iterate 3
         refine hTn ?_ hHeld (fun w hSw => ?_) ?_
         rotate_left
         ·go_simp; (try with_reducible rfl)
         simp only [Act.put, nzA, nzB, nzC]
        refine hHe ?_
        refine hHs [39, 40, 41, 42, 43, 44, 45, 46, 47] ?_
        iterate 9
         refine hSn hHeld ?_
         simp only [Act.put, nzA, nzB, nzC]
        refine hHe ?_
        refine hTk 48 ?_ hHeld (fun w hSw => ?_) ?_
        rotate_left
        ·go_simp; (try with_reducible rfl)
        simp only [Act.put, nzA, nzB, nzC]
        refine wpAnyH_done (by kernel_rfl) ?_ _
        have hEx : Ext No wr _ := hHeld
        go_wp2_with fail
        go_ret
        exact tells_false (fun e => by have h := (e.sets _ (List.getElem_mem hlt)).1; rw [← HSE.out, HU.out] at h; cases h) (HX.out.transNo (hx.out.transNo hEx))
       | true =>
        have HU := Lib.hid hu
        clear hu
        by_cases hz : s.1.width = x
        ·have hz' : (s.1.width != x) = false := by simp [hz]
         have HZ := Lib.hid hz
         clear hz
         go_upto_region 8 with (fail)
         clear cB q0
         refine wp_region_held_drew (S := (fun w' => Ext No wr w')) (by kernel_rfl) ?_ (fun hHeld => ?_)
         ·exact (Ext.refl _ _).drew
         refine hHs [0, 1, 2, 3] ?_
         iterate 4
          refine hTn ?_ hHeld (fun w hSw => ?_) ?_
          rotate_left
          ·(have hEs : Ext No wr _ := hSw); (have q0 := cellOf (hEs.blk HB2.out no_no)); go_simp; (try with_reducible rfl)
          simp only [Act.put, nzA, nzB, nzC]
         refine hHe ?_
         refine hHs [4, 5] ?_
         iterate 2
          refine hTn ?_ hHeld (fun w hSw => ?_) ?_
          rotate_left
          ·(have hEs : Ext No wr _ := hSw); (have q0 := hEs.keep HQD.out); go_simp; (try with_reducible rfl)
          simp only [Act.put, nzA, nzB, nzC]
         refine hHe ?_
         refine hHc 6 fun K hK => ?_
         ((have hEx : Ext No wr _ := hHeld); go_simp; (go_at_call 82); (refine (rising_any _ d.1 _ _ (Row.extNo HD.out hEx)).mono ?_); (rintro e9 w9 ⟨b9, rfl, hb9, hyA⟩); (obtain rfl := tells_t hb9 HR.out); (clear hb9); go_simp)
         refine hK.out _ _ ?_ ?_
         ·exact Ext.transNo (show Ext No wr _ from hHeld) hyA
         clear hK K hHeld
         intro hHeld
         try simp only [Act.put, nzA, nzB, nzC]
         refine hHs [7, 8, 9, 10, 11, 12] ?_
         iterate 6
          refine hTn ?_ hHeld (fun w hSw => ?_) ?_
          rotate_left
          ·(have hEs : Ext No wr _ := hSw); (have q0 := cellOf (hEs.blk HB2.out no_no)); go_simp; (try with_reducible rfl)
          simp only [Act.put, nzA, nzB, nzC]
         refine hHe ?_
         refine hTk 13 ?_ hHeld (fun w hSw => ?_) ?_
         rotate_left
         ·(have hEs : Ext No wr _ := hSw); (obtain ⟨p0, p1, p2, p3, p4⟩ := HQT.out); (have x0 := hEs.keep p0); (have x1 := hEs.keep p1); (have x2 := hEs.keep p2); (have x3 := hEs.keep p3); (have x4 := hEs.keep p4); go_simp; (try with_reducible rfl)
         simp only [Act.put, nzA, nzB, nzC]
         refine hHc 14 fun K hK => ?_
         ((have hEx : Ext No wr _ := hHeld); go_simp; (go_at_call 48); (refine (rvalidT_any t.1 _ _ _ _ (HT.out.extNo hEx)).mono ?_); (rintro e8 w8 ⟨rfl, hyA⟩); (rw [HV.out]); go_simp)
         refine hK.out _ _ ?_ ?_
         ·exact Ext.transNo (show Ext No wr _ from hHeld) hyA
         clear hK K hHeld
         intro hHeld
         try simp only [Act.put, nzA, nzB, nzC]
         refine hHs [15, 16, 17, 18, 19, 20, 21, 22, 23] ?_
         iterate 9
          refine hTn ?_ hHeld (fun w hSw => ?_) ?_
          rotate_left
          ·(have hEs : Ext No wr _ := hSw); (have q0 := cellOf (hEs.blk HB2.out no_no)); go_simp; (try with_reducible rfl)
          simp only [Act.put, nzA, nzB, nzC]
         refine hHe ?_
         refine hHs [24, 25] ?_
         iterate 2
          refine hTn ?_ hHeld (fun w hSw => ?_) ?_
          rotate_left
          ·(have hEs : Ext No wr _ := hSw); (obtain ⟨p0, p1, p2, p3, p4⟩ := HQT.out); (have q0 := hEs.keep p0); go_simp; (try with_reducible rfl)
          simp only [Act.put, nzA, nzB, nzC]
         refine hHe ?_
         refine hHs [26, 27, 28, 29, 30, 31, 32, 33] ?_
         iterate 8
          refine hTn ?_ hHeld (fun w hSw => ?_) ?_
          rotate_left
          ·(have hEs : Ext No wr _ := hSw); (have q0 := cellOf (hEs.blk HB2.out no_no)); go_simp; (try with_reducible rfl)
          simp only [Act.put, nzA, nzB, nzC]
         refine hHe ?_
         refine hTk 34 ?_ hHeld (fun w hSw => ?_) ?_
         rotate_left
         ·(have hEs : Ext No wr _ := hSw); (obtain ⟨p0, p1⟩ := HQS.out); (have x0 := hEs.keep p0); (have x1 := hEs.keep p1); go_simp; (try with_reducible rfl)
         simp only [Act.put, nzA, nzB, nzC]
         refine hHc 35 fun K hK => ?_
         ((have hEx : Ext No wr _ := hHeld); go_simp; (go_at_call 78); (refine (rvalid_any _ s.1 _ ⟨_, rfl, HS.out.extNo hEx⟩).mono ?_); (rintro e7 w7 ⟨rfl, hyA⟩); (rw [HU.out]); go_simp)
         refine hK.out _ _ ?_ ?_
         ·exact Ext.transNo (show Ext No wr _ from hHeld) hyA
         clear hK K hHeld
         intro hHeld
         try simp only [Act.put, nzA, nzB, nzC]
         refine hHs [36, 37, 38, 39, 40, 41, 42, 43] ?_
         iterate 8
          refine hTn ?_ hHeld (fun w hSw => ?_) ?_
          rotate_left
          ·(have hEs : Ext No wr _ := hSw); (have q0 := cellOf (hEs.blk HB2.out no_no)); go_simp; (try with_reducible rfl)
          simp only [Act.put, nzA, nzB, nzC]
         refine hHe ?_
         refine hHs [44, 45] ?_
         iterate 2
          refine hTn ?_ hHeld (fun w hSw => ?_) ?_
          rotate_left
          ·(have hEs : Ext No wr _ := hSw); (obtain ⟨p0, p1⟩ := HQS.out); (have q0 := hEs.keep p0); go_simp; (try with_reducible rfl)
          simp only [Act.put, nzA, nzB, nzC]
         refine hHe ?_
         refine hHs [46, 47, 48] ?_
         iterate 3
          refine hTn ?_ hHeld (fun w hSw => ?_) ?_
          rotate_left
          ·(have hEs : Ext No wr _ := hSw); (have q0 := cellOf (hEs.blk HB2.out no_no)); go_simp; (try with_reducible rfl)
          simp only [Act.put, nzA, nzB, nzC]
         refine hHe ?_
         refine wpAnyH_done (by kernel_rfl) ?_ _
         have hEx : Ext No wr _ := hHeld
         have cB := cellOf (hEx.blk HB2.out no_no)
         have q0 := hEx.keep HQD.out
         have hdl2 : d.1.length ≤ 256 := by
          rcases Nat.eq_zero_or_pos d.1.length with h0 | h0
          ·omega
          have := asc_len HR.out h0
          omega
         have hnx := HNX.out
         have HADD := Lib.hid (show Value.int .i64 ((sumL (Ld.take k) : Int) + (d.1.length : Int)) = .int .i64 (sumL (Ld.take (k + 1)) : Nat) from by rw [hnx]; simp)
         have hnx2 : sumL (Ld.take (k + 1)) ≤ (k + 1) * 256 := by rw [hnx]; omega
         have hwr : IntKind.i64.wrap ((sumL (Ld.take k) : Int) + (d.1.length : Int)) = (sumL (Ld.take k) : Int) + (d.1.length : Int) := IntWalk.i64_in _ (by omega)
         clear hnx
         go_wp2_with fail
         go_roundw
         case rel => exact ⟨k + 1, by go_num, HADD.out, by omega, hnx2, Lib.hid (hx.out.transNo hEx), Lib.hid (fun j h1 h2 => by
          by_cases e : j = k
          ·subst e; rw [← HDE.out, C5.out]; exact HR.out
          ·exact hm1.out j h1 (by omega)), Lib.hid (fun j h1 h2 => by
          by_cases e : j = k
          ·subst e; rw [← HTE.out]; exact ⟨HV.out, HW.out⟩
          ·exact hm2.out j h1 (by omega)), Lib.hid (fun j h1 h2 => by
          by_cases e : j = k
          ·subst e; rw [← HSE.out]; exact ⟨HU.out, HZ.out⟩
          exact hm3.out j h1 (by omega))⟩
         case measure => simp [intOf]; omega
        have hz' : (s.1.width != x) = true := by simp [hz]
        go_upto_region 8 with (fail)
        clear cB q0
        refine wp_region_held_drew (S := (fun w' => Ext No wr w')) (by kernel_rfl) ?_ (fun hHeld => ?_)
        ·exact (Ext.refl _ _).drew
        refine hHs [0, 1, 2, 3] ?_
        iterate 4
         refine hTn ?_ hHeld (fun w hSw => ?_) ?_
         rotate_left
         ·(have hEs : Ext No wr _ := hSw); (have q0 := cellOf (hEs.blk HB2.out no_no)); go_simp; (try with_reducible rfl)
         simp only [Act.put, nzA, nzB, nzC]
        refine hHe ?_
        refine hHs [4, 5] ?_
        iterate 2
         refine hTn ?_ hHeld (fun w hSw => ?_) ?_
         rotate_left
         ·(have hEs : Ext No wr _ := hSw); (have q0 := hEs.keep HQD.out); go_simp; (try with_reducible rfl)
         simp only [Act.put, nzA, nzB, nzC]
        refine hHe ?_
        refine hHc 6 fun K hK => ?_
        ((have hEx : Ext No wr _ := hHeld); go_simp; (go_at_call 82); (refine (rising_any _ d.1 _ _ (Row.extNo HD.out hEx)).mono ?_); (rintro e9 w9 ⟨b9, rfl, hb9, hyA⟩); (obtain rfl := tells_t hb9 HR.out); (clear hb9); go_simp)
        refine hK.out _ _ ?_ ?_
        ·exact Ext.transNo (show Ext No wr _ from hHeld) hyA
        clear hK K hHeld
        intro hHeld
        try simp only [Act.put, nzA, nzB, nzC]
        refine hHs [7, 8, 9, 10, 11, 12] ?_
        iterate 6
         refine hTn ?_ hHeld (fun w hSw => ?_) ?_
         rotate_left
         ·(have hEs : Ext No wr _ := hSw); (have q0 := cellOf (hEs.blk HB2.out no_no)); go_simp; (try with_reducible rfl)
         simp only [Act.put, nzA, nzB, nzC]
        refine hHe ?_
        refine hTk 13 ?_ hHeld (fun w hSw => ?_) ?_
        rotate_left
        ·(have hEs : Ext No wr _ := hSw); (obtain ⟨p0, p1, p2, p3, p4⟩ := HQT.out); (have x0 := hEs.keep p0); (have x1 := hEs.keep p1); (have x2 := hEs.keep p2); (have x3 := hEs.keep p3); (have x4 := hEs.keep p4); go_simp; (try with_reducible rfl)
        simp only [Act.put, nzA, nzB, nzC]
        refine hHc 14 fun K hK => ?_
        ((have hEx : Ext No wr _ := hHeld); go_simp; (go_at_call 48); (refine (rvalidT_any t.1 _ _ _ _ (HT.out.extNo hEx)).mono ?_); (rintro e8 w8 ⟨rfl, hyA⟩); (rw [HV.out]); go_simp)
        refine hK.out _ _ ?_ ?_
        ·exact Ext.transNo (show Ext No wr _ from hHeld) hyA
        clear hK K hHeld
        intro hHeld
        try simp only [Act.put, nzA, nzB, nzC]
        refine hHs [15, 16, 17, 18, 19, 20, 21, 22, 23] ?_
        iterate 9
         refine hTn ?_ hHeld (fun w hSw => ?_) ?_
         rotate_left
         ·(have hEs : Ext No wr _ := hSw); (have q0 := cellOf (hEs.blk HB2.out no_no)); go_simp; (try with_reducible rfl)
         simp only [Act.put, nzA, nzB, nzC]
        refine hHe ?_
        refine hHs [24, 25] ?_
        iterate 2
         refine hTn ?_ hHeld (fun w hSw => ?_) ?_
         rotate_left
         ·(have hEs : Ext No wr _ := hSw); (obtain ⟨p0, p1, p2, p3, p4⟩ := HQT.out); (have q0 := hEs.keep p0); go_simp; (try with_reducible rfl)
         simp only [Act.put, nzA, nzB, nzC]
        refine hHe ?_
        refine hHs [26, 27, 28, 29, 30, 31, 32, 33] ?_
        iterate 8
         refine hTn ?_ hHeld (fun w hSw => ?_) ?_
         rotate_left
         ·(have hEs : Ext No wr _ := hSw); (have q0 := cellOf (hEs.blk HB2.out no_no)); go_simp; (try with_reducible rfl)
         simp only [Act.put, nzA, nzB, nzC]
        refine hHe ?_
        refine hTk 34 ?_ hHeld (fun w hSw => ?_) ?_
        rotate_left
        ·(have hEs : Ext No wr _ := hSw); (obtain ⟨p0, p1⟩ := HQS.out); (have x0 := hEs.keep p0); (have x1 := hEs.keep p1); go_simp; (try with_reducible rfl)
        simp only [Act.put, nzA, nzB, nzC]
        refine hHc 35 fun K hK => ?_
        ((have hEx : Ext No wr _ := hHeld); go_simp; (go_at_call 78); (refine (rvalid_any _ s.1 _ ⟨_, rfl, HS.out.extNo hEx⟩).mono ?_); (rintro e7 w7 ⟨rfl, hyA⟩); (rw [HU.out]); go_simp)
        refine hK.out _ _ ?_ ?_
        ·exact Ext.transNo (show Ext No wr _ from hHeld) hyA
        clear hK K hHeld
        intro hHeld
        try simp only [Act.put, nzA, nzB, nzC]
        refine hHs [36, 37, 38, 39, 40, 41, 42, 43] ?_
        iterate 8
         refine hTn ?_ hHeld (fun w hSw => ?_) ?_
         rotate_left
         ·(have hEs : Ext No wr _ := hSw); (have q0 := cellOf (hEs.blk HB2.out no_no)); go_simp; (try with_reducible rfl)
         simp only [Act.put, nzA, nzB, nzC]
        refine hHe ?_
        refine hHs [44, 45] ?_
        iterate 2
         refine hTn ?_ hHeld (fun w hSw => ?_) ?_
         rotate_left
         ·(have hEs : Ext No wr _ := hSw); (obtain ⟨p0, p1⟩ := HQS.out); (have q0 := hEs.keep p0); go_simp; (try with_reducible rfl)
         simp only [Act.put, nzA, nzB, nzC]
        refine hHe ?_
        refine hHs [46, 47, 48] ?_
        iterate 3
         refine hTn ?_ hHeld (fun w hSw => ?_) ?_
         rotate_left
         ·(have hEs : Ext No wr _ := hSw); (have q0 := cellOf (hEs.blk HB2.out no_no)); go_simp; (try with_reducible rfl)
         simp only [Act.put, nzA, nzB, nzC]
        refine hHe ?_
        refine wpAnyH_done (by kernel_rfl) ?_ _
        have hEx : Ext No wr _ := hHeld
        go_wp2_with fail
        go_ret
        exact tells_false (fun e => by have h := (e.sets _ (List.getElem_mem hlt)).2; rw [← HSE.out] at h; exact hz h) (HX.out.transNo (hx.out.transNo hEx))
      have hw' : (t.1.gen.width != x) = true := by simp [hw]
      go_upto_region 8 with (fail)
      clear cB q0
      refine wp_region_held_drew (S := (fun w' => Ext No wr w')) (by kernel_rfl) ?_ (fun hHeld => ?_)
      ·exact (Ext.refl _ _).drew
      refine hHs [0, 1, 2, 3] ?_
      iterate 4
       refine hTn ?_ hHeld (fun w hSw => ?_) ?_
       rotate_left
       ·(have hEs : Ext No wr _ := hSw); (have q0 := cellOf (hEs.blk HB2.out no_no)); go_simp; (try with_reducible rfl)
       simp only [Act.put, nzA, nzB, nzC]
      refine hHe ?_
      refine hHs [4, 5] ?_
      iterate 2
       refine hTn ?_ hHeld (fun w hSw => ?_) ?_
       rotate_left
       ·(have hEs : Ext No wr _ := hSw); (have q0 := hEs.keep HQD.out); go_simp; (try with_reducible rfl)
       simp only [Act.put, nzA, nzB, nzC]
      refine hHe ?_
      refine hHc 6 fun K hK => ?_
      ((have hEx : Ext No wr _ := hHeld); go_simp; (go_at_call 82); (refine (rising_any _ d.1 _ _ (Row.extNo HD.out hEx)).mono ?_); (rintro e9 w9 ⟨b9, rfl, hb9, hyA⟩); (obtain rfl := tells_t hb9 HR.out); (clear hb9); go_simp)
      refine hK.out _ _ ?_ ?_
      ·exact Ext.transNo (show Ext No wr _ from hHeld) hyA
      clear hK K hHeld
      intro hHeld
      try simp only [Act.put, nzA, nzB, nzC]
      refine hHs [7, 8, 9, 10, 11, 12] ?_
      iterate 6
       refine hTn ?_ hHeld (fun w hSw => ?_) ?_
       rotate_left
       ·(have hEs : Ext No wr _ := hSw); (have q0 := cellOf (hEs.blk HB2.out no_no)); go_simp; (try with_reducible rfl)
       simp only [Act.put, nzA, nzB, nzC]
      refine hHe ?_
      refine hTk 13 ?_ hHeld (fun w hSw => ?_) ?_
      rotate_left
      ·(have hEs : Ext No wr _ := hSw); (obtain ⟨p0, p1, p2, p3, p4⟩ := HQT.out); (have x0 := hEs.keep p0); (have x1 := hEs.keep p1); (have x2 := hEs.keep p2); (have x3 := hEs.keep p3); (have x4 := hEs.keep p4); go_simp; (try with_reducible rfl)
      simp only [Act.put, nzA, nzB, nzC]
      refine hHc 14 fun K hK => ?_
      ((have hEx : Ext No wr _ := hHeld); go_simp; (go_at_call 48); (refine (rvalidT_any t.1 _ _ _ _ (HT.out.extNo hEx)).mono ?_); (rintro e8 w8 ⟨rfl, hyA⟩); (rw [HV.out]); go_simp)
      refine hK.out _ _ ?_ ?_
      ·exact Ext.transNo (show Ext No wr _ from hHeld) hyA
      clear hK K hHeld
      intro hHeld
      try simp only [Act.put, nzA, nzB, nzC]
      refine hHs [15, 16, 17, 18, 19, 20, 21, 22, 23] ?_
      iterate 9
       refine hTn ?_ hHeld (fun w hSw => ?_) ?_
       rotate_left
       ·(have hEs : Ext No wr _ := hSw); (have q0 := cellOf (hEs.blk HB2.out no_no)); go_simp; (try with_reducible rfl)
       simp only [Act.put, nzA, nzB, nzC]
      refine hHe ?_
      refine hHs [24, 25] ?_
      iterate 2
       refine hTn ?_ hHeld (fun w hSw => ?_) ?_
       rotate_left
       ·(have hEs : Ext No wr _ := hSw); (obtain ⟨p0, p1, p2, p3, p4⟩ := HQT.out); (have q0 := hEs.keep p0); go_simp; (try with_reducible rfl)
       simp only [Act.put, nzA, nzB, nzC]
      refine hHe ?_
      refine hHs [26, 27, 28, 29] ?_
      iterate 4
       refine hTn ?_ hHeld (fun w hSw => ?_) ?_
       rotate_left
       ·(have hEs : Ext No wr _ := hSw); (have q0 := cellOf (hEs.blk HB2.out no_no)); go_simp; (try with_reducible rfl)
       simp only [Act.put, nzA, nzB, nzC]
      refine hHe ?_
      refine hHs [30, 31, 32, 33, 34, 35, 36] ?_
      iterate 7
       refine hSn hHeld ?_
       simp only [Act.put, nzA, nzB, nzC]
      refine hHe ?_
      refine hHs [37, 38] ?_
      iterate 2
       refine hTn ?_ hHeld (fun w hSw => ?_) ?_
       rotate_left
       ·go_simp; (try with_reducible rfl)
       simp only [Act.put, nzA, nzB, nzC]
      refine hHe ?_
      refine hHs [39, 40, 41, 42, 43, 44, 45, 46, 47] ?_
      iterate 9
       refine hSn hHeld ?_
       simp only [Act.put, nzA, nzB, nzC]
      refine hHe ?_
      refine hTk 48 ?_ hHeld (fun w hSw => ?_) ?_
      rotate_left
      ·go_simp; (try with_reducible rfl)
      simp only [Act.put, nzA, nzB, nzC]
      refine wpAnyH_done (by kernel_rfl) ?_ _
      have hEx : Ext No wr _ := hHeld
      go_wp2_with fail
      go_ret
      exact tells_false (fun e => by have h := (e.trs _ (List.getElem_mem HL2.out)).2; rw [← HTE.out] at h; exact hw h) (HX.out.transNo (hx.out.transNo hEx))
    have HR := Lib.hid hr
    clear hr
    go_upto_region 8 with (fail)
    clear cB q0
    refine wp_region_held_drew (S := (fun w' => Ext No wr w')) (by kernel_rfl) ?_ (fun hHeld => ?_)
    ·exact (Ext.refl _ _).drew
    refine hHs [0, 1, 2, 3] ?_
    iterate 4
     refine hTn ?_ hHeld (fun w hSw => ?_) ?_
     rotate_left
     ·(have hEs : Ext No wr _ := hSw); (have q0 := cellOf (hEs.blk HB2.out no_no)); go_simp; (try with_reducible rfl)
     simp only [Act.put, nzA, nzB, nzC]
    refine hHe ?_
    refine hHs [4, 5] ?_
    iterate 2
     refine hTn ?_ hHeld (fun w hSw => ?_) ?_
     rotate_left
     ·(have hEs : Ext No wr _ := hSw); (have q0 := hEs.keep HQD.out); go_simp; (try with_reducible rfl)
     simp only [Act.put, nzA, nzB, nzC]
    refine hHe ?_
    refine hHc 6 fun K hK => ?_
    ((have hEx : Ext No wr _ := hHeld); go_simp; (go_at_call 82); (refine (rising_any _ d.1 _ _ (Row.extNo HD.out hEx)).mono ?_); (rintro e9 w9 ⟨b9, rfl, hb9, hyA⟩); (obtain rfl := tells_f hb9 HR.out); (clear hb9); go_simp)
    refine hK.out _ _ ?_ ?_
    ·exact Ext.transNo (show Ext No wr _ from hHeld) hyA
    clear hK K hHeld
    intro hHeld
    try simp only [Act.put, nzA, nzB, nzC]
    refine hHs [7, 8] ?_
    iterate 2
     refine hTn ?_ hHeld (fun w hSw => ?_) ?_
     rotate_left
     ·go_simp; (try with_reducible rfl)
     simp only [Act.put, nzA, nzB, nzC]
    refine hHe ?_
    refine hHs [9, 10, 11, 12, 13, 14, 15] ?_
    iterate 7
     refine hSn hHeld ?_
     simp only [Act.put, nzA, nzB, nzC]
    refine hHe ?_
    refine hHs [16, 17] ?_
    iterate 2
     refine hTn ?_ hHeld (fun w hSw => ?_) ?_
     rotate_left
     ·go_simp; (try with_reducible rfl)
     simp only [Act.put, nzA, nzB, nzC]
    refine hHe ?_
    refine hHs [18, 19, 20, 21, 22, 23, 24, 25, 26, 27] ?_
    iterate 10
     refine hSn hHeld ?_
     simp only [Act.put, nzA, nzB, nzC]
    refine hHe ?_
    refine hHs [28, 29] ?_
    iterate 2
     refine hTn ?_ hHeld (fun w hSw => ?_) ?_
     rotate_left
     ·go_simp; (try with_reducible rfl)
     simp only [Act.put, nzA, nzB, nzC]
    refine hHe ?_
    refine hHs [30, 31, 32, 33, 34, 35, 36] ?_
    iterate 7
     refine hSn hHeld ?_
     simp only [Act.put, nzA, nzB, nzC]
    refine hHe ?_
    refine hHs [37, 38] ?_
    iterate 2
     refine hTn ?_ hHeld (fun w hSw => ?_) ?_
     rotate_left
     ·go_simp; (try with_reducible rfl)
     simp only [Act.put, nzA, nzB, nzC]
    refine hHe ?_
    refine hHs [39, 40, 41, 42, 43, 44, 45, 46, 47] ?_
    iterate 9
     refine hSn hHeld ?_
     simp only [Act.put, nzA, nzB, nzC]
    refine hHe ?_
    refine hTk 48 ?_ hHeld (fun w hSw => ?_) ?_
    rotate_left
    ·go_simp; (try with_reducible rfl)
    simp only [Act.put, nzA, nzB, nzC]
    refine wpAnyH_done (by kernel_rfl) ?_ _
    have hEx : Ext No wr _ := hHeld
    go_wp2_with fail
    go_ret
    exact tells_false (fun e => by have h := e.asc _ (List.getElem_mem HL1.out); rw [← HDE.out, C5.out] at h; exact HR.out h) (HX.out.transNo (hx.out.transNo hEx))
   have hge : ¬ (k : Int) < (Lb.length : Int) := by omega
   have hkn : k = Lb.length := by omega
   subst hkn
   have e1 : Ld.take Lb.length = Ld := List.take_of_length_le (by rw [C5.out]; exact Nat.le_refl _)
   rw [e1] at hsum ⊢
   by_cases hs : sumL Ld ≤ 1024
   ·have hs' : (sumL Ld : Int) ≤ 1024 := by omega
    go_wp2_with fail
    go_ret
    exact tells_true ⟨by omega, by have := C5.out; omega, by rw [C6.out, C5.out], by rw [C5.out], fun p hp => by
     obtain ⟨j, hj, rfl⟩ := List.mem_iff_getElem.1 hp
     exact hm1.out j hj (by have := C5.out; omega), hs, fun p hp => by
     obtain ⟨j, hj, rfl⟩ := List.mem_iff_getElem.1 hp
     exact hm3.out j hj hj, fun p hp => by
     obtain ⟨j, hj, rfl⟩ := List.mem_iff_getElem.1 hp
     exact hm2.out j hj (by have := C6.out; omega)⟩ (HX.out.transNo hx.out)
   have hs' : ¬ (sumL Ld : Int) ≤ 1024 := by omega
   go_wp2_with fail
   go_ret
   exact tells_false (fun e => hs e.tot) (HX.out.transNo hx.out)
  have c6' : ((Lt.length : Int) != (Lb.length : Int)) = true := by simp; omega
  have c6'' : ¬ ((Lt.length : Int) = (Lb.length : Int)) := by omega
  go_wp2_with fail
  go_ret
  exact tells_false (fun e => c6 (by have := e.lt; have := e.lb; omega)) hx0
 have c5' : ((Ld.length : Int) != (Lb.length : Int)) = true := by simp; omega
 have c5'' : ¬ ((Ld.length : Int) = (Lb.length : Int)) := by omega
 go_wp2_with fail
 go_ret
 exact tells_false (fun e => c5 (by have := e.lb; omega)) hx0

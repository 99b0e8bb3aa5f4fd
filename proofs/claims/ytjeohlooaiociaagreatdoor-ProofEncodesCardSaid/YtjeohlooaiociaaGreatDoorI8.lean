
import Derived.Test.YtjeohlooaiociaaGreatDoorI5
set_option linter.unusedVariables false
set_option linter.unusedSimpArgs false
namespace Go.Proofs.YtjeohlooaiociaaGreatDoor
open Go Go.RowKit
section
variable {S : SysD} {vs nx : List Nat} {n k i : Nat}
theorem sub_of_le {a b : Nat} (h : LeB a b) : subN a b = true := decide_eq_true (Nat.eq_of_testBit_eq fun j => by
 rw [diffN_bit, Nat.zero_testBit]
 cases e : a.testBit j with
 | false => rfl
 | true => rw [h j e]; rfl)
end
end Go.Proofs.YtjeohlooaiociaaGreatDoor

namespace Go.Proofs.YtjeohlooaiociaaGreatDoor
open Go Go.RowKit
theorem infoI6m : (Tryz.prog.info? 3).map (fun i => (i.zero, i.size, i.bytes)) = some (some (.int .i64 0), 1, 8) := by kernel_rfl
def rmT (m k : Nat) : List Int := ((List.range k).filter (fun b => m.testBit b)).map fun (b : Nat) => (b : Int)
theorem rmT_len (m : Nat) : ∀ k, (rmT m k).length ≤ k := fun k => by
 unfold rmT
 rw [List.length_map]
 exact Nat.le_trans (List.length_filter_le _ _) (by simp)
theorem rmT_snoc (m k : Nat) : rmT m (k + 1) = rmT m k ++ (if m.testBit k = true then [(k : Int)] else []) := by
 unfold rmT
 rw [List.range_succ, List.filter_append, List.map_append]
 by_cases h : m.testBit k = true
 ·simp [h]
 simp [h]
end Go.Proofs.YtjeohlooaiociaaGreatDoor

namespace Go.Proofs.YtjeohlooaiociaaGreatDoor
open Go Go.RowKit
set_option maxRecDepth 100000 in
set_option maxHeartbeats 4000000 in
theorem right_val (S : SysD) (vd vt vb vv : Value) (Lv : LS) (n : Nat) (W : World) (h : SysAt No W vd vt vb S) (hv : LAt kS No W vv Lv) (hn : n < S.deps.length) (hE : valE (S.w : Int) S.deps.length Lv ≠ 0) :
  Calls Tryz.prog 75 #[.agg #[.int .i64 (S.w : Int), vd, vt, vb], vv, .int .i64 (n : Int)] W (ErrPost zeroSv (valE (S.w : Int) S.deps.length Lv) W) := by
 have H := Lib.hid h
 have HV := Lib.hid hv
 have hnn := h.ok.n2
 obtain ⟨ad, cd, at1, ct, ab, cb, rfl, rfl, rfl⟩ := h.slices
 obtain ⟨av, cv, rfl⟩ := hv.slice
 have hn1 : (n : Int) < (S.deps.length : Int) := by omega
 have hn0 : (0 : Int) ≤ (n : Int) := by omega
 have HE := Lib.hid hE
 clear h hv hE
 go_enter Tryz.func75, Tryz.ntmps75
 go_wp2_with fail
 have hx0 : Ext No W ((W.alloc (.cells #[.int .i64 (S.w : Int), .slice ad S.deps.length cd, .slice at1 S.deps.length ct, .slice ab S.deps.length cb] 27)).alloc (.cells #[.int .i64 0, .slice none 0 0] 50)) := ((Ext.refl _ _).alloc _).alloc _
 have HA := Lib.hid (show ((W.alloc (.cells #[.int .i64 (S.w : Int), .slice ad S.deps.length cd, .slice at1 S.deps.length ct, .slice ab S.deps.length cb] 27)).alloc (.cells #[.int .i64 0, .slice none 0 0] 50)).heap[W.heap.size]? = some (.cells #[.int .i64 (S.w : Int), .slice ad S.deps.length cd, .slice at1 S.deps.length ct, .slice ab S.deps.length cb] 27 (0, 0)) from alloc_under (alloc_top rfl))
 have HC := Lib.hid (show ((W.alloc (.cells #[.int .i64 (S.w : Int), .slice ad S.deps.length cd, .slice at1 S.deps.length ct, .slice ab S.deps.length cb] 27)).alloc (.cells #[.int .i64 0, .slice none 0 0] 50)).heap[W.heap.size + 1]? = some (.cells #[.int .i64 0, .slice none 0 0] 50 (0, 0)) from alloc_top (by simp))
 generalize ((W.alloc (.cells #[.int .i64 (S.w : Int), .slice ad S.deps.length cd, .slice at1 S.deps.length ct, .slice ab S.deps.length cb] 27)).alloc (.cells #[.int .i64 0, .slice none 0 0] 50)) = w2 at *
 refine (sysValid_yes S _ _ _ _ (H.out.extNo hx0)).mono ?_
 rintro e1 w1 ⟨rfl, hx1⟩
 have HX := Lib.hid (hx0.transNo hx1)
 have HA1 := Lib.hid (hx1.blk HA.out no_no)
 have HC1 := Lib.hid (hx1.blk HC.out no_no)
 have cA := cellOf HA1.out
 clear hx0 hx1 HA HC
 by_cases hl : Lv.length = S.deps.length
 ·have hl' : ((Lv.length : Int) != (S.deps.length : Int)) = false := by simp [hl]
  have HL := Lib.hid hl
  clear hl
  go_wp2_with fail
  clear cA
  refine (containsR_any _ Lv _ (HV.out.extNo HX.out)).mono ?_
  rintro e2 w3 ⟨b2, rfl, hb2, hx2⟩
  have HA2 := Lib.hid (hx2.blk HA1.out no_no)
  have HC2 := Lib.hid (hx2.blk HC1.out no_no)
  have HX2 := Lib.hid (HX.out.transNo hx2)
  clear hx2 HX HA1 HC1
  cases b2 with
  | true =>
   have hbad : valE (S.w : Int) S.deps.length Lv = 1 := by
    obtain ⟨k, hk, e⟩ := tells_yes hb2
    exact valE_inv (List.getElem_mem hk) (by simpa using e)
   have HBAD := Lib.hid hbad
   have hx := HX2.out
   have hC := HC2.out
   clear hb2 hbad
   have cC := cellOf hC
   have fC := freeOf hC
   have hs := lt_of_block hC
   go_wp2_with fail
   refine ret_ex rfl ?_
   simp [results, Tryz.results75, go_sem, cC]
   exact ⟨by rw [HBAD.out]; rfl, ext2 hx (by omega)⟩
  | false =>
   have hall : ∀ p ∈ Lv, validB p.1 = true := fun p hp => by
    obtain ⟨j, hj, rfl⟩ := List.mem_iff_getElem.1 hp
    exact Classical.byContradiction fun e => tells_no hb2 ⟨j, hj, e⟩
   have HALL := Lib.hid hall
   have cA := cellOf HA2.out
   clear hb2 hall
   go_wp2_with fail
   clear cA
   refine (sets_any _ _ Lv _ (HV.out.extNo HX2.out)).mono ?_
   rintro e3 w4 ⟨b3, rfl, hb3, hx3⟩
   have hC := hx3.blk HC2.out no_no
   have hx := HX2.out.transNo hx3
   have hnw : ¬ ∀ p ∈ Lv, FitS (S.w : Int) p.1 := fun e => HE.out (valE_ok HL.out HALL.out (fun p hp => (e p hp).2))
   obtain rfl := tells_f hb3 hnw
   have h2 : valE (S.w : Int) S.deps.length Lv = 2 := by
    rcases valE_cases (S.w : Int) S.deps.length Lv with h | h | h
    ·exact absurd h HE.out
    ·exact absurd (valE_one h) (fun e => e ⟨HL.out, HALL.out⟩)
    exact h
   have HBAD := Lib.hid h2
   clear hb3 hnw hx3 h2
   have cC := cellOf hC
   have fC := freeOf hC
   have hs := lt_of_block hC
   go_wp2_with fail
   refine ret_ex rfl ?_
   simp [results, Tryz.results75, go_sem, cC]
   exact ⟨by rw [HBAD.out]; rfl, ext2 hx (by omega)⟩
 have hl' : ((Lv.length : Int) != (S.deps.length : Int)) = true := by simp; omega
 have hl'' : ¬ ((Lv.length : Int) = (S.deps.length : Int)) := by omega
 have HBAD := Lib.hid (valE_len (x := (S.w : Int)) hl)
 have hx := HX.out
 have hC := HC1.out
 clear hl
 have cC := cellOf hC
 have fC := freeOf hC
 have hs := lt_of_block hC
 go_wp2_with fail
 refine ret_ex rfl ?_
 simp [results, Tryz.results75, go_sem, cC]
 exact ⟨by rw [HBAD.out]; rfl, ext2 hx (by omega)⟩
set_option maxRecDepth 100000 in
set_option maxHeartbeats 2000000 in
theorem next_val (S : SysD) (vd vt vb vv : Value) (Lv : LS) (W : World) (h : SysAt No W vd vt vb S) (hv : LAt kS No W vv Lv) (hE : valE (S.w : Int) S.deps.length Lv ≠ 0) :
  Calls Tryz.prog 36 #[.agg #[.int .i64 (S.w : Int), vd, vt, vb], vv] W (ErrPost (.slice none 0 0) (valE (S.w : Int) S.deps.length Lv) W) := by
 have H := Lib.hid h
 have HV := Lib.hid hv
 have hn := h.ok.n2
 have hn1 := h.ok.n1
 obtain ⟨ad, cd, at1, ct, ab, cb, rfl, rfl, rfl⟩ := h.slices
 obtain ⟨av, cv, rfl⟩ := hv.slice
 have HE := Lib.hid hE
 obtain ⟨E, hEE⟩ : ∃ E, E = valE (S.w : Int) S.deps.length Lv := ⟨_, rfl⟩
 rw [← hEE] at hE ⊢
 have HEE := Lib.hid hEE
 have hne : (E != 0) = true := by simp [hE]
 have heq : (E == 0) = false := by simp [hE]
 have hz0 : (0 : Int) < (S.deps.length : Int) := by omega
 clear h hv hEE
 go_enter Tryz.func36, Tryz.ntmps36
 go_wp2_with fail
 have hx0 : Ext No W (W.alloc (.cells #[.int .i64 (S.w : Int), .slice ad S.deps.length cd, .slice at1 S.deps.length ct, .slice ab S.deps.length cb] 27)) := (Ext.refl _ _).alloc _
 refine (sysValid_yes S _ _ _ _ (H.out.extNo hx0)).mono ?_
 rintro e1 w1 ⟨rfl, hx1⟩
 have HA := Lib.hid (hx1.blk (alloc_top (w := W) (o := (.cells #[.int .i64 (S.w : Int), .slice ad S.deps.length cd, .slice at1 S.deps.length ct, .slice ab S.deps.length cb] 27)) rfl) no_no)
 have HX := Lib.hid (hx0.transNo hx1)
 clear hx0 hx1
 have cA := cellOf HA.out
 go_wp2_with fail
 clear cA
 go_loopw [6, 7, 8, 9, 16] (fun s6 _ _ _ i wr => s6 = .slice none 0 0 ∧ i = .int .i64 0 ∧ wr = w1) (fun _ _ _ _ _ _ => 0)
 case atStart => exact ⟨rfl, rfl, rfl⟩
 obtain ⟨rfl, rfl, rfl⟩ := hrel
 have cA := cellOf HA.out
 go_wp2_with fail
 refine (right_val S _ _ _ _ Lv 0 _ (H.out.extNo HX.out) (HV.out.extNo HX.out) (by omega) HE.out).mono ?_
 rintro e2 w2 ⟨rfl, hx2⟩
 rw [← HEE.out]
 unfold zeroSv
 go_wp2_with fail
 refine ret_ex rfl ?_
 simp [results, Tryz.results36, go_sem]
 exact ⟨rfl, (HX.out.transNo hx2).alloc _⟩
set_option maxRecDepth 100000 in
set_option maxHeartbeats 2000000 in
theorem isAbove_err (x E : Int) (ad at1 ab : Option Addr) (nd cd nt ct nb cb : Nat) (vv : Value) (av : Option Addr) (nv cv : Nat) (W : World) (hvv : vv = .slice av nv cv) (hE : E ≠ 0)
  (hN : ∀ w', Ext No W w' → Calls Tryz.prog 36 #[.agg #[.int .i64 x, .slice ad nd cd, .slice at1 nt ct, .slice ab nb cb], vv] w' (ErrPost (.slice none 0 0) E w')) :
  Calls Tryz.prog 51 #[.agg #[.int .i64 x, .slice ad nd cd, .slice at1 nt ct, .slice ab nb cb], vv] W (BoolPost false W) := by
 have HN := Lib.hid hN
 have hne : (E != 0) = true := by simp [hE]
 have heq : (E == 0) = false := by simp [hE]
 subst hvv
 clear hN
 go_enter Tryz.func51, Tryz.ntmps51
 go_wp2_with fail
 have hx0 : Ext No W (W.alloc (.cells #[.int .i64 x, .slice ad nd cd, .slice at1 nt ct, .slice ab nb cb] 27)) := (Ext.refl _ _).alloc _
 refine (HN.out _ hx0).mono ?_
 rintro e1 w1 ⟨rfl, hx1⟩
 go_wp2_with fail
 go_ret
 exact ⟨rfl, hx0.transNo hx1⟩
theorem le_of_sub {a b : Nat} (h : subN a b = true) : LeB a b := fun i hi => by
 have h1 : diffN a b = 0 := of_decide_eq_true h
 have h2 := diffN_bit a b i
 rw [h1, Nat.zero_testBit, hi] at h2
 cases e : b.testBit i with
 | true => rfl
 | false => rw [e] at h2; cases h2
set_option maxRecDepth 100000 in
set_option maxHeartbeats 4000000 in
theorem isAbove_any (S : SysD) (vd vt vb vv : Value) (vs : List Nat) (W : World) (h : SysAt No W vd vt vb S) (hv : SetsV No W vv S.w vs) (hl : vs.length = S.deps.length) :
  Calls Tryz.prog 51 #[.agg #[.int .i64 (S.w : Int), vd, vt, vb], vv] W (Tells (LeV S (nextD S vs) vs) W) := by
 have H := Lib.hid h
 have HV := Lib.hid hv
 have HL := Lib.hid hl
 obtain ⟨ad, cd, at1, ct, ab, cb, rfl, rfl, rfl⟩ := h.slices
 obtain ⟨av, cv, rfl⟩ := hv.slice
 have hnn := h.ok.n2
 clear h hv hl
 go_enter Tryz.func51, Tryz.ntmps51
 go_wp2_with fail
 have hx0 : Ext No W (W.alloc (.cells #[.int .i64 (S.w : Int), .slice ad S.deps.length cd, .slice at1 S.deps.length ct, .slice ab S.deps.length cb] 27)) := (Ext.refl _ _).alloc _
 refine (sysNext_any No S _ _ _ _ vs _ no_lt' (H.out.extNo hx0) (HV.out.extNo hx0) HL.out).mono ?_
 rintro e1 w1 ⟨a1, c1, rfl, hs1, hx1⟩
 have hl2 : (nextD S vs).length = S.deps.length := nextTo_len _ _ _
 have HL2 := Lib.hid hl2
 rw [hl2] at hs1 ⊢
 have HX := Lib.hid (hx0.transNo hx1)
 have HS1 := Lib.hid hs1.out
 clear hx0 hx1 hs1 hl2
 go_wp2_with fail
 go_loopw [7, 18] (fun _ s18 wr => ∃ k : Nat, s18 = .int .i64 k ∧ k ≤ S.deps.length ∧ Hid (Ext No w1 wr) ∧ Hid (∀ j, j < k → LeB (rowD (nextD S vs) j) (rowD vs j))) (fun _ s18 _ => S.deps.length - (intOf s18).toNat)
 case atStart => exact ⟨0, rfl, Nat.zero_le _, Lib.hid (Ext.refl _ _), Lib.hid (fun j hj => absurd hj (Nat.not_lt_zero _))⟩
 obtain ⟨k, rfl, hk, hx, hm⟩ := hrel
 rename World => wr
 by_cases hlt : k < S.deps.length
 ·have hlz : (k : Int) < (S.deps.length : Int) := by omega
  obtain ⟨o1, o2, o3, o4, o5, hve, hcl1, hq1⟩ := (HS1.out.extNo hx.out).cells (i := k) (by rw [HL2.out]; exact hlt)
  rw [HL2.out] at hve
  simp only [Value.slice.injEq] at hve
  obtain ⟨rfl, -, rfl⟩ := hve
  obtain ⟨p1, p2, p3, p4, p5, hve, hcl2, hq2⟩ := ((HV.out.extNo HX.out).extNo hx.out).cells (i := k) (by rw [HL.out]; exact hlt)
  simp only [Value.slice.injEq] at hve
  obtain ⟨rfl, -, rfl⟩ := hve
  have hlv : (k : Int) < (vs.length : Int) := by rw [HL.out]; exact hlz
  have HQ1 := Lib.hid hcl1
  have HQ2 := Lib.hid hcl2
  clear hcl1 hcl2
  cases hs : subN (rowD (nextD S vs) k) (rowD vs k) with
  | true =>
   have HS := Lib.hid hs
   clear hs
   go_upto_region 7 with (fail)
   refine wp_region_held_drew (S := (fun w' => Ext No wr w')) (by kernel_rfl) ?_ (fun hHeld => ?_)
   ·exact (Ext.refl _ _).drew
   refine hHs [0, 1, 2, 3, 4, 5, 6] ?_
   iterate 7
    refine hTn ?_ hHeld (fun w hSw => ?_) ?_
    rotate_left
    ·(have hEs : Ext No wr _ := hSw); (obtain ⟨p0, p1⟩ := HQ1.out); (have q0 := hEs.keep p0); (have q1 := hEs.keep p1); go_simp; (try with_reducible rfl)
    simp only [Act.put, nzA, nzB, nzC]
   refine hHe ?_
   refine hTk 7 ?_ hHeld (fun w hSw => ?_) ?_
   rotate_left
   ·(have hEs : Ext No wr _ := hSw); (obtain ⟨p0, p1⟩ := HQ2.out); (have x0 := hEs.keep p0); (have x1 := hEs.keep p1); go_simp; (try with_reducible rfl)
   simp only [Act.put, nzA, nzB, nzC]
   refine hHc 8 fun K hK => ?_
   ((have hEx : Ext No wr _ := hHeld); go_simp; (go_at_call 92); (refine (subset_any S.w (rowD (nextD S vs) k) (rowD vs k) _ _ _ (hq1.out.extNo hEx) (hq2.out.extNo hEx)).mono ?_); (rintro e9 w9 ⟨rfl, hyA⟩); (rw [HS.out]); go_simp)
   refine hK.out _ _ ?_ ?_
   ·exact Ext.transNo (show Ext No wr _ from hHeld) hyA
   clear hK K hHeld
   intro hHeld
   try simp only [Act.put, nzA, nzB, nzC]
   refine hTk 9 ?_ hHeld (fun w hSw => ?_) ?_
   rotate_left
   ·go_simp; (try with_reducible rfl)
   simp only [Act.put, nzA, nzB, nzC]
   refine wpAnyH_done (by kernel_rfl) ?_ _
   have hEx : Ext No wr _ := hHeld
   go_wp2_with fail
   go_roundw
   case rel => exact ⟨k + 1, by go_num, by omega, Lib.hid (hx.out.transNo hEx), Lib.hid (fun j hj => by
    by_cases e : j = k
    ·subst e; exact le_of_sub HS.out
    exact hm.out j (by omega))⟩
   case measure => simp [intOf]; omega
  | false =>
   have HS := Lib.hid hs
   clear hs
   go_upto_region 7 with (fail)
   refine wp_region_held_drew (S := (fun w' => Ext No wr w')) (by kernel_rfl) ?_ (fun hHeld => ?_)
   ·exact (Ext.refl _ _).drew
   refine hHs [0, 1, 2, 3, 4, 5, 6] ?_
   iterate 7
    refine hTn ?_ hHeld (fun w hSw => ?_) ?_
    rotate_left
    ·(have hEs : Ext No wr _ := hSw); (obtain ⟨p0, p1⟩ := HQ1.out); (have q0 := hEs.keep p0); (have q1 := hEs.keep p1); go_simp; (try with_reducible rfl)
    simp only [Act.put, nzA, nzB, nzC]
   refine hHe ?_
   refine hTk 7 ?_ hHeld (fun w hSw => ?_) ?_
   rotate_left
   ·(have hEs : Ext No wr _ := hSw); (obtain ⟨p0, p1⟩ := HQ2.out); (have x0 := hEs.keep p0); (have x1 := hEs.keep p1); go_simp; (try with_reducible rfl)
   simp only [Act.put, nzA, nzB, nzC]
   refine hHc 8 fun K hK => ?_
   ((have hEx : Ext No wr _ := hHeld); go_simp; (go_at_call 92); (refine (subset_any S.w (rowD (nextD S vs) k) (rowD vs k) _ _ _ (hq1.out.extNo hEx) (hq2.out.extNo hEx)).mono ?_); (rintro e9 w9 ⟨rfl, hyA⟩); (rw [HS.out]); go_simp)
   refine hK.out _ _ ?_ ?_
   ·exact Ext.transNo (show Ext No wr _ from hHeld) hyA
   clear hK K hHeld
   intro hHeld
   try simp only [Act.put, nzA, nzB, nzC]
   refine hTk 9 ?_ hHeld (fun w hSw => ?_) ?_
   rotate_left
   ·go_simp; (try with_reducible rfl)
   simp only [Act.put, nzA, nzB, nzC]
   refine wpAnyH_done (by kernel_rfl) ?_ _
   have hEx : Ext No wr _ := hHeld
   go_wp2_with fail
   go_ret
   exact tells_false (fun e => by have := sub_of_le (e k hlt); rw [HS.out] at this; cases this) (HX.out.transNo (hx.out.transNo hEx))
 have hge : ¬ (k : Int) < (S.deps.length : Int) := by omega
 go_wp2_with fail
 go_ret
 exact tells_true (fun i hi => hm.out i (by omega)) (HX.out.transNo hx.out)

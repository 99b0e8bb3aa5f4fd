
import Derived.Test.YtjeohlooaiociaaGreatDoorP6
set_option linter.unusedVariables false
set_option linter.unusedSimpArgs false
namespace Go.Proofs.YtjeohlooaiociaaGreatDoor
open Go Go.RowKit
theorem valsP_of {S : SysD} {W : World} {sl : Value} {L : LS} (hL : LAt kS No W sl L) (h : ∀ p ∈ L, FitS (S.w : Int) p.1) : ∃ vs : List Nat, L.map Prod.fst = vs.map (setN S.w) ∧ ∀ m ∈ vs, m < 2 ^ S.w := by
 obtain ⟨vs, hv⟩ := lift_map (f := fun m : {m : Nat // m < 2 ^ S.w} => setN S.w m.1) L (fun p hp => by
  have h1 := h p hp
  have h2 : WordsAt No W p.2 p.1.words := hL.ok p hp
  obtain ⟨w', m, _, hm, he⟩ := (validB_iff h2.lt).1 h1.1
  have h3 := h1.2
  rw [he] at h3
  have h4 : ((w' : Nat) : Int) = (S.w : Int) := h3
  obtain rfl : w' = S.w := by omega
  exact ⟨⟨m, hm⟩, he⟩)
 exact ⟨vs.map Subtype.val, by rw [hv, List.map_map]; rfl, fun m hm => by
  obtain ⟨q, _, rfl⟩ := List.mem_map.1 hm
  exact q.2⟩
def AboveL (S : SysD) (Lv : LS) (vs : List Nat) : Prop := Lv.map Prod.fst = vs.map (setN S.w) ∧ vs.length = S.deps.length ∧ (∀ m ∈ vs, m < 2 ^ S.w) ∧ LeV S (nextD S vs) vs
def AccP (S : SysD) (Lv : LS) (R : LD) : Prop := RankedP Lv R ∧ ∃ vs, AboveL S Lv vs ∧ ∀ n, n < S.deps.length → DerP S vs R n
theorem map_setN_inj {w : Nat} : ∀ {us vs : List Nat}, (∀ m ∈ us, m < 2 ^ w) → (∀ m ∈ vs, m < 2 ^ w) → us.map (setN w) = vs.map (setN w) → us = vs
 | [], [], _, _, _ => rfl
 | [], b :: vs, _, _, h => by cases h
 | a :: us, [], _, _, h => by cases h
 | a :: us, b :: vs, h1, h2, h => by
  simp only [List.map_cons, List.cons.injEq] at h
  rw [(setN_inj2 (h1 a (List.mem_cons_self ..)) (h2 b (List.mem_cons_self ..)) h.1).2, map_setN_inj (fun m hm => h1 m (List.mem_cons_of_mem _ hm)) (fun m hm => h2 m (List.mem_cons_of_mem _ hm)) h.2]
theorem AboveL.uniq {S : SysD} {Lv : LS} {us vs : List Nat} (h : AboveL S Lv us) (k : AboveL S Lv vs) : us = vs := map_setN_inj h.2.2.1 k.2.2.1 (h.1.symm.trans k.1)
theorem AboveL.val {S : SysD} {Lv : LS} {vs : List Nat} (hw : S.w ≤ 256) (h : AboveL S Lv vs) : valE (S.w : Int) S.deps.length Lv = 0 := by
 have hf := set_of_map h.1 hw h.2.2.1
 exact valE_ok (by have := congrArg List.length h.1; simp at this; rw [this, h.2.1]) (fun p hp => (hf p hp).1) (fun p hp => (hf p hp).2)
theorem isAboveL_any (S : SysD) (vd vt vb vv : Value) (Lv : LS) (W : World) (h : SysAt No W vd vt vb S) (hv : LAt kS No W vv Lv) :
  Calls Tryz.prog 51 #[.agg #[.int .i64 (S.w : Int), vd, vt, vb], vv] W (Tells (∃ vs, AboveL S Lv vs) W) := by
 by_cases hE : valE (S.w : Int) S.deps.length Lv = 0
 ·obtain ⟨hl, hf⟩ := valE_zero hE
  obtain ⟨vs, hm, hlt⟩ := valsP_of hv hf
  have hl2 : vs.length = S.deps.length := by have := congrArg List.length hm; simp at this; omega
  refine (isAbove_any S vd vt vb vv vs W h (hv.setsV hm h.ok.w hlt) hl2).mono ?_
  rintro e w' ⟨b, rfl, hb, hx⟩
  exact ⟨b, rfl, hb.trans ⟨fun h1 => ⟨vs, hm, hl2, hlt, h1⟩, fun ⟨us, k⟩ => by
   obtain rfl : us = vs := map_setN_inj k.2.2.1 hlt (k.1.symm.trans hm)
   exact k.2.2.2⟩, hx⟩
 have h0 := h
 obtain ⟨ad, cd, at1, ct, ab, cb, rfl, rfl, rfl⟩ := h.slices
 obtain ⟨av, cv, rfl⟩ := hv.slice
 refine (isAbove_err (S.w : Int) _ ad at1 ab _ cd _ ct _ cb _ av _ cv W rfl hE (fun w2 hx2 => next_val S _ _ _ _ Lv w2 (h0.extNo hx2) (hv.extNo hx2) hE)).mono ?_
 rintro e w' ⟨rfl, hx⟩
 exact ⟨false, rfl, ⟨fun h => (by cases h), fun ⟨vs, k⟩ => absurd (k.val h0.ok.w) hE⟩, hx⟩
theorem prf_of {S : SysD} {W : World} {vv vr : Value} {Lv : LS} {R : LD} {vs : List Nat} (hw : S.w ≤ 256) (hv : LAt kS No W vv Lv) (hr : LAt kD No W vr R) (h : AboveL S Lv vs) (k : RankedP Lv R) : PrfAt No W S vv vr vs R := by
 have hll : Lv.length = vs.length := by have := congrArg List.length h.1; simpa using this
 refine ⟨hv.setsV h.1 hw h.2.2.1, hr, h.2.1, by rw [← k.1, hll, h.2.1], fun n hn => ?_⟩
 have h1 : n < Lv.length := by rw [hll, h.2.1]; exact hn
 have h2 : n < R.length := by rw [← k.1]; exact h1
 have h3 : n < vs.length := by rw [h.2.1]; exact hn
 obtain ⟨w, m, hw', hm, he, hl, -⟩ := k.2 n h1 h2
 have e1 : Lv[n].1 = setN S.w vs[n] := by
  have := congrArg (fun l => l[n]?) h.1
  simpa [h1, h3] using this
 obtain ⟨e2, e3⟩ := setN_inj2 hm (h.2.2.1 _ (List.getElem_mem h3)) (he.symm.trans e1)
 subst e2
 rw [rkD_get h2, hl]
 unfold memD
 rw [rowD_get h3, ← e3]
def ChkPost (p : Prop) (W : World) (e : Ending) (w' : World) : Prop := ∃ z : Int, e = .returned (.int .i64 z) ∧ (p ∧ z = 0 ∨ ¬ p ∧ z = 15) ∧ Ext No W w'
set_option maxRecDepth 100000 in
set_option maxHeartbeats 4000000 in
theorem check_any (S : SysD) (vd vt vb vv vr : Value) (Lv : LS) (R : LD) (W : World) (hT : TabW W) (h : SysAt No W vd vt vb S) (hv : LAt kS No W vv Lv) (hr : LAt kD No W vr R) :
  Calls Tryz.prog 15 #[.agg #[.int .i64 (S.w : Int), vd, vt, vb], .agg #[vv, vr]] W (ChkPost (AccP S Lv R) W) := by
 have H := Lib.hid h
 have HT := Lib.hid hT
 have HV := Lib.hid hv
 have HR := Lib.hid hr
 have hnn := h.ok.n2
 have HOK := Lib.hid h.ok
 obtain ⟨Ld, Lt, Lb, hy, hvs⟩ := h.vs
 have HY := Lib.hid hy
 have HVS := Lib.hid hvs
 obtain ⟨ad, cd, at1, ct, ab, cb, rfl, rfl, rfl⟩ := h.slices
 obtain ⟨av, cv, rfl⟩ := hv.slice
 obtain ⟨ar, cr, rfl⟩ := hr.slice
 clear h hv hr hT hy hvs
 go_enter Tryz.func15, Tryz.ntmps15
 go_wp2_with fail
 have hx0 : Ext No W ((W.alloc (.cells #[.int .i64 (S.w : Int), .slice ad S.deps.length cd, .slice at1 S.deps.length ct, .slice ab S.deps.length cb] 27)).alloc (.cells #[.slice av Lv.length cv, .slice ar R.length cr] 29)) := ((Ext.refl _ _).alloc _).alloc _
 have HA := Lib.hid (show ((W.alloc (.cells #[.int .i64 (S.w : Int), .slice ad S.deps.length cd, .slice at1 S.deps.length ct, .slice ab S.deps.length cb] 27)).alloc (.cells #[.slice av Lv.length cv, .slice ar R.length cr] 29)).heap[W.heap.size]? = some (.cells #[.int .i64 (S.w : Int), .slice ad S.deps.length cd, .slice at1 S.deps.length ct, .slice ab S.deps.length cb] 27 (0, 0)) from alloc_under (alloc_top rfl))
 have HB := Lib.hid (show ((W.alloc (.cells #[.int .i64 (S.w : Int), .slice ad S.deps.length cd, .slice at1 S.deps.length ct, .slice ab S.deps.length cb] 27)).alloc (.cells #[.slice av Lv.length cv, .slice ar R.length cr] 29)).heap[W.heap.size + 1]? = some (.cells #[.slice av Lv.length cv, .slice ar R.length cr] 29 (0, 0)) from alloc_top (by simp))
 generalize ((W.alloc (.cells #[.int .i64 (S.w : Int), .slice ad S.deps.length cd, .slice at1 S.deps.length ct, .slice ab S.deps.length cb] 27)).alloc (.cells #[.slice av Lv.length cv, .slice ar R.length cr] 29)) = V at *
 generalize W.heap.size = A at *
 refine (sysValid_any (S.w : Int) _ _ _ Ld Lt Lb _ (HY.out.extNo hx0)).mono ?_
 rintro e1 w1 ⟨b1, rfl, hb1, hx1⟩
 obtain rfl : b1 = true := hb1.2 HVS.out
 have HX := Lib.hid (hx0.transNo hx1)
 replace HA := Lib.hid (hx1.blk HA.out no_no)
 replace HB := Lib.hid (hx1.blk HB.out no_no)
 clear hb1 hx0 hx1
 have cB := cellOf HB.out
 go_wp2_with fail
 clear cB
 refine (ranked_any _ _ Lv R _ (HV.out.extNo HX.out) (HR.out.extNo HX.out)).mono ?_
 rintro e2 w2 ⟨b2, rfl, hb2, hx2⟩
 replace HX := Lib.hid (HX.out.transNo hx2)
 replace HA := Lib.hid (hx2.blk HA.out no_no)
 replace HB := Lib.hid (hx2.blk HB.out no_no)
 clear hx2
 cases b2 with
 | false =>
  have HB2 := Lib.hid (tells_no hb2)
  clear hb2
  go_wp2_with fail
  go_ret
  exact ⟨15, rfl, .inr ⟨fun h => HB2.out h.1, rfl⟩, HX.out⟩
 | true =>
  have HB2 := Lib.hid (tells_yes hb2)
  clear hb2
  have cA := cellOf HA.out
  have cB := cellOf HB.out
  go_wp2_with fail
  clear cA cB
  refine (isAboveL_any S _ _ _ _ Lv _ (H.out.extNo HX.out) (HV.out.extNo HX.out)).mono ?_
  rintro e3 w3 ⟨b3, rfl, hb3, hx3⟩
  replace HX := Lib.hid (HX.out.transNo hx3)
  replace HA := Lib.hid (hx3.blk HA.out no_no)
  replace HB := Lib.hid (hx3.blk HB.out no_no)
  clear hx3
  cases b3 with
  | false =>
   have HB3 := Lib.hid (tells_no hb3)
   clear hb3
   go_wp2_with fail
   go_ret
   exact ⟨15, rfl, .inr ⟨fun h => HB3.out (let ⟨_, vs, k, _⟩ := h; ⟨vs, k⟩), rfl⟩, HX.out⟩
  | true =>
   obtain ⟨vs, hvs⟩ := tells_yes hb3
   have HAB := Lib.hid hvs
   have hll : Lv.length = S.deps.length := by have := congrArg List.length hvs.1; simp at this; rw [this, hvs.2.1]
   have HLL := Lib.hid hll
   have HP := Lib.hid (prf_of HOK.out.w (HV.out.extNo HX.out) (HR.out.extNo HX.out) hvs HB2.out)
   have hlb : Lv.length ≤ 256 := by omega
   have cB := cellOf HB.out
   clear hb3 hvs hll
   go_wp2_with fail
   clear cB
   go_loopw [5, 22] (fun _ i wr => ∃ k : Nat, k ≤ Lv.length ∧ i = .int .i64 k ∧ Hid (Ext No w3 wr) ∧ Hid (∀ n, n < k → DerP S vs R n)) (fun _ i _ => Lv.length - (intOf i).toNat)
   case atStart => exact ⟨0, Nat.zero_le _, rfl, Lib.hid (Ext.refl _ _), Lib.hid (fun _ hj => absurd hj (Nat.not_lt_zero _))⟩
   obtain ⟨k, hk, rfl, hx, hall⟩ := hrel
   rename World => wr
   have HXR := Lib.hid (HX.out.transNo hx.out)
   by_cases hlt : k < Lv.length
   ·have hlz2 : (k : Int) < (Lv.length : Int) := by omega
    have HKK : Hid (Value.int .i64 ((k : Int) + 1) = .int .i64 ((k + 1 : Nat) : Int)) := Lib.hid (by rw [show ((k + 1 : Nat) : Int) = (k : Int) + 1 from by omega])
    have cA := cellOf (hx.out.blk HA.out no_no)
    have cB := cellOf (hx.out.blk HB.out no_no)
    have HKN : Hid (k < S.deps.length) := Lib.hid (by rw [← HLL.out]; exact hlt)
    go_wp2_with fail
    clear cA cB
    refine (derived_any S _ _ _ _ _ vs R k _ (HT.out.ext HXR.out) (H.out.extNo HXR.out) (HP.out.extNo hx.out) HKN.out).mono ?_
    rintro e5 w5 ⟨b5, rfl, hb5, hx5⟩
    cases b5 with
    | false =>
     have HB5 := Lib.hid (tells_no hb5)
     clear hb5
     go_wp2_with fail
     go_ret
     exact ⟨15, rfl, .inr ⟨fun ⟨_, us, k2, hd⟩ => HB5.out (by
      obtain rfl := k2.uniq HAB.out
      exact hd k HKN.out), rfl⟩, HXR.out.transNo hx5⟩
    | true =>
     have HB5 := Lib.hid (tells_yes hb5)
     clear hb5
     go_wp2_with fail
     go_roundw
     case rel => exact ⟨k + 1, by omega, HKK.out, Lib.hid (hx.out.transNo hx5), Lib.hid (fun n hn => by
      by_cases e : n = k
      ·subst e; exact HB5.out
      exact hall.out n (by omega))⟩
     case measure => simp [intOf]; omega
   have hge : ¬ (k : Int) < (Lv.length : Int) := by omega
   go_wp2_with fail
   go_ret
   exact ⟨0, rfl, .inl ⟨⟨HB2.out, vs, HAB.out, fun n hn => hall.out n (by rw [← HLL.out] at hn; omega)⟩, rfl⟩, HXR.out⟩


import Derived.Test.YtjeohlooaiociaaGreatDoorP6
set_option linter.unusedVariables false
set_option linter.unusedSimpArgs false
namespace Go.Proofs.YtjeohlooaiociaaGreatDoor
open Go Go.RowKit
theorem valsP_of {S : SysD} {W : World} {sl : Value} {L : LS} (hL : LAt kS No W sl L) (h : ∀ p ∈ L, FitS (S.w : Int) p.1) : ∃ vs : List Nat, L.map Prod.fst = vs.map (setN S.w) ∧ ∀ m ∈ vs, m < 2 ^ S.w := by
 obtain ⟨vs, hv⟩ := lift_map (f := fun m : {m : Nat // m < 2 ^ S.w} => setN S.w m.1) L (fun p hp => by
  have h1 := h p hp
  have h2 : WordsAt No W p.2 p.1.words := hL.ok p hp
  obtain ⟨w', m, _, hm, he⟩ := (validB_iff h2.lt).1 h1.1
  have h3 := h1.2
  rw [he] at h3
  have h4 : ((w' : Nat) : Int) = (S.w : Int) := h3
  obtain rfl : w' = S.w := by omega
  exact ⟨⟨m, hm⟩, he⟩)
 exact ⟨vs.map Subtype.val, by rw [hv, List.map_map]; rfl, fun m hm => by
  obtain ⟨q, _, rfl⟩ := List.mem_map.1 hm
  exact q.2⟩
def AboveL (S : SysD) (Lv : LS) (vs : List Nat) : Prop := Lv.map Prod.fst = vs.map (setN S.w) ∧ vs.length = S.deps.length ∧ (∀ m ∈ vs, m < 2 ^ S.w) ∧ LeV S (nextD S vs) vs
def AccP (S : SysD) (Lv : LS) (R : LD) : Prop := RankedP Lv R ∧ ∃ vs, AboveL S Lv vs ∧ ∀ n, n < S.deps.length → DerP S vs R n
theorem map_setN_inj {w : Nat} : ∀ {us vs : List Nat}, (∀ m ∈ us, m < 2 ^ w) → (∀ m ∈ vs, m < 2 ^ w) → us.map (setN w) = vs.map (setN w) → us = vs
 | [], [], _, _, _ => rfl
 | [], b :: vs, _, _, h => by cases h
 | a :: us, [], _, _, h => by cases h
 | a :: us, b :: vs, h1, h2, h => by
  simp only [List.map_cons, List.cons.injEq] at h
  rw [(setN_inj2 (h1 a (List.mem_cons_self ..)) (h2 b (List.mem_cons_self ..)) h.1).2, map_setN_inj (fun m hm => h1 m (List.mem_cons_of_mem _ hm)) (fun m hm => h2 m (List.mem_cons_of_mem _ hm)) h.2]
theorem AboveL.uniq {S : SysD} {Lv : LS} {us vs : List Nat} (h : AboveL S Lv us) (k : AboveL S Lv vs) : us = vs := map_setN_inj h.2.2.1 k.2.2.1 (h.1.symm.trans k.1)
theorem AboveL.val {S : SysD} {Lv : LS} {vs : List Nat} (hw : S.w ≤ 256) (h : AboveL S Lv vs) : valE (S.w : Int) S.deps.length Lv = 0 := by
 have hf := set_of_map h.1 hw h.2.2.1
 exact valE_ok (by have := congrArg List.length h.1; simp at this; rw [this, h.2.1]) (fun p hp => (hf p hp).1) (fun p hp => (hf p hp).2)
theorem isAboveL_any (S : SysD) (vd vt vb vv : Value) (Lv : LS) (W : World) (h : SysAt No W vd vt vb S) (hv : LAt kS No W vv Lv) :
  Calls Tryz.prog 51 #[.agg #[.int .i64 (S.w : Int), vd, vt, vb], vv] W (Tells (∃ vs, AboveL S Lv vs) W) := by
 by_cases hE : valE (S.w : Int) S.deps.length Lv = 0
 ·obtain ⟨hl, hf⟩ := valE_zero hE
  obtain ⟨vs, hm, hlt⟩ := valsP_of hv hf
  have hl2 : vs.length = S.deps.length := by have := congrArg List.length hm; simp at this; omega
  refine (isAbove_any S vd vt vb vv vs W h (hv.setsV hm h.ok.w hlt) hl2).mono ?_
  rintro e w' ⟨b, rfl, hb, hx⟩
  exact ⟨b, rfl, hb.trans ⟨fun h1 => ⟨vs, hm, hl2, hlt, h1⟩, fun ⟨us, k⟩ => by
   obtain rfl : us = vs := map_setN_inj k.2.2.1 hlt (k.1.symm.trans hm)
   exact k.2.2.2⟩, hx⟩
 have h0 := h
 obtain ⟨ad, cd, at1, ct, ab, cb, rfl, rfl, rfl⟩ := h.slices
 obtain ⟨av, cv, rfl⟩ := hv.slice
 refine (isAbove_err (S.w : Int) _ ad at1 ab _ cd _ ct _ cb _ av _ cv W rfl hE (fun w2 hx2 => next_val S _ _ _ _ Lv w2 (h0.extNo hx2) (hv.extNo hx2) hE)).mono ?_
 rintro e w' ⟨rfl, hx⟩
 exact ⟨false, rfl, ⟨fun h => (by cases h), fun ⟨vs, k⟩ => absurd (k.val h0.ok.w) hE⟩, hx⟩
theorem prf_of {S : SysD} {W : World} {vv vr : Value} {Lv : LS} {R : LD} {vs : List Nat} (hw : S.w ≤ 256) (hv : LAt kS No W vv Lv) (hr : LAt kD No W vr R) (h : AboveL S Lv vs) (k : RankedP Lv R) : PrfAt No W S vv vr vs R := by
 have hll : Lv.length = vs.length := by have := congrArg List.length h.1; simpa using this
 refine ⟨hv.setsV h.1 hw h.2.2.1, hr, h.2.1, by rw [← k.1, hll, h.2.1], fun n hn => ?_⟩
 have h1 : n < Lv.length := by rw [hll, h.2.1]; exact hn
 have h2 : n < R.length := by rw [← k.1]; exact h1
 have h3 : n < vs.length := by rw [h.2.1]; exact hn
 obtain ⟨w, m, hw', hm, he, hl, -⟩ := k.2 n h1 h2
 have e1 : Lv[n].1 = setN S.w vs[n] := by
  have := congrArg (fun l => l[n]?) h.1
  simpa [h1, h3] using this
 obtain ⟨e2, e3⟩ := setN_inj2 hm (h.2.2.1 _ (List.getElem_mem h3)) (he.symm.trans e1)
 subst e2
 rw [rkD_get h2, hl]
 unfold memD
 rw [rowD_get h3, ← e3]
def ChkPost (p : Prop) (W : World) (e : Ending) (w' : World) : Prop := ∃ z : Int, e = .returned (.int .i64 z) ∧ (p ∧ z = 0 ∨ ¬ p ∧ z = 15) ∧ Ext No W w'
set_option maxRecDepth 100000 in
set_option maxHeartbeats 4000000 in
theorem check_any (S : SysD) (vd vt vb vv vr : Value) (Lv : LS) (R : LD) (W : World) (hT : TabW W) (h : SysAt No W vd vt vb S) (hv : LAt kS No W vv Lv) (hr : LAt kD No W vr R) :
  Calls Tryz.prog 15 #[.agg #[.int .i64 (S.w : Int), vd, vt, vb], .agg #[vv, vr]] W (ChkPost (AccP S Lv R) W) := by
 have H := Lib.hid h
 have HT := Lib.hid hT
 have HV := Lib.hid hv
 have HR := Lib.hid hr
 have hnn := h.ok.n2
 have HOK := Lib.hid h.ok
 obtain ⟨Ld, Lt, Lb, hy, hvs⟩ := h.vs
 have HY := Lib.hid hy
 have HVS := Lib.hid hvs
 obtain ⟨ad, cd, at1, ct, ab, cb, rfl, rfl, rfl⟩ := h.slices
 obtain ⟨av, cv, rfl⟩ := hv.slice
 obtain ⟨ar, cr, rfl⟩ := hr.slice
 clear h hv hr hT hy hvs
 go_enter Tryz.func15, Tryz.ntmps15
 go_wp2_with fail
 have hx0 : Ext No W ((W.alloc (.cells #[.int .i64 (S.w : Int), .slice ad S.deps.length cd, .slice at1 S.deps.length ct, .slice ab S.deps.length cb] 27)).alloc (.cells #[.slice av Lv.length cv, .slice ar R.length cr] 29)) := ((Ext.refl _ _).alloc _).alloc _
 have HA := Lib.hid (show ((W.alloc (.cells #[.int .i64 (S.w : Int), .slice ad S.deps.length cd, .slice at1 S.deps.length ct, .slice ab S.deps.length cb] 27)).alloc (.cells #[.slice av Lv.length cv, .slice ar R.length cr] 29)).heap[W.heap.size]? = some (.cells #[.int .i64 (S.w : Int), .slice ad S.deps.length cd, .slice at1 S.deps.length ct, .slice ab S.deps.length cb] 27 (0, 0)) from alloc_under (alloc_top rfl))
 have HB := Lib.hid (show ((W.alloc (.cells #[.int .i64 (S.w : Int), .slice ad S.deps.length cd, .slice at1 S.deps.length ct, .slice ab S.deps.length cb] 27)).alloc (.cells #[.slice av Lv.length cv, .slice ar R.length cr] 29)).heap[W.heap.size + 1]? = some (.cells #[.slice av Lv.length cv, .slice ar R.length cr] 29 (0, 0)) from alloc_top (by simp))
 generalize ((W.alloc (.cells #[.int .i64 (S.w : Int), .slice ad S.deps.length cd, .slice at1 S.deps.length ct, .slice ab S.deps.length cb] 27)).alloc (.cells #[.slice av Lv.length cv, .slice ar R.length cr] 29)) = V at *
 generalize W.heap.size = A at *
 refine (sysValid_any (S.w : Int) _ _ _ Ld Lt Lb _ (HY.out.extNo hx0)).mono ?_
 rintro e1 w1 ⟨b1, rfl, hb1, hx1⟩
 obtain rfl : b1 = true := hb1.2 HVS.out
 have HX := Lib.hid (hx0.transNo hx1)
 replace HA := Lib.hid (hx1.blk HA.out no_no)
 replace HB := Lib.hid (hx1.blk HB.out no_no)
 clear hb1 hx0 hx1
 have cB := cellOf HB.out
 go_wp2_with fail
 clear cB
 refine (ranked_any _ _ Lv R _ (HV.out.extNo HX.out) (HR.out.extNo HX.out)).mono ?_
 rintro e2 w2 ⟨b2, rfl, hb2, hx2⟩
 replace HX := Lib.hid (HX.out.transNo hx2)
 replace HA := Lib.hid (hx2.blk HA.out no_no)
 replace HB := Lib.hid (hx2.blk HB.out no_no)
 clear hx2
 cases b2 with
 | false =>
  have HB2 := Lib.hid (tells_no hb2)
  clear hb2
  go_wp2_with fail
  go_ret
  exact ⟨15, rfl, .inr ⟨fun h => HB2.out h.1, rfl⟩, HX.out⟩
 | true =>
  have HB2 := Lib.hid (tells_yes hb2)
  clear hb2
  have cA := cellOf HA.out
  have cB := cellOf HB.out
  go_wp2_with fail
  clear cA cB
  refine (isAboveL_any S _ _ _ _ Lv _ (H.out.extNo HX.out) (HV.out.extNo HX.out)).mono ?_
  rintro e3 w3 ⟨b3, rfl, hb3, hx3⟩
  replace HX := Lib.hid (HX.out.transNo hx3)
  replace HA := Lib.hid (hx3.blk HA.out no_no)
  replace HB := Lib.hid (hx3.blk HB.out no_no)
  clear hx3
  cases b3 with
  | false =>
   have HB3 := Lib.hid (tells_no hb3)
   clear hb3
   go_wp2_with fail
   go_ret
   exact ⟨15, rfl, .inr ⟨fun h => HB3.out (let ⟨_, vs, k, _⟩ := h; ⟨vs, k⟩), rfl⟩, HX.out⟩
  | true =>
   obtain ⟨vs, hvs⟩ := tells_yes hb3
   have HAB := Lib.hid hvs
   have hll : Lv.length = S.deps.length := by have := congrArg List.length hvs.1; simp at this; rw [this, hvs.2.1]
   have HLL := Lib.hid hll
   have HP := Lib.hid (prf_of HOK.out.w (HV.out.extNo HX.out) (HR.out.extNo HX.out) hvs HB2.out)
   have hlb : Lv.length ≤ 256 := by omega
   have cB := cellOf HB.out
   clear hb3 hvs hll
   go_wp2_with fail
   clear cB
   go_loopw [5, 22] (fun _ i wr => ∃ k : Nat, k ≤ Lv.length ∧ i = .int .i64 k ∧ Hid (Ext No w3 wr) ∧ Hid (∀ n, n < k → DerP S vs R n)) (fun _ i _ => Lv.length - (intOf i).toNat)
   case atStart => exact ⟨0, Nat.zero_le _, rfl, Lib.hid (Ext.refl _ _), Lib.hid (fun _ hj => absurd hj (Nat.not_lt_zero _))⟩
   obtain ⟨k, hk, rfl, hx, hall⟩ := hrel
   rename World => wr
   have HXR := Lib.hid (HX.out.transNo hx.out)
   by_cases hlt : k < Lv.length
   ·have hlz2 : (k : Int) < (Lv.length : Int) := by omega
    have HKK : Hid (Value.int .i64 ((k : Int) + 1) = .int .i64 ((k + 1 : Nat) : Int)) := Lib.hid (by rw [show ((k + 1 : Nat) : Int) = (k : Int) + 1 from by omega])
    have cA := cellOf (hx.out.blk HA.out no_no)
    have cB := cellOf (hx.out.blk HB.out no_no)
    have HKN : Hid (k < S.deps.length) := Lib.hid (by rw [← HLL.out]; exact hlt)
    go_wp2_with fail
    clear cA cB
    refine (derived_any S _ _ _ _ _ vs R k _ (HT.out.ext HXR.out) (H.out.extNo HXR.out) (HP.out.extNo hx.out) HKN.out).mono ?_
    rintro e5 w5 ⟨b5, rfl, hb5, hx5⟩
    cases b5 with
    | false =>
     have HB5 := Lib.hid (tells_no hb5)
     clear hb5
     go_wp2_with fail
     go_ret
     exact ⟨15, rfl, .inr ⟨fun ⟨_, us, k2, hd⟩ => HB5.out (by
      obtain rfl := k2.uniq HAB.out
      exact hd k HKN.out), rfl⟩, HXR.out.transNo hx5⟩
    | true =>
     have HB5 := Lib.hid (tells_yes hb5)
     clear hb5
     go_wp2_with fail
     go_roundw
     case rel => exact ⟨k + 1, by omega, HKK.out, Lib.hid (hx.out.transNo hx5), Lib.hid (fun n hn => by
      by_cases e : n = k
      ·subst e; exact HB5.out
      exact hall.out n (by omega))⟩
     case measure => simp [intOf]; omega
   have hge : ¬ (k : Int) < (Lv.length : Int) := by omega
   go_wp2_with fail
   go_ret
   exact ⟨0, rfl, .inl ⟨⟨HB2.out, vs, HAB.out, fun n hn => hall.out n (by rw [← HLL.out] at hn; omega)⟩, rfl⟩, HXR.out⟩
end Go.Proofs.YtjeohlooaiociaaGreatDoor

namespace Go.Proofs.YtjeohlooaiociaaGreatDoor
open Go Go.RowKit
def inI (S : SysD) (n b r : Nat) : Bool := (rowD (iterD S r) n).testBit b
def rkTo (S : SysD) (n b : Nat) : Nat → Nat
 | 0 => 0
 | r + 1 => if inI S n b (r + 1) = true then rkTo S n b r else r + 1
theorem rkTo_spec {S : SysD} {n b : Nat} (h0 : inI S n b 0 = false) (hm : ∀ r, inI S n b r = true → inI S n b (r + 1) = true) : ∀ r, rkTo S n b r ≤ r ∧ (∀ j, j ≤ rkTo S n b r → inI S n b j = false) ∧ (rkTo S n b r < r → inI S n b (rkTo S n b r + 1) = true)
 | 0 => ⟨Nat.le_refl _, fun j hj => by
   have : j = 0 := Nat.le_zero.1 hj
   rw [this]; exact h0, fun h => absurd h (Nat.not_lt_zero _)⟩
 | r + 1 => by
  obtain ⟨h1, h2, h3⟩ := rkTo_spec h0 hm r
  by_cases e : inI S n b (r + 1) = true
  ·rw [rkTo, if_pos e]
   refine ⟨by omega, h2, fun _ => ?_⟩
   by_cases h4 : rkTo S n b r < r
   ·exact h3 h4
   rw [show rkTo S n b r = r from by omega]; exact e
  rw [rkTo, if_neg e]
  refine ⟨Nat.le_refl _, fun j hj => ?_, fun h => absurd h (Nat.lt_irrefl _)⟩
  cases ej : inI S n b j with
  | false => rfl
  | true =>
   have up : ∀ d, inI S n b (j + d) = true := fun d => by
    induction d with
    | zero => exact ej
    | succ d ih => exact hm _ ih
   have := up (r + 1 - j)
   rw [show j + (r + 1 - j) = r + 1 from by omega] at this
   exact absurd this e
theorem rk_mem {S : SysD} {n b R : Nat} (h0 : inI S n b 0 = false) (hm : ∀ r, inI S n b r = true → inI S n b (r + 1) = true) (h : inI S n b R = true) :
  rkTo S n b R < R ∧ inI S n b (rkTo S n b R + 1) = true ∧ inI S n b (rkTo S n b R) = false := by
 obtain ⟨h1, h2, h3⟩ := rkTo_spec h0 hm R
 have h4 : rkTo S n b R < R := by
  rcases Nat.lt_or_ge (rkTo S n b R) R with h4 | h4
  ·exact h4
  have := h2 R h4
  rw [this] at h; cases h
 exact ⟨h4, h3 h4, h2 _ (Nat.le_refl _)⟩
theorem rk_uniq {S : SysD} {n b R k : Nat} (h0 : inI S n b 0 = false) (hm : ∀ r, inI S n b r = true → inI S n b (r + 1) = true) (h : inI S n b R = true) (h1 : inI S n b (k + 1) = true) (h2 : inI S n b k = false) : rkTo S n b R = k := by
 obtain ⟨-, g1, g2⟩ := rk_mem h0 hm h
 have up : ∀ i d, inI S n b i = true → inI S n b (i + d) = true := fun i d hi => by
  induction d with
  | zero => exact hi
  | succ d ih => exact hm _ ih
 rcases Nat.lt_trichotomy (rkTo S n b R) k with e | e | e
 ·have := up _ (k - (rkTo S n b R + 1)) g1
  rw [show rkTo S n b R + 1 + (k - (rkTo S n b R + 1)) = k from by omega, h2] at this
  cases this
 ·exact e
 have := up _ (rkTo S n b R - (k + 1)) h1
 rw [show k + 1 + (rkTo S n b R - (k + 1)) = rkTo S n b R from by omega, g2] at this
 cases this
end Go.Proofs.YtjeohlooaiociaaGreatDoor

namespace Go.Proofs.YtjeohlooaiociaaGreatDoor
open Go Go.RowKit Tj
def rkI (S : SysD) (vs : List Nat) (n i r : Nat) : Nat := rkTo S n ((memD S vs n).getD i 0).toNat r
def rkF (S : SysD) (vs : List Nat) (r k j : Nat) : Nat → Nat → Nat := fun n i => if n < k ∨ n = k ∧ i < j then rkI S vs n i (r + 1) else rkI S vs n i r
theorem memD_len {S : SysD} (hw : S.w ≤ 256) (vs : List Nat) (n : Nat) : (memD S vs n).length ≤ 256 := by
 unfold memD membersN
 rw [List.length_map]
 have := List.length_filter_le (fun b => (rowD vs n).testBit b) (List.range S.w)
 simp at this; omega
theorem membersP_mem {w m : Nat} {x : Int} : x ∈ membersN w m ↔ ∃ b : Nat, x = b ∧ b < w ∧ m.testBit b = true := by
 unfold membersN
 simp only [List.mem_map, List.mem_filter, List.mem_range]
 constructor
 ·rintro ⟨b, ⟨h1, h2⟩, rfl⟩; exact ⟨b, rfl, h1, h2⟩
 rintro ⟨b, rfl, h1, h2⟩; exact ⟨b, ⟨h1, h2⟩, rfl⟩
structure MkM (S : SysD) (vs : List Nat) (w1 wr : World) (gr P k : Nat) (bo : Nat → Nat) (f : Nat → Nat → Nat) (av : Option Addr) (cv : Nat) : Prop where
 ext : Ext No w1 wr
 pbox : wr.heap[P]? = some (.cells #[.slice av S.deps.length cv, .slice (some ⟨gr, 0, none⟩) S.deps.length S.deps.length] 29 (0, 0))
 rk : RkM w1.heap.size wr gr S.deps.length k (fun n => (memD S vs n).length) bo f
 hP : w1.heap.size ≤ P
 ne : P ≠ gr ∧ ∀ n, n < k → bo n ≠ P
section
variable {S : SysD} {vs : List Nat} {w1 wr w' : World} {gr P k : Nat} {bo : Nat → Nat} {f f' : Nat → Nat → Nat} {av : Option Addr} {cv : Nat}
theorem MkM.stepNo (h : MkM S vs w1 wr gr P k bo f av cv) (hx : Ext No wr w') : MkM S vs w1 w' gr P k bo f av cv := ⟨h.ext.transNo hx, hx.blk h.pbox no_no, h.rk.stepNo hx, h.hP, h.ne⟩
theorem MkM.congr (h : MkM S vs w1 wr gr P k bo f av cv) (hf : ∀ n, n < k → ∀ i, i < (memD S vs n).length → f n i = f' n i) : MkM S vs w1 wr gr P k bo f' av cv := by
 refine ⟨h.ext, h.pbox, ⟨h.rk.row, fun n hn => ?_, h.rk.inj, h.rk.lo, h.rk.hg⟩, h.hP, h.ne⟩
 have h1 := h.rk.blk n hn
 unfold BlkF at h1 ⊢
 rw [h1]
 congr 3
 refine List.map_congr_left (fun i hi => ?_)
 rw [hf n hn i (List.mem_range.1 hi)]
theorem MkM.put {n i v : Nat} (h : MkM S vs w1 wr gr P k bo f av cv) (hn : n < k) : MkM S vs w1 (wr.setCell ⟨bo n, i, none⟩ (.int .i64 (v : Int))) gr P k bo (upd f n (upd (f n) i v)) av cv := by
 have hE : Ext (At (bo n)) wr (wr.setCell ⟨bo n, i, none⟩ (.int .i64 (v : Int))) := (Ext.refl (At (bo n)) wr).setAt _ _
 have hb := (h.rk.lo n hn).1
 exact ⟨h.ext.trans2 hE (fun j hj e => by unfold At at e; omega), hE.blk h.pbox (fun e => h.ne.2 n hn e.symm), h.rk.put hn, h.hP, h.ne⟩
theorem MkM.add {q : Nat} (h : MkM S vs w1 wr gr P k bo f av cv) (hq : BlkF wr q 3 (memD S vs k).length (fun _ => .int .i64 0)) (hb : w1.heap.size ≤ q) (hne : q ≠ gr) (hqP : q ≠ P) (hnew : ∀ n, n < k → bo n ≠ q) (hf : ∀ i, f k i = 0) :
  MkM S vs w1 (wr.setCell ⟨gr, k, none⟩ (.slice (some ⟨q, 0, none⟩) (memD S vs k).length (memD S vs k).length)) gr P (k + 1) (upd bo k q) f av cv := by
 have hE : Ext (At gr) wr (wr.setCell ⟨gr, k, none⟩ (.slice (some ⟨q, 0, none⟩) (memD S vs k).length (memD S vs k).length)) := (Ext.refl (At gr) wr).setAt _ _
 have hg := h.rk.hg
 refine ⟨h.ext.trans2 hE (fun j hj e => by unfold At at e; omega), hE.blk h.pbox (fun e => h.ne.1 e), h.rk.add hq hb hne hnew hf, h.hP, h.ne.1, fun n hn => ?_⟩
 by_cases e : n = k
 ·subst e; rw [updS5]; exact hqP
 rw [updN5 e]; exact h.ne.2 n (by omega)
theorem MkM.row (h : MkM S vs w1 wr gr P k bo f av cv) {n : Nat} (hn : n < k) (hN : n < S.deps.length) : wr.cell? ⟨gr, n, none⟩ = some (.slice (some ⟨bo n, 0, none⟩) (memD S vs n).length (memD S vs n).length) := by
 have h1 := h.rk.row.cell hN
 rw [h1, if_pos hn]
end
def RB (bo : Nat → Nat) (N : Nat) (b : Nat) : Prop := ∃ n, n < N ∧ b = bo n
theorem MkM.late {S : SysD} {vs : List Nat} {w1 wr w' : World} {gr P k C : Nat} {bo : Nat → Nat} {f : Nat → Nat → Nat} {av : Option Addr} {cv : Nat} (h : MkM S vs w1 wr gr P k bo f av cv) (hx : Ext (At C) wr w') (hC : C < w1.heap.size) : RkM w1.heap.size w' gr S.deps.length k (fun n => (memD S vs n).length) bo f := by
 have hg := h.rk.hg
 exact ⟨h.rk.row.ext hx (by unfold At; omega), fun n hn => (h.rk.blk n hn).ext hx (by have := (h.rk.lo n hn).1; unfold At; omega), h.rk.inj, h.rk.lo, hg⟩
theorem MkM.rb {S : SysD} {vs : List Nat} {w1 wr : World} {gr P : Nat} {bo : Nat → Nat} {f : Nat → Nat → Nat} {av : Option Addr} {cv : Nat} (h : MkM S vs w1 wr gr P S.deps.length bo f av cv) : ∀ b, RB bo S.deps.length b → b < wr.heap.size := fun b ⟨n, hn, e⟩ => by rw [e]; exact h.rk.ltB hn
theorem rkF_put {S : SysD} {vs : List Nat} {r k j : Nat} : ∀ n i, upd (rkF S vs r k j) k (upd (rkF S vs r k j k) j (rkI S vs k j (r + 1))) n i = rkF S vs r k (j + 1) n i := fun n i => by
 unfold upd rkF
 by_cases e : n = k
 ·subst e
  simp only [if_true]
  by_cases e2 : i = j
  ·subst e2; simp
  rw [if_neg e2]
  by_cases h : i < j
  ·rw [if_pos (.inr ⟨by trivial, h⟩), if_pos (.inr ⟨by trivial, by omega⟩)]
  rw [if_neg (by omega), if_neg (by omega)]
 rw [if_neg e]
 by_cases h : n < k
 ·rw [if_pos (.inl h), if_pos (.inl h)]
 rw [if_neg (by omega), if_neg (by omega)]
theorem rkF_same {S : SysD} {vs : List Nat} {r k j : Nat} (h : rkI S vs k j (r + 1) = rkI S vs k j r) : ∀ n i, rkF S vs r k j n i = rkF S vs r k (j + 1) n i := fun n i => by
 unfold rkF
 by_cases e : n = k ∧ i = j
 ·obtain ⟨rfl, rfl⟩ := e
  rw [if_neg (by omega), if_pos (by omega), h]
 by_cases h2 : n < k ∨ n = k ∧ i < j
 ·rw [if_pos h2, if_pos (by omega)]
 rw [if_neg h2, if_neg (by omega)]
theorem rkF_row {S : SysD} {vs : List Nat} {r k : Nat} : ∀ n i, i < (memD S vs n).length → rkF S vs r k (memD S vs k).length n i = rkF S vs r (k + 1) 0 n i := fun n i hi => by
 unfold rkF
 by_cases e : n = k
 ·subst e
  rw [if_pos (.inr ⟨rfl, hi⟩), if_pos (.inl (by omega))]
 by_cases h2 : n < k
 ·rw [if_pos (.inl h2), if_pos (.inl (by omega))]
 rw [if_neg (by omega), if_neg (by omega)]
theorem rkF_round {S : SysD} {vs : List Nat} {r N : Nat} : ∀ n i, n < N → rkF S vs r N 0 n i = rkF S vs (r + 1) 0 0 n i := fun n i hn => by
 unfold rkF
 rw [if_pos (.inl hn), if_neg (by omega)]
theorem rkI_hit {S : SysD} {vs : List Nat} {n i r : Nat} (h : inI S n ((memD S vs n).getD i 0).toNat (r + 1) = true) : rkI S vs n i (r + 1) = rkI S vs n i r := by
 unfold rkI; rw [rkTo, if_pos h]
theorem rkI_miss {S : SysD} {vs : List Nat} {n i r : Nat} (h : inI S n ((memD S vs n).getD i 0).toNat (r + 1) = false) : rkI S vs n i (r + 1) = r + 1 := by
 unfold rkI; rw [rkTo, if_neg (by rw [h]; simp)]
def MakePostM (M : Nat → Prop) (S : SysD) (W : World) (e : Ending) (w' : World) : Prop :=
 ∃ (R : Nat) (a ar : Option Addr) (c cr : Nat) (Rk : LD), FixAt S R ∧ e = .returned (.tuple #[.agg #[.slice a S.deps.length c, .slice ar S.deps.length cr], .int .i64 0]) ∧ Hid (PrfAt M w' S (.slice a S.deps.length c) (.slice ar S.deps.length cr) (iterD S R) Rk) ∧
  Hid (∀ n, n < S.deps.length → rkD Rk n = natsZ ((List.range (memD S (iterD S R) n).length).map fun i => rkI S (iterD S R) n i R)) ∧ Ext No W w'
set_option maxRecDepth 100000 in
set_option maxHeartbeats 16000000 in
theorem pmakeM_any (M : Nat → Prop) (S : SysD) (vd vt vb : Value) (W : World) (hM : ∀ b, M b → b < W.heap.size) (hT : TabW W) (h : SysAt No W vd vt vb S) :
  Calls Tryz.prog 10 #[.agg #[.int .i64 (S.w : Int), vd, vt, vb]] W (MakePostM M S W) := by
 have H := Lib.hid h
 have HT := Lib.hid hT
 have HM := Lib.hid hM
 have HOK := Lib.hid h.ok
 have hnn := h.ok.n2
 have hww := h.ok.w
 obtain ⟨ad, cd, at1, ct, ab, cb, rfl, rfl, rfl⟩ := h.slices
 have hmk := mk_rows S.deps.length (by omega)
 have HMK := Lib.hid hmk
 clear h hT hmk hM
 go_enter Tryz.func10, Tryz.ntmps10
 go_upto_region 1 with (fail)
 have hx0 : Ext No W ((W.alloc (.cells #[.int .i64 (S.w : Int), .slice ad S.deps.length cd, .slice at1 S.deps.length ct, .slice ab S.deps.length cb] 27)).alloc (.cells #[.slice none 0 0, .slice none 0 0] 29)) := ((Ext.refl _ _).alloc _).alloc _
 have HA := Lib.hid (show ((W.alloc (.cells #[.int .i64 (S.w : Int), .slice ad S.deps.length cd, .slice at1 S.deps.length ct, .slice ab S.deps.length cb] 27)).alloc (.cells #[.slice none 0 0, .slice none 0 0] 29)).heap[W.heap.size]? = some (.cells #[.int .i64 (S.w : Int), .slice ad S.deps.length cd, .slice at1 S.deps.length ct, .slice ab S.deps.length cb] 27 (0, 0)) from alloc_under (alloc_top rfl))
 have HC := Lib.hid (show ((W.alloc (.cells #[.int .i64 (S.w : Int), .slice ad S.deps.length cd, .slice at1 S.deps.length ct, .slice ab S.deps.length cb] 27)).alloc (.cells #[.slice none 0 0, .slice none 0 0] 29)).heap[W.heap.size + 1]? = some (.cells #[.slice none 0 0, .slice none 0 0] 29 (0, 0)) from alloc_top (by simp))
 generalize ((W.alloc (.cells #[.int .i64 (S.w : Int), .slice ad S.deps.length cd, .slice at1 S.deps.length ct, .slice ab S.deps.length cb] 27)).alloc (.cells #[.slice none 0 0, .slice none 0 0] 29)) = V at *
 have hAW := hx0.size
 have cA := cellOf HA.out
 go_wp2_with fail
 clear cA
 refine (sysSolve_any (fun b => b = W.heap.size + 1 ∨ M b) S _ _ _ _ (fun b e => by
  rcases e with e | e
  ·rw [e]; exact lt_of_block HC.out
  have := HM.out b e; omega) (H.out.extNo hx0)).mono ?_
 rintro e1 w1 ⟨R, av, cv, hR, rfl, hvs, hx1⟩
 have HFR := Lib.hid hR
 obtain ⟨bv, ov, kv, _, _, hve0, -, -⟩ := hvs.out.cells (i := 0) (by rw [(good_iter HOK.out R).len]; exact HOK.out.n1)
 rw [(good_iter HOK.out R).len] at hve0
 simp only [Value.slice.injEq] at hve0
 obtain ⟨rfl, -, rfl⟩ := hve0
 obtain ⟨vs, hv0⟩ : ∃ vs, vs = iterD S R := ⟨_, rfl⟩
 rw [← hv0] at hvs
 have HVE := Lib.hid hv0
 have hgood := good_iter HOK.out R
 rw [← hv0] at hgood
 have HVL := Lib.hid hgood.len
 have hR2 : (R : Int) ≤ 65536 := by
  obtain ⟨R2, h1, h2⟩ := fix_ex HOK.out
  have := hR.eq h1.first h1.fix
  have h3 : S.deps.length * S.w ≤ 256 * 256 := Nat.mul_le_mul hnn hww
  omega
 have HX1 := Lib.hid (hx0.transNo hx1)
 have HA1 := Lib.hid (hx1.blk HA.out no_no)
 have HC1 := Lib.hid (hx1.blk HC.out no_no)
 have HVS := Lib.hid hvs.out
 have hWC := lt_of_block HC1.out
 clear hx1 hx0 HA HC hvs hv0 hgood hR hAW
 have hmk := HMK.out
 go_upto_region 5 with (fail)
 clear hmk
 have hxr : Ext No w1 ((w1.alloc (.cells (rowP S.deps.length (fun _ => .slice none 0 0)) 22)).alloc (.cells #[.slice (some ⟨bv, ov, none⟩) S.deps.length cv, .slice (some ⟨w1.heap.size, 0, none⟩) S.deps.length S.deps.length] 29)) := ((Ext.refl _ _).alloc _).alloc _
 have hm0 : MkM S vs w1 ((w1.alloc (.cells (rowP S.deps.length (fun _ => .slice none 0 0)) 22)).alloc (.cells #[.slice (some ⟨bv, ov, none⟩) S.deps.length cv, .slice (some ⟨w1.heap.size, 0, none⟩) S.deps.length S.deps.length] 29)) w1.heap.size (w1.heap.size + 1) 0 (fun _ => 0) (rkF S vs 0 0 0) (some ⟨bv, ov, none⟩) cv := by
  refine ⟨hxr, alloc_top (by simp), ⟨?_, fun n hn => absurd hn (Nat.not_lt_zero _), fun n m hn => absurd hn (Nat.not_lt_zero _), fun n hn => absurd hn (Nat.not_lt_zero _), Nat.le_refl _⟩, by omega, by omega, fun n hn => absurd hn (Nat.not_lt_zero _)⟩
  have h1 := alloc_under (o := (.cells #[.slice (some ⟨bv, ov, none⟩) S.deps.length cv, .slice (some ⟨w1.heap.size, 0, none⟩) S.deps.length S.deps.length] 29)) (alloc_top (w := w1) (o := (.cells (rowP S.deps.length (fun _ => .slice none 0 0)) 22)) rfl)
  unfold BlkF
  rw [h1]
  simp [rowP]
 have HM0 := Lib.hid hm0
 clear hm0 hxr
 generalize ((w1.alloc (.cells (rowP S.deps.length (fun _ => .slice none 0 0)) 22)).alloc (.cells #[.slice (some ⟨bv, ov, none⟩) S.deps.length cv, .slice (some ⟨w1.heap.size, 0, none⟩) S.deps.length S.deps.length] 29)) = v2 at *
 obtain ⟨gr, hgr⟩ : ∃ gr, gr = w1.heap.size := ⟨_, rfl⟩
 obtain ⟨P, hP⟩ : ∃ P, P = w1.heap.size + 1 := ⟨_, rfl⟩
 rw [← hP, ← hgr] at HM0 ⊢
 have HGP := Lib.hid (And.intro hgr hP)
 clear hgr hP
 have hvz : (vs.length : Int) = (S.deps.length : Int) := by rw [HVL.out]
 have HVZ := Lib.hid hvz
 clear hvz
 go_wp2_with fail
 go_loopw [8, 9, 34] (fun _ _ i wr => ∃ (k : Nat) (bo : Nat → Nat), k ≤ S.deps.length ∧ i = .int .i64 k ∧ Hid (MkM S vs w1 wr gr P k bo (rkF S vs 0 0 0) (some ⟨bv, ov, none⟩) cv)) (fun _ _ i _ => S.deps.length - (intOf i).toNat)
 case atStart => exact ⟨0, _, Nat.zero_le _, rfl, HM0⟩
 clear HM0
 obtain ⟨k, bo, hk, rfl, hm⟩ := hrel
 rename World => wr
 by_cases hlt : k < S.deps.length
 ·have hlz : (k : Int) < (S.deps.length : Int) := by omega
  have HKK : Hid (Value.int .i64 ((k : Int) + 1) = .int .i64 ((k + 1 : Nat) : Int)) := Lib.hid (by rw [show ((k + 1 : Nat) : Int) = (k : Int) + 1 from by omega])
  obtain ⟨b0, o0, k0, a0, c0, hve, ⟨g0, g1⟩, hset⟩ := (HVS.out.no.extNo hm.out.ext).cells (i := k) (by rw [HVL.out]; exact hlt)
  rw [HVL.out] at hve
  simp only [Value.slice.injEq, Option.some.injEq, Addr.mk.injEq] at hve
  obtain ⟨⟨rfl, rfl, -⟩, -, rfl⟩ := hve
  obtain ⟨cn, hcn⟩ : ∃ cn, cn = (memD S vs k).length := ⟨_, rfl⟩
  have hcl : cn ≤ 256 := by rw [hcn]; exact memD_len hww vs k
  have HCN := Lib.hid (show cntN (rowD vs k) (nw S.w) = cn from by rw [hcn]; exact count_members hset.out.hm)
  have HCE := Lib.hid hcn
  have hmk := mk_intsP cn (by omega)
  have HMKI := Lib.hid hmk
  clear hcn hmk
  go_upto_region 8 with (fail)
  have hxa : Ext No wr (wr.alloc (.cells #[.int .i64 (S.w : Int), .slice a0 (nw S.w) c0] 50)) := (Ext.refl _ _).alloc _
  have HBV := Lib.hid (alloc_top (w := wr) (o := (.cells #[.int .i64 (S.w : Int), .slice a0 (nw S.w) c0] 50)) rfl)
  generalize (wr.alloc (.cells #[.int .i64 (S.w : Int), .slice a0 (nw S.w) c0] 50)) = w6 at *
  generalize wr.heap.size = D at *
  have hm6 := Lib.hid (hm.out.stepNo hxa)
  have HS6 := Lib.hid (hset.out.extNo hxa)
  have HP6 := Lib.hid hm6.out.pbox
  clear hxa hm g0 g1 hset
  refine wp_region_heldL [7] (fun w' => Ext No w6 w') (by kernel_rfl) ?_ (fun hHeld => ?_)
  ·exact (Ext.refl _ _).drew
  have HE := Lib.hid (show Ext No w6 w6.drew from (Ext.refl _ _).drew)
  generalize w6.drew = v0 at *
  refine hHs [0] (hHl hHeld ?_)
  clear hHeld
  refine hFn ?_ (fun w => ?_) ?_
  rotate_left
  ·go_simp; (try with_reducible rfl)
  simp only [Act.put, nzA, nzB, nzC]
  refine hHe fun hHeld => ?_
  refine hHs [1] (hHl hHeld ?_)
  clear hHeld
  refine hHn ?_ (fun w hSw => ?_) ?_
  rotate_left
  ·(have hEs : Ext No w6 _ := hSw); (have q0 := cellOf (hEs.blk HP6.out no_no)); go_simp; (try with_reducible rfl)
  simp only [Act.put, nzA, nzB, nzC]
  refine hHe fun hHeld => ?_
  refine hHs [2] (hHl hHeld ?_)
  clear hHeld
  refine hFn ?_ (fun w => ?_) ?_
  rotate_left
  ·go_simp; (try with_reducible rfl)
  simp only [Act.put, nzA, nzB, nzC]
  refine hHe fun hHeld => ?_
  refine hHs [3] (hHl hHeld ?_)
  clear hHeld
  refine hHn ?_ (fun w hSw => ?_) ?_
  rotate_left
  ·(have hEs : Ext No w6 _ := hSw); (have q0 := cellOf (hEs.blk HBV.out no_no)); go_simp; (try with_reducible rfl)
  simp only [Act.put, nzA, nzB, nzC]
  refine hHe fun hHeld => ?_
  refine heldL_next1 (i := 4) (by kernel_rfl) (NextL.mk rfl rfl (fun K hK => ?_))
  (go_simp; (go_at_call 35); (refine (count_any S.w (rowD vs k) _ _ (HS6.out.extNo HE.out)).mono ?_); (rintro e8 v1 ⟨rfl, hyA⟩); (rw [HCN.out]); go_simp)
  refine hK.out _ _ ?_ ?_
  ·intro _; exact HE.out.transNo hyA
  clear hK K hHeld
  intro hHeld
  replace HE := Lib.hid (HE.out.transNo hyA)
  clear hyA
  try simp only [Act.put, nzA, nzB, nzC]
  refine heldL_next1 (i := 5) (by kernel_rfl) (NextL.mk rfl rfl (fun K hK => ?_))
  ((have hmk := HMKI.out); go_simp; (clear hmk))
  refine hK.out _ _ ?_ ?_
  ·intro _; exact HE.out.alloc _
  clear hK K hHeld
  intro hHeld
  have HQ := Lib.hid (show BlkF (v1.alloc (.cells (rowP cn (fun _ => .int .i64 0)) 3)) v1.heap.size 3 cn (fun _ => .int .i64 0) from alloc_top rfl)
  have HQL := Lib.hid HE.out.size
  replace HE := Lib.hid (HE.out.alloc (.cells (rowP cn (fun _ => .int .i64 0)) 3))
  generalize (v1.alloc (.cells (rowP cn (fun _ => .int .i64 0)) 3)) = v2 at *
  generalize v1.heap.size = q at *
  try simp only [Act.put, nzA, nzB, nzC]
  refine hHs [6] (hHl hHeld ?_)
  clear hHeld
  refine hFn ?_ (fun w => ?_) ?_
  rotate_left
  ·go_simp; (try with_reducible rfl)
  simp only [Act.put, nzA, nzB, nzC]
  refine hHe fun hHeld => ?_
  refine heldL_next1 (i := 7) (by kernel_rfl) (NextL.mk rfl rfl (fun K hK => ?_))
  ((have hm8 := hm6.out.stepNo HE.out); (have z3 := hm8.rk.row.cell hlt); (rw [if_neg (Nat.lt_irrefl _)] at z3); (have f3 := hm8.rk.row.free k); go_simp; (clear z3 f3 hm8))
  refine hK.out _ _ ?_ ?_
  ·exact fun h => absurd h (by decide)
  clear hK K hHeld
  intro hHeld
  have hm8 := hm6.out.stepNo HE.out
  have hqn : ∀ b, b < w6.heap.size → b ≠ q := fun b hb e => by have := HQL.out; omega
  have hput := Lib.hid (hm8.add (q := q) (by rw [← HCE.out]; exact HQ.out) (by have := HQL.out; have := hm6.out.ext.size; omega) (fun e => hqn _ hm6.out.rk.lt e.symm) (fun e => hqn _ (lt_of_block hm6.out.pbox) e.symm) (fun n hn => hqn _ (hm6.out.rk.ltB hn)) (fun i => by unfold rkF; rw [if_neg (by omega)]; rfl))
  rw [← HCE.out] at hput
  clear hm8 hqn
  generalize (v2.setCell ⟨gr, k, none⟩ (.slice (some ⟨q, 0, none⟩) cn cn)) = v9 at *
  try simp only [Act.put, nzA, nzB, nzC]
  refine heldL_done (by kernel_rfl) ?_ _
  go_wp2_with fail
  go_roundw
  case rel => exact ⟨k + 1, _, by omega, HKK.out, hput⟩
  case measure => simp [intOf]; omega
 have hge : ¬ (k : Int) < (S.deps.length : Int) := by omega
 obtain rfl : k = S.deps.length := by omega
 have HA9 := Lib.hid (hm.out.ext.blk HA1.out no_no)
 have HX9 := Lib.hid (HX1.out.transNo hm.out.ext)
 have HRB := Lib.hid hm.out.rb
 go_upto_region 10 with (fail)
 go_cut [10, 11] (fun s10 _ wx => ∃ (a : Option Addr) (c : Nat), s10 = .slice a S.deps.length c ∧ Hid (SetsV (RB bo S.deps.length) wx (.slice a S.deps.length c) S.w (iterD S 1)) ∧ Hid (Ext No wr wx))
 case first =>
  refine wp_region_held_drew (S := (fun w' => Ext No wr w')) (by kernel_rfl) ?_ (fun hHeld => ?_)
  ·exact (Ext.refl _ _).drew
  refine hHs [0, 1] ?_
  iterate 2
   refine hTn ?_ hHeld (fun w hSw => ?_) ?_
   rotate_left
   ·(have hEs : Ext No wr _ := hSw); (have q0 := cellOf (hEs.blk HA9.out no_no)); go_simp; (try with_reducible rfl)
   simp only [Act.put, nzA, nzB, nzC]
  refine hHe ?_
  refine hHc 2 fun K hK => ?_
  ((have hEx : Ext No wr _ := hHeld); go_simp; (go_at_call 37); (refine (pempty_any S _ _ _ _ (H.out.extNo (HX9.out.transNo hEx))).mono ?_); (rintro e8 w8 ⟨a8, c8, rfl, hs8, hyA⟩); (simp only [List.length_replicate] at hs8 ⊢); go_simp)
  refine hK.out _ _ ?_ ?_
  ·exact Ext.transNo (show Ext No wr _ from hHeld) hyA
  clear hK K hHeld
  intro hHeld
  try simp only [Act.put, nzA, nzB, nzC]
  refine hHc 3 fun K hK => ?_
  ((have hEx : Ext No wr _ := hHeld); go_simp; (go_at_call 36); (refine (sysNext_any (RB bo S.deps.length) S _ _ _ _ (zerosD S) _ (fun b hb => Nat.lt_of_lt_of_le (HRB.out b hb) hEx.size) (H.out.extNo (HX9.out.transNo hEx)) hs8.out (by simp [zerosD])).mono ?_); (rintro e9 w9 ⟨a9, c9, rfl, hs9, hyA⟩); (rw [show (nextD S (zerosD S)).length = S.deps.length from nextTo_len _ _ _] at hs9 ⊢); go_simp)
  refine hK.out _ _ ?_ ?_
  ·exact Ext.transNo (show Ext No wr _ from hHeld) hyA
  clear hK K hHeld
  intro hHeld
  try simp only [Act.put, nzA, nzB, nzC]
  refine hHs [4, 5, 6, 7, 8] ?_
  iterate 5
   refine hTn ?_ hHeld (fun w hSw => ?_) ?_
   rotate_left
   ·go_simp; (try with_reducible rfl)
   simp only [Act.put, nzA, nzB, nzC]
  refine hHe ?_
  refine wpAnyH_done (by kernel_rfl) ?_ _
  have hEx : Ext No wr _ := hHeld
  go_wp2_with fail
  go_meet
  exact ⟨a9, c9, rfl, Lib.hid hs9.out, Lib.hid hEx⟩
 case rest =>
  obtain ⟨a, c, rfl, hnow, hxn⟩ := hcut
  rename World => w10
  have hm10 := Lib.hid (hm.out.stepNo hxn.out)
  clear hm HA9 HX9 hxn HRB
  go_wp2_with fail
  go_loopw [10, 12, 13, 14, 15, 16] (fun s10 s12 _ _ _ _ wx => ∃ (r : Nat) (a : Option Addr) (c : Nat), s12 = .int .i64 r ∧ r ≤ R ∧ s10 = .slice a S.deps.length c ∧ Hid (SetsV (RB bo S.deps.length) wx (.slice a S.deps.length c) S.w (iterD S (r + 1))) ∧ Hid (MkM S vs w1 wx gr P S.deps.length bo (rkF S vs r 0 0) (some ⟨bv, ov, none⟩) cv)) (fun _ s12 _ _ _ _ _ => R - (intOf s12).toNat)
  case atStart => exact ⟨0, a, c, rfl, Nat.zero_le _, rfl, hnow, hm10⟩
  clear hnow hm10
  obtain ⟨r, a, c, rfl, hr, rfl, hnow, hm⟩ := hrel
  rename World => wx
  have HRBX := Lib.hid hm.out.rb
  by_cases hlr : r < R
  ·have hlrz : (r : Int) < (R : Int) := by omega
   have HRR : Hid (Value.int .i64 ((r : Int) + 1) = .int .i64 ((r + 1 : Nat) : Int)) := Lib.hid (by rw [show ((r + 1 : Nat) : Int) = (r : Int) + 1 from by omega])
   go_wp2_with fail
   go_loopw [13, 14, 15, 16, 61] (fun _ _ _ _ i wy => ∃ k : Nat, k ≤ S.deps.length ∧ i = .int .i64 k ∧ Hid (SetsV (RB bo S.deps.length) wy (.slice a S.deps.length c) S.w (iterD S (r + 1))) ∧ Hid (MkM S vs w1 wy gr P S.deps.length bo (rkF S vs r k 0) (some ⟨bv, ov, none⟩) cv)) (fun _ _ _ _ i _ => S.deps.length - (intOf i).toNat)
   case atStart => exact ⟨0, Nat.zero_le _, rfl, hnow, hm⟩
   clear hnow hm
   obtain ⟨k, hk, rfl, hnow, hm⟩ := hrel
   rename World => wy
   by_cases hlt : k < S.deps.length
   ·have hlz : (k : Int) < (S.deps.length : Int) := by omega
    have HKK : Hid (Value.int .i64 ((k : Int) + 1) = .int .i64 ((k + 1 : Nat) : Int)) := Lib.hid (by rw [show ((k + 1 : Nat) : Int) = (k : Int) + 1 from by omega])
    obtain ⟨b0, o0, k0, a0, c0, hve, ⟨g0, g1⟩, hset⟩ := (HVS.out.no.extNo hm.out.ext).cells (i := k) (by rw [HVL.out]; exact hlt)
    rw [HVL.out] at hve
    simp only [Value.slice.injEq, Option.some.injEq, Addr.mk.injEq] at hve
    obtain ⟨⟨rfl, rfl, -⟩, -, rfl⟩ := hve
    go_upto_region 17 with (fail)
    have hxa : Ext No wy (wy.alloc (.cells #[.int .i64 (S.w : Int), .slice a0 (nw S.w) c0] 50)) := (Ext.refl _ _).alloc _
    have HBV := Lib.hid (alloc_top (w := wy) (o := (.cells #[.int .i64 (S.w : Int), .slice a0 (nw S.w) c0] 50)) rfl)
    generalize (wy.alloc (.cells #[.int .i64 (S.w : Int), .slice a0 (nw S.w) c0] 50)) = w6 at *
    generalize wy.heap.size = D at *
    have hm6 := Lib.hid (hm.out.stepNo hxa)
    have hn6 := Lib.hid (hnow.out.extNo hxa)
    have HS6 := Lib.hid (hset.out.extNo hxa)
    clear hxa hm hnow g0 g1 hset
    have cV := cellOf HBV.out
    go_wp2_with fail
    clear cV
    refine (members_any (RB bo S.deps.length) S.w (rowD vs k) _ _ hm6.out.rb (HT.out.ext (HX1.out.transNo hm6.out.ext)) HS6.out).mono ?_
    rintro e7 w7 ⟨a7, rfl, hrow, hx7⟩
    obtain ⟨ms, hms⟩ : ∃ ms, ms = membersN S.w (rowD vs k) := ⟨_, rfl⟩
    rw [← hms] at hrow ⊢
    have hml : ms.length ≤ 256 := by rw [hms]; exact memD_len hww vs k
    have HMS := Lib.hid (show memD S vs k = ms from hms.symm)
    have HMW := Lib.hid hms
    have hm7 := Lib.hid (hm6.out.stepNo hx7)
    have hn7 := Lib.hid (hn6.out.extNo hx7)
    have hr7 := Lib.hid hrow.out
    clear hms hrow hx7 hm6 hn6 HS6 HBV
    go_wp2_with fail
    go_loopw [15, 16, 69] (fun _ _ i wz => ∃ j : Nat, j ≤ ms.length ∧ i = .int .i64 j ∧ Hid (Ints (RB bo S.deps.length) wz .i64 (.slice a7 ms.length ms.length) ms) ∧ Hid (SetsV (RB bo S.deps.length) wz (.slice a S.deps.length c) S.w (iterD S (r + 1))) ∧ Hid (MkM S vs w1 wz gr P S.deps.length bo (rkF S vs r k j) (some ⟨bv, ov, none⟩) cv)) (fun _ _ i _ => ms.length - (intOf i).toNat)
    case atStart => exact ⟨0, Nat.zero_le _, rfl, hr7, hn7, hm7⟩
    clear hr7 hn7 hm7
    obtain ⟨j, hj, rfl, hrow, hnow, hm⟩ := hrel
    rename World => wz
    by_cases hltj : j < ms.length
    ·have hjz : (j : Int) < (ms.length : Int) := by omega
     have HJJ : Hid (Value.int .i64 ((j : Int) + 1) = .int .i64 ((j + 1 : Nat) : Int)) := Lib.hid (by rw [show ((j + 1 : Nat) : Int) = (j : Int) + 1 from by omega])
     obtain ⟨bm, om, km, hme, -, -, hcm⟩ := Ints.at hrow.out hltj
     simp only [Value.slice.injEq] at hme
     obtain ⟨rfl, -, -⟩ := hme
     have q0 := hcm j hltj
     obtain ⟨x, hxx⟩ : ∃ x, x = ms[j] := ⟨_, rfl⟩
     rw [← hxx] at q0
     have hxm : x ∈ membersN S.w (rowD vs k) := by rw [← HMW.out, hxx]; exact List.getElem_mem _
     obtain ⟨bx, hbx, hbw, hbt⟩ := membersP_mem.1 hxm
     have HGD := Lib.hid (show (memD S vs k).getD j 0 = x from by rw [HMS.out, hxx]; simp [hltj])
     obtain ⟨b1, o1, k1, a1, c1, hve1, ⟨n0, n1⟩, hset1⟩ := hnow.out.cells (i := k) (by rw [(good_iter HOK.out (r + 1)).len]; exact hlt)
     rw [(good_iter HOK.out (r + 1)).len] at hve1
     simp only [Value.slice.injEq] at hve1
     obtain ⟨rfl, -, rfl⟩ := hve1
     have HHZ := Lib.hid (show hasZ S.w (rowD (iterD S (r + 1)) k) x = inI S k x.toNat (r + 1) from by
      unfold hasZ inI
      rw [show inB S.w x = true from by simp [inB, hbx]; omega, Bool.true_and])
     clear hcm hxx hxm hbx hbw hbt
     go_wp2_with fail
     clear q0 n0 n1
     refine (has_any S.w (rowD (iterD S (r + 1)) k) _ x _ hset1.out.no).mono ?_
     rintro e8 w8 ⟨rfl, hx8⟩
     rw [HHZ.out]
     have hm8 := Lib.hid (hm.out.stepNo hx8)
     have hn8 := Lib.hid (hnow.out.extNo hx8)
     have hr8 := Lib.hid (show Ints (RB bo S.deps.length) w8 .i64 _ ms from Row.extNo hrow.out hx8)
     clear hset1 hm hnow hrow hx8
     cases hh : inI S k x.toNat (r + 1) with
     | true =>
      have HH := Lib.hid hh
      clear hh
      go_wp2_with fail
      go_roundw
      case rel => exact ⟨j + 1, by omega, HJJ.out, hr8, hn8, Lib.hid (hm8.out.congr (fun n hn i hi => rkF_same (rkI_hit (by rw [HGD.out]; exact HH.out)) n i))⟩
      case measure => simp [intOf]; omega
     | false =>
      have HH := Lib.hid hh
      clear hh
      have cP := cellOf hm8.out.pbox
      have z0 := hm8.out.row hlt hlt
      have hlm : (memD S vs k).length = ms.length := by rw [HMS.out]
      rw [hlm] at z0
      have hb0 := (hm8.out.rk.blk k hlt)
      have z1 := hb0.cell (i := j) (by rw [hlm]; exact hltj)
      have f1 := hb0.free j
      have hput := Lib.hid (hm8.out.put (n := k) (i := j) (v := r + 1) hlt)
      have hE : Ext (At (bo k)) w8 (w8.setCell ⟨bo k, j, none⟩ (.int .i64 ((r + 1 : Nat) : Int))) := (Ext.refl _ _).setAt _ _
      have hn9 := Lib.hid (hn8.out.ext hE (fun i _ e => ⟨k, hlt, e⟩))
      have hr9 := Lib.hid (show Ints (RB bo S.deps.length) _ .i64 _ ms from Row.ext hr8.out hE (fun i _ e => ⟨k, hlt, e⟩))
      have hput2 := Lib.hid (hput.out.congr (f' := rkF S vs r k (j + 1)) (fun n hn i hi => by
       have h1 := rkI_miss (S := S) (vs := vs) (n := k) (i := j) (r := r) (by rw [HGD.out]; exact HH.out)
       rw [← h1]
       exact rkF_put n i))
      rw [← HRR.out] at hput2 hn9 hr9
      clear hb0 hlm hput hE hm8 hn8 hr8
      go_wp2_with fail
      clear cP z0 z1 f1
      go_roundw
      case rel => exact ⟨j + 1, by omega, HJJ.out, hr9, hn9, hput2⟩
      case measure => simp [intOf]; omega
    have hgej : ¬ (j : Int) < (ms.length : Int) := by omega
    have hjj : j = ms.length := by omega
    have HJE := Lib.hid hjj
    clear hjj
    go_wp2_with fail
    go_roundw
    case rel => exact ⟨k + 1, by omega, HKK.out, hnow, Lib.hid (hm.out.congr (fun n hn i hi => by rw [HJE.out, ← HMS.out]; exact rkF_row n i hi))⟩
    case measure => simp [intOf]; omega
   have hge : ¬ (k : Int) < (S.deps.length : Int) := by omega
   have hkk : k = S.deps.length := by omega
   have HKE := Lib.hid hkk
   clear hkk
   have cA := cellOf (hm.out.ext.blk HA1.out no_no)
   go_wp2_with fail
   clear cA
   refine (sysNext_any (RB bo S.deps.length) S _ _ _ _ (iterD S (r + 1)) _ hm.out.rb (H.out.extNo (HX1.out.transNo hm.out.ext)) hnow.out.no (good_iter HOK.out (r + 1)).len).mono ?_
   rintro e8 w8 ⟨a8, c8, rfl, hs8, hx8⟩
   have hl8 : (nextD S (iterD S (r + 1))).length = S.deps.length := nextTo_len _ _ _
   rw [hl8] at hs8 ⊢
   have HS8 := Lib.hid hs8.out
   have hm8 := Lib.hid (hm.out.stepNo hx8)
   clear hs8 hx8 hm hnow hl8
   go_wp2_with fail
   go_roundw
   case rel => exact ⟨r + 1, a8, c8, HRR.out, by omega, rfl, HS8, Lib.hid (hm8.out.congr (fun n hn i hi => by rw [HKE.out]; exact rkF_round n i hn))⟩
   case measure => simp [intOf]; omega
  have hge : ¬ (r : Int) < (R : Int) := by omega
  have hrr : r = R := by omega
  have HRE := Lib.hid hrr
  clear hrr
  have hCb := hm.out.ext.blk HC1.out no_no
  have cP := cellOf hm.out.pbox
  have cC := cellOf hCb
  have fC := freeOf hCb
  go_wp2_with fail
  clear cP cC fC
  have hbF := (set_same (j := 1) (u := .slice (some ⟨gr, 0, none⟩) S.deps.length S.deps.length) (set_same (j := 0) (u := .slice (some ⟨bv, ov, none⟩) S.deps.length cv) hCb)).trans rfl
  have hE : Ext (At (W.heap.size + 1)) wx ((wx.setCell ⟨W.heap.size + 1, 0, none⟩ (.slice (some ⟨bv, ov, none⟩) S.deps.length cv)).setCell ⟨W.heap.size + 1, 1, none⟩ (.slice (some ⟨gr, 0, none⟩) S.deps.length S.deps.length)) := ((Ext.refl (At (W.heap.size + 1)) wx).setAt _ _).setAt _ _
  generalize ((wx.setCell ⟨W.heap.size + 1, 0, none⟩ (.slice (some ⟨bv, ov, none⟩) S.deps.length cv)).setCell ⟨W.heap.size + 1, 1, none⟩ (.slice (some ⟨gr, 0, none⟩) S.deps.length S.deps.length)) = WF at *
  have cF := cellOf hbF
  have hrk := hm.out.late hE hWC
  obtain ⟨Rk, h1, h2, h3⟩ := hrk.list (M := M) (by omega) (fun n hn => by have := memD_len hww vs n; omega) (fun b hb e => by have h1 := HM.out b e; have h2 := HX1.out.size; omega)
  refine ret_ex rfl ?_
  simp [results, Tryz.results10, go_sem, cF]
  have hvF : SetsV M WF (.slice (some ⟨bv, ov, none⟩) S.deps.length cv) S.w (iterD S R) := by
   rw [← HVE.out]
   exact ((HVS.out.extNo hm.out.ext).ext hE (fun i _ e => .inl e)).mono (fun i _ e => .inr e)
  have hmem : ∀ n, n < S.deps.length → rkD Rk n = natsZ ((List.range (memD S (iterD S R) n).length).map fun i => rkI S (iterD S R) n i R) := fun n hn => by
   rw [h3 n hn, ← HVE.out]
   congr 1
   refine List.map_congr_left (fun i _ => ?_)
   unfold rkF
   rw [if_neg (by omega), HRE.out]
  exact ⟨R, some ⟨bv, ov, none⟩, some ⟨gr, 0, none⟩, cv, S.deps.length, Rk, HFR.out, rfl, Lib.hid ⟨hvF, h2, by rw [← HVE.out]; exact HVL.out, h1, fun n hn => by rw [hmem n hn]; simp [natsZ]⟩, Lib.hid hmem, (HX1.out.transNo hm.out.ext).trans2 hE (fun i hi e => by unfold At at e; omega)⟩
def MakePost (S : SysD) (W : World) (e : Ending) (w' : World) : Prop := MakePostM No S W e w'
theorem pmake_any (S : SysD) (vd vt vb : Value) (W : World) (hT : TabW W) (h : SysAt No W vd vt vb S) :
  Calls Tryz.prog 10 #[.agg #[.int .i64 (S.w : Int), vd, vt, vb]] W (MakePost S W) := pmakeM_any No S vd vt vb W (fun _ x => x.elim) hT h

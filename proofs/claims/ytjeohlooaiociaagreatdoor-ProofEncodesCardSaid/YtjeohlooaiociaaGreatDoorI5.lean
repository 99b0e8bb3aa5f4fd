
import Derived.Test.YtjeohlooaiociaaGreatDoorI1
import Derived.Test.YtjeohlooaiociaaGreatDoorI3
import Derived.Test.YtjeohlooaiociaaGreatDoorH10
set_option linter.unusedVariables false
set_option linter.unusedSimpArgs false
namespace Go.Proofs.YtjeohlooaiociaaGreatDoor
open Go Go.RowKit
def valE (x : Int) (n : Nat) (l : LS) : Int := if l.length = n ∧ (∀ p ∈ l, validB p.1 = true) then (if ∀ p ∈ l, p.1.width = x then 0 else 2) else 1
theorem valE_len {x : Int} {n : Nat} {l : LS} (h : l.length ≠ n) : valE x n l = 1 := by unfold valE; rw [if_neg (fun e => h e.1)]
theorem valE_inv {x : Int} {n : Nat} {l : LS} {p : RawSet × Value} (h : p ∈ l) (hv : validB p.1 = false) : valE x n l = 1 := by unfold valE; rw [if_neg (fun e => by have := e.2 p h; rw [hv] at this; cases this)]
theorem valE_wid {x : Int} {n : Nat} {l : LS} {p : RawSet × Value} (hl : l.length = n) (hv : ∀ p ∈ l, validB p.1 = true) (h : p ∈ l) (hw : p.1.width ≠ x) : valE x n l = 2 := by unfold valE; rw [if_pos ⟨hl, hv⟩, if_neg (fun e => hw (e p h))]
theorem valE_ok {x : Int} {n : Nat} {l : LS} (hl : l.length = n) (hv : ∀ p ∈ l, validB p.1 = true) (hw : ∀ p ∈ l, p.1.width = x) : valE x n l = 0 := by unfold valE; rw [if_pos ⟨hl, hv⟩, if_pos hw]
theorem valE_zero {x : Int} {n : Nat} {l : LS} (h : valE x n l = 0) : l.length = n ∧ ∀ p ∈ l, FitS x p.1 := by
 unfold valE at h
 split at h
 ·rename_i h1
  split at h
  ·rename_i h2
   exact ⟨h1.1, fun p hp => ⟨h1.2 p hp, h2 p hp⟩⟩
  cases h
 cases h
theorem valE_one {x : Int} {n : Nat} {l : LS} (h : valE x n l = 1) : ¬ (l.length = n ∧ ∀ p ∈ l, validB p.1 = true) := fun e => by
 unfold valE at h
 rw [if_pos e] at h
 split at h
 ·cases h
 cases h
theorem valE_cases (x : Int) (n : Nat) (l : LS) : valE x n l = 0 ∨ valE x n l = 1 ∨ valE x n l = 2 := by
 unfold valE
 split
 ·split
  ·exact .inl rfl
  exact .inr (.inr rfl)
 exact .inr (.inl rfl)
set_option maxRecDepth 100000 in
set_option maxHeartbeats 4000000 in
theorem rvalues_any (x : Int) (ad at1 ab : Option Addr) (nd nt nb cd ct cb : Nat) (vv : Value) (L : LS) (W : World) (h : LAt kS No W vv L) :
  Calls Tryz.prog 95 #[.agg #[.int .i64 x, .slice ad nd cd, .slice at1 nt ct, .slice ab nb cb], vv] W fun e w' => e = .returned (.int .i64 (valE x nb L)) ∧ Ext No W w' := by
 have H := Lib.hid h
 obtain ⟨av, cv, rfl⟩ := h.slice
 have hlv := h.row.2.1
 clear h
 go_enter Tryz.func95, Tryz.ntmps95
 have hx0 : Ext No W (W.alloc (.cells #[.int .i64 x, .slice ad nd cd, .slice at1 nt ct, .slice ab nb cb] 27)) := (Ext.refl _ _).alloc _
 have HB := Lib.hid (alloc_top (w := W) (o := .cells #[.int .i64 x, .slice ad nd cd, .slice at1 nt ct, .slice ab nb cb] 27) rfl)
 by_cases hl : L.length = nb
 ·have hl' : ((L.length : Int) != (nb : Int)) = false := by simp [hl]
  have HL := Lib.hid hl
  clear hl
  go_upto_region 3 with (fail)
  have HX := Lib.hid hx0
  clear hx0
  generalize (W.alloc (.cells #[.int .i64 x, .slice ad nd cd, .slice at1 nt ct, .slice ab nb cb] 27)) = w1 at *
  go_wp2_with fail
  go_loopw [5] (fun i wr => ∃ k : Nat, i = .int .i64 k ∧ k ≤ L.length ∧ Hid (Ext No w1 wr) ∧ Hid (∀ j (hj : j < L.length), j < k → validB L[j].1 = true)) (fun i _ => L.length - (intOf i).toNat)
  case atStart => exact ⟨0, rfl, Nat.zero_le _, Lib.hid (Ext.refl _ _), Lib.hid (fun j _ hj => absurd hj (Nat.not_lt_zero _))⟩
  obtain ⟨k, rfl, hk, hx, hm⟩ := hrel
  rename World => wr
  by_cases hlt : k < L.length
  ·have hlz : (k : Int) < (L.length : Int) := by omega
   obtain ⟨b, off, cap', hsl, hb1, _, hcell⟩ := (H.out.extNo (HX.out.transNo hx.out)).atS hlt
   simp only [Value.slice.injEq] at hsl
   obtain ⟨rfl, _, rfl⟩ := hsl
   obtain ⟨s0, s1⟩ := hcell k hlt
   have hs0 : WordsAt No wr L[k].2 L[k].1.words := (H.out.extNo (HX.out.transNo hx.out)).ok L[k] (List.getElem_mem hlt)
   obtain ⟨s, hse⟩ : ∃ s, s = L[k] := ⟨_, rfl⟩
   rw [← hse] at s0 s1 hs0
   obtain ⟨f7, f8, he5⟩ := hs0.slice
   rw [he5] at s1 hs0
   have HS := Lib.hid hs0
   have HSE := Lib.hid hse
   clear hcell hb1 he5 hs0 hse
   go_wp2_with fail
   go_at_call 61
   refine (rvalid_any _ s.1 _ ⟨_, rfl, HS.out⟩).mono ?_
   rintro e7 w7 ⟨rfl, hx7⟩
   cases hv : validB s.1 with
   | true =>
    have HV := Lib.hid hv
    clear hv
    go_wp2_with fail
    go_roundw
    case rel => exact ⟨k + 1, by go_num, by omega, Lib.hid (hx.out.transNo hx7), Lib.hid (fun j h1 h2 => by
     by_cases e : j = k
     ·subst e; rw [← HSE.out]; exact HV.out
     exact hm.out j h1 (by omega))⟩
    case measure => simp [intOf]; omega
   | false =>
    have HV := Lib.hid hv
    clear hv
    go_wp2_with fail
    go_ret
    exact ⟨by rw [valE_inv (List.getElem_mem hlt) (by rw [← HSE.out]; exact HV.out)]; rfl, HX.out.transNo (hx.out.transNo hx7)⟩
  have hge : ¬ (k : Int) < (L.length : Int) := by omega
  have HVA : Hid (∀ p ∈ L, validB p.1 = true) := Lib.hid (fun p hp => by
   obtain ⟨j, hj, rfl⟩ := List.mem_iff_getElem.1 hp
   exact hm.out j hj (by omega))
  clear hm
  go_wp2_with fail
  go_loopw [6] (fun i wx => ∃ k : Nat, i = .int .i64 k ∧ k ≤ L.length ∧ Hid (Ext No w1 wx) ∧ Hid (∀ j (hj : j < L.length), j < k → L[j].1.width = x)) (fun i _ => L.length - (intOf i).toNat)
  case atStart => exact ⟨0, rfl, Nat.zero_le _, hx, Lib.hid (fun j _ hj => absurd hj (Nat.not_lt_zero _))⟩
  clear hx hge hlt hk
  obtain ⟨k, rfl, hk, hx, hm⟩ := hrel
  rename World => wx
  by_cases hlt : k < L.length
  ·have hlz : (k : Int) < (L.length : Int) := by omega
   obtain ⟨b, off, cap', hsl, hb1, _, hcell⟩ := (H.out.extNo (HX.out.transNo hx.out)).atS hlt
   simp only [Value.slice.injEq] at hsl
   obtain ⟨rfl, _, rfl⟩ := hsl
   have s0 := (hcell k hlt).1
   obtain ⟨s, hse⟩ : ∃ s, s = L[k] := ⟨_, rfl⟩
   rw [← hse] at s0
   have HSE := Lib.hid hse
   have cB := cellOf (hx.out.blk HB.out no_no)
   clear hcell hb1 hse
   by_cases hw : s.1.width = x
   ·have hw' : (s.1.width != x) = false := by simp [hw]
    have HW := Lib.hid hw
    clear hw
    go_wp2_with fail
    go_quiet (fail)
    go_wp2_with fail
    go_roundw
    case rel => exact ⟨k + 1, by go_num, by omega, Lib.hid (hx.out.drewN _), Lib.hid (fun j h1 h2 => by
     by_cases e : j = k
     ·subst e; rw [← HSE.out]; exact HW.out
     exact hm.out j h1 (by omega))⟩
    case measure => simp [intOf]; omega
   have hw' : (s.1.width != x) = true := by simp [hw]
   go_wp2_with fail
   go_quiet (fail)
   go_wp2_with fail
   go_ret
   exact ⟨by rw [valE_wid HL.out HVA.out (List.getElem_mem hlt) (by rw [← HSE.out]; exact hw)]; rfl, HX.out.transNo (hx.out.drewN _)⟩
  have hge : ¬ (k : Int) < (L.length : Int) := by omega
  go_wp2_with fail
  go_ret
  exact ⟨by rw [valE_ok HL.out HVA.out (fun p hp => by
   obtain ⟨j, hj, rfl⟩ := List.mem_iff_getElem.1 hp
   exact hm.out j hj (by omega))]; rfl, HX.out.transNo hx.out⟩
 have hl' : ((L.length : Int) != (nb : Int)) = true := by simp; omega
 have hl'' : ¬ ((L.length : Int) = (nb : Int)) := by omega
 go_wp2_with fail
 go_ret
 exact ⟨by rw [valE_len hl]; rfl, hx0⟩
end Go.Proofs.YtjeohlooaiociaaGreatDoor

namespace Go.Proofs.YtjeohlooaiociaaGreatDoor
open Go Go.RowKit
def ErrPost (z : Value) (E : Int) (W : World) (e : Ending) (w' : World) : Prop := e = .returned (.tuple #[z, .int .i64 E]) ∧ Ext No W w'
theorem rvalidSys_yes (S : SysD) (vd vt vb : Value) (W : World) (h : SysAt No W vd vt vb S) :
  Calls Tryz.prog 40 #[.agg #[.int .i64 (S.w : Int), vd, vt, vb]] W (BoolPost true W) := by
 obtain ⟨Ld, Lt, Lb, h1, h2⟩ := h.vs
 refine (rvalidSys_any _ _ _ _ Ld Lt Lb W h1).mono ?_
 rintro e w' ⟨b, rfl, hb, hx⟩
 exact ⟨by rw [tells_t hb h2], hx⟩
def zeroSv : Value := .agg #[.int .i64 0, .slice none 0 0]
set_option maxRecDepth 100000 in
set_option maxHeartbeats 2000000 in
theorem rRight_any (M : Nat → Prop) (S : SysD) (vd vt vb vv : Value) (vs : List Nat) (n : Nat) (W : World) (hM : ∀ b, M b → b < W.heap.size) (h : SysAt M W vd vt vb S) (hv : SetsV No W vv S.w vs) (hl : vs.length = S.deps.length) (hn : n < S.deps.length) :
  Calls Tryz.prog 82 #[.agg #[.int .i64 (S.w : Int), vd, vt, vb], vv, .int .i64 (n : Int)] W (SetEPost M S.w (rightD S vs n) W) := by
 have H := Lib.hid h
 have HV := Lib.hid hv
 have HM := Lib.hid hM
 have HL := Lib.hid hl
 have HN := Lib.hid hn
 have hnn := h.ok.n2
 obtain ⟨ad, cd, at1, ct, ab, cb, rfl, rfl, rfl⟩ := h.slices
 obtain ⟨av, cv, rfl⟩ := hv.slice
 have hn1 : (n : Int) < (S.deps.length : Int) := by omega
 have hn0 : (0 : Int) ≤ (n : Int) := by omega
 obtain ⟨Lv, hLv, hLm, hLl⟩ := hv.list
 have hE : valE (S.w : Int) S.deps.length Lv = 0 := valE_ok (by omega) (fun p hp => (set_of_map hLm hv.hw hv.hm p hp).1) (fun p hp => (set_of_map hLm hv.hw hv.hm p hp).2)
 have HE := Lib.hid hE
 have HLV := Lib.hid hLv
 clear h hv hM hl hn hLv hLm hLl hE
 go_enter Tryz.func82, Tryz.ntmps82
 go_wp2_with fail
 have hx0 : Ext No W ((W.alloc (.cells #[.int .i64 (S.w : Int), .slice ad S.deps.length cd, .slice at1 S.deps.length ct, .slice ab S.deps.length cb] 27)).alloc (.cells #[.int .i64 0, .slice none 0 0] 50)) := ((Ext.refl _ _).alloc _).alloc _
 have HA := Lib.hid (show ((W.alloc (.cells #[.int .i64 (S.w : Int), .slice ad S.deps.length cd, .slice at1 S.deps.length ct, .slice ab S.deps.length cb] 27)).alloc (.cells #[.int .i64 0, .slice none 0 0] 50)).heap[W.heap.size]? = some (.cells #[.int .i64 (S.w : Int), .slice ad S.deps.length cd, .slice at1 S.deps.length ct, .slice ab S.deps.length cb] 27 (0, 0)) from alloc_under (alloc_top rfl))
 have HC := Lib.hid (show ((W.alloc (.cells #[.int .i64 (S.w : Int), .slice ad S.deps.length cd, .slice at1 S.deps.length ct, .slice ab S.deps.length cb] 27)).alloc (.cells #[.int .i64 0, .slice none 0 0] 50)).heap[W.heap.size + 1]? = some (.cells #[.int .i64 0, .slice none 0 0] 50 (0, 0)) from alloc_top (by simp))
 generalize ((W.alloc (.cells #[.int .i64 (S.w : Int), .slice ad S.deps.length cd, .slice at1 S.deps.length ct, .slice ab S.deps.length cb] 27)).alloc (.cells #[.int .i64 0, .slice none 0 0] 50)) = w2 at *
 refine (rvalidSys_yes S _ _ _ _ (H.out.no.extNo hx0)).mono ?_
 rintro e1 w1 ⟨rfl, hx1⟩
 have HX := Lib.hid (hx0.transNo hx1)
 have HA1 := Lib.hid (hx1.blk HA.out no_no)
 have HC1 := Lib.hid (hx1.blk HC.out no_no)
 have cA := cellOf HA1.out
 clear hx0 hx1 HA HC
 go_wp2_with fail
 refine (rvalues_any (S.w : Int) _ _ _ _ _ _ _ _ _ _ Lv _ (HLV.out.extNo HX.out)).mono ?_
 rintro e3 w3 ⟨rfl, hx3⟩
 rw [HE.out]
 have HX3 := Lib.hid (HX.out.transNo hx3)
 have HA3 := Lib.hid (hx3.blk HA1.out no_no)
 have HC3 := Lib.hid (hx3.blk HC1.out no_no)
 clear cA hx3 HX HA1 HC1
 have cA := cellOf HA3.out
 have hsC := lt_of_block HC3.out
 go_wp2_with fail
 refine (rright_any (fun b => M b ∨ b = W.heap.size + 1) S _ _ _ _ vs n _ (fun b hb => by rcases hb with hb | hb; (have := HM.out b hb; omega); omega) ((H.out.mono (M' := fun b => M b ∨ b = W.heap.size + 1) (fun i hi e => by rcases e with e | e; exact e; omega)).extNo HX3.out) (HV.out.extNo HX3.out) HL.out HN.out).mono ?_
 rintro e4 w4 ⟨a4, c4, rfl, hs4, hx4⟩
 have hx := HX3.out.transNo hx4
 have hC := hx4.blk HC3.out no_no
 have cC := cellOf hC
 have fC := freeOf hC
 have hs := lt_of_block hC
 have hE2 : Ext (At (W.heap.size + 1)) w4 ((w4.setCell ⟨W.heap.size + 1, 0, none⟩ (.int .i64 (S.w : Int))).setCell ⟨W.heap.size + 1, 1, none⟩ (.slice a4 (nw S.w) c4)) := ext_two (Ext.refl No w4) _
 have hbF := (set_same (j := 1) (u := .slice a4 (nw S.w) c4) (set_same (j := 0) (u := .int .i64 (S.w : Int)) hC)).trans rfl
 clear cA hx4
 go_wp2_with fail
 generalize ((w4.setCell ⟨W.heap.size + 1, 0, none⟩ (.int .i64 (S.w : Int))).setCell ⟨W.heap.size + 1, 1, none⟩ (.slice a4 (nw S.w) c4)) = WF at *
 have cF := cellOf hbF
 refine ret_ex rfl ?_
 simp [results, Tryz.results82, go_sem, cF]
 exact ⟨a4, c4, rfl, Lib.hid ((hs4.out.ext hE2 (fun i _ e => .inr e)).mono (fun i _ e => .inl e)), hx.trans2 hE2 (fun i hi e => by unfold At at e; omega)⟩
end Go.Proofs.YtjeohlooaiociaaGreatDoor

namespace Go.Proofs.YtjeohlooaiociaaGreatDoor
open Go Go.RowKit
set_option maxRecDepth 100000 in
set_option maxHeartbeats 4000000 in
theorem rNext_any (M : Nat → Prop) (S : SysD) (vd vt vb vv : Value) (vs : List Nat) (W : World) (hM : ∀ b, M b → b < W.heap.size) (h : SysAt M W vd vt vb S) (hv : SetsV No W vv S.w vs) (hl : vs.length = S.deps.length) :
  Calls Tryz.prog 43 #[.agg #[.int .i64 (S.w : Int), vd, vt, vb], vv] W (SetsEPost M S.w (nextD S vs) W) := by
 obtain ⟨i0, hi0, hz0, hz1, hz2⟩ := info_parts infoS
 have H := Lib.hid h
 have HV := Lib.hid hv
 have HM := Lib.hid hM
 have HL := Lib.hid hl
 have hok := h.ok
 obtain ⟨ad, cd, at1, ct, ab, cb, rfl, rfl, rfl⟩ := h.slices
 obtain ⟨av, cv, rfl⟩ := hv.slice
 have hnn := hok.n2
 have hn1 := hok.n1
 have hmx : max (S.deps.length : Int) 1 = (S.deps.length : Int) := by omega
 have HOK := Lib.hid hok
 clear h hv hM hl hok
 go_enter Tryz.func43, Tryz.ntmps43
 go_upto_region 1 with (fail)
 have HX := Lib.hid (show Ext No W (W.alloc (.cells #[.int .i64 (S.w : Int), .slice ad S.deps.length cd, .slice at1 S.deps.length ct, .slice ab S.deps.length cb] 27)) from (Ext.refl _ _).alloc _)
 have HA := Lib.hid (alloc_top (w := W) (o := (.cells #[.int .i64 (S.w : Int), .slice ad S.deps.length cd, .slice at1 S.deps.length ct, .slice ab S.deps.length cb] 27)) rfl)
 generalize (W.alloc (.cells #[.int .i64 (S.w : Int), .slice ad S.deps.length cd, .slice at1 S.deps.length ct, .slice ab S.deps.length cb] 27)) = w1 at *
 go_wp2_with fail
 go_loopw [6, 7, 8, 9] (fun s6 i _ _ wr => ∃ k : Nat, i = .int .i64 k ∧ k ≤ S.deps.length ∧ Hid (LnM M W wr (W.heap.size + 1) S.w s6 (nextTo S vs k)) ∧ Hid (wr.heap[W.heap.size]? = some (.cells #[.int .i64 (S.w : Int), .slice ad S.deps.length cd, .slice at1 S.deps.length ct, .slice ab S.deps.length cb] 27 (0, 0)))) (fun _ i _ _ _ => S.deps.length - (intOf i).toNat)
 case atStart => exact ⟨0, rfl, Nat.zero_le _, Lib.hid ⟨HX.out, ⟨[], LOwn.nil _ _ _ _, rfl⟩, by omega, HOK.out.w, fun m hm => by cases hm⟩, HA⟩
 clear HX HA
 obtain ⟨k, rfl, hk, hm, hA⟩ := hrel
 rename World => wr
 obtain ⟨a0, c0, hs0⟩ := hm.out.slice
 rw [nextTo_len] at hs0
 subst hs0
 have cA := cellOf hA.out
 by_cases hlt : k < S.deps.length
 ·have hlz : (k : Int) < (S.deps.length : Int) := by omega
  go_wp2_with fail
  clear cA
  refine (rRight_any (fun b => M b ∨ (Value.slice a0 k c0).ownBlock = some b) S _ _ _ _ vs k _ (hm.out.hM HM.out) ((H.out.mono (M' := fun b => M b ∨ (Value.slice a0 k c0).ownBlock = some b) (fun i hi e => by rcases e with e | e; exact e; (have := (hm.out.lt i e).1; omega))).extNo hm.out.ext) (HV.out.extNo hm.out.ext) HL.out hlt).mono ?_
  rintro e2 w2 ⟨a1, c1, rfl, hs1, hx1⟩
  have hxb : Ext No w2 (w2.alloc (.cells #[.int .i64 (S.w : Int), .slice a1 (nw S.w) c1] 50)) := (Ext.refl _ _).alloc _
  have hm2 := Lib.hid ((hm.out.step hx1).step hxb)
  have hA2 := Lib.hid (hxb.blk (hx1.blk hA.out no_no) no_no)
  have hD := alloc_top (w := w2) (o := .cells #[.int .i64 (S.w : Int), .slice a1 (nw S.w) c1] 50) rfl
  have hs2 := Lib.hid (hs1.out.extNo hxb)
  obtain ⟨xs, hown, happ⟩ := hm2.out.own (m := rightD S vs k)
  rw [nextTo_len] at hown happ
  have HAPP := Lib.hid happ
  have HLT := Lib.hid hm2.out.lt
  have HLL := Lib.hid hm2.out.ext.size
  clear happ hs1 hx1 hxb
  have cD := cellOf hD
  go_upto_region 8 with (fail)
  generalize (w2.alloc (.cells #[.int .i64 (S.w : Int), .slice a1 (nw S.w) c1] 50)) = w3 at *
  generalize w2.heap.size = D at *
  have hlw : W.heap.size + 1 ≤ w3.heap.size := lt_of_block hA2.out
  go_wp2_with (at_builtin; (refine wpList_app _ rfl (.tmp 28) (.tmp 30) 25 rfl (W.heap.size + 1) 50 i0 _ 2 32 Tryz.underlying25 hi0 hz0 hz1 hz2 rfl (by omega) (.slice a0 k c0) k xs rfl (row_keep hown ((Ext.refl No _).alloc _) (fun _ _ x => x)) No (some ⟨w3.heap.size, 0, none⟩) 1 1 [.int .i64 (S.w : Int), .slice a1 (nw S.w) c1] rfl (Row.block (alloc_top rfl) rfl no_no (by omega)) (by simp [Value.oneCell']) (by omega) (by omega) (by simp; omega) ?_); (intro v1 w9 hown1 hg1 hv1); (have hm9 := Lib.hid (HAPP.out v1 a1 c1 _ w9 hs2.out hown1 hg1 hv1 (own_ext hm2.out.ext hg1 (fun b hb => (HLT.out b hb).1) (Nat.le_succ _)))); (have hA9 := Lib.hid (own_blk hA2.out hg1 (fun b hb => (HLT.out b hb).1) (Nat.lt_succ_self _))); (obtain ⟨a9, c9, hs9⟩ := hm9.out.slice); (rw [List.length_append, nextTo_len] at hs9); (subst hs9); (clear hown1 hg1 hv1 hown); (clear cD hD))
  go_roundw
  case rel => exact ⟨k + 1, by go_num, by omega, by rw [nextTo_snoc]; exact hm9, hA9⟩
  case measure => simp [intOf]; omega
 have hkk : k = S.deps.length := by omega
 have HK := Lib.hid hkk
 have hge : ¬ (k : Int) < (S.deps.length : Int) := by omega
 clear hkk
 go_wp2_with fail
 refine ret_ex rfl ?_
 simp [results, Tryz.results43, go_sem]
 have h1 := hm.out.fin HM.out
 have e := HK.out
 subst e
 have hl2 : (nextD S vs).length = S.deps.length := nextTo_len _ _ _
 exact ⟨a0, c0, by rw [hl2], Lib.hid (by rw [hl2]; exact h1), hm.out.ext⟩
set_option maxRecDepth 100000 in
set_option maxHeartbeats 4000000 in
theorem rEmptyV_any (M : Nat → Prop) (S : SysD) (vd vt vb : Value) (W : World) (hM : ∀ b, M b → b < W.heap.size) (h : SysAt No W vd vt vb S) :
  Calls Tryz.prog 42 #[.agg #[.int .i64 (S.w : Int), vd, vt, vb]] W (SetsPost M S.w (zerosD S) W) := by
 obtain ⟨i0, hi0, hz0, hz1, hz2⟩ := info_parts infoS
 have HM := Lib.hid hM
 have hok := h.ok
 obtain ⟨ad, cd, at1, ct, ab, cb, rfl, rfl, rfl⟩ := h.slices
 have hnn := hok.n2
 have hww := hok.w
 clear h hM hok
 go_enter Tryz.func42, Tryz.ntmps42
 go_upto_region 1 with (fail)
 have HX := Lib.hid (show Ext No W (W.alloc (.cells #[.int .i64 (S.w : Int), .slice ad S.deps.length cd, .slice at1 S.deps.length ct, .slice ab S.deps.length cb] 27)) from (Ext.refl _ _).alloc _)
 have HA := Lib.hid (alloc_top (w := W) (o := (.cells #[.int .i64 (S.w : Int), .slice ad S.deps.length cd, .slice at1 S.deps.length ct, .slice ab S.deps.length cb] 27)) rfl)
 generalize (W.alloc (.cells #[.int .i64 (S.w : Int), .slice ad S.deps.length cd, .slice at1 S.deps.length ct, .slice ab S.deps.length cb] 27)) = w1 at *
 go_wp2_with fail
 go_loopw [3, 4] (fun s3 i wr => ∃ k : Nat, i = .int .i64 k ∧ k ≤ S.deps.length ∧ Hid (LnM M W wr (W.heap.size + 1) S.w s3 (List.replicate k 0)) ∧ Hid (wr.heap[W.heap.size]? = some (.cells #[.int .i64 (S.w : Int), .slice ad S.deps.length cd, .slice at1 S.deps.length ct, .slice ab S.deps.length cb] 27 (0, 0)))) (fun _ i _ => S.deps.length - (intOf i).toNat)
 case atStart => exact ⟨0, rfl, Nat.zero_le _, Lib.hid ⟨HX.out, ⟨[], LOwn.nil _ _ _ _, rfl⟩, by omega, hww, fun m hm => by cases hm⟩, HA⟩
 clear HX HA
 obtain ⟨k, rfl, hk, hm, hA⟩ := hrel
 rename World => wr
 obtain ⟨a0, c0, hs0⟩ := hm.out.slice
 rw [List.length_replicate] at hs0
 subst hs0
 have cA := cellOf hA.out
 by_cases hlt : k < S.deps.length
 ·have hlz : (k : Int) < (S.deps.length : Int) := by omega
  go_wp2_with (first | ((go_at_call 32); (refine (rempty_any S.w _ hww).mono ?_); (rintro e2 w2 ⟨g, rfl, hb2, hlo2, hx2⟩); (have hs2 := Lib.hid (hb2.out.set (M := fun b => M b ∨ (Value.slice a0 k c0).ownBlock = some b) hww (Nat.two_pow_pos _) (fun e => by have := hm.out.hM HM.out g e; omega))); (have hm2 := Lib.hid (hm.out.step hx2)); (have hA2 := Lib.hid (hx2.blk hA.out no_no)); (obtain ⟨xs, hown, happ⟩ := hm2.out.own (m := 0)); (rw [List.length_replicate] at hown happ); (have HAPP := Lib.hid happ); (have HLT := Lib.hid hm2.out.lt); (have hlw : W.heap.size + 1 ≤ w2.heap.size := lt_of_block hA2.out); (clear cA happ hx2 hb2 hlo2)) | (at_builtin; (refine wpList_app _ rfl (.tmp 12) (.tmp 16) 25 rfl (W.heap.size + 1) 50 i0 _ 2 32 Tryz.underlying25 hi0 hz0 hz1 hz2 rfl (by omega) (.slice a0 k c0) k xs rfl (row_keep hown ((Ext.refl No _).alloc _) (fun _ _ x => x)) No (some ⟨w2.heap.size, 0, none⟩) 1 1 [.int .i64 (S.w : Int), .slice (some ⟨g, 0, none⟩) (nw S.w) (nw S.w)] rfl (Row.block (alloc_top rfl) rfl no_no (by omega)) (by simp [Value.oneCell']) (by omega) (by omega) (by simp; omega) ?_); (intro v1 w9 hown1 hg1 hv1); (have hm9 := Lib.hid (HAPP.out v1 _ _ _ w9 hs2.out hown1 hg1 hv1 (own_ext hm2.out.ext hg1 (fun b hb => (HLT.out b hb).1) (Nat.le_succ _)))); (have hA9 := Lib.hid (own_blk hA2.out hg1 (fun b hb => (HLT.out b hb).1) (Nat.lt_succ_self _))); (obtain ⟨a9, c9, hs9⟩ := hm9.out.slice); (rw [List.length_append, List.length_replicate] at hs9); (subst hs9); (clear hown1 hg1 hv1 hown)))
  go_roundw
  case rel => exact ⟨k + 1, by go_num, by omega, by rw [List.replicate_succ']; exact hm9, hA9⟩
  case measure => simp [intOf]; omega
 have hkk : k = S.deps.length := by omega
 have HK := Lib.hid hkk
 have hge : ¬ (k : Int) < (S.deps.length : Int) := by omega
 clear hkk
 go_wp2_with fail
 refine ret_ex rfl ?_
 simp [results, Tryz.results42, go_sem]
 have h1 := hm.out.fin HM.out
 have e := HK.out
 subst e
 have hl2 : (zerosD S).length = S.deps.length := by simp [zerosD]
 exact ⟨a0, c0, by rw [hl2], Lib.hid (by rw [hl2]; exact h1), hm.out.ext⟩

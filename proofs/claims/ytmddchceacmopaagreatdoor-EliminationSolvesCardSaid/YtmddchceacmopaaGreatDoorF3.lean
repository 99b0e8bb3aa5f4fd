
import Derived.Test.YtmddchceacmopaaGreatDoorF1
import Derived.Test.YtmddchceacmopaaGreatDoorFS
set_option linter.unusedVariables false
set_option linter.unusedSimpArgs false
namespace Go.Proofs.YtmddchceacmopaaGreatDoor
open Go Go.RowKit
theorem sumL_take {Ld : LD} {k : Nat} (hk : k < Ld.length) : sumL (Ld.take (k + 1)) = sumL (Ld.take k) + Ld[k].1.length := by
 unfold sumL
 rw [List.take_succ_eq_append_getElem hk, List.map_append, List.sum_append]
 simp
theorem sumL_le {Ld : LD} : ∀ k, sumL (Ld.take k) ≤ sumL Ld := fun k => by
 have h : sumL Ld = sumL (Ld.take k) + sumL (Ld.drop k) := by
  unfold sumL
  rw [← List.sum_append, ← List.map_append, List.take_append_drop]
 omega
set_option maxRecDepth 100000 in
set_option maxHeartbeats 4000000 in
theorem sysValid_any (x : Int) (vd vt vb : Value) (Ld : LD) (Lt : LT) (Lb : LS) (W : World) (h : YAt No W vd vt vb Ld Lt Lb) :
  Calls Tryz.prog 57 #[.agg #[.int .i64 x, vd, vt, vb]] W (Tells (VS x Ld Lt Lb) W) := by
 have H := Lib.hid h
 obtain ⟨ad, cd, rfl⟩ := h.d.slice
 obtain ⟨at1, ct, rfl⟩ := h.t.slice
 obtain ⟨ab, cb, rfl⟩ := h.b.slice
 have hld := h.d.row.2.1
 clear h
 go_enter Tryz.func57, Tryz.ntmps57
 go_wp2_with fail
 have hx0 : Ext No W (W.alloc (.cells #[.int .i64 x, .slice ad Ld.length cd, .slice at1 Lt.length ct, .slice ab Lb.length cb] 55)) := (Ext.refl _ _).alloc _
 refine (sized_any x _ _).mono ?_
 rintro e1 w1 ⟨bb, rfl, hbb, hx1⟩
 have hA := hx1.blk (alloc_top (w := W) (o := (.cells #[.int .i64 x, .slice ad Ld.length cd, .slice at1 Lt.length ct, .slice ab Lb.length cb] 55)) rfl) no_no
 have hy := hx0.transNo hx1
 cases bb with
 | false =>
  have HB := Lib.hid (tells_no hbb)
  have HY := Lib.hid hy
  clear hbb hx0 hx1 hA hy
  go_wp2_with fail
  go_ret
  exact tells_false (fun e => HB.out ⟨e.w, by have := e.n; omega⟩) HY.out
 | true =>
  have HB := Lib.hid (tells_yes hbb)
  have HY := Lib.hid hy
  have HA := Lib.hid hA
  have hn1 : (1 : Int) ≤ (Ld.length : Int) := HB.out.2.1
  have hn2 : (Ld.length : Int) ≤ 256 := HB.out.2.2
  clear hbb hx0 hx1 hA hy
  have cA := cellOf HA.out
  by_cases h1 : Lt.length = Ld.length
  ·have h1' : ((Lt.length : Int) != (Ld.length : Int)) = false := by simp [h1]
   have H1 := Lib.hid h1
   clear h1
   by_cases h2 : Lb.length = Ld.length
   ·have h2' : ((Lb.length : Int) != (Ld.length : Int)) = false := by simp [h2]
    have H2 := Lib.hid h2
    clear h2
    go_wp2_with fail
    clear cA
    go_loopw [4, 6, 32] (fun ev _ i wr => ∃ k : Nat, k ≤ Ld.length ∧ i = .int .i64 k ∧ ev = .int .i64 (sumL (Ld.take k) : Nat) ∧ sumL (Ld.take k) ≤ 1024 ∧ Hid (Ext No w1 wr) ∧ Hid (∀ j (hj : j < Ld.length), j < k → AscL Ld[j].1 Ld.length)) (fun _ _ i _ => Ld.length - (intOf i).toNat)
    case atStart => exact ⟨0, Nat.zero_le _, rfl, rfl, Nat.zero_le _, Lib.hid (Ext.refl _ _), Lib.hid (fun j _ hj => absurd hj (Nat.not_lt_zero _))⟩
    obtain ⟨k, hk, rfl, rfl, hsum, hx, hm⟩ := hrel
    rename World => wr
    by_cases hlt : k < Ld.length
    ·obtain ⟨b, off, cap', hsl, hb1, _, hcell⟩ := H.out.d.atD hlt
     simp only [Value.slice.injEq] at hsl
     obtain ⟨rfl, _, rfl⟩ := hsl
     have hyr := HY.out.transNo hx.out
     have q0 := hyr.keep (hcell k hlt)
     have hok : Ints No W .i64 Ld[k].2 Ld[k].1 := H.out.d.ok Ld[k] (List.getElem_mem hlt)
     clear hcell
     have HNX := Lib.hid (sumL_take hlt)
     obtain ⟨p, hp⟩ : ∃ p, p = Ld[k] := ⟨_, rfl⟩
     rw [← hp] at q0 hok HNX
     obtain ⟨pa, pc, hpe⟩ := Row.slice hok
     have hpl := hok.2.1
     rw [hpe] at q0
     have HOK := Lib.hid (hpe ▸ hok)
     have HYR := Lib.hid hyr
     have HP := Lib.hid hp
     clear hok hpe hp hyr
     generalize hSU : sumL (Ld.take k) = su at *
     have HSU := Lib.hid hSU
     clear hSU
     by_cases hbig : 1024 < p.1.length
     ·have hnot : Hid (¬ AscL p.1 Ld.length) := Lib.hid (fun e => by have := asc_len e (by omega); omega)
      have hko : Hid (¬ VS x Ld Lt Lb) := Lib.hid (fun e => hnot.out (by rw [HP.out]; exact e.asc _ (List.getElem_mem hlt)))
      obtain ⟨z, hz⟩ : ∃ z, IntKind.i64.wrap ((su : Int) + (p.1.length : Int)) = z := ⟨_, rfl⟩
      by_cases hc : (1024 : Int) < z
      ·go_wp2_with fail
       go_ret
       exact tells_false hko.out HYR.out
      go_wp2_with fail
      refine (ascending_any _ p.1 _ _ (Row.extNo HOK.out HYR.out)).mono ?_
      rintro e2 w2 ⟨b2, rfl, hb2, hx2⟩
      cases b2 with
      | true => exact absurd (tells_yes hb2) hnot.out
      | false =>
       clear hb2
       go_wp2_with fail
       go_ret
       exact tells_false hko.out (HYR.out.transNo hx2)
     have hadd : IntKind.i64.wrap ((su : Int) + (p.1.length : Int)) = ((su + p.1.length : Nat) : Int) := by rw [IntWalk.i64_in _ (by omega)]; omega
     obtain ⟨s2, hs2⟩ : ∃ s2, s2 = su + p.1.length := ⟨_, rfl⟩
     rw [← hs2] at hadd
     have HS2 := Lib.hid hs2
     clear hs2
     by_cases hc : s2 ≤ 1024
     ·have hc' : ¬ (1024 : Int) < (s2 : Int) := by omega
      go_wp2_with fail
      refine (ascending_any _ p.1 _ _ (Row.extNo HOK.out HYR.out)).mono ?_
      rintro e2 w2 ⟨b2, rfl, hb2, hx2⟩
      cases b2 with
      | false =>
       have HN := Lib.hid (tells_no hb2)
       clear hb2
       go_wp2_with fail
       go_ret
       exact tells_false (fun e => HN.out (by rw [HP.out]; exact e.asc _ (List.getElem_mem hlt))) (HYR.out.transNo hx2)
      | true =>
       have HN := Lib.hid (tells_yes hb2)
       clear hb2
       go_wp2_with fail
       go_roundw
       case rel => exact ⟨k + 1, by omega, by go_num, by rw [HNX.out, ← HS2.out], by rw [HNX.out, ← HS2.out]; exact hc, Lib.hid (hx.out.transNo hx2), Lib.hid (fun j hj hjk => by
        by_cases e : j = k
        ·subst e
         rw [← HP.out]
         exact HN.out
        exact hm.out j hj (by omega))⟩
       case measure => simp [intOf]; omega
     have hc' : (1024 : Int) < (s2 : Int) := by omega
     go_wp2_with fail
     go_ret
     exact tells_false (fun e => by have h3 := e.tot; have h4 := sumL_le (Ld := Ld) (k + 1); rw [HNX.out, ← HS2.out] at h4; omega) HYR.out
    have hkk : k = Ld.length := by omega
    have HK := Lib.hid hkk
    have hyr := HY.out.transNo hx.out
    have hAr := hx.out.blk HA.out no_no
    have HS := Lib.hid (show sumL Ld ≤ 1024 by rw [hkk, List.take_length] at hsum; exact hsum)
    have HYR := Lib.hid hyr
    have HAR := Lib.hid hAr
    clear hyr hAr hkk hsum
    have cA := cellOf HAR.out
    go_wp2_with fail
    refine (sets_any x _ Lb _ (H.out.b.extNo HYR.out)).mono ?_
    rintro e2 w2 ⟨b2, rfl, hb2, hx2⟩
    clear cA
    cases b2 with
    | false =>
     have HN := Lib.hid (tells_no hb2)
     clear hb2
     go_wp2_with fail
     go_ret
     exact tells_false (fun e => HN.out e.sets) (HYR.out.transNo hx2)
    | true =>
     have HN := Lib.hid (tells_yes hb2)
     clear hb2
     have hA2 := hx2.blk HAR.out no_no
     have hy2 := HYR.out.transNo hx2
     have cA := cellOf hA2
     go_wp2_with fail
     refine (containsT_any x W.heap.size _ Lt _ (H.out.t.extNo hy2) (cA 0)).mono ?_
     rintro e3 w3 ⟨b3, rfl, hb3, hx3⟩
     clear cA
     cases b3 with
     | true =>
      have HM := Lib.hid (tells_yes hb3)
      clear hb3
      go_wp2_with fail
      go_ret
      obtain ⟨q, hq, hbad⟩ := HM.out
      exact tells_false (fun e => hbad (e.trs _ (List.getElem_mem hq))) (hy2.transNo hx3)
     | false =>
      have HM := Lib.hid (tells_no hb3)
      clear hb3
      go_wp2_with fail
      go_ret
      refine tells_true ⟨HB.out.1, by omega, H1.out, H2.out, fun p hp => ?_, HS.out, HN.out, fun p hp => Classical.byContradiction fun hn => ?_⟩ (hy2.transNo hx3)
      ·obtain ⟨q, hq, rfl⟩ := List.getElem_of_mem hp
       exact hm.out q hq (by rw [HK.out]; exact hq)
      obtain ⟨q, hq, rfl⟩ := List.getElem_of_mem hp
      exact HM.out ⟨q, hq, hn⟩
   have h2' : ((Lb.length : Int) != (Ld.length : Int)) = true := by simp; omega
   have H2 := Lib.hid h2
   clear h2
   go_wp2_with fail
   go_ret
   exact tells_false (fun e => H2.out e.lb) HY.out
  have h1' : ((Lt.length : Int) != (Ld.length : Int)) = true := by simp; omega
  have H1 := Lib.hid h1
  clear h1
  go_wp2_with fail
  go_ret
  exact tells_false (fun e => H1.out e.lt) HY.out
end Go.Proofs.YtmddchceacmopaaGreatDoor

namespace Go.Proofs.YtmddchceacmopaaGreatDoor
open Go Go.RowKit
theorem right1_any (p : RawSet) (v : Value) (W : World) (h : WordsAt No W v p.words) :
  Calls Tryz.prog 129 #[.agg #[.int .i64 p.width, v]] W (Tells (¬ validB p = true) W) := by
 have HR : Hid (RawV No W (.agg #[.int .i64 p.width, v]) p) := Lib.hid ⟨_, rfl, h⟩
 obtain ⟨a, n, c, rfl⟩ := h.shaped
 clear h
 have HX : Hid (Ext No W (W.alloc (.cells #[.int .i64 p.width, .slice a n c] 44))) := Lib.hid ((Ext.refl _ _).alloc _)
 go_enter Tryz.func129, Tryz.ntmps129
 go_wp2_with fail
 refine (valid_any _ p _ (HR.out.extNo HX.out)).mono ?_
 rintro e1 w1 ⟨rfl, hx1⟩
 cases hv : validB p with
 | false =>
  go_wp2_with fail
  go_ret
  exact tells_true (fun e => by rw [hv] at e; cases e) (HX.out.transNo hx1)
 | true =>
  go_wp2_with fail
  go_ret
  exact tells_false (fun e => e hv) (HX.out.transNo hx1)
set_option maxRecDepth 100000 in
set_option maxHeartbeats 2000000 in
theorem indexR_any  (sl : Value) (L : List (RawSet × Value)) (W : World) (h : LAt kS No W sl L) :
  Calls Tryz.prog 106 #[sl, .func (.func 129) #[] #[]] W fun e w' => (∃ z : Int, e = .returned (.int .i64 z) ∧ (0 ≤ z ↔ ∃ (k : Nat) (hk : k < L.length), ¬ validB L[k].1 = true)) ∧ Ext No W w' := by
 have H := Lib.hid h
 obtain ⟨a, cap, rfl⟩ := h.slice
 have hlen := h.row.2.1
 clear h
 go_enter Tryz.func106, Tryz.ntmps106
 go_wp2_with fail
 go_loopw [5, 8] (fun _ i wr => ∃ k : Nat, k ≤ L.length ∧ i = .int .i64 k ∧ Ext No W wr ∧ Hid (∀ j (hj : j < L.length), j < k → ¬ ¬ validB L[j].1 = true)) (fun _ i _ => L.length - (intOf i).toNat)
 case atStart => exact ⟨0, Nat.zero_le _, rfl, Ext.refl _ _, Lib.hid (fun j _ hj => absurd hj (Nat.not_lt_zero _))⟩
 obtain ⟨k, hk, rfl, hx, hm⟩ := hrel
 by_cases hlt : k < L.length
 ·obtain ⟨b, off, cap', hsl, hb1, _, hcell⟩ := H.out.atS hlt
  simp only [Value.slice.injEq] at hsl
  obtain ⟨rfl, _, rfl⟩ := hsl
  have hq := hcell k hlt
  have hok := H.out.ok L[k] (List.getElem_mem hlt)
  clear hcell
  obtain ⟨p, hp⟩ : ∃ p, p = L[k] := ⟨_, rfl⟩
  rw [← hp] at hq hok
  have HP := Lib.hid hp
  clear hp
  obtain ⟨q0, q1⟩ := hq
  replace q0 := hx.keep q0
  replace q1 := hx.keep q1
  obtain ⟨pa, pc, hpe⟩ := hok.slice
  rw [hpe] at q1
  have HOK := Lib.hid hok
  clear hok
  have HPE := Lib.hid hpe
  clear hpe
  go_wp2_with fail
  go_at_call 129
  refine (right1_any p.1 _ _ (by rw [← HPE.out]; exact HOK.out.extNo hx)).mono ?_
  rintro e1 w1 ⟨bb, rfl, hbb, hx1⟩
  cases bb with
  | true =>
   have HBB := Lib.hid (tells_yes hbb)
   clear hbb
   go_wp2_with fail
   go_ret
   exact ⟨⟨k, rfl, ⟨fun _ => ⟨k, hlt, by have := HBB.out; rw [HP.out] at this; exact this⟩, fun _ => by omega⟩⟩, hx.transNo hx1⟩
  | false =>
   have HBB := Lib.hid (tells_no hbb)
   clear hbb
   go_wp2_with fail
   go_roundw
   case rel => exact ⟨k + 1, by omega, by go_num, hx.transNo hx1, Lib.hid (fun j hj hjk hbad => by
    by_cases e : j = k
    ·subst e
     rw [← HP.out] at hbad
     exact HBB.out hbad
    exact hm.out j hj (by omega) hbad)⟩
   case measure => simp [intOf]; omega
 go_wp2_with fail
 go_ret
 exact ⟨⟨-1, rfl, ⟨fun e => absurd e (by decide), fun ⟨j, hj, e⟩ => absurd e (hm.out j hj (by omega))⟩⟩, hx⟩
theorem containsR_any  (sl : Value) (L : List (RawSet × Value)) (W : World) (h : LAt kS No W sl L) :
  Calls Tryz.prog 74 #[sl, .func (.func 129) #[] #[]] W (Tells (∃ (k : Nat) (hk : k < L.length), ¬ validB L[k].1 = true) W) := by
 go_enter Tryz.func74, Tryz.ntmps74
 go_wp2_with fail
 refine (indexR_any  _ L _ h).mono ?_
 rintro e w1 ⟨⟨z, rfl, hz⟩, hx⟩
 have HZ := Lib.hid hz
 clear hz
 go_wp2_with fail
 go_ret
 exact ⟨_, rfl, ⟨fun e => HZ.out.1 (by simpa using e), fun e => by simpa using HZ.out.2 e⟩, hx⟩
theorem sysValid_yes (S : SysD) (vd vt vb : Value) (W : World) (h : SysAt No W vd vt vb S) :
  Calls Tryz.prog 57 #[.agg #[.int .i64 (S.w : Int), vd, vt, vb]] W (BoolPost true W) := by
 obtain ⟨Ld, Lt, Lb, h1, h2⟩ := h.vs
 refine (sysValid_any _ _ _ _ Ld Lt Lb W h1).mono ?_
 rintro e w ⟨b, rfl, hb, hx⟩
 exact ⟨by rw [hb.2 h2], hx⟩
theorem SetsV.list {M : Nat → Prop} {W : World} {so : Value} {w : Nat} {ms : List Nat} (h : SetsV M W so w ms) : ∃ L : LS, LAt kS M W so L ∧ L.map Prod.fst = ms.map (setN w) ∧ L.length = ms.length := by
 obtain ⟨⟨L, h1, h2⟩, _, _⟩ := h
 have e := congrArg List.length h2
 simp only [List.length_map] at e
 exact ⟨L, ⟨h1.row, h1.ok⟩, h2, e⟩
theorem LAt.setsV {M : Nat → Prop} {W : World} {so : Value} {w : Nat} {ms : List Nat} {L : LS} (h : LAt kS M W so L) (he : L.map Prod.fst = ms.map (setN w)) (hw : w ≤ 256) (hm : ∀ m ∈ ms, m < 2 ^ w) : SetsV M W so w ms := ⟨⟨L, ⟨h.row, h.ok⟩, he⟩, hw, hm⟩
theorem set_of_map {w : Nat} {ms : List Nat} {L : LS} (he : L.map Prod.fst = ms.map (setN w)) (hw : w ≤ 256) (hm : ∀ m ∈ ms, m < 2 ^ w) (p : RawSet × Value) (hp : p ∈ L) : FitS (w : Int) p.1 := by
 have h1 : p.1 ∈ ms.map (setN w) := by rw [← he]; exact List.mem_map.2 ⟨p, hp, rfl⟩
 obtain ⟨m, hm2, e⟩ := List.mem_map.1 h1
 rw [← e]
 exact ⟨validB_set hw (hm m hm2), rfl⟩
theorem clone_set (w m : Nat) (sl : Value) (W : World) (h : SetAt No W sl w m) :
  Calls Tryz.prog 94 #[sl] W (fun e w' => ∃ a c, e = .returned (.slice a (nw w) c) ∧ Hid (SetAt (Lo W.heap.size) w' (.slice a (nw w) c) w m) ∧ Ext No W w') := by
 refine (clone_any sl (wordsN w m) W h.words (by rw [wordsN_len]; have := h.hw; unfold nw; omega)).mono ?_
 rintro e w' ⟨v, rfl, ho, hx⟩
 obtain ⟨a, c, rfl⟩ := ho.slice
 have e1 : (wordsN w m).length = nw w := wordsN_len ..
 refine ⟨a, c, by rw [e1], Lib.hid ⟨⟨?_, ho.lt⟩, h.hw, h.hm⟩, hx⟩
 rw [← e1]
 exact Row.ofOwns ho.own (fun b hb e => by unfold Lo at e; omega)
theorem Apply_w (M : Nat → Prop) (t : TrD) (w s : Nat) (sg sk sc ss : Value) (W : World) (hw : t.w = w) (hM : ∀ b, M b → b < W.heap.size) (h : TrAt No W sg sk sc t) (hs : SetAt No W ss w s) :
  Calls Tryz.prog 53 #[.agg #[.int .i64 (w : Int), sg, .int .i64 (w : Int), sk, sc], .agg #[.int .i64 (w : Int), ss]] W (SetEPost M w (applyT t s) W) := by
 subst hw; exact Apply_any M t s sg sk sc ss W hM h hs
theorem SetsV.cells {M : Nat → Prop} {W : World} {so : Value} {w : Nat} {ms : List Nat} (h : SetsV M W so w ms) {i : Nat} (hi : i < ms.length) : ∃ b off cap a c, so = .slice (some ⟨b, off, none⟩) ms.length cap ∧
  (W.cell? ⟨b, off + i * 2, none⟩ = some (.int .i64 (w : Int)) ∧ W.cell? ⟨b, off + i * 2 + 1, none⟩ = some (.slice a (nw w) c)) ∧ Hid (SetAt M W (.slice a (nw w) c) w (rowD ms i)) := by
 obtain ⟨b, off, cap, a, c, h1, _, _, h4, h5, h6⟩ := h.at hi
 exact ⟨b, off, cap, a, c, h1, ⟨h4, h5⟩, Lib.hid (by rw [rowD_get hi]; exact h6.out)⟩
structure RtS (M : Nat → Prop) (W wr : World) (sb : Array Value) (D w m : Nat) (a : Option Addr) (c : Nat) : Prop where
 ext : Ext No W wr
 boxS : wr.heap[W.heap.size]? = some (.cells sb 55 (0, 0))
 boxR : wr.heap[W.heap.size + 1]? = some (.cells #[.int .i64 0, .slice none 0 0] 44 (0, 0))
 boxD : wr.heap[D]? = some (.cells #[.int .i64 (w : Int), .slice a (nw w) c] 44 (0, 0))
 set : SetAt (fun b => M b ∨ b = W.heap.size + 1 ∨ b = D) wr (.slice a (nw w) c) w m
 low : W.heap.size + 1 < D
theorem RtS.step {M : Nat → Prop} {W wr w' : World} {sb : Array Value} {D w m : Nat} {a : Option Addr} {c : Nat} (h : RtS M W wr sb D w m a c) (hx : Ext No wr w') : RtS M W w' sb D w m a c :=
 ⟨h.ext.transNo hx, hx.blk h.boxS no_no, hx.blk h.boxR no_no, hx.blk h.boxD no_no, h.set.extNo hx, h.low⟩
theorem RtS.put {M : Nat → Prop} {W wr : World} {sb : Array Value} {D w m m' : Nat} {a a' : Option Addr} {c c' : Nat} (h : RtS M W wr sb D w m a c) (hs : SetAt (fun b => M b ∨ b = W.heap.size + 1 ∨ b = D) wr (.slice a' (nw w) c') w m') :
  RtS M W ((wr.setCell ⟨D, 0, none⟩ (.int .i64 (w : Int))).setCell ⟨D, 1, none⟩ (.slice a' (nw w) c')) sb D w m' a' c' := by
 have hE : Ext (At D) wr ((wr.setCell ⟨D, 0, none⟩ (.int .i64 (w : Int))).setCell ⟨D, 1, none⟩ (.slice a' (nw w) c')) := ext_two (Ext.refl No wr) D
 have hl := h.low
 exact ⟨h.ext.trans2 hE (fun i hi e => by unfold At at e; omega), hE.blk h.boxS (by unfold At; omega), hE.blk h.boxR (by unfold At; omega), (set_same (j := 1) (set_same (j := 0) h.boxD)).trans rfl, hs.ext hE (fun i _ e => .inr (.inr e)), hl⟩
theorem RtS.hM {M : Nat → Prop} {W wr : World} {sb : Array Value} {D w m : Nat} {a : Option Addr} {c : Nat} (h : RtS M W wr sb D w m a c) (hM : ∀ b, M b → b < W.heap.size) : ∀ b, (M b ∨ b = W.heap.size + 1 ∨ b = D) → b < wr.heap.size := fun b hb => by
 rcases hb with hb | rfl | rfl
 ·exact Nat.lt_of_lt_of_le (hM b hb) h.ext.size
 ·exact lt_of_block h.boxR
 exact lt_of_block h.boxD
set_option maxRecDepth 100000 in
set_option maxHeartbeats 8000000 in
theorem sysRight_any (M : Nat → Prop) (S : SysD) (vd vt vb vv : Value) (vs : List Nat) (n : Nat) (W : World) (hM : ∀ b, M b → b < W.heap.size) (h : SysAt No W vd vt vb S) (hv : SetsV No W vv S.w vs) (hl : vs.length = S.deps.length) (hn : n < S.deps.length) :
  Calls Tryz.prog 95 #[.agg #[.int .i64 (S.w : Int), vd, vt, vb], vv, .int .i64 (n : Int)] W (SetEPost M S.w (rightD S vs n) W) := by
 have H := Lib.hid h
 have HV := Lib.hid hv
 have HM := Lib.hid hM
 have HL := Lib.hid hl
 have HN := Lib.hid hn
 have hok := h.ok
 obtain ⟨ad, cd, at1, ct, ab, cb, rfl, rfl, rfl⟩ := h.slices
 obtain ⟨L, hL, hLm, hLl⟩ := hv.list
 obtain ⟨av, cv, rfl⟩ := hv.slice
 have hww := hok.w
 have hnn := hok.n2
 have hlv : ((vs.length : Int) != (S.deps.length : Int)) = false := by simp [hl]
 have hn1 : (n : Int) < (S.deps.length : Int) := by omega
 have hn0 : (0 : Int) ≤ (n : Int) := by omega
 have HOK := Lib.hid hok
 have HLA := Lib.hid hL
 have HFIT := Lib.hid (set_of_map hLm hv.hw hv.hm)
 have hGV : GoodV S vs := ⟨hl, hv.hm⟩
 have HGV := Lib.hid hGV
 clear h hv hM hl hn hok hL hLm hLl hGV
 go_enter Tryz.func95, Tryz.ntmps95
 go_wp2_with fail
 have hx0 : Ext No W ((W.alloc (.cells #[.int .i64 (S.w : Int), .slice ad S.deps.length cd, .slice at1 S.deps.length ct, .slice ab S.deps.length cb] 55)).alloc (.cells #[.int .i64 0, .slice none 0 0] 44)) := ((Ext.refl _ _).alloc _).alloc _
 have hA : ((W.alloc (.cells #[.int .i64 (S.w : Int), .slice ad S.deps.length cd, .slice at1 S.deps.length ct, .slice ab S.deps.length cb] 55)).alloc (.cells #[.int .i64 0, .slice none 0 0] 44)).heap[W.heap.size]? = some (.cells #[.int .i64 (S.w : Int), .slice ad S.deps.length cd, .slice at1 S.deps.length ct, .slice ab S.deps.length cb] 55 (0, 0)) := alloc_under (alloc_top rfl)
 have hC : ((W.alloc (.cells #[.int .i64 (S.w : Int), .slice ad S.deps.length cd, .slice at1 S.deps.length ct, .slice ab S.deps.length cb] 55)).alloc (.cells #[.int .i64 0, .slice none 0 0] 44)).heap[W.heap.size + 1]? = some (.cells #[.int .i64 0, .slice none 0 0] 44 (0, 0)) := alloc_top (by simp)
 generalize ((W.alloc (.cells #[.int .i64 (S.w : Int), .slice ad S.deps.length cd, .slice at1 S.deps.length ct, .slice ab S.deps.length cb] 55)).alloc (.cells #[.int .i64 0, .slice none 0 0] 44)) = W2 at *
 refine (sysValid_yes S _ _ _ _ (H.out.extNo hx0)).mono ?_
 rintro e1 w1 ⟨rfl, hx1⟩
 replace hA := hx1.blk hA no_no
 replace hC := hx1.blk hC no_no
 replace hx0 := hx0.transNo hx1
 clear hx1
 have cA := cellOf hA
 go_wp2_with fail
 clear cA
 refine (containsR_any _ L _ (HLA.out.extNo hx0)).mono ?_
 rintro e2 w2 ⟨b2, rfl, hb2, hx2⟩
 cases b2 with
 | true => exact absurd (tells_yes hb2) (fun ⟨k, hk, e⟩ => e (HFIT.out _ (List.getElem_mem hk)).1)
 | false =>
  clear hb2
  replace hA := hx2.blk hA no_no
  replace hC := hx2.blk hC no_no
  replace hx0 := hx0.transNo hx2
  clear hx2
  have cA := cellOf hA
  go_wp2_with fail
  clear cA
  refine (sets_any _ _ L _ (HLA.out.extNo hx0)).mono ?_
  rintro e3 w3 ⟨b3, rfl, hb3, hx3⟩
  cases b3 with
  | false => exact absurd HFIT.out (tells_no hb3)
  | true =>
   clear hb3
   have HA := Lib.hid (hx3.blk hA no_no)
   have HC := Lib.hid (hx3.blk hC no_no)
   have HX := Lib.hid (hx0.transNo hx3)
   clear hx3 hx0 hA hC
   go_wp2_with fail
   obtain ⟨bb, ob, kb, aq0, cq0, hve, g0, g1, hset⟩ := (H.out.extNo HX.out).bn HN.out
   simp only [Value.slice.injEq] at hve
   obtain ⟨rfl, -, rfl⟩ := hve
   have HG := Lib.hid (And.intro g0 g1)
   have hltA : W.heap.size + 1 < w3.heap.size := lt_of_block HC.out
   clear g0 g1
   go_cut [8] (fun s8 wx => ∃ D a c, s8 = .pointer (some ⟨D, 0, none⟩) ∧ Hid (RtS M W wx #[.int .i64 (S.w : Int), .slice ad S.deps.length cd, .slice at1 S.deps.length ct, .slice (some ⟨bb, ob, none⟩) S.deps.length cb] D S.w (rowD S.bnd n) a c))
   case first =>
    refine wp_region_held_drew (S := (fun w' => Ext No w3 w')) (by kernel_rfl) ?_ (fun hHeld => ?_)
    ·exact (Ext.refl _ _).drew
    have hbeg : Ext No w3 w3.drew := (Ext.refl _ _).drew
    generalize w3.drew = v0 at *
    refine hHs [0, 1, 2, 3, 4, 5, 6] ?_
    iterate 7
     refine hTn ?_ hHeld (fun w hSw => ?_) ?_
     rotate_left
     ·(have hEs : Ext No w3 _ := hSw); (have q0 := cellOf (hEs.blk HA.out no_no)); go_simp; (try with_reducible rfl)
     simp only [Act.put, nzA, nzB, nzC]
    refine hHe ?_
    refine hTk 7 ?_ hHeld (fun w hSw => ?_) ?_
    rotate_left
    ·(have hEs : Ext No w3 _ := hSw); (obtain ⟨p0, p1⟩ := HG.out); (have x0 := hEs.keep p1); go_simp; (try with_reducible rfl)
    simp only [Act.put, nzA, nzB, nzC]
    refine held_next2 (i := 8) (j := 10) (by kernel_rfl) (NextOp.mk rfl rfl (fun K hK => ?_)) (NextOp.mk rfl rfl (fun K hK => ?_))
    ·((have hEx : Ext No w3 _ := hHeld); go_simp; (go_at_call 94); (refine (clone_set S.w (rowD S.bnd n) _ _ (hset.out.no.extNo hEx)).mono ?_); (rintro e9 v1 ⟨aq, cq, rfl, hsq, hyA⟩); go_simp)
     refine hK.out _ _ ?_ ?_
     ·exact Ext.transNo (show Ext No w3 _ from hHeld) hyA
     clear hK K hHeld
     intro hHeld
     have hEs := hEx.size
     have hS := Lib.hid (hsq.out.mono (M' := fun b => b < w3.heap.size) (fun i hi e => by unfold Lo; omega))
     clear hEx hsq hyA hEs
     try simp only [Act.put, nzA, nzB, nzC]
     refine hTk 9 ?_ hHeld (fun w hSw => ?_) ?_
     rotate_left
     ·go_simp; (try with_reducible rfl)
     simp only [Act.put, nzA, nzB, nzC]
     refine hHc 10 fun K hK => ?_
     ((have hDV : w3.heap.size ≤ v1.heap.size := (show Ext No w3 _ from hHeld).size); go_simp)
     refine hK.out _ _ ?_ ?_
     ·exact Ext.alloc (show Ext No w3 _ from hHeld) _
     clear hK K hHeld
     intro hHeld
     have hB := Lib.hid (alloc_top (w := v1) (o := (.cells #[.int .i64 0, .slice none 0 0] 44)) rfl)
     replace hS := Lib.hid ((hS.out.mono (M' := fun b => b < w3.heap.size ∨ b = v1.heap.size) (fun i hi e => by rcases e with e | e <;> omega)).extNo ((Ext.refl No v1).alloc (.cells #[.int .i64 0, .slice none 0 0] 44)))
     generalize (v1.alloc (.cells #[.int .i64 0, .slice none 0 0] 44)) = v2 at *
     generalize v1.heap.size = D at *
     try simp only [Act.put, nzA, nzB, nzC]
     refine hHc 11 fun K hK => ?_
     ((have cS := cellOf hB.out); (have fS := freeOf hB.out); go_simp; (clear cS fS))
     refine hK.out _ _ ?_ ?_
     ·exact ext2 (show Ext No w3 _ from hHeld) hDV
     clear hK K hHeld
     intro hHeld
     try simp only [Act.put, nzA, nzB, nzC]
     refine wpAnyH_done (by kernel_rfl) ?_ _
     have hEx : Ext No w3 _ := hHeld
     go_wp2_with fail
     go_meet
     have hE2 : Ext (At D) v2 _ := ext_two (Ext.refl No v2) D (u0 := .int .i64 (S.w : Int)) (u1 := .slice aq (nw S.w) cq)
     exact ⟨D, aq, cq, rfl, Lib.hid ⟨HX.out.transNo hEx, hEx.blk HA.out no_no, hEx.blk HC.out no_no, (set_same (j := 1) (set_same (j := 0) hB.out)).trans rfl, (hS.out.ext hE2 (fun i _ e => .inr e)).mono (fun i _ e => by
      rcases e with e | e | e
      ·have h1 := HM.out i e; have h2 := HX.out.size; exact .inl (by omega)
      ·exact .inl (by omega)
      exact .inr e), by omega⟩⟩
    ((have hDV : w3.heap.size ≤ v0.heap.size := (show Ext No w3 _ from hHeld).size); go_simp)
    refine hK.out _ _ ?_ ?_
    ·exact Ext.alloc (show Ext No w3 _ from hHeld) _
    clear hK K hHeld
    intro hHeld
    have hB := Lib.hid (alloc_top (w := v0) (o := (.cells #[.int .i64 0, .slice none 0 0] 44)) rfl)
    generalize (v0.alloc (.cells #[.int .i64 0, .slice none 0 0] 44)) = v1 at *
    generalize v0.heap.size = D at *
    try simp only [Act.put, nzA, nzB, nzC]
    refine hHc 8 fun K hK => ?_
    ((have hEx : Ext No w3 _ := hHeld); go_simp; (go_at_call 94); (refine (clone_set S.w (rowD S.bnd n) _ _ (hset.out.no.extNo hEx)).mono ?_); (rintro e9 v2 ⟨aq, cq, rfl, hsq, hyA⟩); go_simp)
    refine hK.out _ _ ?_ ?_
    ·exact Ext.transNo (show Ext No w3 _ from hHeld) hyA
    clear hK K hHeld
    intro hHeld
    have hEs := hEx.size
    have hS := Lib.hid (hsq.out.mono (M' := fun b => b < w3.heap.size ∨ b = D) (fun i hi e => by unfold Lo; have := lt_of_block hB.out; rcases e with e | e <;> omega))
    replace hB := Lib.hid (hyA.blk hB.out no_no)
    clear hEx hsq hyA hEs
    try simp only [Act.put, nzA, nzB, nzC]
    refine hTk 9 ?_ hHeld (fun w hSw => ?_) ?_
    rotate_left
    ·go_simp; (try with_reducible rfl)
    simp only [Act.put, nzA, nzB, nzC]
    refine hHc 11 fun K hK => ?_
    ((have cS := cellOf hB.out); (have fS := freeOf hB.out); go_simp; (clear cS fS))
    refine hK.out _ _ ?_ ?_
    ·exact ext2 (show Ext No w3 _ from hHeld) hDV
    clear hK K hHeld
    intro hHeld
    try simp only [Act.put, nzA, nzB, nzC]
    refine wpAnyH_done (by kernel_rfl) ?_ _
    have hEx : Ext No w3 _ := hHeld
    go_wp2_with fail
    go_meet
    have hE2 : Ext (At D) v2 _ := ext_two (Ext.refl No v2) D (u0 := .int .i64 (S.w : Int)) (u1 := .slice aq (nw S.w) cq)
    exact ⟨D, aq, cq, rfl, Lib.hid ⟨HX.out.transNo hEx, hEx.blk HA.out no_no, hEx.blk HC.out no_no, (set_same (j := 1) (set_same (j := 0) hB.out)).trans rfl, (hS.out.ext hE2 (fun i _ e => .inr e)).mono (fun i _ e => by
     rcases e with e | e | e
     ·have h1 := HM.out i e; have h2 := HX.out.size; exact .inl (by omega)
     ·exact .inl (by omega)
     exact .inr e), by omega⟩⟩
   case rest =>
    obtain ⟨D, a0, c0, rfl, hm0⟩ := hcut
    clear HG HC HX hset
    have hb0 := hm0.out.boxS
    obtain ⟨bd, od, kd, aq, cq, hve, gd0, hint⟩ := H.out.dep HN.out
    have gd := hm0.out.ext.keep gd0
    clear gd0
    simp only [Value.slice.injEq] at hve
    obtain ⟨rfl, -, rfl⟩ := hve
    have cA := cellOf hb0
    clear hb0 HA
    rename World => wq
    have HINT := Lib.hid hint.out
    clear hint
    obtain ⟨d, hd⟩ : ∃ d, d = depD S n := ⟨_, rfl⟩
    rw [← hd] at gd HINT
    have HD := Lib.hid hd
    clear hd
    go_wp2_with fail
    clear cA gd
    have hdl := HINT.out.2.1
    have hdz : (natsZ d).length = d.length := by simp [natsZ]
    rw [hdz] at hdl
    clear hdz
    go_loopw [10, 11, 12, 64] (fun _ _ _ i wr => ∃ (k : Nat) (a : Option Addr) (c : Nat), k ≤ d.length ∧ i = .int .i64 k ∧ Hid (RtS M W wr #[.int .i64 (S.w : Int), .slice (some ⟨bd, od, none⟩) S.deps.length cd, .slice at1 S.deps.length ct, .slice (some ⟨bb, ob, none⟩) S.deps.length cb] D S.w (rightK S vs n k) a c)) (fun _ _ _ i _ => d.length - (intOf i).toNat)
    case atStart => exact ⟨0, a0, c0, Nat.zero_le _, rfl, hm0⟩
    clear hm0
    obtain ⟨k, a1, c1, hk, rfl, hm⟩ := hrel
    rename World => wr
    by_cases hlt : k < d.length
    ·have hkz : k < (natsZ d).length := by simp [natsZ]; exact hlt
     obtain ⟨b, off, cap', hsl, hb1, _, hcell⟩ := Ints.at HINT.out hkz
     simp only [Value.slice.injEq] at hsl
     obtain ⟨rfl, -, rfl⟩ := hsl
     have q0 := hm.out.ext.keep (hcell k hkz)
     clear hcell
     have hmd : d[k] < S.deps.length := HOK.out.dep (i := n) (by rw [← HD.out]; exact List.getElem_mem hlt)
     have hRS : rightK S vs n (k + 1) = orN (rightK S vs n k) (applyT (trD S d[k]) (rowD vs d[k])) := by
      have h1 : k < (depD S n).length := by rw [← HD.out]; exact hlt
      rw [rightK_succ h1]
      simp only [← HD.out]
     have HRS := Lib.hid hRS
     have he : (natsZ d)[k] = ((d[k] : Nat) : Int) := by simp [natsZ]
     rw [he] at q0
     clear hRS he hkz
     generalize d[k] = m at *
     obtain ⟨bt, ot, kt, ag, cg, ak, ck, ac, nc, cc, hve, gt, htr, htw⟩ := (H.out.extNo hm.out.ext).tr hmd
     simp only [Value.slice.injEq] at hve
     obtain ⟨rfl, -, rfl⟩ := hve
     obtain ⟨bv, ov, kv, a9, c9, hve, gv, hvs⟩ := (HV.out.extNo hm.out.ext).cells (i := m) (by rw [HL.out]; exact hmd)
     simp only [Value.slice.injEq] at hve
     obtain ⟨rfl, -, rfl⟩ := hve
     have HGT := Lib.hid gt
     have HGV := Lib.hid gv
     have hB := Lib.hid hm.out.boxS
     have hmS : (m : Int) < (S.deps.length : Int) := by omega
     have hmV : (m : Int) < (vs.length : Int) := by have := HL.out; omega
     clear gt gv
     go_wp2_with fail
     clear q0
     go_cut [11, 12] (fun s11 s12 wx => ∃ E a2 c2, s11 = .pointer (some ⟨E, 0, none⟩) ∧ Hid (RtS M W wx #[.int .i64 (S.w : Int), .slice (some ⟨bd, od, none⟩) S.deps.length cd, .slice (some ⟨bt, ot, none⟩) S.deps.length ct, .slice (some ⟨bb, ob, none⟩) S.deps.length cb] D S.w (rightK S vs n k) a1 c1) ∧ Hid (Ext No wr wx) ∧ Hid (wx.heap[E]? = some (.cells #[.int .i64 (S.w : Int), .slice a2 (nw S.w) c2] 44 (0, 0))) ∧ Hid (SetAt No wx (.slice a2 (nw S.w) c2) S.w (applyT (trD S m) (rowD vs m))))
     case first =>
      refine wp_region_held_drew (S := (fun w' => Ext No wr w')) (by kernel_rfl) ?_ (fun hHeld => ?_)
      ·exact (Ext.refl _ _).drew
      generalize wr.drew = v0 at *
      refine hHs [0, 1, 2, 3] ?_
      iterate 4
       refine hTn ?_ hHeld (fun w hSw => ?_) ?_
       rotate_left
       ·(have hEs : Ext No wr _ := hSw); (have q0 := cellOf (hEs.blk hB.out no_no)); go_simp; (try with_reducible rfl)
       simp only [Act.put, nzA, nzB, nzC]
      refine hHe ?_
      refine hHs [4, 5, 6, 7] ?_
      iterate 4
       refine hTn ?_ hHeld (fun w hSw => ?_) ?_
       rotate_left
       ·(have hEs : Ext No wr _ := hSw); (obtain ⟨p0, p1, p2, p3, p4⟩ := HGT.out); (have q0 := hEs.keep p0); (have q1 := hEs.keep p1); (have q2 := hEs.keep p2); (have q3 := hEs.keep p3); (have q4 := hEs.keep p4); go_simp; (try with_reducible rfl)
       simp only [Act.put, nzA, nzB, nzC]
      refine hHe ?_
      refine hTk 8 ?_ hHeld (fun w hSw => ?_) ?_
      rotate_left
      ·(have hEs : Ext No wr _ := hSw); (obtain ⟨p0, p1⟩ := HGV.out); (have x0 := hEs.keep p0); (have x1 := hEs.keep p1); go_simp; (try with_reducible rfl)
      simp only [Act.put, nzA, nzB, nzC]
      refine held_next2 (i := 9) (j := 13) (by kernel_rfl) (NextOp.mk rfl rfl (fun K hK => ?_)) (NextOp.mk rfl rfl (fun K hK => ?_))
      ·((have hEx : Ext No wr _ := hHeld); go_simp; (go_at_call 53); (refine (Apply_w (Lo v0.heap.size) (trD S m) S.w (rowD vs m) _ _ _ _ _ htw.out (fun _ e => e) (htr.out.no.extNo hEx) (hvs.out.no.extNo hEx)).mono ?_); (rintro e9 v1 ⟨aq, cq, rfl, hsq, hyA⟩); go_simp)
       refine hK.out _ _ ?_ ?_
       ·exact Ext.transNo (show Ext No wr _ from hHeld) hyA
       clear hK K hHeld
       intro hHeld
       have hS := Lib.hid hsq.out.no
       clear hEx hsq hyA
       try simp only [Act.put, nzA, nzB, nzC]
       refine hHs [10, 11, 12] ?_
       iterate 3
        refine hTn ?_ hHeld (fun w hSw => ?_) ?_
        rotate_left
        ·go_simp; (try with_reducible rfl)
        simp only [Act.put, nzA, nzB, nzC]
       refine hHe ?_
       refine hHc 13 fun K hK => ?_
       ((have hEV : wr.heap.size ≤ v1.heap.size := (show Ext No wr _ from hHeld).size); go_simp)
       refine hK.out _ _ ?_ ?_
       ·exact Ext.alloc (show Ext No wr _ from hHeld) _
       clear hK K hHeld
       intro hHeld
       have hBE := Lib.hid (alloc_top (w := v1) (o := (.cells #[.int .i64 0, .slice none 0 0] 44)) rfl)
       replace hS := Lib.hid ((hS.out.mono (M' := fun b => b = v1.heap.size) (fun i hi e => by omega)).extNo ((Ext.refl No v1).alloc (.cells #[.int .i64 0, .slice none 0 0] 44)))
       generalize (v1.alloc (.cells #[.int .i64 0, .slice none 0 0] 44)) = v2 at *
       generalize v1.heap.size = E at *
       try simp only [Act.put, nzA, nzB, nzC]
       refine hHc 14 fun K hK => ?_
       ((have cS := cellOf hBE.out); (have fS := freeOf hBE.out); go_simp; (clear cS fS))
       refine hK.out _ _ ?_ ?_
       ·exact ext2 (show Ext No wr _ from hHeld) hEV
       clear hK K hHeld
       intro hHeld
       try simp only [Act.put, nzA, nzB, nzC]
       refine hTk 15 ?_ hHeld (fun w hSw => ?_) ?_
       rotate_left
       ·go_simp; (try with_reducible rfl)
       simp only [Act.put, nzA, nzB, nzC]
       refine wpAnyH_done (by kernel_rfl) ?_ _
       have hEx : Ext No wr _ := hHeld
       go_wp2_with fail
       go_meet
       have hE2 : Ext (At E) v2 _ := ext_two (Ext.refl No v2) E (u0 := .int .i64 (S.w : Int)) (u1 := .slice aq (nw S.w) cq)
       exact ⟨E, aq, cq, rfl, Lib.hid (hm.out.step hEx), Lib.hid hEx, Lib.hid ((set_same (j := 1) (set_same (j := 0) hBE.out)).trans rfl), Lib.hid (hS.out.ext hE2 (fun i _ e => e)).no⟩
      ((have hEV : wr.heap.size ≤ v0.heap.size := (show Ext No wr _ from hHeld).size); go_simp)
      refine hK.out _ _ ?_ ?_
      ·exact Ext.alloc (show Ext No wr _ from hHeld) _
      clear hK K hHeld
      intro hHeld
      have hBE := Lib.hid (alloc_top (w := v0) (o := (.cells #[.int .i64 0, .slice none 0 0] 44)) rfl)
      generalize (v0.alloc (.cells #[.int .i64 0, .slice none 0 0] 44)) = v1 at *
      generalize v0.heap.size = E at *
      try simp only [Act.put, nzA, nzB, nzC]
      refine hHc 9 fun K hK => ?_
      ((have hEx : Ext No wr _ := hHeld); go_simp; (go_at_call 53); (refine (Apply_w (Lo v1.heap.size) (trD S m) S.w (rowD vs m) _ _ _ _ _ htw.out (fun _ e => e) (htr.out.no.extNo hEx) (hvs.out.no.extNo hEx)).mono ?_); (rintro e9 v2 ⟨aq, cq, rfl, hsq, hyA⟩); go_simp)
      refine hK.out _ _ ?_ ?_
      ·exact Ext.transNo (show Ext No wr _ from hHeld) hyA
      clear hK K hHeld
      intro hHeld
      have hS := Lib.hid (hsq.out.mono (M' := fun b => b = E) (fun i hi e => by unfold Lo; have := lt_of_block hBE.out; omega))
      replace hBE := Lib.hid (hyA.blk hBE.out no_no)
      clear hEx hsq hyA
      try simp only [Act.put, nzA, nzB, nzC]
      refine hHs [10, 11, 12] ?_
      iterate 3
       refine hTn ?_ hHeld (fun w hSw => ?_) ?_
       rotate_left
       ·go_simp; (try with_reducible rfl)
       simp only [Act.put, nzA, nzB, nzC]
      refine hHe ?_
      refine hHc 14 fun K hK => ?_
      ((have cS := cellOf hBE.out); (have fS := freeOf hBE.out); go_simp; (clear cS fS))
      refine hK.out _ _ ?_ ?_
      ·exact ext2 (show Ext No wr _ from hHeld) hEV
      clear hK K hHeld
      intro hHeld
      try simp only [Act.put, nzA, nzB, nzC]
      refine hTk 15 ?_ hHeld (fun w hSw => ?_) ?_
      rotate_left
      ·go_simp; (try with_reducible rfl)
      simp only [Act.put, nzA, nzB, nzC]
      refine wpAnyH_done (by kernel_rfl) ?_ _
      have hEx : Ext No wr _ := hHeld
      go_wp2_with fail
      go_meet
      have hE2 : Ext (At E) v2 _ := ext_two (Ext.refl No v2) E (u0 := .int .i64 (S.w : Int)) (u1 := .slice aq (nw S.w) cq)
      exact ⟨E, aq, cq, rfl, Lib.hid (hm.out.step hEx), Lib.hid hEx, Lib.hid ((set_same (j := 1) (set_same (j := 0) hBE.out)).trans rfl), Lib.hid (hS.out.ext hE2 (fun i _ e => e)).no⟩
     case rest =>
      obtain ⟨E, a2, c2, rfl, hm2, hx2, hE, hs2⟩ := hcut
      rename World => wy
      have cD := cellOf hm2.out.boxD
      have cE := cellOf hE.out
      go_wp2_with fail
      clear cD cE
      refine (union_any (fun b => M b ∨ b = W.heap.size + 1 ∨ b = D) S.w (rightK S vs n k) (applyT (trD S m) (rowD vs m)) _ _ _ (hm2.out.hM HM.out) hm2.out.set.no hs2.out).mono ?_
      rintro e9 w9 ⟨a3, c3, rfl, hs3, hx9⟩
      have hm3 := Lib.hid (hm2.out.step hx9)
      have hm4 := Lib.hid (hm3.out.put hs3.out)
      have hlow := hm3.out.low
      have cD := cellOf hm3.out.boxD
      have fD := freeOf hm3.out.boxD
      clear hs3 hx9
      go_wp2_with fail
      clear cD fD
      go_roundw
      case rel => exact ⟨k + 1, a3, c3, by omega, by go_num, by rw [HRS.out]; exact hm4⟩
      case measure => simp [intOf]; omega
    have hkk : k = d.length := by omega
    have HK := Lib.hid hkk
    clear hkk
    have cD := cellOf hm.out.boxD
    have cR := cellOf hm.out.boxR
    have fR := freeOf hm.out.boxR
    go_wp2_with fail
    refine ret_ex rfl ?_
    simp [results, Tryz.results95, go_sem, cR]
    refine ⟨_, _, rfl, Lib.hid ?_, ext2 hm.out.ext (by omega)⟩
    have h1 := (hm.out.set.ext (ext_two (Ext.refl No wr) (W.heap.size + 1) (u0 := .int .i64 (S.w : Int)) (u1 := .slice a1 (nw S.w) c1)) (fun i _ e => .inr (.inl e))).mono (M' := M) (fun i _ e => .inl e)
    rw [HK.out, HD.out, rightK_all] at h1
    exact h1


import Derived.Test.YtmddchceacmopaaGreatDoorE7
set_option linter.unusedVariables false
set_option linter.unusedSimpArgs false
namespace Go.Proofs.YtmddchceacmopaaGreatDoor
open Go Go.RowKit
structure WbM (W wr : World) (O : Nat) (S : SysD) (vd vt vb vB vI : Value) (cO : Array Value) (LB : LS) (LI : List (LA × Value)) : Prop where
 ext : Ext No W wr
 boxS : wr.heap[W.heap.size]? = some (.cells #[.int .i64 (S.w : Int), vd, vt, vb] 55 (0, 0))
 boxR : wr.heap[W.heap.size + 1]? = some (.cells #[.int .i64 0, .slice none 0 0, .slice none 0 0] 26 (0, 0))
 boxO : wr.heap[O]? = some (.cells cO 26 (0, 0))
 two : Tw2 kS kL wr O vB vI LB LI
 low : W.heap.size + 1 < O
 top : O < wr.heap.size
section
variable {W wr w' : World} {O : Nat} {S : SysD} {vd vt vb vB vI v' : Value} {cO : Array Value} {LB : LS} {LI : List (LA × Value)} {p : RawSet × Value} {q : LA × Value}
theorem WbM.stepNo (h : WbM W wr O S vd vt vb vB vI cO LB LI) (hx : Ext No wr w') : WbM W w' O S vd vt vb vB vI cO LB LI :=
 ⟨h.ext.transNo hx, hx.blk h.boxS no_no, hx.blk h.boxR no_no, hx.blk h.boxO no_no, h.two.step hx (fun i _ e => e.elim), h.low, Nat.lt_of_lt_of_le h.top hx.size⟩
theorem WbM.putO (h : WbM W wr O S vd vt vb vB vI cO LB LI) (j : Nat) (u : Value) : WbM W (wr.setCell ⟨O, j, none⟩ u) O S vd vt vb vB vI (cO.setIfInBounds j u) LB LI := by
 have hx : Ext (At O) wr (wr.setCell ⟨O, j, none⟩ u) := (Ext.refl (At O) _).setAt _ _
 have h1 := h.low
 exact ⟨h.ext.trans2 hx (fun i hi e => by unfold At at e; omega), hx.blk h.boxS (by unfold At; omega), hx.blk h.boxR (by unfold At; omega), set_same h.boxO, h.two.step hx (fun i _ e => by unfold At at e; omega), h1, Nat.lt_of_lt_of_le h.top hx.size⟩
theorem WbM.appB (h : WbM W wr O S vd vt vb vB vI cO LB LI) (hp : kS.ok (HA O vB vI) wr p) (hown : w'.ownsRow (O + 1) kS.T kS.s v' (LB.length + 1) (LB.flatMap kS.cells ++ kS.cells p)) (hg : wr.grownBy w' vB.ownBlock) (hv : v'.ownBlock = vB.ownBlock ∨ v'.ownBlock = some wr.heap.size) :
  WbM W w' O S vd vt vb v' vI cO (LB ++ [p]) LI := by
 have hx : Ext (fun k => vB.ownBlock = some k) wr w' := (Ext.refl _ wr).grown hg (fun k hk _ => hk)
 have hlo : ∀ i, vB.ownBlock = some i → O + 1 ≤ i := fun i hi => (h.two.b.lt i hi).1
 have h1 := h.low
 exact ⟨h.ext.trans2 hx (fun i hi e => by have := hlo i e; omega), hx.blk h.boxS (fun e => by have := hlo _ e; omega), hx.blk h.boxR (fun e => by have := hlo _ e; omega), hx.blk h.boxO (fun e => by have := hlo _ e; omega), h.two.appB h.top hp hown hg hv, h1, Nat.lt_of_lt_of_le h.top hx.size⟩
theorem WbM.appI (h : WbM W wr O S vd vt vb vB vI cO LB LI) (hp : kL.ok (HA O vB vI) wr q) (hown : w'.ownsRow (O + 1) kL.T kL.s v' (LI.length + 1) (LI.flatMap kL.cells ++ kL.cells q)) (hg : wr.grownBy w' vI.ownBlock) (hv : v'.ownBlock = vI.ownBlock ∨ v'.ownBlock = some wr.heap.size) :
  WbM W w' O S vd vt vb vB v' cO LB (LI ++ [q]) := by
 have hx : Ext (fun k => vI.ownBlock = some k) wr w' := (Ext.refl _ wr).grown hg (fun k hk _ => hk)
 have hlo : ∀ i, vI.ownBlock = some i → O + 1 ≤ i := fun i hi => (h.two.c.lt i hi).1
 have h1 := h.low
 exact ⟨h.ext.trans2 hx (fun i hi e => by have := hlo i e; omega), hx.blk h.boxS (fun e => by have := hlo _ e; omega), hx.blk h.boxR (fun e => by have := hlo _ e; omega), hx.blk h.boxO (fun e => by have := hlo _ e; omega), h.two.appC h.top hp hown hg hv, h1, Nat.lt_of_lt_of_le h.top hx.size⟩
theorem WbM.web (h : WbM W wr O S vd vt vb vB vI cO LB LI) (hx : Ext (At (W.heap.size + 1)) wr w') (hok : SysOk S) (hB : LB.map Prod.fst = S.bnd.map (setN S.w)) (hL : LI.length = S.deps.length) (hI : ∀ i (h : i < LI.length), LI[i].1.map cutA = arcsR S i) : WebAt No w' vB vI S := by
 have h1 := h.low
 have h2 := h.two.step hx (fun i _ e => by unfold At at e; omega)
 exact ⟨hok, (h2.b.list (M := No) (fun _ _ x => x) (fun _ x => x.elim)).setsV hB hok.w hok.bnd, LI, h2.c.list (fun _ _ x => x) (fun _ x => x.elim), hL, hI⟩
end
theorem raw_of {M : Nat → Prop} {W : World} {t : TrD} {w : Nat} {sg sk sc : Value} (hw : t.w = w) (hg : SetAt M W sg w t.gen) (hk : SetAt M W sk w t.kill) (hc : CopiesAt M W sc t.copies) : RawTAt M W sg sk sc (rawT t) := by
 subst hw; exact ⟨hg.words, hk.words, hc⟩
theorem arcs_succ {S : SysD} {k j m : Nat} {L : LA} {x : Int × RawT × Value × Value × Value} (h : L.map cutA = (arcsR S k).take j) (hj : j < (depD S k).length) (hm : m = (depD S k)[j]) (hx : cutA x = ((m : Int), rawT (trD S m))) : (L ++ [x]).map cutA = (arcsR S k).take (j + 1) := by
 have hj2 : j < (arcsR S k).length := by simp [arcsR, hj]
 rw [List.map_append, h, List.take_succ_eq_append_getElem hj2]
 simp [hx, arcsR, hm]
theorem sets_succ {S : SysD} (hok : SysOk S) {k : Nat} {LB : LS} {x : RawSet × Value} (h : LB.map Prod.fst = (S.bnd.take k).map (setN S.w)) (hk : k < S.deps.length) (hx : x.1 = setN S.w (rowD S.bnd k)) : (LB ++ [x]).map Prod.fst = (S.bnd.take (k + 1)).map (setN S.w) := by
 have hk2 : k < S.bnd.length := by rw [hok.lb]; exact hk
 rw [List.map_append, h, List.take_succ_eq_append_getElem hk2, List.map_append]
 simp [hx, rowD, hk2]
theorem arcs_all {S : SysD} {k : Nat} {L : LA} {v : Value} {LI : List (LA × Value)} (h : ∀ i (h : i < LI.length), LI[i].1.map cutA = arcsR S i) (hk : LI.length = k) (hL : L.map cutA = arcsR S k) : ∀ i (h : i < (LI ++ [(L, v)]).length), (LI ++ [(L, v)])[i].1.map cutA = arcsR S i := by
 intro i hi
 rw [List.length_append, List.length_singleton] at hi
 rcases Nat.lt_or_ge i LI.length with hlt | hge
 ·rw [List.getElem_append_left hlt]; exact h i hlt
 have e : i = LI.length := by omega
 subst e
 rw [List.getElem_append_right (Nat.le_refl _)]
 simp [hk, hL]
def WebPost (S : SysD) (W : World) (e : Ending) (w' : World) : Prop :=
 ∃ (a1 a2 : Option Addr) (c1 c2 : Nat), e = .returned (.tuple #[.agg #[.int .i64 (S.w : Int), .slice a1 S.deps.length c1, .slice a2 S.deps.length c2], .int .i64 0]) ∧ Hid (WebAt No w' (.slice a1 S.deps.length c1) (.slice a2 S.deps.length c2) S) ∧ Ext No W w'
set_option maxRecDepth 100000 in
set_option maxHeartbeats 16000000 in
theorem web_any (S : SysD) (vd vt vb : Value) (W : World) (h : SysAt No W vd vt vb S) :
  Calls Tryz.prog 18 #[.agg #[.int .i64 (S.w : Int), vd, vt, vb]] W (WebPost S W) := by
 obtain ⟨iS, hiS, hS0, hS1, hS2⟩ := info_parts infoS
 obtain ⟨iA, hiA, hA0, hA1, hA2⟩ := info_parts infoA8
 obtain ⟨iL, hiL, hL0, hL1, hL2⟩ := info_parts infoL8
 have H := Lib.hid h
 have hok := h.ok
 have HOK := Lib.hid hok
 have hnn := hok.n2
 have hww := hok.w
 obtain ⟨ad, cd, at1, ct, ab, cb, rfl, rfl, rfl⟩ := h.slices
 clear h hok
 go_enter Tryz.func18, Tryz.ntmps18
 go_wp2_with fail
 have hx0 : Ext No W ((W.alloc (.cells #[.int .i64 (S.w : Int), .slice ad S.deps.length cd, .slice at1 S.deps.length ct, .slice ab S.deps.length cb] 55)).alloc (.cells #[.int .i64 0, .slice none 0 0, .slice none 0 0] 26)) := ((Ext.refl _ _).alloc _).alloc _
 have HBS := Lib.hid (show ((W.alloc (.cells #[.int .i64 (S.w : Int), .slice ad S.deps.length cd, .slice at1 S.deps.length ct, .slice ab S.deps.length cb] 55)).alloc (.cells #[.int .i64 0, .slice none 0 0, .slice none 0 0] 26)).heap[W.heap.size]? = some (.cells #[.int .i64 (S.w : Int), .slice ad S.deps.length cd, .slice at1 S.deps.length ct, .slice ab S.deps.length cb] 55 (0, 0)) from alloc_under (alloc_top rfl))
 have HBR := Lib.hid (show ((W.alloc (.cells #[.int .i64 (S.w : Int), .slice ad S.deps.length cd, .slice at1 S.deps.length ct, .slice ab S.deps.length cb] 55)).alloc (.cells #[.int .i64 0, .slice none 0 0, .slice none 0 0] 26)).heap[W.heap.size + 1]? = some (.cells #[.int .i64 0, .slice none 0 0, .slice none 0 0] 26 (0, 0)) from alloc_top (by simp))
 generalize ((W.alloc (.cells #[.int .i64 (S.w : Int), .slice ad S.deps.length cd, .slice at1 S.deps.length ct, .slice ab S.deps.length cb] 55)).alloc (.cells #[.int .i64 0, .slice none 0 0, .slice none 0 0] 26)) = V0 at *
 refine (sysValid_yes S _ _ _ _ (H.out.extNo hx0)).mono ?_
 rintro e1 w1 ⟨rfl, hx1⟩
 have cA := cellOf (hx1.blk HBS.out no_no)
 go_upto_region 4 with (fail)
 clear cA
 have hlR := lt_of_block (hx1.blk HBR.out no_no)
 have hxo : Ext No w1 (w1.alloc (.cells #[.int .i64 (S.w : Int), .slice none 0 0, .slice none 0 0] 26)) := (Ext.refl _ _).alloc _
 have hm := Lib.hid (show WbM W (w1.alloc (.cells #[.int .i64 (S.w : Int), .slice none 0 0, .slice none 0 0] 26)) w1.heap.size S (.slice ad S.deps.length cd) (.slice at1 S.deps.length ct) (.slice ab S.deps.length cb) (.slice none 0 0) (.slice none 0 0) #[.int .i64 (S.w : Int), .slice none 0 0, .slice none 0 0] [] [] from ⟨(hx0.transNo hx1).transNo hxo, hxo.blk (hx1.blk HBS.out no_no) no_no, hxo.blk (hx1.blk HBR.out no_no) no_no, alloc_top rfl, ⟨LOwn.nil _ _ _ _, LOwn.nil _ _ _ _, fun k e => by cases e⟩, hlR, by simp⟩)
 clear hx0 hx1 hxo HBS HBR hlR
 generalize (w1.alloc (.cells #[.int .i64 (S.w : Int), .slice none 0 0, .slice none 0 0] 26)) = W1 at *
 generalize w1.heap.size = O at *
 have cS := cellOf hm.out.boxS
 go_wp2_with fail
 clear cS
 go_loopw [5, 6, 7, 9, 10, 21] (fun _ _ _ _ _ s21 wr => ∃ (k : Nat) (vB vI : Value) (LB : LS) (LI : List (LA × Value)), s21 = .int .i64 k ∧ k ≤ S.deps.length ∧ Hid (WbM W wr O S (.slice ad S.deps.length cd) (.slice at1 S.deps.length ct) (.slice ab S.deps.length cb) vB vI #[.int .i64 (S.w : Int), vB, vI] LB LI) ∧ Hid (LB.map Prod.fst = (S.bnd.take k).map (setN S.w)) ∧ Hid (LI.length = k) ∧ Hid (∀ i (h : i < LI.length), LI[i].1.map cutA = arcsR S i)) (fun _ _ _ _ _ s21 _ => S.deps.length - (intOf s21).toNat)
 case atStart => exact ⟨0, _, _, [], [], rfl, Nat.zero_le _, hm, Lib.hid rfl, Lib.hid rfl, Lib.hid (fun i h => absurd h (Nat.not_lt_zero _))⟩
 clear hm
 obtain ⟨k, vB, vI, LB, LI, rfl, hk, hm, hLB, hLI, hIN⟩ := hrel
 rename World => wr
 have hlB : Hid (LB.length = k) := Lib.hid (by have := congrArg List.length hLB.out; have := HOK.out.lb; simp at *; omega)
 obtain ⟨a1, c1, e1⟩ := hm.out.two.b.slice
 obtain ⟨a2, c2, e2⟩ := hm.out.two.c.slice
 rw [hlB.out] at e1
 rw [hLI.out] at e2
 subst e1 e2
 by_cases hlt : k < S.deps.length
 ·have hlz : (k : Int) < (S.deps.length : Int) := by omega
  have HKK : Hid (Value.int .i64 ((k : Int) + 1) = .int .i64 ((k + 1 : Nat) : Int)) := Lib.hid (by rw [show ((k + 1 : Nat) : Int) = (k : Int) + 1 from by omega])
  have HHOT := Lib.hid (hm.out.two.hM hm.out.top)
  obtain ⟨bd, od, kd, ae, ce, hve, gd, hints⟩ := (H.out.extNo hm.out.ext).dep hlt
  simp only [Value.slice.injEq] at hve
  obtain ⟨rfl, -, rfl⟩ := hve
  obtain ⟨n, hn⟩ : ∃ n, n = (depD S k).length := ⟨_, rfl⟩
  have HN := Lib.hid hn
  rw [← hn] at hints gd
  clear hn
  have hn8 : n ≤ 256 := by
   have h1 := HN.out
   have h2 : (natsZ (depD S k)).length = n := by rw [h1]; simp [natsZ]
   rcases Nat.eq_zero_or_pos n with h0 | h0
   ·omega
   have h3 := asc_len (asc_dep HOK.out hlt) (by rw [h2]; exact h0)
   rw [h2] at h3
   omega
  go_wp2_with fail
  clear gd
  go_loopw [7, 9, 10, 28] (fun s7 _ _ s28 wx => ∃ (j : Nat) (L : LA), s28 = .int .i64 j ∧ j ≤ n ∧ Hid (LOwn kA (Lo wr.heap.size) wx wr.heap.size s7 L) ∧ Hid (L.map cutA = (arcsR S k).take j) ∧ Hid (Ext No wr wx)) (fun _ _ _ s28 _ => n - (intOf s28).toNat)
  case atStart => exact ⟨0, [], rfl, Nat.zero_le _, Lib.hid (LOwn.nil _ _ _ _), Lib.hid rfl, Lib.hid (Ext.refl _ _)⟩
  obtain ⟨j, L, rfl, hj, hown, hLM, hx⟩ := hrel
  rename World => wx
  have hlA : Hid (L.length = j) := Lib.hid (by have := congrArg List.length hLM.out; have h2 := HN.out; rw [List.length_map, List.length_take] at this; simp only [arcsR, List.length_map] at this; omega)
  obtain ⟨s1, t1, hs7⟩ := hown.out.slice
  rw [hlA.out] at hs7
  subst hs7
  by_cases hlt2 : j < n
  ·have hjz : (j : Int) < (n : Int) := by omega
   have HJJ : Hid (Value.int .i64 ((j : Int) + 1) = .int .i64 ((j + 1 : Nat) : Int)) := Lib.hid (by rw [show ((j + 1 : Nat) : Int) = (j : Int) + 1 from by omega])
   have hjd : j < (depD S k).length := by have := HN.out; omega
   obtain ⟨m, hmj⟩ : ∃ m, m = (depD S k)[j] := ⟨_, rfl⟩
   have hmd : m < S.deps.length := HOK.out.dep (i := k) (by rw [hmj]; exact List.getElem_mem hjd)
   have hmz : (m : Int) < (S.deps.length : Int) := by omega
   have HMJ : Hid (∃ hjd : j < (depD S k).length, m = (depD S k)[j]) := Lib.hid ⟨hjd, hmj⟩
   have hjn2 : j < (natsZ (depD S k)).length := by simp [natsZ, hjd]
   obtain ⟨be, oe, ke, hve, hb1, -, hce⟩ := Ints.at (Row.extNo hints.out hx.out) hjn2
   simp only [Value.slice.injEq] at hve
   obtain ⟨rfl, -, rfl⟩ := hve
   have qe := hce j hjn2
   rw [show (natsZ (depD S k))[j] = (m : Int) from by simp [natsZ, hmj]] at qe
   obtain ⟨bt, ot, kt, ag, cg, ak, ck, ac, nc, cc, hve, gt, HTR, htw⟩ := ((H.out.extNo hm.out.ext).extNo hx.out).tr hmd
   simp only [Value.slice.injEq] at hve
   obtain ⟨rfl, -, rfl⟩ := hve
   obtain ⟨q0, q1, q2, q3, q4⟩ := gt
   have cS := cellOf (hx.out.blk hm.out.boxS no_no)
   clear hmj hjd hce hjn2 hb1
   go_upto_region 12 with (fail)
   clear q0 q1 q2 q3 q4 cS qe
   have hxf : Ext No wx (wx.alloc (.cells #[.int .i64 (S.w : Int), .slice ag (nw S.w) cg, .int .i64 (S.w : Int), .slice ak (nw S.w) ck, .slice ac nc cc] 47)) := (Ext.refl _ _).alloc _
   have HF := Lib.hid (alloc_top (w := wx) (o := (.cells #[.int .i64 (S.w : Int), .slice ag (nw S.w) cg, .int .i64 (S.w : Int), .slice ak (nw S.w) ck, .slice ac nc cc] 47)) rfl)
   have HX := Lib.hid (hx.out.transNo hxf)
   have HOWN := Lib.hid (hown.out.extNo hxf)
   replace HTR := Lib.hid (HTR.out.extNo hxf)
   have HNC := Lib.hid (show nc = (trD S m).copies.length from by obtain ⟨_, _, h3⟩ := Row.slice HTR.out.copies; simp only [Value.slice.injEq] at h3; exact h3.2.1)
   have HNC2 := Lib.hid (HTR.out.ok.len)
   have hWS := Lib.hid hx.out.size
   clear hown hx hxf
   generalize (wx.alloc (.cells #[.int .i64 (S.w : Int), .slice ag (nw S.w) cg, .int .i64 (S.w : Int), .slice ak (nw S.w) ck, .slice ac nc cc] 47)) = V at *
   generalize wx.heap.size = FB at *
   refine wp_region_heldL [14] (fun w' => Ext No V w') (by kernel_rfl) ?_ (fun hHeld => ?_)
   ·exact (Ext.refl _ _).drew
   have HE := Lib.hid (show Ext No V V.drew from (Ext.refl _ _).drew)
   generalize V.drew = v0 at *
   refine hHs [0, 1, 2] (hHl hHeld ?_)
   clear hHeld
   iterate 3
    refine hFn ?_ (fun w => ?_) ?_
    rotate_left
    ·go_simp; (try with_reducible rfl)
    simp only [Act.put, nzA, nzB, nzC]
   refine hHe fun hHeld => ?_
   refine hHs [3] (hHl hHeld ?_)
   clear hHeld
   refine hHn ?_ (fun w hSw => ?_) ?_
   rotate_left
   ·(have q0 := cellOf ((show Ext No V _ from hSw).blk HF.out no_no)); go_simp; (try with_reducible rfl)
   simp only [Act.put, nzA, nzB, nzC]
   refine hHe fun hHeld => ?_
   refine hHs [5] (hHl hHeld ?_)
   clear hHeld
   refine hFn ?_ (fun w => ?_) ?_
   rotate_left
   ·go_simp; (try with_reducible rfl)
   simp only [Act.put, nzA, nzB, nzC]
   refine hHe fun hHeld => ?_
   refine hHs [6] (hHl hHeld ?_)
   clear hHeld
   refine hHn ?_ (fun w hSw => ?_) ?_
   rotate_left
   ·(have q0 := cellOf ((show Ext No V _ from hSw).blk HF.out no_no)); go_simp; (try with_reducible rfl)
   simp only [Act.put, nzA, nzB, nzC]
   refine hHe fun hHeld => ?_
   refine hHs [8] (hHl hHeld ?_)
   clear hHeld
   refine hFn ?_ (fun w => ?_) ?_
   rotate_left
   ·go_simp; (try with_reducible rfl)
   simp only [Act.put, nzA, nzB, nzC]
   refine hHe fun hHeld => ?_
   refine hHs [9] (hHl hHeld ?_)
   clear hHeld
   refine hHn ?_ (fun w hSw => ?_) ?_
   rotate_left
   ·(have q0 := cellOf ((show Ext No V _ from hSw).blk HF.out no_no)); go_simp; (try with_reducible rfl)
   simp only [Act.put, nzA, nzB, nzC]
   refine hHe fun hHeld => ?_
   refine heldL_next1 (i := 4) (by kernel_rfl) (NextL.mk rfl rfl (fun K hK => ?_))
   (go_simp; (go_at_call 58); (refine (eclone_any S.w (trD S m).gen _ _ (by have h := HTR.out.gen; rw [htw.out] at h; exact h.extNo HE.out)).mono ?_); (rintro e1 v1 ⟨d1, cd1, rfl, hsg, hyA⟩); go_simp)
   refine hK.out _ _ ?_ ?_
   ·intro _; exact HE.out.transNo hyA
   clear hK K hHeld
   intro hHeld
   have hSg := Lib.hid (hsg.out.mono (M' := (fun b => Lo wr.heap.size b ∨ Value.ownBlock (.slice s1 j t1) = some b)) (fun i hi e => by have h1 := HX.out.size; have h2 := HE.out.size; rcases e with e | e; (unfold Lo at *; have := hWS.out; omega); (have h3 := (HOWN.out.lt i e).2; unfold Lo; omega)))
   replace HE := Lib.hid (HE.out.transNo hyA)
   clear hyA hsg
   try simp only [Act.put, nzA, nzB, nzC]
   refine heldL_next1 (i := 7) (by kernel_rfl) (NextL.mk rfl rfl (fun K hK => ?_))
   (go_simp; (go_at_call 58); (refine (eclone_any S.w (trD S m).kill _ _ (by have h := HTR.out.kill; rw [htw.out] at h; exact h.extNo HE.out)).mono ?_); (rintro e1 v2 ⟨d2, cd2, rfl, hsk, hyA⟩); go_simp)
   refine hK.out _ _ ?_ ?_
   ·intro _; exact HE.out.transNo hyA
   clear hK K hHeld
   intro hHeld
   replace hSg := Lib.hid (hSg.out.extNo hyA)
   have hSk := Lib.hid (hsk.out.mono (M' := (fun b => Lo wr.heap.size b ∨ Value.ownBlock (.slice s1 j t1) = some b)) (fun i hi e => by have h1 := HX.out.size; have h2 := HE.out.size; rcases e with e | e; (unfold Lo at *; have := hWS.out; omega); (have h3 := (HOWN.out.lt i e).2; unfold Lo; omega)))
   replace HE := Lib.hid (HE.out.transNo hyA)
   clear hyA hsk
   try simp only [Act.put, nzA, nzB, nzC]
   refine heldL_next1 (i := 10) (by kernel_rfl) (NextL.mk rfl rfl (fun K hK => ?_))
   (go_simp; (go_at_call 59); (refine (cloneC_any _ (trD S m).copies _ (Row.extNo HTR.out.copies HE.out) (by have := HNC2.out; omega)).mono ?_); (rintro e1 v3 ⟨e6, ce6, rfl, hsc, hyA⟩); (rw [← HNC.out] at hsc ⊢); go_simp)
   refine hK.out _ _ ?_ ?_
   ·intro _; exact HE.out.transNo hyA
   clear hK K hHeld
   intro hHeld
   replace hSg := Lib.hid (hSg.out.extNo hyA)
   replace hSk := Lib.hid (hSk.out.extNo hyA)
   have hSc := Lib.hid (Row.mono (M' := (fun b => Lo wr.heap.size b ∨ Value.ownBlock (.slice s1 j t1) = some b)) hsc.out (fun i hi e => by have h1 := HX.out.size; have h2 := HE.out.size; rcases e with e | e; (unfold Lo at *; have := hWS.out; omega); (have h3 := (HOWN.out.lt i e).2; unfold Lo; omega)))
   replace HE := Lib.hid (HE.out.transNo hyA)
   clear hyA hsc
   try simp only [Act.put, nzA, nzB, nzC]
   refine hHs [11, 12] (hHl hHeld ?_)
   clear hHeld
   iterate 2
    refine hFn ?_ (fun w => ?_) ?_
    rotate_left
    ·go_simp; (try with_reducible rfl)
    simp only [Act.put, nzA, nzB, nzC]
   refine hHe fun hHeld => ?_
   refine heldL_next1 (i := 13) (by kernel_rfl) (NextL.mk rfl rfl (fun K hK => ?_))
   go_simp
   refine hK.out _ _ ?_ ?_
   ·intro _; exact HE.out.alloc _
   clear hK K hHeld
   intro hHeld
   have hx8 := (Ext.refl No v3).alloc (.cells #[.int .i64 (m : Int), .int .i64 (S.w : Int), .slice d1 (nw S.w) cd1, .int .i64 (S.w : Int), .slice d2 (nw S.w) cd2, .slice e6 nc ce6] 49)
   have hL1 := Lib.hid (alloc_top (w := v3) (o := (.cells #[.int .i64 (m : Int), .int .i64 (S.w : Int), .slice d1 (nw S.w) cd1, .int .i64 (S.w : Int), .slice d2 (nw S.w) cd2, .slice e6 nc ce6] 49)) rfl)
   replace HE := Lib.hid (HE.out.transNo hx8)
   replace hSg := Lib.hid (hSg.out.extNo hx8)
   replace hSk := Lib.hid (hSk.out.extNo hx8)
   replace hSc := Lib.hid (Row.extNo hSc.out hx8)
   clear hx8
   generalize (v3.alloc (.cells #[.int .i64 (m : Int), .int .i64 (S.w : Int), .slice d1 (nw S.w) cd1, .int .i64 (S.w : Int), .slice d2 (nw S.w) cd2, .slice e6 nc ce6] 49)) = v4 at *
   generalize v3.heap.size = BL at *
   try simp only [Act.put, nzA, nzB, nzC]
   refine heldL_next1 (i := 14) (by kernel_rfl) (NextL.mk rfl rfl (fun K hK => ?_))
   ((have hRaw := Lib.hid (show RawTAt (fun b => Lo wr.heap.size b ∨ Value.ownBlock (.slice s1 j t1) = some b) _ (.slice d1 (nw S.w) cd1) (.slice d2 (nw S.w) cd2) (.slice e6 nc ce6) (rawT (trD S m)) from raw_of htw.out hSg.out hSk.out hSc.out)); (have hb8 := HX.out.size); (have hb9 := HE.out.size); (refine wp_app _ (.tmp 37) (.tmp 50) 40 rfl wr.heap.size 49 iA _ 6 96 Tryz.underlying40 hiA hA0 hA1 hA2 rfl (by omega) (.slice s1 j t1) j (L.flatMap kA.cells) rfl (by have h := (HOWN.out.extNo HE.out).own; rw [hlA.out] at h; exact h) No (some ⟨BL, 0, none⟩) 1 1 [.int .i64 (m : Int), .int .i64 (S.w : Int), .slice d1 (nw S.w) cd1, .int .i64 (S.w : Int), .slice d2 (nw S.w) cd2, .slice e6 nc ce6] rfl (Row.block hL1.out rfl no_no (by omega)) (by simp [Value.oneCell']) (by omega) (by omega) (by omega) ?_); (intro v9 w9 hown1 hg1 hv1))
   refine hK.out _ _ ?_ ?_
   ·exact fun h => absurd h (by decide)
   clear hK K hHeld
   intro hHeld
   have hE9 : Ext (fun bq => Value.ownBlock (.slice s1 j t1) = some bq) v4 w9 := (Ext.refl _ _).grown hg1 (fun bq hk _ => hk)
   have hraw : RawTAt (fun b => Lo wr.heap.size b ∨ Value.ownBlock (.slice s1 j t1) = some b) v4 (.slice d1 (nw S.w) cd1) (.slice d2 (nw S.w) cd2) (.slice e6 nc ce6) (rawT (trD S m)) := hRaw.out
   have hce : kA.cells ((m : Int), rawT (trD S m), Value.slice d1 (nw S.w) cd1, Value.slice d2 (nw S.w) cd2, Value.slice e6 nc ce6) = [.int .i64 (m : Int), .int .i64 (S.w : Int), .slice d1 (nw S.w) cd1, .int .i64 (S.w : Int), .slice d2 (nw S.w) cd2, .slice e6 nc ce6] := by
    show [Value.int .i64 (m : Int), .int .i64 ((trD S m).w : Int), _, .int .i64 ((trD S m).w : Int), _, _] = _
    rw [htw.out]
   have hO9 := Lib.hid ((HOWN.out.extNo HE.out).app (p := ((m : Int), rawT (trD S m), Value.slice d1 (nw S.w) cd1, Value.slice d2 (nw S.w) cd2, Value.slice e6 nc ce6)) hraw (by rw [hlA.out, hce]; exact hown1) hE9 (fun _ e => e) (hv1.imp id (fun hv k hk => by rw [hv] at hk; simp only [Option.some.injEq] at hk; omega)))
   have hX9 := Lib.hid ((HX.out.transNo HE.out).trans2 hE9 (fun i hi e => by have := (HOWN.out.lt i e).1; omega))
   clear hraw hE9 hown1 hg1 hv1 hL1 hRaw
   clear HE hSg hSk hSc
   generalize w9 = v5 at *
   try simp only [Act.put, nzA, nzB, nzC]
   refine hHs [15] (hHl hHeld ?_)
   clear hHeld
   refine hFn ?_ (fun w => ?_) ?_
   rotate_left
   ·go_simp; (try with_reducible rfl)
   simp only [Act.put, nzA, nzB, nzC]
   refine hHe fun hHeld => ?_
   refine heldL_done (by kernel_rfl) ?_ _
   go_wp2_with fail
   go_roundw
   case rel => exact ⟨j + 1, L ++ [((m : Int), rawT (trD S m), Value.slice d1 (nw S.w) cd1, Value.slice d2 (nw S.w) cd2, Value.slice e6 nc ce6)], HJJ.out, by omega, hO9, Lib.hid (HMJ.out.elim fun h1 h2 => arcs_succ hLM.out h1 h2 rfl), hX9⟩
   case measure => simp [intOf]; omega
  have hge : ¬ (j : Int) < (n : Int) := by omega
  have hjn : j = n := by omega
  subst hjn
  have HLM := Lib.hid (show L.map cutA = arcsR S k from by rw [hLM.out, List.take_of_length_le (by have := HN.out; simp [arcsR]; omega)])
  have HLA := Lib.hid (show LAt kA (HA O (.slice a1 k c1) (.slice a2 k c2)) wx (.slice s1 j t1) L from (hown.out.list (M := Lo wr.heap.size) (fun b h e => by unfold Lo at e; omega) (fun _ e => e)).mono (fun i _ e => HHOT.out i e))
  clear hown hLM HHOT
  have hmx := Lib.hid (hm.out.stepNo hx.out)
  have hsB := (H.out.extNo hmx.out.ext).bn hlt
  obtain ⟨bb, ob, kb, a5, c5, hve, g0, g1, hset⟩ := hsB
  simp only [Value.slice.injEq] at hve
  obtain ⟨rfl, -, rfl⟩ := hve
  have HQ := Lib.hid (And.intro g0 g1)
  clear g0 g1 hm hx
  have HBO := Lib.hid hmx.out.boxO
  have HBS := Lib.hid hmx.out.boxS
  go_upto_region 14 with (fail)
  refine wp_region_heldL [9, 11] (fun w' => Ext No wx w') (by kernel_rfl) ?_ (fun hHeld => ?_)
  ·exact (Ext.refl _ _).drew
  have HE := Lib.hid (show Ext No wx wx.drew from (Ext.refl _ _).drew)
  generalize wx.drew = v0 at *
  refine hHs [0] (hHl hHeld ?_)
  clear hHeld
  refine hFn ?_ (fun w => ?_) ?_
  rotate_left
  ·go_simp; (try with_reducible rfl)
  simp only [Act.put, nzA, nzB, nzC]
  refine hHe fun hHeld => ?_
  refine hHs [1] (hHl hHeld ?_)
  clear hHeld
  refine hHn ?_ (fun w hSw => ?_) ?_
  rotate_left
  ·(have q0 := cellOf ((show Ext No wx _ from hSw).blk HBO.out no_no)); go_simp; (try with_reducible rfl)
  simp only [Act.put, nzA, nzB, nzC]
  refine hHe fun hHeld => ?_
  refine hHs [2] (hHl hHeld ?_)
  clear hHeld
  refine hFn ?_ (fun w => ?_) ?_
  rotate_left
  ·go_simp; (try with_reducible rfl)
  simp only [Act.put, nzA, nzB, nzC]
  refine hHe fun hHeld => ?_
  refine hHs [3] (hHl hHeld ?_)
  clear hHeld
  refine hHn ?_ (fun w hSw => ?_) ?_
  rotate_left
  ·(have q0 := cellOf ((show Ext No wx _ from hSw).blk HBS.out no_no)); go_simp; (try with_reducible rfl)
  simp only [Act.put, nzA, nzB, nzC]
  refine hHe fun hHeld => ?_
  refine hHs [4, 5] (hHl hHeld ?_)
  clear hHeld
  iterate 2
   refine hFn ?_ (fun w => ?_) ?_
   rotate_left
   ·go_simp; (try with_reducible rfl)
   simp only [Act.put, nzA, nzB, nzC]
  refine hHe fun hHeld => ?_
  refine hHs [6] (hHl hHeld ?_)
  clear hHeld
  refine hHn ?_ (fun w hSw => ?_) ?_
  rotate_left
  ·(obtain ⟨p0, p1⟩ := HQ.out); (have q0 := (show Ext No wx _ from hSw).keep p0); (have q1 := (show Ext No wx _ from hSw).keep p1); go_simp; (try with_reducible rfl)
  simp only [Act.put, nzA, nzB, nzC]
  refine hHe fun hHeld => ?_
  refine heldL_next1 (i := 7) (by kernel_rfl) (NextL.mk rfl rfl (fun K hK => ?_))
  (go_simp; (go_at_call 58); (refine (eclone_any S.w (rowD S.bnd k) _ _ (hset.out.no.extNo HE.out)).mono ?_); (rintro e1 v1 ⟨d5, cd5, rfl, hs5, hyA⟩); go_simp)
  refine hK.out _ _ ?_ ?_
  ·intro _; exact HE.out.transNo hyA
  clear hK K hHeld
  intro hHeld
  have hS5 := Lib.hid (hs5.out.mono (M' := HA O (.slice a1 k c1) (.slice a2 k c2)) (fun i hi e => by have h1 := hmx.out.two.hM hmx.out.top i e; unfold Lo; have h2 := HE.out.size; omega))
  replace HE := Lib.hid (HE.out.transNo hyA)
  clear hyA hs5
  try simp only [Act.put, nzA, nzB, nzC]
  refine heldL_next1 (i := 8) (by kernel_rfl) (NextL.mk rfl rfl (fun K hK => ?_))
  go_simp
  refine hK.out _ _ ?_ ?_
  ·intro _; exact HE.out.alloc _
  clear hK K hHeld
  intro hHeld
  have hx8 := (Ext.refl No v1).alloc (.cells #[.int .i64 (S.w : Int), .slice d5 (nw S.w) cd5] 44)
  have hL1 := Lib.hid (alloc_top (w := v1) (o := (.cells #[.int .i64 (S.w : Int), .slice d5 (nw S.w) cd5] 44)) rfl)
  replace HE := Lib.hid (HE.out.transNo hx8)
  replace hS5 := Lib.hid (hS5.out.extNo hx8)
  have hm1 := Lib.hid (hmx.out.stepNo HE.out)
  have hA1 := Lib.hid (HLA.out.extNo HE.out)
  clear hx8 hmx HLA HE
  generalize (v1.alloc (.cells #[.int .i64 (S.w : Int), .slice d5 (nw S.w) cd5] 44)) = v2 at *
  generalize v1.heap.size = BL at *
  try simp only [Act.put, nzA, nzB, nzC]
  refine heldL_next1 (i := 9) (by kernel_rfl) (NextL.mk rfl rfl (fun K hK => ?_))
  ((refine wp_app _ (.tmp 54) (.tmp 61) 23 rfl (O + 1) 44 iS _ 2 32 Tryz.underlying23 hiS hS0 hS1 hS2 rfl (by omega) (.slice a1 k c1) k (LB.flatMap kS.cells) rfl (by have h := hm1.out.two.b.own; rw [hlB.out] at h; exact h) No (some ⟨BL, 0, none⟩) 1 1 [.int .i64 (S.w : Int), .slice d5 (nw S.w) cd5] rfl (Row.block hL1.out rfl no_no (by omega)) (by simp [Value.oneCell']) (by omega) (by omega) hm1.out.top ?_); (intro v9 w9 hown1 hg1 hv1); (have hm9 := Lib.hid (hm1.out.appB (p := (setN S.w (rowD S.bnd k), .slice d5 (nw S.w) cd5)) hS5.out.words (by rw [hlB.out]; exact hown1) hg1 hv1)); (have hA9 := Lib.hid (Tw2.carryA (K1 := kS) hA1.out hg1 hv1)); (obtain ⟨xB, yB, hs99⟩ := hm9.out.two.b.slice); (rw [List.length_append, hlB.out] at hs99); (subst hs99); (clear hown1 hg1 hv1))
  refine hK.out _ _ ?_ ?_
  ·exact fun h => absurd h (by decide)
  clear hK K hHeld
  intro hHeld
  clear hm1 hA1 hL1 hS5
  generalize w9 = v3 at *
  try simp only [Act.put, nzA, nzB, nzC]
  refine hHs [10] (hHl hHeld ?_)
  clear hHeld
  refine hFn ?_ (fun w => ?_) ?_
  rotate_left
  ·go_simp; (try with_reducible rfl)
  simp only [Act.put, nzA, nzB, nzC]
  refine hHe fun hHeld => ?_
  refine heldL_next1 (i := 11) (by kernel_rfl) (NextL.mk rfl rfl (fun K hK => ?_))
  ((have cX := cellOf hm9.out.boxO); (have fX := freeOf hm9.out.boxO); go_simp; (clear cX fX))
  refine hK.out _ _ ?_ ?_
  ·exact fun h => absurd h (by decide)
  clear hK K hHeld
  intro hHeld
  have hmA := Lib.hid (show WbM W (v3.setCell ⟨O, 1, none⟩ (.slice xB (k + 1) yB)) O S _ _ _ (.slice xB (k + 1) yB) (.slice a2 k c2) #[.int .i64 (S.w : Int), (.slice xB (k + 1) yB), (.slice a2 k c2)] (LB ++ [(setN S.w (rowD S.bnd k), .slice d5 (nw S.w) cd5)]) LI from hm9.out.putO 1 (.slice xB (k + 1) yB))
  have hAA := Lib.hid (hA9.out.ext (M' := At O) ((Ext.refl (At O) _).setAt 1 (.slice xB (k + 1) yB)) (fun i _ e => by unfold At at e; subst e; exact .inl (Nat.le_refl _)))
  clear hm9 hA9
  generalize (v3.setCell ⟨O, 1, none⟩ (.slice xB (k + 1) yB)) = v4 at *
  try simp only [Act.put, nzA, nzB, nzC]
  refine heldL_done (by kernel_rfl) ?_ _
  have cX := cellOf hmA.out.boxO
  go_wp2_with (at_builtin; (refine wpList_app _ rfl (.tmp 65) (.tmp 67) 24 rfl (O + 1) 40 iL _ 1 24 Tryz.underlying24 hiL hL0 hL1 hL2 rfl (by omega) (.slice a2 k c2) k (LI.flatMap kL.cells) rfl (by have h := (hmA.out.stepNo ((Ext.refl No v4).alloc (.cells #[.slice s1 j t1] 40))).two.c.own; rw [hLI.out] at h; exact h) No (some ⟨v4.heap.size, 0, none⟩) 1 1 [.slice s1 j t1] rfl (Row.block (alloc_top rfl) rfl no_no (by omega)) (by simp [Value.oneCell']) (by omega) (by omega) (Nat.le_trans hmA.out.top (by simp)) ?_); (intro v9 w9 hown1 hg1 hv1); (have hmB := Lib.hid ((hmA.out.stepNo ((Ext.refl No v4).alloc (.cells #[.slice s1 j t1] 40))).appI (q := (L, .slice s1 j t1)) (hAA.out.extNo ((Ext.refl No v4).alloc (.cells #[.slice s1 j t1] 40))) (by rw [hLI.out]; exact hown1) hg1 hv1)); (obtain ⟨xI, yI, hs98⟩ := hmB.out.two.c.slice); (rw [List.length_append, hLI.out] at hs98); (subst hs98); (clear cX hown1 hg1 hv1); (have cX := cellOf hmB.out.boxO); (have fX := freeOf hmB.out.boxO))
  go_roundw
  case rel => exact ⟨k + 1, _, _, _, _, HKK.out, by omega, Lib.hid (hmB.out.putO 2 _), Lib.hid (sets_succ HOK.out hLB.out hlt rfl), Lib.hid (by rw [List.length_append, hLI.out]; rfl), Lib.hid (arcs_all hIN.out hLI.out HLM.out)⟩
  case measure => simp [intOf]; omega
 have hge : ¬ (k : Int) < (S.deps.length : Int) := by omega
 have hkn : k = S.deps.length := by omega
 subst hkn
 have cO := cellOf hm.out.boxO
 have cR := cellOf hm.out.boxR
 have fR := freeOf hm.out.boxR
 have hE2 : Ext (At (W.heap.size + 1)) wr (((wr.setCell ⟨W.heap.size + 1, 0, none⟩ (.int .i64 (S.w : Int))).setCell ⟨W.heap.size + 1, 1, none⟩ (.slice a1 S.deps.length c1)).setCell ⟨W.heap.size + 1, 2, none⟩ (.slice a2 S.deps.length c2)) := (((Ext.refl (At _) _).setAt _ _).setAt _ _).setAt _ _
 have hbF := (set_same (j := 2) (u := .slice a2 S.deps.length c2) (set_same (j := 1) (u := .slice a1 S.deps.length c1) (set_same (j := 0) (u := .int .i64 (S.w : Int)) hm.out.boxR))).trans rfl
 go_wp2_with fail
 generalize (((wr.setCell ⟨W.heap.size + 1, 0, none⟩ (.int .i64 (S.w : Int))).setCell ⟨W.heap.size + 1, 1, none⟩ (.slice a1 S.deps.length c1)).setCell ⟨W.heap.size + 1, 2, none⟩ (.slice a2 S.deps.length c2)) = WF at *
 have cF := cellOf hbF
 refine ret_ex rfl ?_
 simp [results, Tryz.results18, go_sem, cF]
 exact ⟨a1, a2, c1, c2, rfl, Lib.hid (hm.out.web hE2 HOK.out (by rw [hLB.out, List.take_of_length_le (by rw [HOK.out.lb]; exact Nat.le_refl _)]) hLI.out hIN.out), hm.out.ext.trans2 hE2 (fun i hi e => by unfold At at e; omega)⟩

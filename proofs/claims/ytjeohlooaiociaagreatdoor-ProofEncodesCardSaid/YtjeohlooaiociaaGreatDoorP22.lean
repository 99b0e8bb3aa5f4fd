
import Derived.Test.YtjeohlooaiociaaGreatDoorP21
set_option linter.unusedVariables false
set_option linter.unusedSimpArgs false
namespace Go.Proofs.YtjeohlooaiociaaGreatDoor
open Go Go.RowKit
theorem infoS22 : (Tryz.prog.info? 50).map (fun i => (i.zero, i.size, i.bytes)) = some (some (.agg #[.int .i64 0, .slice none 0 0]), 2, 32) := by kernel_rfl
theorem infoI22 : (Tryz.prog.info? 3).map (fun i => (i.zero, i.size, i.bytes)) = some (some (.int .i64 0), 1, 8) := by kernel_rfl
theorem infoD22 : (Tryz.prog.info? 22).map (fun i => (i.zero, i.size, i.bytes)) = some (some (.slice none 0 0), 1, 24) := by kernel_rfl
theorem int_one22 (l : List Int) : ∀ u ∈ l.map (Value.int .i64), u.oneCell' = true := fun u hu => by
 obtain ⟨y, _, rfl⟩ := List.mem_map.1 hu; rfl
theorem kS_one {M : Nat → Prop} {w : World} {L : LS} (h : ∀ p ∈ L, WordsAt M w p.2 p.1.words) : ∀ u ∈ L.flatMap kS.cells, u.oneCell' = true := fun u hu => by
 obtain ⟨p, hp, hu⟩ := List.mem_flatMap.1 hu
 obtain ⟨a, c, e⟩ := (h p hp).slice
 have hu2 : u ∈ [Value.int .i64 p.1.width, p.2] := hu
 simp only [List.mem_cons, List.not_mem_nil, or_false] at hu2
 rcases hu2 with rfl | rfl
 ·rfl
 rw [e]; rfl
theorem set2p (w : World) (C : Nat) (a b : Value) : Ext (At C) w ((w.setCell ⟨C, 0, none⟩ a).setCell ⟨C, 1, none⟩ b) := ((Ext.refl (At C) w).setAt 0 a).setAt 1 b
theorem fin2p {w : World} {C : Nat} {T : TypeId} {x0 x1 : Value} (h : w.heap[C]? = some (.cells #[x0, x1] T (0, 0))) (a b : Value) : ((w.setCell ⟨C, 0, none⟩ a).setCell ⟨C, 1, none⟩ b).heap[C]? = some (.cells #[a, b] T (0, 0)) :=
 (set_same (j := 1) (set_same (j := 0) h)).trans rfl
set_option maxRecDepth 100000 in
set_option maxHeartbeats 16000000 in
theorem spoilP_any (tb u : Nat) (vv vr : Value) (Lv : LS) (R : LD) (W : World) (hv : LAt kS (At tb) W vv Lv) (hr : LAt kD (At tb) W vr R) (hf : ∀ p ∈ Lv, FitS (u : Int) p.1) (hu : u ≤ 255) (hl : R.length = Lv.length) (h1 : 1 ≤ Lv.length) (h2 : Lv.length ≤ 256) (hc : ∀ p ∈ R, p.1.length ≤ 256) (ht : TapeOk W tb) :
  Calls Tryz.prog 12 #[.pointer (some ⟨tb, 0, none⟩), .agg #[vv, vr]] W (GenPrf tb 256 W) := by
 obtain ⟨iS, hiS, hS0, hS1, hS2⟩ := info_parts infoS22
 obtain ⟨iI, hiI, hI0, hI1, hI2⟩ := info_parts infoI22
 obtain ⟨iD, hiD, hD0, hD1, hD2⟩ := info_parts infoD22
 have HV := Lib.hid hv
 have HR := Lib.hid hr
 have HFT := Lib.hid hf
 have HCL := Lib.hid hc
 have HTP := Lib.hid ht
 have hlt0 := ht.lt
 have HONE := Lib.hid (kS_one (fun p hp => hv.ok p hp))
 obtain ⟨av, cv, rfl⟩ := hv.slice
 obtain ⟨ar, cr, rfl⟩ := hr.slice
 obtain ⟨nL, hnL⟩ : ∃ nL, nL = Lv.length := ⟨_, rfl⟩
 rw [hl] at HR ⊢
 rw [← hnL] at HV HR h1 h2 ⊢
 have HNL := Lib.hid hnL
 have HNR := Lib.hid (hl.trans hnL.symm)
 clear hv hr hf hc ht hl hnL
 go_enter Tryz.func12, Tryz.ntmps12
 go_upto_region 1 with (fail)
 have hx0 : Ext No W ((W.alloc (.cells #[.slice av nL cv, .slice ar nL cr] 29)).alloc (.cells #[.slice none 0 0, .slice none 0 0] 29)) := ((Ext.refl _ _).alloc _).alloc _
 have HA := Lib.hid (show ((W.alloc (.cells #[.slice av nL cv, .slice ar nL cr] 29)).alloc (.cells #[.slice none 0 0, .slice none 0 0] 29)).heap[W.heap.size]? = some (.cells #[.slice av nL cv, .slice ar nL cr] 29 (0, 0)) from alloc_under (alloc_top rfl))
 have HC := Lib.hid (show ((W.alloc (.cells #[.slice av nL cv, .slice ar nL cr] 29)).alloc (.cells #[.slice none 0 0, .slice none 0 0] 29)).heap[W.heap.size + 1]? = some (.cells #[.slice none 0 0, .slice none 0 0] 29 (0, 0)) from alloc_top (by simp))
 have hsz0 : ((W.alloc (.cells #[.slice av nL cv, .slice ar nL cr] 29)).alloc (.cells #[.slice none 0 0, .slice none 0 0] 29)).heap.size = W.heap.size + 2 := by simp
 have HSZ := Lib.hid hsz0
 clear hsz0
 generalize ((W.alloc (.cells #[.slice av nL cv, .slice ar nL cr] 29)).alloc (.cells #[.slice none 0 0, .slice none 0 0] 29)) = V at *
 have cA := cellOf HA.out
 have hWs := lt_of_block HA.out
 have hrowv := HV.out.row
 rw [← HNL.out] at hrowv
 have HROW := Lib.hid (hrowv.extNo hx0)
 have HX := Lib.hid hx0
 clear hrowv hx0
 go_wp2_with (at_builtin; (refine wpList_app _ rfl (.tmp 9) (.tmp 11) 25 rfl V.heap.size 50 iS _ 2 32 Tryz.underlying25 hiS hS0 hS1 hS2 rfl (by omega) (.slice (some ⟨V.heap.size, 0, none⟩) 0 0) 0 [] rfl (World.ownsRow_made V #[] 0 (Nat.le_refl _) (Nat.zero_le _) rfl) (At tb) av nL cv (Lv.flatMap kS.cells) rfl (HROW.out.extNo ((Ext.refl No _).alloc (.cells #[] 50))) HONE.out (by omega) (by omega) (by simp) ?_); (intro v1 w1 hown1 hg1 hv1); (clear cA); (simp only [Nat.zero_add, List.nil_append] at hown1); (obtain ⟨aV, cV, hs1⟩ := (Row.ofOwns (M := No) hown1 (fun _ _ x => x)).slice); (subst hs1); (have HO1 := Lib.hid hown1); (have HG1 := Lib.hid hg1); (clear hown1 hg1 hv1))
 have hsz0 := HSZ.out
 clear HSZ
 have hE1 : Ext (fun k => Value.ownBlock (.slice (some ⟨V.heap.size, 0, none⟩) 0 0) = some k) V w1 := ((Ext.refl _ V).alloc (.cells #[] 50)).grown HG1.out (fun k hk _ => hk)
 have hx1 : Ext No W w1 := HX.out.trans2 hE1 (fun i hi e => by simp only [Value.ownBlock, Option.some.injEq] at e; omega)
 have hVw : V.heap.size ≤ w1.heap.size := hE1.size
 have hxQ : Ext No w1 (w1.alloc (.cells #[.slice aV nL cV, .slice none 0 0] 29)) := (Ext.refl No w1).alloc _
 have hoV := World.ownsRow.lt HO1.out
 have hm0 : SqY tb W (w1.alloc (.cells #[.slice aV nL cV, .slice none 0 0] 29)) w1.heap.size #[.slice av nL cv, .slice ar nL cr] (.slice aV nL cV) (.slice none 0 0) Lv [] := by
  refine ⟨(hx1.transNo hxQ).ofNo, HTP.out.ext (hx1.transNo hxQ), hxQ.blk (hE1.blk HA.out (fun e => by simp only [Value.ownBlock, Option.some.injEq] at e; omega)) no_no, hxQ.blk (hE1.blk HC.out (fun e => by simp only [Value.ownBlock, Option.some.injEq] at e; omega)) no_no, alloc_top rfl, ?_, RwM.nil _ _, by omega, hlt0, fun k hk => ⟨fun e => by have := (hoV k hk).2; omega, fun e => by
   rcases e with e | ⟨p, hp, _⟩
   ·cases e
   ·cases hp⟩, fun e => by
   rcases e with e | ⟨p, hp, _⟩
   ·cases e
   cases hp⟩
  have h5 := row_keep HO1.out hxQ (fun _ _ x => x)
  exact own_spoil HV.out (hx1.transNo hxQ) (by rw [← HNL.out]; exact h5) (by omega) (fun k hk => (hoV k hk).1)
 have HM0 := Lib.hid hm0
 clear hm0 hoV hE1 hx1 hVw hxQ HX HROW HA HC HG1 HO1 hsz0
 go_wp2_with fail
 generalize (w1.alloc (.cells #[.slice aV nL cV, .slice none 0 0] 29)) = wQ at *
 generalize w1.heap.size = Q at *
 go_loopw [6] (fun i wr => ∃ (k : Nat) (v : Value) (R' : LD), k ≤ nL ∧ i = .int .i64 k ∧ Hid (R'.length = k ∧ ∀ p ∈ R', p.1.length ≤ 256) ∧ Hid (SqY tb W wr Q #[.slice av nL cv, .slice ar nL cr] (.slice aV nL cV) v Lv R')) (fun i _ => nL - (intOf i).toNat)
 case atStart => exact ⟨0, _, [], Nat.zero_le _, rfl, Lib.hid ⟨rfl, fun _ h => by cases h⟩, HM0⟩
 clear HM0
 obtain ⟨k, v, R', hk, rfl, hRl, hm⟩ := hrel
 rename World => wr
 obtain ⟨aR, cR, rfl⟩ := hm.out.r.slice
 rw [hRl.out.1] at hm
 by_cases hlt : k < nL
 ·have hlz : (k : Int) < (nL : Int) := by omega
  have HKK : Hid (Value.int .i64 ((k : Int) + 1) = .int .i64 ((k + 1 : Nat) : Int)) := Lib.hid (by rw [show ((k + 1 : Nat) : Int) = (k : Int) + 1 from by omega])
  have hkR : k < R.length := by rw [HNR.out]; exact hlt
  obtain ⟨b0, o0, k0, hve, hb0, hn0, hcell⟩ := (HR.out.ext hm.out.ext (fun _ _ e => e)).atD hkR
  rw [HNR.out] at hve
  simp only [Value.slice.injEq] at hve
  obtain ⟨rfl, -, rfl⟩ := hve
  have q0 := hcell k hkR
  have hmE : Ints (At tb) W .i64 R[k].2 R[k].1 := HR.out.ok _ (List.getElem_mem hkR)
  have hdl : R[k].1.length ≤ 256 := HCL.out _ (List.getElem_mem hkR)
  obtain ⟨d, hd⟩ : ∃ d, d = R[k] := ⟨_, rfl⟩
  rw [← hd] at q0 hmE hdl
  obtain ⟨ae, ce, hde⟩ := Row.slice hmE
  rw [hde] at q0 hmE
  have HQ0 := Lib.hid q0
  have HDI := Lib.hid (show Ints (At tb) wr .i64 (.slice ae d.1.length ce) d.1 from Row.ext hmE hm.out.ext (fun _ _ e => e))
  have HB0 := Lib.hid (And.intro hb0 hn0)
  have HPb := Lib.hid hm.out.boxP
  have HQb := Lib.hid hm.out.boxQ
  have cP := cellOf HPb.out
  go_upto_region 5 with (fail)
  clear q0 hmE hcell hd hde cP hb0 hn0
  have HWl := Lib.hid (show W.heap.size + 1 < wr.heap.size from by have := lt_of_block hm.out.boxQ; have := hm.out.low; omega)
  refine wp_region_heldL [12] (fun w' => Ext (fun b => Value.ownBlock (.slice aR k cR) = some b) wr w') (by kernel_rfl) ?_ (fun hHeld => ?_)
  ·exact (Ext.refl No _).drew.ofNo
  have HE := Lib.hid (show Ext No wr wr.drew from (Ext.refl No _).drew)
  generalize wr.drew = v0 at *
  refine hHs [0] (hHl hHeld ?_)
  clear hHeld
  refine hFn ?_ (fun w => ?_) ?_
  rotate_left
  ·go_simp; (try with_reducible rfl)
  simp only [Act.put, nzA, nzB, nzC]
  refine hHe fun hHeld => ?_
  refine hHs [1] (hHl hHeld ?_)
  clear hHeld
  refine hHn ?_ (fun w hSw => ?_) ?_
  rotate_left
  ·(have q0 := cellOf (hSw.blk HQb.out (fun e => hm.out.rq (.inl e)))); go_simp; (try with_reducible rfl)
  simp only [Act.put, nzA, nzB, nzC]
  refine hHe fun hHeld => ?_
  refine hHs [3] (hHl hHeld ?_)
  clear hHeld
  refine hFn ?_ (fun w => ?_) ?_
  rotate_left
  ·go_simp; (try with_reducible rfl)
  simp only [Act.put, nzA, nzB, nzC]
  refine hHe fun hHeld => ?_
  refine hHs [4] (hHl hHeld ?_)
  clear hHeld
  refine hHn ?_ (fun w hSw => ?_) ?_
  rotate_left
  ·(have q0 := cellOf (hSw.blk HPb.out (fun e => by have := hm.out.lo.2 _ (.inl e); omega))); go_simp; (try with_reducible rfl)
  simp only [Act.put, nzA, nzB, nzC]
  refine hHe fun hHeld => ?_
  refine hHs [5, 6] (hHl hHeld ?_)
  clear hHeld
  iterate 2
   refine hFn ?_ (fun w => ?_) ?_
   rotate_left
   ·go_simp; (try with_reducible rfl)
   simp only [Act.put, nzA, nzB, nzC]
  refine hHe fun hHeld => ?_
  refine hHs [7] (hHl hHeld ?_)
  clear hHeld
  refine hHn ?_ (fun w hSw => ?_) ?_
  rotate_left
  ·(have q0 := (hSw.cell (p := ⟨b0, o0 + k, none⟩) HB0.out.1 (fun (e : Value.ownBlock (.slice aR k cR) = some b0) => by have h5 := HR.out.atD (i := k) hkR; obtain ⟨b5, o5, c5, e5, h6, _⟩ := h5; simp only [Value.slice.injEq, Option.some.injEq, Addr.mk.injEq] at e5; have := hm.out.lo.2 _ (.inl e); omega)).trans HQ0.out); go_simp; (try with_reducible rfl)
  simp only [Act.put, nzA, nzB, nzC]
  refine hHe fun hHeld => ?_
  refine heldL_next1 (i := 2) (by kernel_rfl) (NextL.mk rfl rfl (fun K hK => ?_))
  go_simp
  refine hK.out _ _ ?_ ?_
  ·intro _; exact (show Ext (fun b => Value.ownBlock (.slice aR k cR) = some b) wr _ from (HE.out.alloc _).ofNo)
  clear hK K hHeld
  intro hHeld
  have hEV : wr.heap.size ≤ v0.heap.size := HE.out.size
  have hO := Lib.hid (show (v0.alloc (.cells #[] 3)).ownsRow v0.heap.size 3 1 (.slice (some ⟨v0.heap.size, 0, none⟩) 0 0) 0 [] from World.ownsRow_made v0 #[] 0 (Nat.le_refl _) (Nat.zero_le _) rfl)
  replace HE := Lib.hid (HE.out.alloc (.cells #[] 3))
  generalize (v0.alloc (.cells #[] 3)) = v1 at *
  generalize v0.heap.size = EB at *
  try simp only [Act.put, nzA, nzB, nzC]
  refine heldL_next1 (i := 8) (by kernel_rfl) (NextL.mk rfl rfl (fun K hK => ?_))
  ((have htB : EB ≤ v1.heap.size := by have := (World.ownsRow.lt hO.out EB rfl).2; omega); (refine wp_app _ (.tmp 23) (.tmp 28) 22 rfl EB 3 iI _ 1 8 Tryz.underlying22 hiI hI0 hI1 hI2 rfl (by omega) (.slice (some ⟨EB, 0, none⟩) 0 0) 0 [] rfl hO.out (At tb) ae d.1.length ce (d.1.map (.int .i64)) rfl (Row.extNo HDI.out HE.out) (int_one22 _) (by omega) (by omega) htB ?_); (intro v8 w8 hown1 hg1 hv1))
  refine hK.out _ _ ?_ ?_
  ·intro _; exact (show Ext (fun b => Value.ownBlock (.slice aR k cR) = some b) wr _ from (HE.out.trans2 ((Ext.refl _ _).grown hg1 (fun bq hk _ => hk)) (fun i hi e => by simp only [Value.ownBlock, Option.some.injEq] at e; omega)).ofNo)
  clear hK K hHeld
  intro hHeld
  have hE8 : Ext (fun bq => Value.ownBlock (.slice (some ⟨EB, 0, none⟩) 0 0) = some bq) v1 w8 := (Ext.refl _ _).grown hg1 (fun bq hk _ => hk)
  replace HE := Lib.hid (HE.out.trans2 hE8 (fun i hi e => by simp only [Value.ownBlock, Option.some.injEq] at e; omega))
  simp only [Nat.zero_add, List.nil_append] at hown1
  replace hO := Lib.hid hown1
  obtain ⟨aO, cO, hs8⟩ := (Row.ofOwns (M := No) hown1 (fun _ _ x => x)).slice
  subst hs8
  clear hE8 hown1 hg1 hv1 htB
  generalize w8 = v2 at *
  try simp only [Act.put, nzA, nzB, nzC]
  refine heldL_next1 (i := 9) (by kernel_rfl) (NextL.mk rfl rfl (fun K hK => ?_))
  go_simp
  refine hK.out _ _ ?_ ?_
  ·intro _; exact (show Ext (fun b => Value.ownBlock (.slice aR k cR) = some b) wr _ from (HE.out.alloc _).ofNo)
  clear hK K hHeld
  intro hHeld
  try simp only [Act.put, nzA, nzB, nzC]
  refine heldL_next1 (i := 10) (by kernel_rfl) (NextL.mk rfl rfl (fun K hK => ?_))
  ((have hmA := (hm.out.stepNo HE.out).stepNo ((Ext.refl No v2).alloc (.cells #[.slice aO d.1.length cO] 22))); (have hoA := hmA.r.own); (rw [hRl.out.1] at hoA); (refine wp_app _ (.tmp 22) (.tmp 30) 23 rfl (W.heap.size + 2) 22 iD _ 1 24 Tryz.underlying23 hiD hD0 hD1 hD2 rfl (by omega) (.slice aR k cR) k (R'.flatMap kD.cells) rfl hoA No (some ⟨v2.heap.size, 0, none⟩) 1 1 [.slice aO d.1.length cO] rfl (Row.block (alloc_top rfl) rfl no_no (by omega)) (by simp [Value.oneCell']) (by omega) (by omega) (by have h5 := HWl.out; have h6 := HE.out.size; simp; omega) ?_); (intro v9 w9 hown2 hg2 hv2); (clear hmA hoA))
  refine hK.out _ _ ?_ ?_
  ·intro _; exact (show Ext (fun b => Value.ownBlock (.slice aR k cR) = some b) wr _ from (HE.out.ofNo).trans (((Ext.refl _ _).alloc (.cells #[.slice aO d.1.length cO] 22)).grown hg2 (fun bq hk _ => hk)))
  clear hK K hHeld
  intro hHeld
  have hadd := hm.out.add (p := (d.1, .slice aO d.1.length cO)) HE.out (row_base hO.out hEV) (fun k hk => Nat.le_trans hEV (World.ownsRow.lt hO.out k hk).1) (by rw [hRl.out.1]; exact hown2) hg2 hv2
  obtain ⟨aS, cS, hs9⟩ := (Row.ofOwns (M := No) hown2 (fun _ _ x => x)).slice
  subst hs9
  have hADD := Lib.hid hadd.1
  have hQ9 := Lib.hid hadd.2
  clear hadd hown2 hg2 hv2
  try simp only [Act.put, nzA, nzB, nzC]
  refine hHs [11] (hHl hHeld ?_)
  clear hHeld
  refine hFn ?_ (fun w => ?_) ?_
  rotate_left
  ·go_simp; (try with_reducible rfl)
  simp only [Act.put, nzA, nzB, nzC]
  refine hHe fun hHeld => ?_
  refine heldL_next1 (i := 12) (by kernel_rfl) (NextL.mk rfl rfl (fun K hK => ?_))
  ((have cS9 := cellOf hQ9.out); (have fS9 := freeOf hQ9.out); go_simp; (clear cS9 fS9))
  refine hK.out _ _ ?_ ?_
  ·exact fun h => absurd h (by decide)
  clear hK K hHeld
  intro hHeld
  try simp only [Act.put, nzA, nzB, nzC]
  refine heldL_done (by kernel_rfl) ?_ _
  go_wp2_with fail
  go_roundw
  case rel => exact ⟨k + 1, _, _, by omega, HKK.out, Lib.hid ⟨by rw [List.length_append, hRl.out.1]; rfl, fun p hp => by
   rcases List.mem_append.1 hp with hp | hp
   ·exact hRl.out.2 p hp
   rw [List.mem_singleton.1 hp]; exact hdl⟩, hADD⟩
  case measure => simp [intOf]; omega
 have hge : ¬ (k : Int) < (nL : Int) := by omega
 obtain rfl : k = nL := by omega
 obtain ⟨gV, c0, e0, hgV, -⟩ := hm.out.v.shape (by rw [← HNL.out]; omega)
 simp only [Value.slice.injEq] at e0
 obtain ⟨rfl, -, rfl⟩ := e0
 obtain ⟨gR, c0, e0, hgR, -⟩ := hm.out.r.shape (by rw [hRl.out.1]; omega)
 simp only [Value.slice.injEq] at e0
 obtain ⟨rfl, -, rfl⟩ := e0
 have cP := cellOf hm.out.boxP
 have cQ := cellOf hm.out.boxQ
 go_wp2_with fail
 clear cP cQ
 refine (next_lt tb (k : Int) (by omega) (by omega) _ hm.out.tape).mono ?_
 rintro e1 y1 ⟨n, rfl, hr, ht1, hx1, -⟩
 have hn : n < k := by omega
 have hnz : (n : Int) < (k : Int) := by omega
 have hm1 := Lib.hid (hm.out.step hx1 ht1)
 clear hm hx1 ht1 hr
 go_wp2_with fail
 refine (next_lt tb 6 (by decide) (by decide) _ hm1.out.tape).mono ?_
 rintro e2 w2 ⟨q, rfl, hq, ht2, hx2, -⟩
 have hm2 := Lib.hid (hm1.out.step hx2 ht2)
 clear hm1 hx2 ht2
 have hnR : n < R'.length := by rw [hRl.out.1]; exact hn
 have hnV : n < Lv.length := by rw [← HNL.out]; exact hn
 have HQb := Lib.hid hm2.out.boxQ
 have HNQ : Hid (¬ At tb Q) := Lib.hid (by unfold At; have := hm2.out.low; have := hm2.out.tb1; omega)
 have HNV : Hid (¬ At tb gV) := Lib.hid (by unfold At; have := hm2.out.tb1; omega)
 have HNRK : Hid (¬ At tb gR) := Lib.hid (by unfold At; have := hm2.out.tb1; omega)
 have HNE5 : Hid (gR ≠ gV) := Lib.hid (fun e => (hm2.out.vq gV rfl).2 (.inl (congrArg some e)))
 have hq6 : q = 0 ∨ q = 1 ∨ q = 2 ∨ q = 3 ∨ q = 4 ∨ q = 5 := by omega
 clear hq
 -- the value at n
 have hfit : FitS (u : Int) Lv[n].1 := HFT.out _ (List.getElem_mem hnV)
 have hwA : WordsAt (fun b => HiB W tb b ∨ Value.ownBlock (.slice (some ⟨gV, 0, none⟩) k cV) = some b) w2 Lv[n].2 Lv[n].1.words := hm2.out.v.ok _ (List.getElem_mem hnV)
 have hw0 : WordsAt No w2 Lv[n].2 Lv[n].1.words := hwA.mono (fun _ _ x => x.elim)
 have hsm := fitS_small hfit hw0.lt
 have hvn := hm2.out.v
 have c0 : w2.cell? ⟨gV, n * 2, none⟩ = some (.int .i64 Lv[n].1.width) := by
  rw [HNL.out] at hvn
  exact hvn.cellAt (i := n) (j := 0) hnV (by decide) rfl
 have c1 : w2.cell? ⟨gV, n * 2 + 1, none⟩ = some Lv[n].2 := by
  rw [HNL.out] at hvn
  exact hvn.cellAt (i := n) (j := 1) hnV (by decide) rfl
 obtain ⟨f1, f2, he2⟩ := hw0.slice
 have hwT : WordsAt (At tb) w2 Lv[n].2 Lv[n].1.words := hwA.mono (fun i _ e => .inl (.inl e))
 rw [he2] at c1 hw0 hwT
 rw [hfit.2] at c0
 obtain ⟨s0, hs0⟩ : ∃ s0, s0 = Lv[n].1 := ⟨_, rfl⟩
 rw [← hs0] at c1 hw0 hwT hsm hfit
 have HC0 := Lib.hid c0
 have HC1 := Lib.hid c1
 have HW0 := Lib.hid hw0
 have HWT := Lib.hid hwT
 have HFN := Lib.hid hfit
 -- the row at n
 have hrn := hm2.out.r
 have d0 : w2.cell? ⟨gR, n, none⟩ = some R'[n].2 := by
  have h := hm2.out.r
  rw [← hRl.out.1] at h
  exact h.cell hnR
 have hown := hm2.out.r.row _ (List.getElem_mem hnR)
 have hdl : R'[n].1.length ≤ 256 := hRl.out.2 _ (List.getElem_mem hnR)
 obtain ⟨d, hd⟩ : ∃ d, d = R'[n] := ⟨_, rfl⟩
 rw [← hd] at d0 hown hdl
 obtain ⟨l, dv⟩ := d
 simp only at d0 hown hdl
 obtain ⟨aN, cN, rfl⟩ := (Row.ofOwns (M := No) hown (fun _ _ x => x)).slice
 have HD0 := Lib.hid d0
 have HDN := Lib.hid hd.symm
 have HOW := Lib.hid hown
 have hlu : Lv.length ≤ 256 := by rw [← HNL.out]; omega
 have hru : R'.length ≤ 256 := by rw [hRl.out.1]; omega
 clear c0 c1 hw0 hwT hfit d0 hown hd hrn hvn hwA he2 hs0
 rcases hq6 with rfl | rfl | rfl | rfl | rfl | rfl
 ·go_upto_region 10 with (fail)
  refine wp_region_heldL [12] (fun w' => Ext (At tb) w2 w' ∧ TapeOk w' tb) (by kernel_rfl) ?_ (fun hHeld => ?_)
  ·exact ⟨(Ext.refl No _).drew.ofNo, hm2.out.tape.ext (show Ext No w2 w2.drew from (Ext.refl No _).drew)⟩
  have HE := Lib.hid (show Ext (At tb) w2 w2.drew ∧ TapeOk w2.drew tb from ⟨(Ext.refl No _).drew.ofNo, hm2.out.tape.ext (show Ext No w2 w2.drew from (Ext.refl No _).drew)⟩)
  generalize w2.drew = v0 at *
  refine hHs [0] (hHl hHeld ?_)
  clear hHeld
  refine hFn ?_ (fun w => ?_) ?_
  rotate_left
  ·go_simp; (try with_reducible rfl)
  simp only [Act.put, nzA, nzB, nzC]
  refine hHe fun hHeld => ?_
  refine hHs [1] (hHl hHeld ?_)
  clear hHeld
  refine hHn ?_ (fun w hSw => ?_) ?_
  rotate_left
  ·(have q0 := cellOf (hSw.1.blk HQb.out HNQ.out)); go_simp; (try with_reducible rfl)
  simp only [Act.put, nzA, nzB, nzC]
  refine hHe fun hHeld => ?_
  refine hHs [2, 3, 4] (hHl hHeld ?_)
  clear hHeld
  iterate 3
   refine hFn ?_ (fun w => ?_) ?_
   rotate_left
   ·go_simp; (try with_reducible rfl)
   simp only [Act.put, nzA, nzB, nzC]
  refine hHe fun hHeld => ?_
  refine hHs [5] (hHl hHeld ?_)
  clear hHeld
  refine hHn ?_ (fun w hSw => ?_) ?_
  rotate_left
  ·(have q0 := cellOf (hSw.1.blk HQb.out HNQ.out)); go_simp; (try with_reducible rfl)
  simp only [Act.put, nzA, nzB, nzC]
  refine hHe fun hHeld => ?_
  refine hHs [6, 7, 8] (hHl hHeld ?_)
  clear hHeld
  iterate 3
   refine hFn ?_ (fun w => ?_) ?_
   rotate_left
   ·go_simp; (try with_reducible rfl)
   simp only [Act.put, nzA, nzB, nzC]
  refine hHe fun hHeld => ?_
  refine hHs [9] (hHl hHeld ?_)
  clear hHeld
  refine hHn ?_ (fun w hSw => ?_) ?_
  rotate_left
  ·(have q0 := hSw.1.keepM HC0.out HNV.out); (have q1 := hSw.1.keepM HC1.out HNV.out); go_simp; (try with_reducible rfl)
  simp only [Act.put, nzA, nzB, nzC]
  refine hHe fun hHeld => ?_
  refine heldL_next1 (i := 10) (by kernel_rfl) (NextL.mk rfl rfl (fun K hK => ?_))
  (go_simp; (go_at_call 33); (refine (gset_any tb u _ (by omega) HE.out.2).mono ?_); (rintro e4 v1 ⟨m4, g4, hm4, rfl, hb4, hlo4, htA, hyA⟩); (have hsz4 := HE.out.1.size); go_simp)
  refine hK.out _ _ ?_ ?_
  ·intro _; exact ⟨HE.out.1.trans hyA, htA⟩
  clear hK K hHeld
  intro hHeld
  replace HE := Lib.hid (show Ext (At tb) w2 v1 ∧ TapeOk v1 tb from ⟨HE.out.1.trans hyA, htA⟩)
  have hs4 := Lib.hid (hb4.out.set (M := fun b => b = tb ∨ b = W.heap.size + 1 ∨ b = gV ∨ RwIn (.slice (some ⟨gR, 0, none⟩) k cR) R' b) (by omega) hm4 (fun e => by have h5 := lt_of_block hm2.out.boxC; have h6 := (hm2.out.v.lt gV rfl).2; have h8 := hm2.out.tb1; rcases e with e | e | e | e; omega; omega; omega; have h7 := (hm2.out.r.lt g4 e).2; omega))
  clear hb4
  clear hyA htA
  try simp only [Act.put, nzA, nzB, nzC]
  refine hHs [11] (hHl hHeld ?_)
  clear hHeld
  refine hFn ?_ (fun w => ?_) ?_
  rotate_left
  ·go_simp; (try with_reducible rfl)
  simp only [Act.put, nzA, nzB, nzC]
  refine hHe fun hHeld => ?_
  refine heldL_next1 (i := 12) (by kernel_rfl) (NextL.mk rfl rfl (fun K hK => ?_))
  ((have hm5 := hm2.out.step HE.out.1 HE.out.2); (have hso5 : SetsOwn (HiB W tb) v1 (W.heap.size + 2) (.slice (some ⟨gV, 0, none⟩) k cV) Lv := ⟨hm5.v.own, hm5.v.ok⟩); (obtain ⟨g', hg', -, -, -, hcell, hfro⟩ := hso5.ownAt (k := n) hnV); (simp only [Option.some.injEq, Addr.mk.injEq, and_true] at hg'); (subst hg'); (obtain ⟨q0, q1⟩ := hcell n hnV); (have hput := Lib.hid (SqY.putV (p := (setN u m4, .slice (some ⟨g4, 0, none⟩) (nw u) (nw u))) (i := n) HNL.out hm5 hnV hs4.out.words)); go_simp; (clear q0 q1 hcell hfro hso5 hm5))
  refine hK.out _ _ ?_ ?_
  ·exact fun h => absurd h (by decide)
  clear hK K hHeld
  intro hHeld
  try simp only [Act.put, nzA, nzB, nzC]
  refine heldL_done (by kernel_rfl) ?_ _
  go_upto_region 23 with (fail)
  have hme := Lib.hid (show SqE tb W ((v1.setCell ⟨gV, n * 2, none⟩ (.int .i64 (u : Int))).setCell ⟨gV, n * 2 + 1, none⟩ (.slice (some ⟨g4, 0, none⟩) (nw u) (nw u))) Q (.slice (some ⟨gV, 0, none⟩) k cV) (.slice (some ⟨gR, 0, none⟩) k cR) _ R' from hput.out.toE)
  generalize ((v1.setCell ⟨gV, n * 2, none⟩ (.int .i64 (u : Int))).setCell ⟨gV, n * 2 + 1, none⟩ (.slice (some ⟨g4, 0, none⟩) (nw u) (nw u))) = w3 at *
  have cQ := cellOf hme.out.boxQ
  have cC := cellOf hme.out.boxC
  have fC := freeOf hme.out.boxC
  have hE4 := set2p w3 (W.heap.size + 1) (.slice (some ⟨gV, 0, none⟩) k cV) (.slice (some ⟨gR, 0, none⟩) k cR)
  have hbF := fin2p hme.out.boxC (.slice (some ⟨gV, 0, none⟩) k cV) (.slice (some ⟨gR, 0, none⟩) k cR)
  go_wp2_with fail
  generalize ((w3.setCell ⟨W.heap.size + 1, 0, none⟩ (.slice (some ⟨gV, 0, none⟩) k cV)).setCell ⟨W.heap.size + 1, 1, none⟩ (.slice (some ⟨gR, 0, none⟩) k cR)) = WF at *
  have cF := cellOf hbF
  refine ret_ex rfl ?_
  simp [results, Tryz.results12, go_sem, cF]
  exact hme.out.fin (by rw [List.length_set]; exact hlu) (hru) hE4
 ·have cQ := cellOf HQb.out
  have d0 := HD0.out
  by_cases hl0 : 0 < l.length
  ·have hl0z : (0 : Int) < (l.length : Int) := by omega
   obtain ⟨gN, c0, e0, hgN, -⟩ := own_shape20 HOW.out (by omega)
   simp only [Value.slice.injEq] at e0
   obtain ⟨rfl, -, rfl⟩ := e0
   go_upto_region 13 with (fail)
   clear cQ d0
   refine wp_region_heldL [17] (fun w' => Ext (At tb) w2 w' ∧ TapeOk w' tb) (by kernel_rfl) ?_ (fun hHeld => ?_)
   ·exact ⟨(Ext.refl No _).drew.ofNo, hm2.out.tape.ext (show Ext No w2 w2.drew from (Ext.refl No _).drew)⟩
   have HE := Lib.hid (show Ext (At tb) w2 w2.drew ∧ TapeOk w2.drew tb from ⟨(Ext.refl No _).drew.ofNo, hm2.out.tape.ext (show Ext No w2 w2.drew from (Ext.refl No _).drew)⟩)
   generalize w2.drew = v0 at *
   refine hHs [0] (hHl hHeld ?_)
   clear hHeld
   refine hFn ?_ (fun w => ?_) ?_
   rotate_left
   ·go_simp; (try with_reducible rfl)
   simp only [Act.put, nzA, nzB, nzC]
   refine hHe fun hHeld => ?_
   refine hHs [1] (hHl hHeld ?_)
   clear hHeld
   refine hHn ?_ (fun w hSw => ?_) ?_
   rotate_left
   ·(have q0 := cellOf (hSw.1.blk HQb.out HNQ.out)); go_simp; (try with_reducible rfl)
   simp only [Act.put, nzA, nzB, nzC]
   refine hHe fun hHeld => ?_
   refine hHs [2, 3] (hHl hHeld ?_)
   clear hHeld
   iterate 2
    refine hFn ?_ (fun w => ?_) ?_
    rotate_left
    ·go_simp; (try with_reducible rfl)
    simp only [Act.put, nzA, nzB, nzC]
   refine hHe fun hHeld => ?_
   refine hHs [4] (hHl hHeld ?_)
   clear hHeld
   refine hHn ?_ (fun w hSw => ?_) ?_
   rotate_left
   ·(have q0 := hSw.1.keepM HD0.out HNRK.out); go_simp; (try with_reducible rfl)
   simp only [Act.put, nzA, nzB, nzC]
   refine hHe fun hHeld => ?_
   refine hHs [5, 6] (hHl hHeld ?_)
   clear hHeld
   iterate 2
    refine hFn ?_ (fun w => ?_) ?_
    rotate_left
    ·go_simp; (try with_reducible rfl)
    simp only [Act.put, nzA, nzB, nzC]
   refine hHe fun hHeld => ?_
   refine hHs [7] (hHl hHeld ?_)
   clear hHeld
   refine hHn ?_ (fun w hSw => ?_) ?_
   rotate_left
   ·(have q0 := cellOf (hSw.1.blk HQb.out HNQ.out)); go_simp; (try with_reducible rfl)
   simp only [Act.put, nzA, nzB, nzC]
   refine hHe fun hHeld => ?_
   refine hHs [8, 9] (hHl hHeld ?_)
   clear hHeld
   iterate 2
    refine hFn ?_ (fun w => ?_) ?_
    rotate_left
    ·go_simp; (try with_reducible rfl)
    simp only [Act.put, nzA, nzB, nzC]
   refine hHe fun hHeld => ?_
   refine hHs [10] (hHl hHeld ?_)
   clear hHeld
   refine hHn ?_ (fun w hSw => ?_) ?_
   rotate_left
   ·(have q0 := hSw.1.keepM HD0.out HNRK.out); go_simp; (try with_reducible rfl)
   simp only [Act.put, nzA, nzB, nzC]
   refine hHe fun hHeld => ?_
   refine hHs [11, 13] (hHl hHeld ?_)
   clear hHeld
   iterate 2
    refine hFn ?_ (fun w => ?_) ?_
    rotate_left
    ·go_simp; (try with_reducible rfl)
    simp only [Act.put, nzA, nzB, nzC]
   refine hHe fun hHeld => ?_
   refine heldL_next1 (i := 12) (by kernel_rfl) (NextL.mk rfl rfl (fun K hK => ?_))
   (go_simp; (go_at_call 23); (refine (next_lt tb (l.length : Int) (by omega) (by omega) _ HE.out.2).mono ?_); (rintro e5 v1 ⟨r1, rfl, hrr1, htA, hyA, -⟩); go_simp)
   refine hK.out _ _ ?_ ?_
   ·intro _; exact ⟨HE.out.1.trans hyA, htA⟩
   clear hK K hHeld
   intro hHeld
   replace HE := Lib.hid (show Ext (At tb) w2 v1 ∧ TapeOk v1 tb from ⟨HE.out.1.trans hyA, htA⟩)
   clear hyA htA
   have hr1l : r1 < l.length := by omega
   have hr1z : (r1 : Int) < (l.length : Int) := by omega
   try simp only [Act.put, nzA, nzB, nzC]
   refine heldL_next1 (i := 14) (by kernel_rfl) (NextL.mk rfl rfl (fun K hK => ?_))
   (go_simp; (go_at_call 23); (refine (next_lt tb 6 (by omega) (by omega) _ HE.out.2).mono ?_); (rintro e5 v2 ⟨r2, rfl, hrr2, htA, hyA, -⟩); go_simp)
   refine hK.out _ _ ?_ ?_
   ·intro _; exact ⟨HE.out.1.trans hyA, htA⟩
   clear hK K hHeld
   intro hHeld
   replace HE := Lib.hid (show Ext (At tb) w2 v2 ∧ TapeOk v2 tb from ⟨HE.out.1.trans hyA, htA⟩)
   clear hyA htA
   have hw5 : IntKind.i64.wrap ((r2 : Int) - 1) = (r2 : Int) - 1 := IntWalk.i64_in _ (by omega)
   try simp only [Act.put, nzA, nzB, nzC]
   refine hHs [15, 16] (hHl hHeld ?_)
   clear hHeld
   iterate 2
    refine hFn ?_ (fun w => ?_) ?_
    rotate_left
    ·go_simp; (try with_reducible rfl)
    simp only [Act.put, nzA, nzB, nzC]
   refine hHe fun hHeld => ?_
   refine heldL_next1 (i := 17) (by kernel_rfl) (NextL.mk rfl rfl (fun K hK => ?_))
   ((have hmv := Lib.hid (hm2.out.step HE.out.1 HE.out.2)); (have how2 := hmv.out.r.row _ (List.getElem_mem hnR)); (rw [HDN.out] at how2); (have k9 : v2.cell? ⟨gN, r1, none⟩ = some (.int .i64 l[r1]) := by rw [World.ownsRow.cellAt how2 r1 (by omega)]; simp [hr1l]); (have f9 : v2.frozen? ⟨gN, r1, none⟩ = false := World.ownsRow.frozenAt how2 r1); go_simp; (clear k9 f9))
   refine hK.out _ _ ?_ ?_
   ·exact fun h => absurd h (by decide)
   clear hK K hHeld
   intro hHeld
   try simp only [Act.put, nzA, nzB, nzC]
   refine heldL_done (by kernel_rfl) ?_ _
   have hme := Lib.hid (hmv.out.toN.putR (j := r1) hnR HDN.out ((r2 : Int) - 1))
   go_upto_region 23 with (fail)
   generalize (v2.setCell ⟨gN, r1, none⟩ (.int .i64 ((r2 : Int) - 1))) = w3 at *
   have cQ := cellOf hme.out.boxQ
   have cC := cellOf hme.out.boxC
   have fC := freeOf hme.out.boxC
   have hE4 := set2p w3 (W.heap.size + 1) (.slice (some ⟨gV, 0, none⟩) k cV) (.slice (some ⟨gR, 0, none⟩) k cR)
   have hbF := fin2p hme.out.boxC (.slice (some ⟨gV, 0, none⟩) k cV) (.slice (some ⟨gR, 0, none⟩) k cR)
   go_wp2_with fail
   generalize ((w3.setCell ⟨W.heap.size + 1, 0, none⟩ (.slice (some ⟨gV, 0, none⟩) k cV)).setCell ⟨W.heap.size + 1, 1, none⟩ (.slice (some ⟨gR, 0, none⟩) k cR)) = WF at *
   have cF := cellOf hbF
   refine ret_ex rfl ?_
   simp [results, Tryz.results12, go_sem, cF]
   exact hme.out.fin (hlu) (by rw [List.length_set]; exact hru) hE4
  have hl0z : ¬ (0 : Int) < (l.length : Int) := by omega
  go_upto_region 23 with (fail)
  clear cQ d0
  have hme := Lib.hid hm2.out.toN.toE
  have cQ := cellOf hme.out.boxQ
  have cC := cellOf hme.out.boxC
  have fC := freeOf hme.out.boxC
  have hE4 := set2p w2 (W.heap.size + 1) (.slice (some ⟨gV, 0, none⟩) k cV) (.slice (some ⟨gR, 0, none⟩) k cR)
  have hbF := fin2p hme.out.boxC (.slice (some ⟨gV, 0, none⟩) k cV) (.slice (some ⟨gR, 0, none⟩) k cR)
  go_wp2_with fail
  generalize ((w2.setCell ⟨W.heap.size + 1, 0, none⟩ (.slice (some ⟨gV, 0, none⟩) k cV)).setCell ⟨W.heap.size + 1, 1, none⟩ (.slice (some ⟨gR, 0, none⟩) k cR)) = WF at *
  have cF := cellOf hbF
  refine ret_ex rfl ?_
  simp [results, Tryz.results12, go_sem, cF]
  exact hme.out.fin (hlu) (hru) hE4
 ·have cQ := cellOf HQb.out
  have HMN := Lib.hid hm2.out.toN
  have HD0F := HD0
  have HNQR : Hid (¬ (fun b => At tb b ∨ Value.ownBlock (.slice aN l.length cN) = some b) Q) := Lib.hid (fun e => e.elim HNQ.out (fun e => HMN.out.rq (.inr ⟨_, List.getElem_mem hnR, by rw [HDN.out]; exact e⟩)))
  have HNRR : Hid (¬ (fun b => At tb b ∨ Value.ownBlock (.slice aN l.length cN) = some b) gR) := Lib.hid (fun e => e.elim HNRK.out (fun e => HMN.out.r.out _ (List.getElem_mem hnR) gR (by rw [HDN.out]; exact e) rfl))
  go_upto_region 15 with (fail)
  clear cQ
  refine wp_region_heldL [11] (fun w' => Ext (fun b => At tb b ∨ Value.ownBlock (.slice aN l.length cN) = some b) w2 w') (by kernel_rfl) ?_ (fun hHeld => ?_)
  ·exact (Ext.refl No _).drew.ofNo
  have HE := Lib.hid (show Ext (At tb) w2 w2.drew ∧ TapeOk w2.drew tb from ⟨(Ext.refl No _).drew.ofNo, hm2.out.tape.ext (show Ext No w2 w2.drew from (Ext.refl No _).drew)⟩)
  generalize w2.drew = v0 at *
  refine hHs [0] (hHl hHeld ?_)
  clear hHeld
  refine hFn ?_ (fun w => ?_) ?_
  rotate_left
  ·go_simp; (try with_reducible rfl)
  simp only [Act.put, nzA, nzB, nzC]
  refine hHe fun hHeld => ?_
  refine hHs [1] (hHl hHeld ?_)
  clear hHeld
  refine hHn ?_ (fun w hSw => ?_) ?_
  rotate_left
  ·(have q0 := cellOf (hSw.blk HQb.out HNQR.out)); go_simp; (try with_reducible rfl)
  simp only [Act.put, nzA, nzB, nzC]
  refine hHe fun hHeld => ?_
  refine hHs [2, 3] (hHl hHeld ?_)
  clear hHeld
  iterate 2
   refine hFn ?_ (fun w => ?_) ?_
   rotate_left
   ·go_simp; (try with_reducible rfl)
   simp only [Act.put, nzA, nzB, nzC]
  refine hHe fun hHeld => ?_
  refine hHs [4] (hHl hHeld ?_)
  clear hHeld
  refine hHn ?_ (fun w hSw => ?_) ?_
  rotate_left
  ·(have q0 := cellOf (hSw.blk HQb.out HNQR.out)); go_simp; (try with_reducible rfl)
  simp only [Act.put, nzA, nzB, nzC]
  refine hHe fun hHeld => ?_
  refine hHs [5, 6] (hHl hHeld ?_)
  clear hHeld
  iterate 2
   refine hFn ?_ (fun w => ?_) ?_
   rotate_left
   ·go_simp; (try with_reducible rfl)
   simp only [Act.put, nzA, nzB, nzC]
  refine hHe fun hHeld => ?_
  refine hHs [7] (hHl hHeld ?_)
  clear hHeld
  refine hHn ?_ (fun w hSw => ?_) ?_
  rotate_left
  ·(have q0 := hSw.keepM HD0F.out HNRR.out); go_simp; (try with_reducible rfl)
  simp only [Act.put, nzA, nzB, nzC]
  refine hHe fun hHeld => ?_
  refine heldL_next1 (i := 8) (by kernel_rfl) (NextL.mk rfl rfl (fun K hK => ?_))
  go_simp
  refine hK.out _ _ ?_ ?_
  ·intro _; exact (HE.out.1.mono (M' := (fun b => At tb b ∨ Value.ownBlock (.slice aN l.length cN) = some b)) (fun i _ e => .inl e)).transNo ((Ext.refl No _).alloc _)
  clear hK K hHeld
  intro hHeld
  try simp only [Act.put, nzA, nzB, nzC]
  refine heldL_next1 (i := 9) (by kernel_rfl) (NextL.mk rfl rfl (fun K hK => ?_))
  ((have hmA := Lib.hid (HMN.out.step HE.out.1 HE.out.2)); (have hoA := hmA.out.r.row _ (List.getElem_mem hnR)); (rw [HDN.out] at hoA); (refine wp_app _ (.tmp 100) (.tmp 101) 22 rfl (W.heap.size + 2) 3 iI _ 1 8 Tryz.underlying22 hiI hI0 hI1 hI2 rfl (by omega) (.slice aN l.length cN) l.length (l.map (.int .i64)) rfl (row_keep hoA ((Ext.refl No v0).alloc (.cells #[.int .i64 0] 3)) (fun _ _ x => x)) No (some ⟨v0.heap.size, 0, none⟩) 1 1 [.int .i64 0] rfl (Row.block (alloc_top rfl) rfl no_no (by omega)) (by simp [Value.oneCell']) (by omega) (by omega) (by have h5 := lt_of_block hmA.out.boxC; simp; omega) ?_); (intro v9 w9 hown2 hg2 hv2); (clear hoA))
  refine hK.out _ _ ?_ ?_
  ·intro _; exact ((HE.out.1.mono (M' := (fun b => At tb b ∨ Value.ownBlock (.slice aN l.length cN) = some b)) (fun i _ e => .inl e)).transNo ((Ext.refl No _).alloc _)).trans2 ((Ext.refl _ _).grown hg2 (fun k hk _ => hk)) (fun i hi e => .inr e)
  clear hK K hHeld
  intro hHeld
  have hmB := hmA.out
  have hput := SqN.putRow hRl.out.1.symm hmB (l := l ++ [0]) hnR HDN.out (by rw [List.length_append, List.map_append]; exact hown2) hg2 hv2
  have hgo5 : Ext (fun k => Value.ownBlock (.slice aN l.length cN) = some k) v0 w9 := ((Ext.refl _ _).alloc _).grown hg2 (fun k hk _ => hk)
  have hneR : ¬ Value.ownBlock (.slice aN l.length cN) = some gR := fun e => hmB.r.out _ (List.getElem_mem hnR) gR (by rw [HDN.out]; exact e) rfl
  have k9 := hgo5.keepM (HE.out.1.keepM HD0F.out HNRK.out) hneR
  have f9 : w9.frozen? ⟨gR, n, none⟩ = false := World.ownsRow.frozenAt (row_keep2 (by have h := hmB.r.own; rw [hRl.out.1] at h; exact h) hgo5 (fun k hk e => hneR (by rw [show gR = k from by simpa [Value.ownBlock] using hk]; exact e))) n
  obtain ⟨aS, cS, hs9⟩ := (Row.ofOwns (M := No) hown2 (fun _ _ x => x)).slice
  subst hs9
  have HPUT := Lib.hid hput
  have hk9 := Lib.hid k9
  have hf9 := Lib.hid f9
  clear hmB hput hgo5 hneR k9 f9 hown2 hg2 hv2
  try simp only [Act.put, nzA, nzB, nzC]
  refine hHs [10] (hHl hHeld ?_)
  clear hHeld
  refine hFn ?_ (fun w => ?_) ?_
  rotate_left
  ·go_simp; (try with_reducible rfl)
  simp only [Act.put, nzA, nzB, nzC]
  refine hHe fun hHeld => ?_
  refine heldL_next1 (i := 11) (by kernel_rfl) (NextL.mk rfl rfl (fun K hK => ?_))
  ((have k9 := hk9.out); (have f9 := hf9.out); go_simp; (clear k9 f9))
  refine hK.out _ _ ?_ ?_
  ·exact fun h => absurd h (by decide)
  clear hK K hHeld
  intro hHeld
  try simp only [Act.put, nzA, nzB, nzC]
  refine heldL_done (by kernel_rfl) ?_ _
  have hme := HPUT
  go_upto_region 23 with (fail)
  generalize (w9.setCell ⟨gR, n, none⟩ (.slice aS (l.length + 1) cS)) = w3 at *
  have cQ := cellOf hme.out.boxQ
  have cC := cellOf hme.out.boxC
  have fC := freeOf hme.out.boxC
  have hE4 := set2p w3 (W.heap.size + 1) (.slice (some ⟨gV, 0, none⟩) k cV) (.slice (some ⟨gR, 0, none⟩) k cR)
  have hbF := fin2p hme.out.boxC (.slice (some ⟨gV, 0, none⟩) k cV) (.slice (some ⟨gR, 0, none⟩) k cR)
  go_wp2_with fail
  generalize ((w3.setCell ⟨W.heap.size + 1, 0, none⟩ (.slice (some ⟨gV, 0, none⟩) k cV)).setCell ⟨W.heap.size + 1, 1, none⟩ (.slice (some ⟨gR, 0, none⟩) k cR)) = WF at *
  have cF := cellOf hbF
  refine ret_ex rfl ?_
  simp [results, Tryz.results12, go_sem, cF]
  exact hme.out.fin (hlu) (by rw [List.length_set]; exact hru) hE4
 ·have cQ := cellOf HQb.out
  have c0 := HC0.out
  have hwu : IntKind.i64.wrap ((u : Int) + 1) = (u : Int) + 1 := IntWalk.i64_in _ (by omega)
  go_wp2_with fail
  clear cQ c0 hwu
  refine (next_lt tb ((u : Int) + 1) (by omega) (by omega) _ hm2.out.tape).mono ?_
  rintro e3 y3 ⟨r3, rfl, hr30, ht3, hx3, -⟩
  have hm3 := Lib.hid (hm2.out.step hx3 ht3)
  have HC03 := Lib.hid (hx3.keepM HC0.out HNV.out)
  have HC13 := Lib.hid (hx3.keepM HC1.out HNV.out)
  have HD03 := Lib.hid (hx3.keepM HD0.out HNRK.out)
  have HWT3 := Lib.hid (HWT.out.ext hx3 (fun _ _ e => e))
  clear hm2 HC0 HC1 HD0 HWT hx3 ht3 HQb HW0
  have hm2 := hm3
  have HC0 := HC03
  have HC1 := HC13
  have HD0 := HD03
  have HWT := HWT3
  clear hm3 HC03 HC13 HD03 HWT3
  have HQb := Lib.hid hm2.out.boxQ
  obtain ⟨w0, m0, hw0, hm0, hse⟩ := (validB_iff HWT.out.lt).1 HFN.out.1
  have hwu : w0 = u := by
   have h5 := HFN.out.2
   rw [hse] at h5
   have h6 : ((w0 : Nat) : Int) = (u : Int) := h5
   omega
  subst hwu
  subst hse
  have HWS := Lib.hid (show WordsAt (At tb) y3 (.slice f1 (setN w0 m0).words.length f2) (wordsN w0 m0) from HWT.out)
  have hwl : (setN w0 m0).words.length = nw w0 := wordsN_len ..
  rw [hwl] at HWS HC1
  clear HWT hsm HFN hwl
  have cQ := cellOf HQb.out
  have c0 := HC0.out
  have c1 := HC1.out
  by_cases hr3 : r3 < w0
  ·have hr3z : (r3 : Int) < (w0 : Int) := by omega
   go_wp2_with fail
   clear cQ c0 c1
   refine (rhas_any w0 m0 _ (r3 : Int) _ ⟨HWS.out.mono (fun _ _ x => x.elim), by omega, hm0⟩).mono ?_
   rintro e4 w2' ⟨rfl, hx4⟩
   rw [hasZ_nat hr3]
   have hm4 := Lib.hid (hm2.out.stepNo hx4)
   have HC04 := Lib.hid (hx4.keep HC0.out)
   have HC14 := Lib.hid (hx4.keep HC1.out)
   have HD04 := Lib.hid (hx4.keep HD0.out)
   have HWS4 := Lib.hid (HWS.out.extNo hx4)
   clear hm2 HC0 HC1 HD0 HWS hx4 HQb
   have hm2 := hm4
   have HC0 := HC04
   have HC1 := HC14
   have HD0 := HD04
   have HWS := HWS4
   clear hm4 HC04 HC14 HD04 HWS4
   have HQb := Lib.hid hm2.out.boxQ
   cases htb : m0.testBit r3 with
   | true =>
    go_upto_region 23 with (fail)
    have hme := Lib.hid hm2.out.toN.toE
    have cQ := cellOf hme.out.boxQ
    have cC := cellOf hme.out.boxC
    have fC := freeOf hme.out.boxC
    have hE4 := set2p w2' (W.heap.size + 1) (.slice (some ⟨gV, 0, none⟩) k cV) (.slice (some ⟨gR, 0, none⟩) k cR)
    have hbF := fin2p hme.out.boxC (.slice (some ⟨gV, 0, none⟩) k cV) (.slice (some ⟨gR, 0, none⟩) k cR)
    go_wp2_with fail
    generalize ((w2'.setCell ⟨W.heap.size + 1, 0, none⟩ (.slice (some ⟨gV, 0, none⟩) k cV)).setCell ⟨W.heap.size + 1, 1, none⟩ (.slice (some ⟨gR, 0, none⟩) k cR)) = WF at *
    have cF := cellOf hbF
    refine ret_ex rfl ?_
    simp [results, Tryz.results12, go_sem, cF]
    exact hme.out.fin (hlu) (hru) hE4
   | false =>
    clear htb
    go_upto_region 19 with (fail)
    refine wp_region_heldL [11] (fun w' => Ext (At tb) w2' w' ∧ TapeOk w' tb) (by kernel_rfl) ?_ (fun hHeld => ?_)
    ·exact ⟨(Ext.refl No _).drew.ofNo, hm2.out.tape.ext (show Ext No w2' w2'.drew from (Ext.refl No _).drew)⟩
    have HE := Lib.hid (show Ext (At tb) w2' w2'.drew ∧ TapeOk w2'.drew tb from ⟨(Ext.refl No _).drew.ofNo, hm2.out.tape.ext (show Ext No w2' w2'.drew from (Ext.refl No _).drew)⟩)
    generalize w2'.drew = v0 at *
    refine hHs [0] (hHl hHeld ?_)
    clear hHeld
    refine hFn ?_ (fun w => ?_) ?_
    rotate_left
    ·go_simp; (try with_reducible rfl)
    simp only [Act.put, nzA, nzB, nzC]
    refine hHe fun hHeld => ?_
    refine hHs [1] (hHl hHeld ?_)
    clear hHeld
    refine hHn ?_ (fun w hSw => ?_) ?_
    rotate_left
    ·(have q0 := cellOf (hSw.1.blk HQb.out HNQ.out)); go_simp; (try with_reducible rfl)
    simp only [Act.put, nzA, nzB, nzC]
    refine hHe fun hHeld => ?_
    refine hHs [2, 3] (hHl hHeld ?_)
    clear hHeld
    iterate 2
     refine hFn ?_ (fun w => ?_) ?_
     rotate_left
     ·go_simp; (try with_reducible rfl)
     simp only [Act.put, nzA, nzB, nzC]
    refine hHe fun hHeld => ?_
    refine hHs [4] (hHl hHeld ?_)
    clear hHeld
    refine hHn ?_ (fun w hSw => ?_) ?_
    rotate_left
    ·(have q0 := cellOf (hSw.1.blk HQb.out HNQ.out)); go_simp; (try with_reducible rfl)
    simp only [Act.put, nzA, nzB, nzC]
    refine hHe fun hHeld => ?_
    refine hHs [5, 6] (hHl hHeld ?_)
    clear hHeld
    iterate 2
     refine hFn ?_ (fun w => ?_) ?_
     rotate_left
     ·go_simp; (try with_reducible rfl)
     simp only [Act.put, nzA, nzB, nzC]
    refine hHe fun hHeld => ?_
    refine hHs [7] (hHl hHeld ?_)
    clear hHeld
    refine hHn ?_ (fun w hSw => ?_) ?_
    rotate_left
    ·(have q0 := hSw.1.keepM HC0.out HNV.out); (have q1 := hSw.1.keepM HC1.out HNV.out); go_simp; (try with_reducible rfl)
    simp only [Act.put, nzA, nzB, nzC]
    refine hHe fun hHeld => ?_
    refine hHs [8] (hHl hHeld ?_)
    clear hHeld
    refine hFn ?_ (fun w => ?_) ?_
    rotate_left
    ·go_simp; (try with_reducible rfl)
    simp only [Act.put, nzA, nzB, nzC]
    refine hHe fun hHeld => ?_
    refine heldL_next1 (i := 9) (by kernel_rfl) (NextL.mk rfl rfl (fun K hK => ?_))
    ((have hsw5 := HE.out.1.size); go_simp; (go_at_call 45); (refine (rput_any w0 m0 r3 _ _ hr3 ⟨(HWS.out.ext HE.out.1 (fun _ _ e => e)).mono (fun _ _ x => x.elim), by omega, hm0⟩).mono ?_); (rintro e4 v1 ⟨g3, rfl, hb4, hlo4, hyN⟩); (have hyA : Ext (At tb) _ v1 := hyN.ofNo); (have htA := HE.out.2.ext hyN); go_simp; (clear hyN))
    refine hK.out _ _ ?_ ?_
    ·intro _; exact ⟨HE.out.1.trans hyA, htA⟩
    clear hK K hHeld
    intro hHeld
    replace HE := Lib.hid (show Ext (At tb) w2' v1 ∧ TapeOk v1 tb from ⟨HE.out.1.trans hyA, htA⟩)
    have hs4p := (hb4.out.set (M := fun b => b = tb ∨ b = W.heap.size + 1 ∨ b = gV ∨ RwIn (.slice (some ⟨gR, 0, none⟩) k cR) R' b) (by omega) (Nat.or_lt_two_pow hm0 (Nat.pow_lt_pow_right (by decide) hr3)) (fun e => by have h5 := lt_of_block hm2.out.boxC; have h6 := (hm2.out.v.lt gV rfl).2; have h8 := hm2.out.tb1; rcases e with e | e | e | e; omega; omega; omega; have h7 := (hm2.out.r.lt g3 e).2; omega))
    obtain ⟨m9, hm9⟩ : ∃ x, x = m0 ||| 2 ^ r3 := ⟨_, rfl⟩
    rw [← hm9] at hs4p
    have hs4 := Lib.hid hs4p
    clear hs4p hm9 hb4
    clear hyA htA
    try simp only [Act.put, nzA, nzB, nzC]
    refine hHs [10] (hHl hHeld ?_)
    clear hHeld
    refine hFn ?_ (fun w => ?_) ?_
    rotate_left
    ·go_simp; (try with_reducible rfl)
    simp only [Act.put, nzA, nzB, nzC]
    refine hHe fun hHeld => ?_
    refine heldL_next1 (i := 11) (by kernel_rfl) (NextL.mk rfl rfl (fun K hK => ?_))
    ((have hm5 := hm2.out.step HE.out.1 HE.out.2); (have hso5 : SetsOwn (HiB W tb) v1 (W.heap.size + 2) (.slice (some ⟨gV, 0, none⟩) k cV) Lv := ⟨hm5.v.own, hm5.v.ok⟩); (obtain ⟨g', hg', -, -, -, hcell, hfro⟩ := hso5.ownAt (k := n) hnV); (simp only [Option.some.injEq, Addr.mk.injEq, and_true] at hg'); (subst hg'); (obtain ⟨q0, q1⟩ := hcell n hnV); (have hput := Lib.hid (SqY.putV (p := (setN w0 m9, .slice (some ⟨g3, 0, none⟩) (nw w0) (nw w0))) (i := n) HNL.out hm5 hnV hs4.out.words)); go_simp; (clear q0 q1 hcell hfro hso5 hm5))
    refine hK.out _ _ ?_ ?_
    ·exact fun h => absurd h (by decide)
    clear hK K hHeld
    intro hHeld
    try simp only [Act.put, nzA, nzB, nzC]
    refine heldL_done (by kernel_rfl) ?_ _
    have hmn : SqN tb W ((v1.setCell ⟨gV, n * 2, none⟩ (.int .i64 (w0 : Int))).setCell ⟨gV, n * 2 + 1, none⟩ (.slice (some ⟨g3, 0, none⟩) (nw w0) (nw w0))) Q (.slice (some ⟨gV, 0, none⟩) k cV) (.slice (some ⟨gR, 0, none⟩) k cR) (Lv.set n (setN w0 m9, .slice (some ⟨g3, 0, none⟩) (nw w0) (nw w0))) R' := hput.out
    have hq1 : v1.cell? ⟨gR, n, none⟩ = some (.slice aN l.length cN) := HE.out.1.keepM HD0.out HNRK.out
    have hdf : ((v1.setCell ⟨gV, n * 2, none⟩ (.int .i64 (w0 : Int))).setCell ⟨gV, n * 2 + 1, none⟩ (.slice (some ⟨g3, 0, none⟩) (nw w0) (nw w0))).cell? ⟨gR, n, none⟩ = some (.slice aN l.length cN) := by
     have hne5 := HNE5.out
     exact keepS (b := ⟨gV, n * 2 + 1, none⟩) hne5 (keepS (b := ⟨gV, n * 2, none⟩) hne5 hq1)
    clear hq1
    have HMN := Lib.hid hmn
    have HD0F := Lib.hid hdf
    clear hmn hdf hput
    go_upto_region 20 with (fail)
    generalize ((v1.setCell ⟨gV, n * 2, none⟩ (.int .i64 (w0 : Int))).setCell ⟨gV, n * 2 + 1, none⟩ (.slice (some ⟨g3, 0, none⟩) (nw w0) (nw w0))) = w3 at *
    clear HQb
    have HQb := Lib.hid HMN.out.boxQ
    have HNQR : Hid (¬ (fun b => At tb b ∨ Value.ownBlock (.slice aN l.length cN) = some b) Q) := Lib.hid (fun e => e.elim HNQ.out (fun e => HMN.out.rq (.inr ⟨_, List.getElem_mem hnR, by rw [HDN.out]; exact e⟩)))
    have HNRR : Hid (¬ (fun b => At tb b ∨ Value.ownBlock (.slice aN l.length cN) = some b) gR) := Lib.hid (fun e => e.elim HNRK.out (fun e => HMN.out.r.out _ (List.getElem_mem hnR) gR (by rw [HDN.out]; exact e) rfl))
    refine wp_region_heldL [13] (fun w' => Ext (fun b => At tb b ∨ Value.ownBlock (.slice aN l.length cN) = some b) w3 w') (by kernel_rfl) ?_ (fun hHeld => ?_)
    ·exact (Ext.refl No _).drew.ofNo
    clear HE
    have HE := Lib.hid (show Ext (At tb) w3 w3.drew ∧ TapeOk w3.drew tb from ⟨(Ext.refl No _).drew.ofNo, HMN.out.tape.ext (show Ext No w3 w3.drew from (Ext.refl No _).drew)⟩)
    generalize w3.drew = v0 at *
    refine hHs [0] (hHl hHeld ?_)
    clear hHeld
    refine hFn ?_ (fun w => ?_) ?_
    rotate_left
    ·go_simp; (try with_reducible rfl)
    simp only [Act.put, nzA, nzB, nzC]
    refine hHe fun hHeld => ?_
    refine hHs [1] (hHl hHeld ?_)
    clear hHeld
    refine hHn ?_ (fun w hSw => ?_) ?_
    rotate_left
    ·(have q0 := cellOf (hSw.blk HQb.out HNQR.out)); go_simp; (try with_reducible rfl)
    simp only [Act.put, nzA, nzB, nzC]
    refine hHe fun hHeld => ?_
    refine hHs [2, 3] (hHl hHeld ?_)
    clear hHeld
    iterate 2
     refine hFn ?_ (fun w => ?_) ?_
     rotate_left
     ·go_simp; (try with_reducible rfl)
     simp only [Act.put, nzA, nzB, nzC]
    refine hHe fun hHeld => ?_
    refine hHs [4] (hHl hHeld ?_)
    clear hHeld
    refine hHn ?_ (fun w hSw => ?_) ?_
    rotate_left
    ·(have q0 := cellOf (hSw.blk HQb.out HNQR.out)); go_simp; (try with_reducible rfl)
    simp only [Act.put, nzA, nzB, nzC]
    refine hHe fun hHeld => ?_
    refine hHs [5, 6] (hHl hHeld ?_)
    clear hHeld
    iterate 2
     refine hFn ?_ (fun w => ?_) ?_
     rotate_left
     ·go_simp; (try with_reducible rfl)
     simp only [Act.put, nzA, nzB, nzC]
    refine hHe fun hHeld => ?_
    refine hHs [7] (hHl hHeld ?_)
    clear hHeld
    refine hHn ?_ (fun w hSw => ?_) ?_
    rotate_left
    ·(have q0 := hSw.keepM HD0F.out HNRR.out); go_simp; (try with_reducible rfl)
    simp only [Act.put, nzA, nzB, nzC]
    refine hHe fun hHeld => ?_
    refine hHs [8] (hHl hHeld ?_)
    clear hHeld
    refine hFn ?_ (fun w => ?_) ?_
    rotate_left
    ·go_simp; (try with_reducible rfl)
    simp only [Act.put, nzA, nzB, nzC]
    refine hHe fun hHeld => ?_
    refine heldL_next1 (i := 9) (by kernel_rfl) (NextL.mk rfl rfl (fun K hK => ?_))
    (go_simp; (go_at_call 23); (refine (next_lt tb 4 (by omega) (by omega) _ HE.out.2).mono ?_); (rintro e5 v1 ⟨r4, rfl, hrr4, htA, hyA, -⟩); go_simp)
    refine hK.out _ _ ?_ ?_
    ·intro _; exact (HE.out.1.mono (M' := (fun b => At tb b ∨ Value.ownBlock (.slice aN l.length cN) = some b)) (fun i _ e => .inl e)).trans2 hyA (fun i hi e => .inl e)
    clear hK K hHeld
    intro hHeld
    replace HE := Lib.hid (show Ext (At tb) w3 v1 ∧ TapeOk v1 tb from ⟨HE.out.1.trans hyA, htA⟩)
    clear hyA htA
    try simp only [Act.put, nzA, nzB, nzC]
    refine heldL_next1 (i := 10) (by kernel_rfl) (NextL.mk rfl rfl (fun K hK => ?_))
    go_simp
    refine hK.out _ _ ?_ ?_
    ·intro _; exact (HE.out.1.mono (M' := (fun b => At tb b ∨ Value.ownBlock (.slice aN l.length cN) = some b)) (fun i _ e => .inl e)).transNo ((Ext.refl No _).alloc _)
    clear hK K hHeld
    intro hHeld
    try simp only [Act.put, nzA, nzB, nzC]
    refine heldL_next1 (i := 11) (by kernel_rfl) (NextL.mk rfl rfl (fun K hK => ?_))
    ((have hmA := Lib.hid (HMN.out.step HE.out.1 HE.out.2)); (have hoA := hmA.out.r.row _ (List.getElem_mem hnR)); (rw [HDN.out] at hoA); (refine wp_app _ (.tmp 151) (.tmp 154) 22 rfl (W.heap.size + 2) 3 iI _ 1 8 Tryz.underlying22 hiI hI0 hI1 hI2 rfl (by omega) (.slice aN l.length cN) l.length (l.map (.int .i64)) rfl (row_keep hoA ((Ext.refl No v1).alloc (.cells #[.int .i64 (r4 : Int)] 3)) (fun _ _ x => x)) No (some ⟨v1.heap.size, 0, none⟩) 1 1 [.int .i64 (r4 : Int)] rfl (Row.block (alloc_top rfl) rfl no_no (by omega)) (by simp [Value.oneCell']) (by omega) (by omega) (by have h5 := lt_of_block hmA.out.boxC; simp; omega) ?_); (intro v9 w9 hown2 hg2 hv2); (clear hoA))
    refine hK.out _ _ ?_ ?_
    ·intro _; exact ((HE.out.1.mono (M' := (fun b => At tb b ∨ Value.ownBlock (.slice aN l.length cN) = some b)) (fun i _ e => .inl e)).transNo ((Ext.refl No _).alloc _)).trans2 ((Ext.refl _ _).grown hg2 (fun k hk _ => hk)) (fun i hi e => .inr e)
    clear hK K hHeld
    intro hHeld
    have hmB := hmA.out
    have hput := SqN.putRow hRl.out.1.symm hmB (l := l ++ [(r4 : Int)]) hnR HDN.out (by rw [List.length_append, List.map_append]; exact hown2) hg2 hv2
    have hgo5 : Ext (fun k => Value.ownBlock (.slice aN l.length cN) = some k) v1 w9 := ((Ext.refl _ _).alloc _).grown hg2 (fun k hk _ => hk)
    have hneR : ¬ Value.ownBlock (.slice aN l.length cN) = some gR := fun e => hmB.r.out _ (List.getElem_mem hnR) gR (by rw [HDN.out]; exact e) rfl
    have k9 := hgo5.keepM (HE.out.1.keepM HD0F.out HNRK.out) hneR
    have f9 : w9.frozen? ⟨gR, n, none⟩ = false := World.ownsRow.frozenAt (row_keep2 (by have h := hmB.r.own; rw [hRl.out.1] at h; exact h) hgo5 (fun k hk e => hneR (by rw [show gR = k from by simpa [Value.ownBlock] using hk]; exact e))) n
    obtain ⟨aS, cS, hs9⟩ := (Row.ofOwns (M := No) hown2 (fun _ _ x => x)).slice
    subst hs9
    have HPUT := Lib.hid hput
    have hk9 := Lib.hid k9
    have hf9 := Lib.hid f9
    clear hmB hput hgo5 hneR k9 f9 hown2 hg2 hv2
    try simp only [Act.put, nzA, nzB, nzC]
    refine hHs [12] (hHl hHeld ?_)
    clear hHeld
    refine hFn ?_ (fun w => ?_) ?_
    rotate_left
    ·go_simp; (try with_reducible rfl)
    simp only [Act.put, nzA, nzB, nzC]
    refine hHe fun hHeld => ?_
    refine heldL_next1 (i := 13) (by kernel_rfl) (NextL.mk rfl rfl (fun K hK => ?_))
    ((have k9 := hk9.out); (have f9 := hf9.out); go_simp; (clear k9 f9))
    refine hK.out _ _ ?_ ?_
    ·exact fun h => absurd h (by decide)
    clear hK K hHeld
    intro hHeld
    try simp only [Act.put, nzA, nzB, nzC]
    refine heldL_done (by kernel_rfl) ?_ _
    have hme := HPUT
    go_upto_region 23 with (fail)
    generalize (w9.setCell ⟨gR, n, none⟩ (.slice aS (l.length + 1) cS)) = w3 at *
    have cQ := cellOf hme.out.boxQ
    have cC := cellOf hme.out.boxC
    have fC := freeOf hme.out.boxC
    have hE4 := set2p w3 (W.heap.size + 1) (.slice (some ⟨gV, 0, none⟩) k cV) (.slice (some ⟨gR, 0, none⟩) k cR)
    have hbF := fin2p hme.out.boxC (.slice (some ⟨gV, 0, none⟩) k cV) (.slice (some ⟨gR, 0, none⟩) k cR)
    go_wp2_with fail
    generalize ((w3.setCell ⟨W.heap.size + 1, 0, none⟩ (.slice (some ⟨gV, 0, none⟩) k cV)).setCell ⟨W.heap.size + 1, 1, none⟩ (.slice (some ⟨gR, 0, none⟩) k cR)) = WF at *
    have cF := cellOf hbF
    refine ret_ex rfl ?_
    simp [results, Tryz.results12, go_sem, cF]
    exact hme.out.fin (by rw [List.length_set]; exact hlu) (by rw [List.length_set]; exact hru) hE4
  have hr3z : ¬ (r3 : Int) < (w0 : Int) := by omega
  go_upto_region 23 with (fail)
  clear cQ c0 c1
  have hme := Lib.hid hm2.out.toN.toE
  have cQ := cellOf hme.out.boxQ
  have cC := cellOf hme.out.boxC
  have fC := freeOf hme.out.boxC
  have hE4 := set2p y3 (W.heap.size + 1) (.slice (some ⟨gV, 0, none⟩) k cV) (.slice (some ⟨gR, 0, none⟩) k cR)
  have hbF := fin2p hme.out.boxC (.slice (some ⟨gV, 0, none⟩) k cV) (.slice (some ⟨gR, 0, none⟩) k cR)
  go_wp2_with fail
  generalize ((y3.setCell ⟨W.heap.size + 1, 0, none⟩ (.slice (some ⟨gV, 0, none⟩) k cV)).setCell ⟨W.heap.size + 1, 1, none⟩ (.slice (some ⟨gR, 0, none⟩) k cR)) = WF at *
  have cF := cellOf hbF
  refine ret_ex rfl ?_
  simp [results, Tryz.results12, go_sem, cF]
  exact hme.out.fin (hlu) (hru) hE4
 ·have cQ := cellOf HQb.out
  have fQ := freeOf HQb.out
  have hvl := hm2.out.vl3
  have hrow := hvl.row
  rw [← HNL.out] at hrow
  have hcap : k ≤ cV := by
   obtain ⟨_, _, a', c', h3, h9, _⟩ := hrow
   simp only [Value.slice.injEq] at h3
   obtain ⟨_, _, rfl⟩ := h3
   exact h9.1
  have hcz : (k : Int) ≤ (cV : Int) := by omega
  have h1z : (1 : Int) ≤ (k : Int) := by omega
  have h1c : (1 : Int) ≤ (cV : Int) := by omega
  have HROW := Lib.hid (Row.drop hrow (k := 1) h1)
  have HVL := Lib.hid hvl
  clear hrow hvl
  go_upto_region 23 with (fail)
  obtain ⟨aX, haX⟩ : ∃ aX : Option Addr, aX = (if cV = 1 then some ⟨gV, 0, none⟩ else some ⟨gV, 2, none⟩) := ⟨_, rfl⟩
  have hyd : LAt kS (fun b => b = tb ∨ b = W.heap.size + 1 ∨ b = Q) w2 (.slice aX (k - 1) (cV - 1)) (Lv.drop 1) := by
   rw [haX]
   by_cases hc1 : cV = 1
   ·rw [if_pos hc1, show k - 1 = 0 by omega, List.drop_eq_nil_of_le (by rw [← HNL.out]; omega), hc1]
    exact LAt.nil _ _ (Nat.zero_le _)
   rw [if_neg hc1]
   refine ⟨?_, fun p hp => HVL.out.ok p (List.mem_of_mem_drop hp)⟩
   have h := HROW.out
   rw [List.length_drop, ← HNL.out]
   have e : (Lv.drop 1).flatMap kS.cells = (Lv.flatMap kS.cells).drop (1 * kS.s) := by
    cases Lv with
    | nil => rfl
    | cons q L => simp [kS]
   rw [e]
   rw [show (0 : Nat) + 1 * kS.s = 2 from rfl] at h
   exact h
  rw [← haX]
  clear haX
  have hme := Lib.hid (hm2.out.cut hyd)
  generalize (w2.setCell ⟨Q, 0, none⟩ (.slice aX (k - 1) (cV - 1))) = w3 at *
  clear cQ fQ
  have cQ := cellOf hme.out.boxQ
  have cC := cellOf hme.out.boxC
  have fC := freeOf hme.out.boxC
  have hE4 := set2p w3 (W.heap.size + 1) (.slice aX (k - 1) (cV - 1)) (.slice (some ⟨gR, 0, none⟩) k cR)
  have hbF := fin2p hme.out.boxC (.slice aX (k - 1) (cV - 1)) (.slice (some ⟨gR, 0, none⟩) k cR)
  go_wp2_with fail
  generalize ((w3.setCell ⟨W.heap.size + 1, 0, none⟩ (.slice aX (k - 1) (cV - 1))).setCell ⟨W.heap.size + 1, 1, none⟩ (.slice (some ⟨gR, 0, none⟩) k cR)) = WF at *
  have cF := cellOf hbF
  refine ret_ex rfl ?_
  simp [results, Tryz.results12, go_sem, cF]
  exact hme.out.fin (by rw [List.length_drop]; omega) (hru) hE4
 go_upto_region 8 with (fail)
 refine wp_region_heldL [11] (fun w' => Ext (At tb) w2 w' ∧ TapeOk w' tb) (by kernel_rfl) ?_ (fun hHeld => ?_)
 ·exact ⟨(Ext.refl No _).drew.ofNo, hm2.out.tape.ext (show Ext No w2 w2.drew from (Ext.refl No _).drew)⟩
 have HE := Lib.hid (show Ext (At tb) w2 w2.drew ∧ TapeOk w2.drew tb from ⟨(Ext.refl No _).drew.ofNo, hm2.out.tape.ext (show Ext No w2 w2.drew from (Ext.refl No _).drew)⟩)
 generalize w2.drew = v0 at *
 refine hHs [0] (hHl hHeld ?_)
 clear hHeld
 refine hFn ?_ (fun w => ?_) ?_
 rotate_left
 ·go_simp; (try with_reducible rfl)
 simp only [Act.put, nzA, nzB, nzC]
 refine hHe fun hHeld => ?_
 refine hHs [1] (hHl hHeld ?_)
 clear hHeld
 refine hHn ?_ (fun w hSw => ?_) ?_
 rotate_left
 ·(have q0 := cellOf (hSw.1.blk HQb.out HNQ.out)); go_simp; (try with_reducible rfl)
 simp only [Act.put, nzA, nzB, nzC]
 refine hHe fun hHeld => ?_
 refine hHs [2, 3, 4] (hHl hHeld ?_)
 clear hHeld
 iterate 3
  refine hFn ?_ (fun w => ?_) ?_
  rotate_left
  ·go_simp; (try with_reducible rfl)
  simp only [Act.put, nzA, nzB, nzC]
 refine hHe fun hHeld => ?_
 refine hHs [5] (hHl hHeld ?_)
 clear hHeld
 refine hHn ?_ (fun w hSw => ?_) ?_
 rotate_left
 ·(have q0 := cellOf (hSw.1.blk HQb.out HNQ.out)); go_simp; (try with_reducible rfl)
 simp only [Act.put, nzA, nzB, nzC]
 refine hHe fun hHeld => ?_
 refine hHs [6, 7] (hHl hHeld ?_)
 clear hHeld
 iterate 2
  refine hFn ?_ (fun w => ?_) ?_
  rotate_left
  ·go_simp; (try with_reducible rfl)
  simp only [Act.put, nzA, nzB, nzC]
 refine hHe fun hHeld => ?_
 refine hHs [8] (hHl hHeld ?_)
 clear hHeld
 refine hHn ?_ (fun w hSw => ?_) ?_
 rotate_left
 ·(have q0 := hSw.1.keepM HC0.out HNV.out); (have q1 := hSw.1.keepM HC1.out HNV.out); go_simp; (try with_reducible rfl)
 simp only [Act.put, nzA, nzB, nzC]
 refine hHe fun hHeld => ?_
 refine heldL_next1 (i := 9) (by kernel_rfl) (NextL.mk rfl rfl (fun K hK => ?_))
 (go_simp; (go_at_call 46); (have hsp := spoilS_any tb s0 (.slice f1 s0.words.length f2) v0 ((HWT.out.ext HE.out.1 (fun _ _ e => e)).mono (fun _ _ x => x.elim)) (by omega) HE.out.2); (rw [HFN.out.2] at hsp); (refine hsp.mono ?_); (clear hsp); (rintro e9 v1 ⟨z9, a9, c9, l9, rfl, hw9, htA, hyA⟩); (have hsz9 := HE.out.1.size); go_simp)
 refine hK.out _ _ ?_ ?_
 ·intro _; exact ⟨HE.out.1.trans hyA, htA⟩
 clear hK K hHeld
 intro hHeld
 replace HE := Lib.hid (show Ext (At tb) w2 v1 ∧ TapeOk v1 tb from ⟨HE.out.1.trans hyA, htA⟩)
 have hs9 := Lib.hid (hw9.out.mono (M' := fun b => b = tb ∨ b = W.heap.size + 1 ∨ b = gV ∨ RwIn (.slice (some ⟨gR, 0, none⟩) k cR) R' b) (fun i _ e => by have h5 := lt_of_block hm2.out.boxC; have h6 := (hm2.out.v.lt gV rfl).2; have h8 := hm2.out.tb1; unfold Lo; rcases e with e | e | e | e; omega; omega; omega; have h7 := (hm2.out.r.lt i e).2; omega))
 clear hw9
 clear hyA htA
 try simp only [Act.put, nzA, nzB, nzC]
 refine hHs [10] (hHl hHeld ?_)
 clear hHeld
 refine hFn ?_ (fun w => ?_) ?_
 rotate_left
 ·go_simp; (try with_reducible rfl)
 simp only [Act.put, nzA, nzB, nzC]
 refine hHe fun hHeld => ?_
 refine heldL_next1 (i := 11) (by kernel_rfl) (NextL.mk rfl rfl (fun K hK => ?_))
 ((have hm5 := hm2.out.step HE.out.1 HE.out.2); (have hso5 : SetsOwn (HiB W tb) v1 (W.heap.size + 2) (.slice (some ⟨gV, 0, none⟩) k cV) Lv := ⟨hm5.v.own, hm5.v.ok⟩); (obtain ⟨g', hg', -, -, -, hcell, hfro⟩ := hso5.ownAt (k := n) hnV); (simp only [Option.some.injEq, Addr.mk.injEq, and_true] at hg'); (subst hg'); (obtain ⟨q0, q1⟩ := hcell n hnV); (have hput := Lib.hid (SqY.putV (p := ((⟨z9, l9⟩ : RawSet), .slice a9 l9.length c9)) (i := n) HNL.out hm5 hnV hs9.out)); go_simp; (clear q0 q1 hcell hfro hso5 hm5))
 refine hK.out _ _ ?_ ?_
 ·exact fun h => absurd h (by decide)
 clear hK K hHeld
 intro hHeld
 try simp only [Act.put, nzA, nzB, nzC]
 refine heldL_done (by kernel_rfl) ?_ _
 go_upto_region 23 with (fail)
 have hme := Lib.hid (show SqE tb W ((v1.setCell ⟨gV, n * 2, none⟩ (.int .i64 z9)).setCell ⟨gV, n * 2 + 1, none⟩ (.slice a9 l9.length c9)) Q (.slice (some ⟨gV, 0, none⟩) k cV) (.slice (some ⟨gR, 0, none⟩) k cR) _ R' from hput.out.toE)
 generalize ((v1.setCell ⟨gV, n * 2, none⟩ (.int .i64 z9)).setCell ⟨gV, n * 2 + 1, none⟩ (.slice a9 l9.length c9)) = w3 at *
 have cQ := cellOf hme.out.boxQ
 have cC := cellOf hme.out.boxC
 have fC := freeOf hme.out.boxC
 have hE4 := set2p w3 (W.heap.size + 1) (.slice (some ⟨gV, 0, none⟩) k cV) (.slice (some ⟨gR, 0, none⟩) k cR)
 have hbF := fin2p hme.out.boxC (.slice (some ⟨gV, 0, none⟩) k cV) (.slice (some ⟨gR, 0, none⟩) k cR)
 go_wp2_with fail
 generalize ((w3.setCell ⟨W.heap.size + 1, 0, none⟩ (.slice (some ⟨gV, 0, none⟩) k cV)).setCell ⟨W.heap.size + 1, 1, none⟩ (.slice (some ⟨gR, 0, none⟩) k cR)) = WF at *
 have cF := cellOf hbF
 refine ret_ex rfl ?_
 simp [results, Tryz.results12, go_sem, cF]
 exact hme.out.fin (by rw [List.length_set]; exact hlu) (hru) hE4

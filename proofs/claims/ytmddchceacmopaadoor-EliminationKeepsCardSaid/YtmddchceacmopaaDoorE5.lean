
import Derived.Test.YtmddchceacmopaaDoorE4
set_option linter.unusedVariables false
set_option linter.unusedSimpArgs false
namespace Go.Proofs.YtmddchceacmopaaDoor
open Go Go.RowKit
set_option maxRecDepth 100000 in
set_option maxHeartbeats 8000000 in
theorem wsolve1_any (M : Nat → Prop) (S : WebD) (vb vi vv : Value) (vs : List Nat) (g : Nat) (W : World) (hM : ∀ b, M b → b < W.heap.size) (hg : W.heap[g]? = some (.cells #[.int .i64 (S.w : Int), vb, vi] 37 (0, 0))) (h : WbAt No W vb vi S) (hv : SetsV No W vv S.w vs) (hl : vs.length = S.ins.length) :
  Calls Tryd.prog 33 #[vv, .pointer (some ⟨g, 0, none⟩)] W (SetsPost M S.w (nextW S vs) W) := by
 obtain ⟨i0, hi0, hz0, hz1, hz2⟩ := info_parts infoS
 have H := Lib.hid h
 have HV := Lib.hid hv
 have HM := Lib.hid hM
 have HL := Lib.hid hl
 obtain ⟨ab, cb, ai, ci, rfl, rfl⟩ := h.slices
 obtain ⟨av, cv, rfl⟩ := hv.slice
 have hok := h.ok
 have HOK := Lib.hid hok
 have hnn := hok.n2
 have hww := hok.w
 have HG := Lib.hid hg
 have cG := cellOf hg
 have HGV := Lib.hid (show GoodW S vs from ⟨hl, hv.hm⟩)
 have hgl := lt_of_block hg
 clear h hv hM hl hok hg
 go_enter Tryd.func33, Tryd.ntmps33
 go_wp2_with fail
 clear cG
 go_loopw [4, 5, 6, 7, 8, 10, 11, 12, 16] (fun s4 _ _ _ _ _ _ _ s16 wr => ∃ k : Nat, k ≤ S.ins.length ∧ s16 = .int .i64 k ∧ Hid (LnM M W wr W.heap.size S.w s4 (nextToW S vs k))) (fun _ _ _ _ _ _ _ _ s16 _ => S.ins.length - (intOf s16).toNat)
 case atStart => exact ⟨0, Nat.zero_le _, rfl, Lib.hid ⟨Ext.refl _ _, ⟨[], LOwn.nil _ _ _ _, rfl⟩, Nat.le_refl _, HOK.out.w, fun m hm => by cases hm⟩⟩
 obtain ⟨k, hk, rfl, hm⟩ := hrel
 rename World => wr
 obtain ⟨a0, c0, hs0⟩ := hm.out.slice
 rw [nextToW_len] at hs0
 subst hs0
 by_cases hlt : k < S.ins.length
 ·have hlz : (k : Int) < (S.ins.length : Int) := by omega
  have HKK : Hid (Value.int .i64 ((k : Int) + 1) = .int .i64 ((k + 1 : Nat) : Int)) := Lib.hid (by rw [show ((k + 1 : Nat) : Int) = (k : Int) + 1 from by omega])
  obtain ⟨bi, oi, ki, aA, cA, hve, ga, harc⟩ := (H.out.extNo hm.out.ext).arcs hlt
  simp only [Value.slice.injEq] at hve
  obtain ⟨rfl, -, rfl⟩ := hve
  obtain ⟨bb, ob, kb, aq0, cq0, hve, gb, hset⟩ := ((H.out.extNo hm.out.ext).bnd).cells (i := k) (by rw [HOK.out.lb]; exact hlt)
  rw [HOK.out.lb] at hve
  simp only [Value.slice.injEq] at hve
  obtain ⟨rfl, -, rfl⟩ := hve
  have HGB := Lib.hid gb
  have HA := Lib.hid (hm.out.ext.blk HG.out no_no)
  have HQ := Lib.hid (hm.out.hM HM.out)
  clear gb
  go_upto_region 5 with (fail)
  clear ga
  go_cut [7, 8] (fun s7 s8 wx => ∃ (D : Nat) (a : Option Addr) (c : Nat), s7 = .pointer (some ⟨D, 0, none⟩) ∧ Hid (WdM (fun b => M b ∨ (Value.slice a0 k c0).ownBlock = some b) wr wx D S.w (rowD S.bnd k) a c))
  case first =>
   refine wp_region_held_drew (S := (fun w' => Ext No wr w')) (by kernel_rfl) ?_ (fun hHeld => ?_)
   ·exact (Ext.refl _ _).drew
   generalize wr.drew = v0 at *
   refine hHs [0, 1, 2, 3] ?_
   iterate 4
    refine hTn ?_ hHeld (fun w hSw => ?_) ?_
    rotate_left
    ·(have hEs : Ext No wr _ := hSw); (have q0 := cellOf (hEs.blk HA.out no_no)); go_simp; (try with_reducible rfl)
    simp only [Act.put, nzA, nzB, nzC]
   refine hHe ?_
   refine hHs [4, 5] ?_
   iterate 2
    refine hTn ?_ hHeld (fun w hSw => ?_) ?_
    rotate_left
    ·(have hEs : Ext No wr _ := hSw); (obtain ⟨p0, p1⟩ := HGB.out); (have q0 := hEs.keep p0); (have q1 := hEs.keep p1); go_simp; (try with_reducible rfl)
    simp only [Act.put, nzA, nzB, nzC]
   refine hHe ?_
   refine hHs [6, 7, 8] ?_
   iterate 3
    refine hTn ?_ hHeld (fun w hSw => ?_) ?_
    rotate_left
    ·(have hEs : Ext No wr _ := hSw); (have q0 := cellOf (hEs.blk HA.out no_no)); go_simp; (try with_reducible rfl)
    simp only [Act.put, nzA, nzB, nzC]
   refine hHe ?_
   refine hTk 9 ?_ hHeld (fun w hSw => ?_) ?_
   rotate_left
   ·(have hEs : Ext No wr _ := hSw); (obtain ⟨p0, p1⟩ := HGB.out); (have x0 := hEs.keep p0); (have x1 := hEs.keep p1); go_simp; (try with_reducible rfl)
   simp only [Act.put, nzA, nzB, nzC]
   refine held_next2 (i := 10) (j := 14) (by kernel_rfl) (NextOp.mk rfl rfl (fun K hK => ?_)) (NextOp.mk rfl rfl (fun K hK => ?_))
   ·((have hEx : Ext No wr _ := hHeld); go_simp; (go_at_call 34); (refine (union_any (Lo v0.heap.size) S.w (rowD S.bnd k) (rowD S.bnd k) _ _ _ (fun _ e => e) (hset.out.no.extNo hEx) (hset.out.no.extNo hEx)).mono ?_); (rintro e9 v1 ⟨aq, cq, rfl, hsq, hyA⟩); (rw [orN_self] at hsq); go_simp)
    refine hK.out _ _ ?_ ?_
    ·exact Ext.transNo (show Ext No wr _ from hHeld) hyA
    clear hK K hHeld
    intro hHeld
    have hEs := hEx.size
    have hS := Lib.hid (hsq.out.mono (M' := fun b => b < wr.heap.size) (fun i hi e => by unfold Lo; omega))
    clear hEx hsq hyA hEs
    try simp only [Act.put, nzA, nzB, nzC]
    refine hHs [11, 12, 13] ?_
    iterate 3
     refine hTn ?_ hHeld (fun w hSw => ?_) ?_
     rotate_left
     ·go_simp; (try with_reducible rfl)
     simp only [Act.put, nzA, nzB, nzC]
    refine hHe ?_
    refine hHc 14 fun K hK => ?_
    ((have hDV : wr.heap.size ≤ v1.heap.size := (show Ext No wr _ from hHeld).size); go_simp)
    refine hK.out _ _ ?_ ?_
    ·exact Ext.alloc (show Ext No wr _ from hHeld) _
    clear hK K hHeld
    intro hHeld
    have hB := Lib.hid (alloc_top (w := v1) (o := (.cells #[.int .i64 0, .slice none 0 0] 24)) rfl)
    replace hS := Lib.hid ((hS.out.mono (M' := fun b => b < wr.heap.size ∨ b = v1.heap.size) (fun i hi e => by rcases e with e | e <;> omega)).extNo ((Ext.refl No v1).alloc (.cells #[.int .i64 0, .slice none 0 0] 24)))
    generalize (v1.alloc (.cells #[.int .i64 0, .slice none 0 0] 24)) = v2 at *
    generalize v1.heap.size = D at *
    try simp only [Act.put, nzA, nzB, nzC]
    refine hHc 15 fun K hK => ?_
    ((have cS := cellOf hB.out); (have fS := freeOf hB.out); go_simp; (clear cS fS))
    refine hK.out _ _ ?_ ?_
    ·exact ext2 (show Ext No wr _ from hHeld) hDV
    clear hK K hHeld
    intro hHeld
    try simp only [Act.put, nzA, nzB, nzC]
    refine hTk 16 ?_ hHeld (fun w hSw => ?_) ?_
    rotate_left
    ·go_simp; (try with_reducible rfl)
    simp only [Act.put, nzA, nzB, nzC]
    refine wpAnyH_done (by kernel_rfl) ?_ _
    have hEx : Ext No wr _ := hHeld
    go_wp2_with fail
    go_meet
    have hE2 : Ext (At D) v2 _ := ext_two (Ext.refl No v2) D (u0 := .int .i64 (S.w : Int)) (u1 := .slice aq (nw S.w) cq)
    exact ⟨D, aq, cq, rfl, Lib.hid ⟨hEx, (set_same (j := 1) (set_same (j := 0) hB.out)).trans rfl, (hS.out.ext hE2 (fun i _ e => .inr e)).mono (fun i _ e => by
     rcases e with e | e
     ·exact .inl (HQ.out i e)
     exact .inr e), hDV⟩⟩
   ((have hDV : wr.heap.size ≤ v0.heap.size := (show Ext No wr _ from hHeld).size); go_simp)
   refine hK.out _ _ ?_ ?_
   ·exact Ext.alloc (show Ext No wr _ from hHeld) _
   clear hK K hHeld
   intro hHeld
   have hB := Lib.hid (alloc_top (w := v0) (o := (.cells #[.int .i64 0, .slice none 0 0] 24)) rfl)
   generalize (v0.alloc (.cells #[.int .i64 0, .slice none 0 0] 24)) = v1 at *
   generalize v0.heap.size = D at *
   try simp only [Act.put, nzA, nzB, nzC]
   refine hHc 10 fun K hK => ?_
   ((have hEx : Ext No wr _ := hHeld); go_simp; (go_at_call 34); (refine (union_any (Lo v1.heap.size) S.w (rowD S.bnd k) (rowD S.bnd k) _ _ _ (fun _ e => e) (hset.out.no.extNo hEx) (hset.out.no.extNo hEx)).mono ?_); (rintro e9 v2 ⟨aq, cq, rfl, hsq, hyA⟩); (rw [orN_self] at hsq); go_simp)
   refine hK.out _ _ ?_ ?_
   ·exact Ext.transNo (show Ext No wr _ from hHeld) hyA
   clear hK K hHeld
   intro hHeld
   have hEs := hEx.size
   have hS := Lib.hid (hsq.out.mono (M' := fun b => b < wr.heap.size ∨ b = D) (fun i hi e => by unfold Lo; have := lt_of_block hB.out; rcases e with e | e <;> omega))
   replace hB := Lib.hid (hyA.blk hB.out no_no)
   clear hEx hsq hyA hEs
   try simp only [Act.put, nzA, nzB, nzC]
   refine hHs [11, 12, 13] ?_
   iterate 3
    refine hTn ?_ hHeld (fun w hSw => ?_) ?_
    rotate_left
    ·go_simp; (try with_reducible rfl)
    simp only [Act.put, nzA, nzB, nzC]
   refine hHe ?_
   refine hHc 15 fun K hK => ?_
   ((have cS := cellOf hB.out); (have fS := freeOf hB.out); go_simp; (clear cS fS))
   refine hK.out _ _ ?_ ?_
   ·exact ext2 (show Ext No wr _ from hHeld) hDV
   clear hK K hHeld
   intro hHeld
   try simp only [Act.put, nzA, nzB, nzC]
   refine hTk 16 ?_ hHeld (fun w hSw => ?_) ?_
   rotate_left
   ·go_simp; (try with_reducible rfl)
   simp only [Act.put, nzA, nzB, nzC]
   refine wpAnyH_done (by kernel_rfl) ?_ _
   have hEx : Ext No wr _ := hHeld
   go_wp2_with fail
   go_meet
   have hE2 : Ext (At D) v2 _ := ext_two (Ext.refl No v2) D (u0 := .int .i64 (S.w : Int)) (u1 := .slice aq (nw S.w) cq)
   exact ⟨D, aq, cq, rfl, Lib.hid ⟨hEx, (set_same (j := 1) (set_same (j := 0) hB.out)).trans rfl, (hS.out.ext hE2 (fun i _ e => .inr e)).mono (fun i _ e => by
    rcases e with e | e
    ·exact .inl (HQ.out i e)
    exact .inr e), hDV⟩⟩
  case rest =>
   obtain ⟨D, a1, c1, rfl, hd0⟩ := hcut
   clear HGB hset HA
   rename World => wq
   obtain ⟨n, hn⟩ : ∃ n, n = (arcW S k).length := ⟨_, rfl⟩
   have HN := Lib.hid hn
   rw [← hn] at harc ⊢
   clear hn
   have hnb : n ≤ 9223372036854775807 := by
    obtain ⟨L0, h0, h1⟩ := harc.out
    have h2 := h0.row.2.1
    have e := congrArg List.length h1
    simp only [List.length_map, arcsRow] at e
    have := HN.out
    omega
   go_wp2_with fail
   go_loopw [10, 11, 12, 37] (fun _ _ _ i wx => ∃ (j : Nat) (a : Option Addr) (c : Nat), j ≤ n ∧ i = .int .i64 j ∧ Hid (WdM (fun b => M b ∨ (Value.slice a0 k c0).ownBlock = some b) wr wx D S.w (rightKW S vs k j) a c)) (fun _ _ _ i _ => n - (intOf i).toNat)
   case atStart => exact ⟨0, a1, c1, Nat.zero_le _, rfl, hd0⟩
   clear hd0
   obtain ⟨j, a1, c1, hj, rfl, hd⟩ := hrel
   rename World => wx
   by_cases hlt2 : j < n
   ·have hjz : (j : Int) < (n : Int) := by omega
    have HJJ : Hid (Value.int .i64 ((j : Int) + 1) = .int .i64 ((j + 1 : Nat) : Int)) := Lib.hid (by rw [show ((j + 1 : Nat) : Int) = (j : Int) + 1 from by omega])
    have hjd : j < (arcW S k).length := by have := HN.out; omega
    obtain ⟨⟨m, f⟩, hmj⟩ : ∃ q : Nat × TrD, q = (arcW S k)[j] := ⟨_, rfl⟩
    have hmd : m < S.ins.length := HOK.out.dep (i := k) (p := (m, f)) (by rw [hmj]; exact List.getElem_mem hjd)
    have HRS := Lib.hid (show rightKW S vs k (j + 1) = orN (rightKW S vs k j) (applyT f (rowD vs m)) by rw [rightKW_succ hjd, ← hmj])
    obtain ⟨ba, oa, ka, ag, cg, ak, ck, ac, nc, cc, hve, gt, htr, htw⟩ := ArcsW.at (fun p hp => HOK.out.tr (i := k) hp) (harc.out.extNo hd.out.ext) hjd hmj
    simp only [Value.slice.injEq] at hve
    obtain ⟨rfl, -, rfl⟩ := hve
    obtain ⟨bv, ov, kv, a9, c9, hve, gv, hvs⟩ := ((HV.out.extNo hm.out.ext).extNo hd.out.ext).cells (i := m) (by rw [HL.out]; exact hmd)
    simp only [Value.slice.injEq] at hve
    obtain ⟨rfl, -, rfl⟩ := hve
    have HGV2 := Lib.hid gv
    have hmV : (m : Int) < (vs.length : Int) := by have := HL.out; omega
    obtain ⟨q0, q1, q2, q3, q4, q5⟩ := gt
    clear gv hmj
    go_wp2_with fail
    clear q0 q1 q2 q3 q4 q5
    have hxF : Ext No wx (wx.alloc (.cells #[.int .i64 (m : Int), .int .i64 (S.w : Int), .slice ag (nw S.w) cg, .int .i64 (S.w : Int), .slice ak (nw S.w) ck, .slice ac nc cc] 33)) := (Ext.refl _ _).alloc _
    have HF := Lib.hid (alloc_top (w := wx) (o := .cells #[.int .i64 (m : Int), .int .i64 (S.w : Int), .slice ag (nw S.w) cg, .int .i64 (S.w : Int), .slice ak (nw S.w) ck, .slice ac nc cc] 33) rfl)
    have hd1 := Lib.hid (hd.out.step hxF)
    have HGV3 := Lib.hid (And.intro (hxF.keep HGV2.out.1) (hxF.keep HGV2.out.2))
    have htr1 := Lib.hid (htr.out.no.extNo hxF)
    have hvs1 := Lib.hid (hvs.out.no.extNo hxF)
    clear hxF hd HGV2 htr hvs
    generalize (wx.alloc (.cells #[.int .i64 (m : Int), .int .i64 (S.w : Int), .slice ag (nw S.w) cg, .int .i64 (S.w : Int), .slice ak (nw S.w) ck, .slice ac nc cc] 33)) = wf at *
    generalize wx.heap.size = B6 at *
    go_cut [11, 12] (fun s11 s12 wy => ∃ (E : Nat) (a2 : Option Addr) (c2 : Nat), s11 = .pointer (some ⟨E, 0, none⟩) ∧ Hid (Ext No wf wy) ∧ Hid (wy.heap[E]? = some (.cells #[.int .i64 (S.w : Int), .slice a2 (nw S.w) c2] 24 (0, 0))) ∧ Hid (SetAt No wy (.slice a2 (nw S.w) c2) S.w (applyT f (rowD vs m))))
    case first =>
     refine wp_region_held_drew (S := (fun w' => Ext No wf w')) (by kernel_rfl) ?_ (fun hHeld => ?_)
     ·exact (Ext.refl _ _).drew
     generalize wf.drew = v0 at *
     refine hHs [0, 1, 2, 3, 4, 5] ?_
     iterate 6
      refine hTn ?_ hHeld (fun w hSw => ?_) ?_
      rotate_left
      ·(have hEs : Ext No wf _ := hSw); (have q0 := cellOf (hEs.blk HF.out no_no)); go_simp; (try with_reducible rfl)
      simp only [Act.put, nzA, nzB, nzC]
     refine hHe ?_
     refine hTk 6 ?_ hHeld (fun w hSw => ?_) ?_
     rotate_left
     ·(have hEs : Ext No wf _ := hSw); (obtain ⟨p0, p1⟩ := HGV3.out); (have x0 := hEs.keep p0); (have x1 := hEs.keep p1); go_simp; (try with_reducible rfl)
     simp only [Act.put, nzA, nzB, nzC]
     refine held_next2 (i := 7) (j := 11) (by kernel_rfl) (NextOp.mk rfl rfl (fun K hK => ?_)) (NextOp.mk rfl rfl (fun K hK => ?_))
     ·((have hEx : Ext No wf _ := hHeld); go_simp; (go_at_call 35); (refine (Apply_w (Lo v0.heap.size) f S.w (rowD vs m) _ _ _ _ _ htw.out (fun _ e => e) (htr1.out.extNo hEx) (hvs1.out.extNo hEx)).mono ?_); (rintro e9 v1 ⟨aq, cq, rfl, hsq, hyA⟩); go_simp)
      refine hK.out _ _ ?_ ?_
      ·exact Ext.transNo (show Ext No wf _ from hHeld) hyA
      clear hK K hHeld
      intro hHeld
      have hS := Lib.hid hsq.out.no
      clear hEx hsq hyA
      try simp only [Act.put, nzA, nzB, nzC]
      refine hHs [8, 9, 10] ?_
      iterate 3
       refine hTn ?_ hHeld (fun w hSw => ?_) ?_
       rotate_left
       ·go_simp; (try with_reducible rfl)
       simp only [Act.put, nzA, nzB, nzC]
      refine hHe ?_
      refine hHc 11 fun K hK => ?_
      ((have hEV : wf.heap.size ≤ v1.heap.size := (show Ext No wf _ from hHeld).size); go_simp)
      refine hK.out _ _ ?_ ?_
      ·exact Ext.alloc (show Ext No wf _ from hHeld) _
      clear hK K hHeld
      intro hHeld
      have hBE := Lib.hid (alloc_top (w := v1) (o := (.cells #[.int .i64 0, .slice none 0 0] 24)) rfl)
      replace hS := Lib.hid ((hS.out.mono (M' := fun b => b = v1.heap.size) (fun i hi e => by omega)).extNo ((Ext.refl No v1).alloc (.cells #[.int .i64 0, .slice none 0 0] 24)))
      generalize (v1.alloc (.cells #[.int .i64 0, .slice none 0 0] 24)) = v2 at *
      generalize v1.heap.size = E at *
      try simp only [Act.put, nzA, nzB, nzC]
      refine hHc 12 fun K hK => ?_
      ((have cS := cellOf hBE.out); (have fS := freeOf hBE.out); go_simp; (clear cS fS))
      refine hK.out _ _ ?_ ?_
      ·exact ext2 (show Ext No wf _ from hHeld) hEV
      clear hK K hHeld
      intro hHeld
      try simp only [Act.put, nzA, nzB, nzC]
      refine hTk 13 ?_ hHeld (fun w hSw => ?_) ?_
      rotate_left
      ·go_simp; (try with_reducible rfl)
      simp only [Act.put, nzA, nzB, nzC]
      refine wpAnyH_done (by kernel_rfl) ?_ _
      have hEx : Ext No wf _ := hHeld
      go_wp2_with fail
      go_meet
      have hE2 : Ext (At E) v2 _ := ext_two (Ext.refl No v2) E (u0 := .int .i64 (S.w : Int)) (u1 := .slice aq (nw S.w) cq)
      exact ⟨E, aq, cq, rfl, Lib.hid hEx, Lib.hid ((set_same (j := 1) (set_same (j := 0) hBE.out)).trans rfl), Lib.hid (hS.out.ext hE2 (fun i _ e => e)).no⟩
     ((have hEV : wf.heap.size ≤ v0.heap.size := (show Ext No wf _ from hHeld).size); go_simp)
     refine hK.out _ _ ?_ ?_
     ·exact Ext.alloc (show Ext No wf _ from hHeld) _
     clear hK K hHeld
     intro hHeld
     have hBE := Lib.hid (alloc_top (w := v0) (o := (.cells #[.int .i64 0, .slice none 0 0] 24)) rfl)
     generalize (v0.alloc (.cells #[.int .i64 0, .slice none 0 0] 24)) = v1 at *
     generalize v0.heap.size = E at *
     try simp only [Act.put, nzA, nzB, nzC]
     refine hHc 7 fun K hK => ?_
     ((have hEx : Ext No wf _ := hHeld); go_simp; (go_at_call 35); (refine (Apply_w (Lo v1.heap.size) f S.w (rowD vs m) _ _ _ _ _ htw.out (fun _ e => e) (htr1.out.extNo hEx) (hvs1.out.extNo hEx)).mono ?_); (rintro e9 v2 ⟨aq, cq, rfl, hsq, hyA⟩); go_simp)
     refine hK.out _ _ ?_ ?_
     ·exact Ext.transNo (show Ext No wf _ from hHeld) hyA
     clear hK K hHeld
     intro hHeld
     have hS := Lib.hid (hsq.out.mono (M' := fun b => b = E) (fun i hi e => by unfold Lo; have := lt_of_block hBE.out; omega))
     replace hBE := Lib.hid (hyA.blk hBE.out no_no)
     clear hEx hsq hyA
     try simp only [Act.put, nzA, nzB, nzC]
     refine hHs [8, 9, 10] ?_
     iterate 3
      refine hTn ?_ hHeld (fun w hSw => ?_) ?_
      rotate_left
      ·go_simp; (try with_reducible rfl)
      simp only [Act.put, nzA, nzB, nzC]
     refine hHe ?_
     refine hHc 12 fun K hK => ?_
     ((have cS := cellOf hBE.out); (have fS := freeOf hBE.out); go_simp; (clear cS fS))
     refine hK.out _ _ ?_ ?_
     ·exact ext2 (show Ext No wf _ from hHeld) hEV
     clear hK K hHeld
     intro hHeld
     try simp only [Act.put, nzA, nzB, nzC]
     refine hTk 13 ?_ hHeld (fun w hSw => ?_) ?_
     rotate_left
     ·go_simp; (try with_reducible rfl)
     simp only [Act.put, nzA, nzB, nzC]
     refine wpAnyH_done (by kernel_rfl) ?_ _
     have hEx : Ext No wf _ := hHeld
     go_wp2_with fail
     go_meet
     have hE2 : Ext (At E) v2 _ := ext_two (Ext.refl No v2) E (u0 := .int .i64 (S.w : Int)) (u1 := .slice aq (nw S.w) cq)
     exact ⟨E, aq, cq, rfl, Lib.hid hEx, Lib.hid ((set_same (j := 1) (set_same (j := 0) hBE.out)).trans rfl), Lib.hid (hS.out.ext hE2 (fun i _ e => e)).no⟩
    case rest =>
     obtain ⟨E, a2, c2, rfl, hx2, hE, hs2⟩ := hcut
     rename World => wy
     have hd2 := Lib.hid (hd1.out.step hx2.out)
     clear hd1 HF HGV3 htr1 hvs1
     have cD := cellOf hd2.out.box
     have cE := cellOf hE.out
     go_wp2_with fail
     clear cD cE
     refine (union_any (fun b => (fun b => M b ∨ (Value.slice a0 k c0).ownBlock = some b) b ∨ b = D) S.w (rightKW S vs k j) (applyT f (rowD vs m)) _ _ _ (hd2.out.hM HQ.out) hd2.out.set.no hs2.out).mono ?_
     rintro e9 w9 ⟨a3, c3, rfl, hs3, hx9⟩
     have hd3 := Lib.hid (hd2.out.step hx9)
     have hd4 := Lib.hid (hd3.out.put hs3.out)
     have cD := cellOf hd3.out.box
     have fD := freeOf hd3.out.box
     clear hs3 hx9 hd2 hE hs2
     go_wp2_with fail
     clear cD fD
     go_roundw
     case rel => exact ⟨j + 1, a3, c3, by omega, HJJ.out, by rw [HRS.out]; exact hd4⟩
     case measure => simp [intOf]; omega
   have hge : ¬ (j : Int) < (n : Int) := by omega
   have hjn : j = n := by omega
   have HRD := Lib.hid (show SetAt (fun b => (fun b => M b ∨ (Value.slice a0 k c0).ownBlock = some b) b ∨ b = D) wx (.slice a1 (nw S.w) c1) S.w (rightW S vs k) by
    have h := hd.out.set
    rw [hjn, HN.out, rightKW_all] at h
    exact h)
   clear hjn
   have cD := cellOf hd.out.box
   have hm2 := Lib.hid (hm.out.step hd.out.ext)
   obtain ⟨xs, hown, happ⟩ := hm2.out.own (m := rightW S vs k)
   rw [nextToW_len] at hown happ
   have HAPP := Lib.hid happ
   have HLT := Lib.hid hm2.out.lt
   have HLL := Lib.hid hm2.out.ext.size
   have hbase : W.heap.size ≤ wx.heap.size := HLL.out
   clear happ
   go_wp2_with (at_builtin; (refine wpList_app _ rfl (.tmp 59) (.tmp 61) 31 rfl W.heap.size 24 i0 _ 2 32 Tryd.underlying31 hi0 hz0 hz1 hz2 rfl (by omega) (.slice a0 k c0) k xs rfl (row_keep hown ((Ext.refl No _).alloc _) (fun _ _ x => x)) No (some ⟨wx.heap.size, 0, none⟩) 1 1 [.int .i64 (S.w : Int), .slice a1 (nw S.w) c1] rfl (Row.block (alloc_top rfl) rfl no_no (by omega)) (by simp [Value.oneCell']) (by omega) (by omega) (by simp; omega) ?_); (intro v1 w9 hown1 hg1 hv1); (have hm9 := Lib.hid (HAPP.out v1 a1 c1 _ w9 (HRD.out.mono (fun i _ e => .inl e)) hown1 hg1 hv1 (own_ext hm2.out.ext hg1 (fun b hb => (HLT.out b hb).1) (Nat.le_refl _)))); (obtain ⟨a9, c9, hs9⟩ := hm9.out.slice); (rw [List.length_append, nextToW_len] at hs9); (subst hs9); (clear hown1 hg1 hv1 hown))
   go_roundw
   case rel => exact ⟨k + 1, by omega, HKK.out, by rw [nextToW_snoc]; exact hm9⟩
   case measure => simp [intOf]; omega
 have hkk : k = S.ins.length := by omega
 have hge : ¬ (k : Int) < (S.ins.length : Int) := by omega
 subst hkk
 go_wp2_with fail
 refine ret_ex rfl ?_
 simp [results, Tryd.results33, go_sem]
 have h1 := hm.out.fin HM.out
 have hl2 : (nextW S vs).length = S.ins.length := nextToW_len _ _ _
 exact ⟨a0, c0, by rw [hl2], Lib.hid (by rw [hl2]; exact h1), hm.out.ext⟩


import Derived.Test.YtjeohlooaiociaaGreatDoorF4
import Derived.Test.YtjeohlooaiociaaGreatDoorRefE
set_option linter.unusedVariables false
set_option linter.unusedSimpArgs false
namespace Go.Proofs.YtjeohlooaiociaaGreatDoor
open Go Go.RowKit
theorem rapply_w (M : Nat → Prop) (t : TrD) (w s : Nat) (sg sk sc ss : Value) (W : World) (hw : t.w = w) (hM : ∀ b, M b → b < W.heap.size) (h : TrAt M W sg sk sc t) (hs : SetAt No W ss w s) :
  Calls Tryz.prog 124 #[.agg #[.int .i64 (w : Int), sg, .int .i64 (w : Int), sk, sc], .agg #[.int .i64 (w : Int), ss]] W (SetEPost M w (applyT t s) W) := by
 subst hw; exact rapply_any M t s sg sk sc ss W hM h hs
set_option maxRecDepth 100000 in
set_option maxHeartbeats 8000000 in
theorem rright_any (M : Nat → Prop) (S : SysD) (vd vt vb vv : Value) (vs : List Nat) (n : Nat) (W : World) (hM : ∀ b, M b → b < W.heap.size) (h : SysAt M W vd vt vb S) (hv : SetsV No W vv S.w vs) (hl : vs.length = S.deps.length) (hn : n < S.deps.length) :
  Calls Tryz.prog 97 #[.agg #[.int .i64 (S.w : Int), vd, vt, vb], vv, .int .i64 (n : Int)] W (SetPost M S.w (rightD S vs n) W) := by
 have H := Lib.hid h
 have HV := Lib.hid hv
 have HM := Lib.hid hM
 have HL := Lib.hid hl
 have HN := Lib.hid hn
 have hok := h.ok
 obtain ⟨ad, cd, at1, ct, ab, cb, rfl, rfl, rfl⟩ := h.slices
 obtain ⟨av, cv, rfl⟩ := hv.slice
 have hww := hok.w
 have hnn := hok.n2
 have hn1 : (n : Int) < (S.deps.length : Int) := by omega
 have hn0 : (0 : Int) ≤ (n : Int) := by omega
 have HOK := Lib.hid hok
 clear h hv hM hl hn hok
 go_enter Tryz.func97, Tryz.ntmps97
 obtain ⟨bb, ob, kb, aq0, cq0, hve, g0, g1, hset⟩ := H.out.bn HN.out
 simp only [Value.slice.injEq] at hve
 obtain ⟨rfl, -, rfl⟩ := hve
 have hx0 : Ext No W ((W.alloc (.cells #[.int .i64 (S.w : Int), .slice ad S.deps.length cd, .slice at1 S.deps.length ct, .slice (some ⟨bb, ob, none⟩) S.deps.length cb] 27)).alloc (.cells #[.int .i64 0, .slice none 0 0] 50)) := ((Ext.refl _ _).alloc _).alloc _
 have HA := Lib.hid (show ((W.alloc (.cells #[.int .i64 (S.w : Int), .slice ad S.deps.length cd, .slice at1 S.deps.length ct, .slice (some ⟨bb, ob, none⟩) S.deps.length cb] 27)).alloc (.cells #[.int .i64 0, .slice none 0 0] 50)).heap[W.heap.size]? = some (.cells #[.int .i64 (S.w : Int), .slice ad S.deps.length cd, .slice at1 S.deps.length ct, .slice (some ⟨bb, ob, none⟩) S.deps.length cb] 27 (0, 0)) from alloc_under (alloc_top rfl))
 have HC := Lib.hid (show ((W.alloc (.cells #[.int .i64 (S.w : Int), .slice ad S.deps.length cd, .slice at1 S.deps.length ct, .slice (some ⟨bb, ob, none⟩) S.deps.length cb] 27)).alloc (.cells #[.int .i64 0, .slice none 0 0] 50)).heap[W.heap.size + 1]? = some (.cells #[.int .i64 0, .slice none 0 0] 50 (0, 0)) from alloc_top (by simp))
 replace g0 := hx0.keep g0
 replace g1 := hx0.keep g1
 have hs2 := hset.out.extNo hx0
 have hlW : W.heap.size < ((W.alloc (.cells #[.int .i64 (S.w : Int), .slice ad S.deps.length cd, .slice at1 S.deps.length ct, .slice (some ⟨bb, ob, none⟩) S.deps.length cb] 27)).alloc (.cells #[.int .i64 0, .slice none 0 0] 50)).heap.size := lt_of_block HA.out
 go_upto_region 1 with (fail)
 generalize ((W.alloc (.cells #[.int .i64 (S.w : Int), .slice ad S.deps.length cd, .slice at1 S.deps.length ct, .slice (some ⟨bb, ob, none⟩) S.deps.length cb] 27)).alloc (.cells #[.int .i64 0, .slice none 0 0] 50)) = w2 at *
 have cA := cellOf HA.out
 go_upto_region 2 with (fail)
 clear cA g0 g1
 have hxd : Ext No w2 (w2.alloc (.cells #[.int .i64 (S.w : Int), .slice aq0 (nw S.w) cq0] 50)) := (Ext.refl _ _).alloc _
 have hlow : W.heap.size + 1 < w2.heap.size := lt_of_block HC.out
 have hm0 := Lib.hid (show RtS M W (w2.alloc (.cells #[.int .i64 (S.w : Int), .slice aq0 (nw S.w) cq0] 50)) #[.int .i64 (S.w : Int), .slice ad S.deps.length cd, .slice at1 S.deps.length ct, .slice (some ⟨bb, ob, none⟩) S.deps.length cb] w2.heap.size S.w (rowD S.bnd n) aq0 cq0 from ⟨hx0.transNo hxd, hxd.blk HA.out no_no, hxd.blk HC.out no_no, alloc_top rfl, ((hset.out.mono (M' := fun b => M b ∨ b = W.heap.size + 1 ∨ b = w2.heap.size) (fun i hi e => by rcases e with e | e | e; exact e; omega; omega)).extNo hx0).extNo hxd, hlow⟩)
 clear hx0 HA HC hset hs2 hxd hlow hlW
 generalize (w2.alloc (.cells #[.int .i64 (S.w : Int), .slice aq0 (nw S.w) cq0] 50)) = wq at *
 generalize w2.heap.size = D at *
 obtain ⟨bd, od, kd, aq, cq, hve, gd0, hint⟩ := H.out.dep HN.out
 simp only [Value.slice.injEq] at hve
 obtain ⟨rfl, -, rfl⟩ := hve
 obtain ⟨d, hd⟩ : ∃ d, d = depD S n := ⟨_, rfl⟩
 rw [← hd] at gd0 hint
 have HINT := Lib.hid hint.out
 have HG := Lib.hid gd0
 have gd := hm0.out.ext.keep gd0
 have cA := cellOf hm0.out.boxS
 have HD := Lib.hid hd
 have hdl := HINT.out.2.1
 have hdz : (natsZ d).length = d.length := by simp [natsZ]
 rw [hdz] at hdl
 clear hdz hd gd0 hint
 go_wp2_with fail
 clear gd cA
 go_loopw [8, 9, 10, 11] (fun i _ _ _ wr => ∃ (k : Nat) (a : Option Addr) (c : Nat), i = .int .i64 k ∧ k ≤ d.length ∧ Hid (RtS M W wr #[.int .i64 (S.w : Int), .slice (some ⟨bd, od, none⟩) S.deps.length cd, .slice at1 S.deps.length ct, .slice (some ⟨bb, ob, none⟩) S.deps.length cb] D S.w (rightK S vs n k) a c)) (fun i _ _ _ _ => d.length - (intOf i).toNat)
 case atStart => exact ⟨0, aq0, cq0, rfl, Nat.zero_le _, hm0⟩
 clear hm0
 obtain ⟨k, a1, c1, rfl, hk, hm⟩ := hrel
 rename World => wr
 have cA := cellOf hm.out.boxS
 have gd := hm.out.ext.keep HG.out
 by_cases hlt : k < d.length
 ·have hlz : (k : Int) < (d.length : Int) := by omega
  have hkz : k < (natsZ d).length := by simp [natsZ]; exact hlt
  obtain ⟨b, off, cap', hsl, hb1, _, hcell⟩ := Ints.at (Row.extNo HINT.out hm.out.ext) hkz
  simp only [Value.slice.injEq] at hsl
  obtain ⟨rfl, -, rfl⟩ := hsl
  have q0 := hcell k hkz
  clear hcell hb1
  have hmd : d[k] < S.deps.length := HOK.out.dep (i := n) (by rw [← HD.out]; exact List.getElem_mem hlt)
  have hRS : rightK S vs n (k + 1) = orN (rightK S vs n k) (applyT (trD S d[k]) (rowD vs d[k])) := by
   have h1 : k < (depD S n).length := by rw [← HD.out]; exact hlt
   rw [rightK_succ h1]
   simp only [← HD.out]
  have HRS := Lib.hid hRS
  have he : (natsZ d)[k] = ((d[k] : Nat) : Int) := by simp [natsZ]
  rw [he] at q0
  clear hRS he hkz
  generalize d[k] = m at *
  obtain ⟨bt, ot, kt, ag, cg, ak, ck, ac, nc, cc, hve, gt, htr, htw⟩ := (H.out.extNo hm.out.ext).tr hmd
  simp only [Value.slice.injEq] at hve
  obtain ⟨rfl, -, rfl⟩ := hve
  obtain ⟨bv, ov, kv, a9, c9, hve, gv, hvs⟩ := (HV.out.extNo hm.out.ext).cells (i := m) (by rw [HL.out]; exact hmd)
  simp only [Value.slice.injEq] at hve
  obtain ⟨rfl, -, rfl⟩ := hve
  have HGT := Lib.hid gt
  have HGV := Lib.hid gv
  have hB := Lib.hid hm.out.boxS
  have hmS : (m : Int) < (S.deps.length : Int) := by omega
  have hmV : (m : Int) < (vs.length : Int) := by have := HL.out; omega
  clear gt gv
  go_upto_region 6 with (fail)
  clear q0 cA gd
  go_cut [10, 11] (fun s10 s11 wx => ∃ E a2 c2, s10 = .pointer (some ⟨E, 0, none⟩) ∧ Hid (RtS M W wx #[.int .i64 (S.w : Int), .slice (some ⟨bd, od, none⟩) S.deps.length cd, .slice (some ⟨bt, ot, none⟩) S.deps.length ct, .slice (some ⟨bb, ob, none⟩) S.deps.length cb] D S.w (rightK S vs n k) a1 c1) ∧ Hid (Ext No wr wx) ∧ Hid (wx.heap[E]? = some (.cells #[.int .i64 (S.w : Int), .slice a2 (nw S.w) c2] 50 (0, 0))) ∧ Hid (SetAt No wx (.slice a2 (nw S.w) c2) S.w (applyT (trD S m) (rowD vs m))))
  case first =>
   refine wp_region_held_drew (S := (fun w' => Ext No wr w')) (by kernel_rfl) ?_ (fun hHeld => ?_)
   ·exact (Ext.refl _ _).drew
   generalize wr.drew = v0 at *
   refine hHs [0, 1, 2, 3] ?_
   iterate 4
    refine hTn ?_ hHeld (fun w hSw => ?_) ?_
    rotate_left
    ·(have hEs : Ext No wr _ := hSw); (have q0 := cellOf (hEs.blk hB.out no_no)); go_simp; (try with_reducible rfl)
    simp only [Act.put, nzA, nzB, nzC]
   refine hHe ?_
   refine hHs [4, 5, 6, 7] ?_
   iterate 4
    refine hTn ?_ hHeld (fun w hSw => ?_) ?_
    rotate_left
    ·(have hEs : Ext No wr _ := hSw); (obtain ⟨p0, p1, p2, p3, p4⟩ := HGT.out); (have q0 := hEs.keep p0); (have q1 := hEs.keep p1); (have q2 := hEs.keep p2); (have q3 := hEs.keep p3); (have q4 := hEs.keep p4); go_simp; (try with_reducible rfl)
    simp only [Act.put, nzA, nzB, nzC]
   refine hHe ?_
   refine hTk 8 ?_ hHeld (fun w hSw => ?_) ?_
   rotate_left
   ·(have hEs : Ext No wr _ := hSw); (obtain ⟨p0, p1⟩ := HGV.out); (have x0 := hEs.keep p0); (have x1 := hEs.keep p1); go_simp; (try with_reducible rfl)
   simp only [Act.put, nzA, nzB, nzC]
   refine held_next2 (i := 9) (j := 13) (by kernel_rfl) (NextOp.mk rfl rfl (fun K hK => ?_)) (NextOp.mk rfl rfl (fun K hK => ?_))
   ·((have hEx : Ext No wr _ := hHeld); go_simp; (go_at_call 124); (refine (rapply_w (fun b => wr.heap.size ≤ b ∧ b < v0.heap.size) (trD S m) S.w (rowD vs m) _ _ _ _ _ htw.out (fun _ e => e.2) ((htr.out.no.mono (M' := (fun b => wr.heap.size ≤ b ∧ b < v0.heap.size)) (fun i hi e => by omega)).extNo hEx) (hvs.out.no.extNo hEx)).mono ?_); (rintro e9 v1 ⟨aq, cq, rfl, hsq, hyA⟩); go_simp)
    refine hK.out _ _ ?_ ?_
    ·exact Ext.transNo (show Ext No wr _ from hHeld) hyA
    clear hK K hHeld
    intro hHeld
    have hS := Lib.hid hsq.out.no
    clear hEx hsq hyA
    try simp only [Act.put, nzA, nzB, nzC]
    refine hHs [10, 11, 12] ?_
    iterate 3
     refine hTn ?_ hHeld (fun w hSw => ?_) ?_
     rotate_left
     ·go_simp; (try with_reducible rfl)
     simp only [Act.put, nzA, nzB, nzC]
    refine hHe ?_
    refine hHc 13 fun K hK => ?_
    ((have hEV : wr.heap.size ≤ v1.heap.size := (show Ext No wr _ from hHeld).size); go_simp)
    refine hK.out _ _ ?_ ?_
    ·exact Ext.alloc (show Ext No wr _ from hHeld) _
    clear hK K hHeld
    intro hHeld
    have hBE := Lib.hid (alloc_top (w := v1) (o := (.cells #[.int .i64 0, .slice none 0 0] 50)) rfl)
    replace hS := Lib.hid ((hS.out.mono (M' := fun b => b = v1.heap.size) (fun i hi e => by omega)).extNo ((Ext.refl No v1).alloc (.cells #[.int .i64 0, .slice none 0 0] 50)))
    generalize (v1.alloc (.cells #[.int .i64 0, .slice none 0 0] 50)) = v2 at *
    generalize v1.heap.size = E at *
    try simp only [Act.put, nzA, nzB, nzC]
    refine hHc 14 fun K hK => ?_
    ((have cS := cellOf hBE.out); (have fS := freeOf hBE.out); go_simp; (clear cS fS))
    refine hK.out _ _ ?_ ?_
    ·exact ext2 (show Ext No wr _ from hHeld) hEV
    clear hK K hHeld
    intro hHeld
    try simp only [Act.put, nzA, nzB, nzC]
    refine hTk 15 ?_ hHeld (fun w hSw => ?_) ?_
    rotate_left
    ·go_simp; (try with_reducible rfl)
    simp only [Act.put, nzA, nzB, nzC]
    refine wpAnyH_done (by kernel_rfl) ?_ _
    have hEx : Ext No wr _ := hHeld
    go_wp2_with fail
    go_meet
    have hE2 : Ext (At E) v2 _ := ext_two (Ext.refl No v2) E (u0 := .int .i64 (S.w : Int)) (u1 := .slice aq (nw S.w) cq)
    exact ⟨E, aq, cq, rfl, Lib.hid (hm.out.step hEx), Lib.hid hEx, Lib.hid ((set_same (j := 1) (set_same (j := 0) hBE.out)).trans rfl), Lib.hid (hS.out.ext hE2 (fun i _ e => e)).no⟩
   ((have hEV : wr.heap.size ≤ v0.heap.size := (show Ext No wr _ from hHeld).size); go_simp)
   refine hK.out _ _ ?_ ?_
   ·exact Ext.alloc (show Ext No wr _ from hHeld) _
   clear hK K hHeld
   intro hHeld
   have hBE := Lib.hid (alloc_top (w := v0) (o := (.cells #[.int .i64 0, .slice none 0 0] 50)) rfl)
   generalize (v0.alloc (.cells #[.int .i64 0, .slice none 0 0] 50)) = v1 at *
   generalize v0.heap.size = E at *
   try simp only [Act.put, nzA, nzB, nzC]
   refine hHc 9 fun K hK => ?_
   ((have hEx : Ext No wr _ := hHeld); go_simp; (go_at_call 124); (refine (rapply_w (fun b => wr.heap.size ≤ b ∧ b < v1.heap.size) (trD S m) S.w (rowD vs m) _ _ _ _ _ htw.out (fun _ e => e.2) ((htr.out.no.mono (M' := (fun b => wr.heap.size ≤ b ∧ b < v1.heap.size)) (fun i hi e => by omega)).extNo hEx) (hvs.out.no.extNo hEx)).mono ?_); (rintro e9 v2 ⟨aq, cq, rfl, hsq, hyA⟩); go_simp)
   refine hK.out _ _ ?_ ?_
   ·exact Ext.transNo (show Ext No wr _ from hHeld) hyA
   clear hK K hHeld
   intro hHeld
   have hS := Lib.hid (hsq.out.mono (M' := fun b => b = E) (fun i hi e => by have := lt_of_block hBE.out; omega))
   replace hBE := Lib.hid (hyA.blk hBE.out no_no)
   clear hEx hsq hyA
   try simp only [Act.put, nzA, nzB, nzC]
   refine hHs [10, 11, 12] ?_
   iterate 3
    refine hTn ?_ hHeld (fun w hSw => ?_) ?_
    rotate_left
    ·go_simp; (try with_reducible rfl)
    simp only [Act.put, nzA, nzB, nzC]
   refine hHe ?_
   refine hHc 14 fun K hK => ?_
   ((have cS := cellOf hBE.out); (have fS := freeOf hBE.out); go_simp; (clear cS fS))
   refine hK.out _ _ ?_ ?_
   ·exact ext2 (show Ext No wr _ from hHeld) hEV
   clear hK K hHeld
   intro hHeld
   try simp only [Act.put, nzA, nzB, nzC]
   refine hTk 15 ?_ hHeld (fun w hSw => ?_) ?_
   rotate_left
   ·go_simp; (try with_reducible rfl)
   simp only [Act.put, nzA, nzB, nzC]
   refine wpAnyH_done (by kernel_rfl) ?_ _
   have hEx : Ext No wr _ := hHeld
   go_wp2_with fail
   go_meet
   have hE2 : Ext (At E) v2 _ := ext_two (Ext.refl No v2) E (u0 := .int .i64 (S.w : Int)) (u1 := .slice aq (nw S.w) cq)
   exact ⟨E, aq, cq, rfl, Lib.hid (hm.out.step hEx), Lib.hid hEx, Lib.hid ((set_same (j := 1) (set_same (j := 0) hBE.out)).trans rfl), Lib.hid (hS.out.ext hE2 (fun i _ e => e)).no⟩
  case rest =>
   obtain ⟨E, a2, c2, rfl, hm2, hx2, hE, hs2⟩ := hcut
   rename World => wy
   have cD := cellOf hm2.out.boxD
   have cE := cellOf hE.out
   go_wp2_with fail
   clear cD cE
   refine (rjoin_any (fun b => M b ∨ b = W.heap.size + 1 ∨ b = D) S.w (rightK S vs n k) (applyT (trD S m) (rowD vs m)) _ _ _ (hm2.out.hM HM.out) hm2.out.set.no hs2.out).mono ?_
   rintro e9 w9 ⟨a3, c3, rfl, hs3, hx9⟩
   have hm3 := Lib.hid (hm2.out.step hx9)
   have hm4 := Lib.hid (hm3.out.put hs3.out)
   have hlow := hm3.out.low
   have cD := cellOf hm3.out.boxD
   have fD := freeOf hm3.out.boxD
   clear hs3 hx9
   go_wp2_with fail
   clear cD fD
   go_roundw
   case rel => exact ⟨k + 1, a3, c3, by go_num, by omega, by rw [HRS.out]; exact hm4⟩
   case measure => simp [intOf]; omega
 have hge : ¬ (k : Int) < (d.length : Int) := by omega
 have hkk : k = d.length := by omega
 have HK := Lib.hid hkk
 clear hkk
 have cD := cellOf hm.out.boxD
 have cR := cellOf hm.out.boxR
 have fR := freeOf hm.out.boxR
 go_wp2_with fail
 refine ret_ex rfl ?_
 simp [results, Tryz.results97, go_sem, cR]
 refine ⟨_, _, rfl, Lib.hid ?_, ext2 hm.out.ext (by omega)⟩
 have h1 := (hm.out.set.ext (ext_two (Ext.refl No wr) (W.heap.size + 1) (u0 := .int .i64 (S.w : Int)) (u1 := .slice a1 (nw S.w) c1)) (fun i _ e => .inr (.inl e))).mono (M' := M) (fun i _ e => .inl e)
 rw [HK.out, HD.out, rightK_all] at h1
 exact h1

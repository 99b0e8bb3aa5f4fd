/- SolveByComponents of the reference. -/
import Derived.Test.YtkdjdhflhlbelaaK24
import Derived.Deep.LoopGhost
set_option linter.unusedVariables false
set_option linter.unusedSimpArgs false
namespace Go.Proofs.Ytkdjdhflhlbelaa
open Go Go.RowKit Tj
theorem rcsolve_inv (x : Int) (vd vt vb : Value) (Ld : LD) (Lt : LT) (Lb : LS) (W : World) (h : YAt No W vd vt vb Ld Lt Lb) (hn : ¬ VS x Ld Lt Lb) :
  Calls Try.prog 77 #[.agg #[.int .i64 x, vd, vt, vb]] W fun e w' => e = .returned (.tuple #[.slice none 0 0, .int .i64 0, .int .i64 1]) ∧ Ext No W w' := by
 have H := Lib.hid h
 have HN := Lib.hid hn
 clear h hn
 go_enter Try.func77, Try.ntmps77
 go_upto_region 1 with (fail)
 have hx0 : Ext No W (W.alloc (.cells #[.int .i64 x, vd, vt, vb] 29)) := (Ext.refl _ _).alloc _
 have HA := Lib.hid (alloc_top (w := W) (o := (.cells #[.int .i64 x, vd, vt, vb] 29)) rfl)
 generalize (W.alloc (.cells #[.int .i64 x, vd, vt, vb] 29)) = w1 at *
 have cA := cellOf HA.out
 go_wp2_with fail
 refine (rorder_inv x _ _ _ Ld Lt Lb w1 (H.out.extNo hx0) HN.out).mono ?_
 rintro e w2 ⟨rfl, hx⟩
 go_wp2_with fail
 refine ret_ex rfl ?_
 simp [results, Try.results77, go_sem]
 exact hx0.transNo hx
set_option maxRecDepth 100000 in
set_option maxHeartbeats 16000000 in
theorem rcsolve_any (S : SysD) (vd vt vb : Value) (W : World) (h : SysAt No W vd vt vb S) :
  Calls Try.prog 77 #[.agg #[.int .i64 (S.w : Int), vd, vt, vb]] W (CSolvePost No S W) := by
 have H := Lib.hid h
 have hok := h.ok
 have HOK := Lib.hid hok
 have hnn := hok.n2
 have hn1 := hok.n1
 have hww := hok.w
 obtain ⟨ad, cd, at1, ct, ab, cb, rfl, rfl, rfl⟩ := h.slices
 clear h hok
 go_enter Try.func77, Try.ntmps77
 go_upto_region 1 with (fail)
 have hx0 : Ext No W (W.alloc (.cells #[.int .i64 (S.w : Int), .slice ad S.deps.length cd, .slice at1 S.deps.length ct, .slice ab S.deps.length cb] 29)) := (Ext.refl _ _).alloc _
 have HA := Lib.hid (alloc_top (w := W) (o := (.cells #[.int .i64 (S.w : Int), .slice ad S.deps.length cd, .slice at1 S.deps.length ct, .slice ab S.deps.length cb] 29)) rfl)
 have hAw := lt_of_block HA.out
 generalize (W.alloc (.cells #[.int .i64 (S.w : Int), .slice ad S.deps.length cd, .slice at1 S.deps.length ct, .slice ab S.deps.length cb] 29)) = w1 at *
 generalize W.heap.size = A at *
 have cA := cellOf HA.out
 go_wp2_with fail
 refine (rorder_any S _ _ _ _ (H.out.extNo hx0)).mono ?_
 rintro e2 V ⟨g, R, ao, co, Ld, hgo, hord, rfl, hLd, hLA2, hLn, hx2⟩
 have HGO := Lib.hid hgo
 have HORD := Lib.hid hord
 obtain ⟨L, hL⟩ : ∃ L, L = (ordS S g R).2 := ⟨_, rfl⟩
 rw [← hL] at hLd
 have HLL := Lib.hid hL
 have HLC : Hid (∀ c ∈ L, ∀ n ∈ c, n < S.deps.length) := Lib.hid (by rw [hL]; exact ordS_lt S g R)
 have HLE : Hid (∀ c ∈ L, c.length ≤ S.deps.length ∧ 1 ≤ c.length) := Lib.hid (by rw [hL]; exact ordS_len S g R)
 obtain ⟨nl, hnl⟩ : ∃ nl, nl = L.length := ⟨_, rfl⟩
 have hlen : Ld.length = nl := by rw [hnl]; have := congrArg List.length hLd.out; simpa using this
 rw [hlen] at hLn hLA2 ⊢
 have HNL := Lib.hid hnl
 have HA2 := Lib.hid (hx2.blk HA.out no_no)
 clear cA
 have cA := cellOf HA2.out
 clear hgo hord hL hnl hlen
 go_wp2_with fail
 clear cA
 refine (rEmptyO_any S _ _ _ V ((H.out.extNo hx0).extNo hx2)).mono ?_
 rintro e3 w3 ⟨gv, cap, Q, rfl, hgv, hQ, he, hx3⟩
 have hw2 := lt_of_block HA2.out
 have HAV := Lib.hid (hx3.blk HA2.out no_no)
 have HXV := Lib.hid (hx0.transNo hx2)
 have hLA := hLA2
 have hx3' := hx3
 obtain ⟨sx, hsx⟩ : ∃ sx : Array Value, sx = #[.int .i64 (S.w : Int), .slice ad S.deps.length cd, .slice at1 S.deps.length ct, .slice ab S.deps.length cb] := ⟨_, rfl⟩
 rw [← hsx] at HAV
 have HSX := Lib.hid hsx
 have hm0 := Lib.hid (show SoR S V w3 A gv cap sx (zerosD S) from ⟨hx3, HAV.out, ⟨Q, hQ.out, he.out⟩, good_zeros S, hww, by omega⟩)
 clear hsx hQ he HA HA2 hx0 hx2 hx3 hx3'
 go_wp2_with fail
 go_loopw [8, 9, 10, 11, 12, 13, 14] (fun s8 i _ _ _ _ _ wx => ∃ (k cnt : Nat) (vs : List Nat), i = .int .i64 k ∧ s8 = .int .i64 cnt ∧ k ≤ nl ∧ cnt + (remV S vs + (nl - k)) * S.deps.length ≤ 16842752 ∧ Hid (UpV S vs) ∧ Hid (SoR S V wx A gv cap sx (vs)) ∧ Hid (SRun S L k vs cnt)) (fun _ i _ _ _ _ _ _ => nl - (intOf i).toNat)
 case atStart => exact ⟨0, 0, _, rfl, rfl, Nat.zero_le _, start_bound hnn hww hLn, Lib.hid (up_zeros S), hm0, Lib.hid .zero⟩
 case round =>
  clear hm0
  obtain ⟨k, cnt, vs, rfl, rfl, hk, hbd, hup, hm, hrun⟩ := hrel
  rename World => wr
  by_cases hlt : k < nl
  ·have hlz : (k : Int) < (nl : Int) := by omega
   have HKK : Hid (Value.int .i64 ((k : Int) + 1) = .int .i64 ((k + 1 : Nat) : Int)) := Lib.hid (by rw [show ((k + 1 : Nat) : Int) = (k : Int) + 1 from by omega])
   have hkL : k < L.length := by rw [← HNL.out]; exact hlt
   obtain ⟨bo, oo, ko, ac, cc, hve, gc, hic⟩ := ld_at (hLA.out.extNo hm.out.ext) hLd.out hkL
   rw [← HNL.out] at hve
   simp only [Value.slice.injEq] at hve
   obtain ⟨rfl, -, rfl⟩ := hve
   obtain ⟨c, hc⟩ : ∃ c, c = L[k] := ⟨_, rfl⟩
   have hcN := HLC.out L[k] (List.getElem_mem hkL)
   have hcl := HLE.out L[k] (List.getElem_mem hkL)
   rw [← hc] at hic gc hcN hcl
   have HC := Lib.hid hc
   have HCN := Lib.hid hcN
   obtain ⟨cl, hcl0⟩ : ∃ cl, cl = c.length := ⟨_, rfl⟩
   have HCL := Lib.hid hcl0
   rw [← hcl0] at hic gc hcl
   obtain ⟨hcl1, hcl2⟩ := hcl
   have HBD := Lib.hid hbd
   have HIC0 := Lib.hid (show Ints No V .i64 (.slice ac cl cc) (natsZ c) from by
    obtain ⟨bo2, oo2, ko2, ac2, cc2, hve2, gc2, hic2⟩ := ld_at hLA.out hLd.out hkL
    rw [← HNL.out] at hve2
    simp only [Value.slice.injEq, Option.some.injEq, Addr.mk.injEq] at hve2
    obtain ⟨⟨rfl, rfl, -⟩, -, -⟩ := hve2
    have e := hm.out.ext.keep gc2
    rw [gc, ← hc, ← hcl0] at e
    simp only [Option.some.injEq, Value.slice.injEq] at e
    obtain ⟨rfl, -, rfl⟩ := e
    rw [← hc, ← hcl0] at hic2
    exact hic2.out)
   clear hc hcN hcl0 hbd hic
   obtain ⟨n0, hn0⟩ : ∃ n0, n0 = c.headD 0 := ⟨_, rfl⟩
   obtain ⟨bc, oc, kc, hvc, hbc, -, hcell⟩ := IntsN.at HIC0.out (i := 0) (by rw [← HCL.out]; omega)
   rw [← HCL.out] at hvc
   simp only [Value.slice.injEq] at hvc
   obtain ⟨rfl, -, rfl⟩ := hvc
   have HCC := Lib.hid hcell
   have hq0 := hcell 0 (by rw [← HCL.out]; omega)
   have hn0' : n0 = c[0]'(by rw [← HCL.out]; omega) := by rw [hn0]; exact head_get _
   rw [← hn0', Nat.add_zero] at hq0
   have hn0N : n0 < S.deps.length := HCN.out n0 (by rw [hn0']; exact List.getElem_mem _)
   have HQ0 := Lib.hid (hm.out.ext.keep hq0)
   have HON : Hid (onceB S c = ((cl == 1) && !(depD S n0).contains n0)) := Lib.hid (by rw [hn0]; unfold onceB; rw [HCL.out])
   have hn0z : (n0 : Int) < (S.deps.length : Int) := by omega
   have hn0z0 : (0 : Int) ≤ (n0 : Int) := by omega
   have hclz : (0 : Int) < (cl : Int) := by omega
   obtain ⟨bd, od, kd, aq, cq, hvd, gd, hid⟩ := (H.out.extNo (HXV.out.transNo hm.out.ext)).dep hn0N
   simp only [Value.slice.injEq] at hvd
   obtain ⟨rfl, -, rfl⟩ := hvd
   have HGD := Lib.hid gd
   have HBX := Lib.hid hm.out.box
   obtain ⟨ob, hob⟩ : ∃ ob, ob = onceB S c := ⟨_, rfl⟩
   have HOB := Lib.hid hob
   clear hn0 hn0' hq0 hcell hbc gd hob
   go_upto_region 10 with (fail)
   clear gc
   go_cut [11] (fun s11 wx => s11 = .bool ob ∧ Hid (SoR S V wx A gv cap sx (vs)))
   case first =>
    by_cases hc1 : cl = 1
    ·have HR : Hid (onceB S c = !decide (n0 ∈ depD S n0)) := Lib.hid (by rw [HON.out, hc1]; simp)
     subst hc1
     refine wp_region_held_drew (S := (fun w' => Ext No wr w')) (by kernel_rfl) ?_ (fun hHeld => ?_)
     ·exact (Ext.refl _ _).drew
     refine hTk (i := 0) (v := ?_) hHeld (fun w hSw => ?_) ?_
     rotate_left
     ·go_simp; (try with_reducible rfl)
     try simp only [Act.put, nzA, nzB, nzC]
     refine hTk (i := 1) (v := ?_) hHeld (fun w hSw => ?_) ?_
     rotate_left
     ·go_simp; (try with_reducible rfl)
     try simp only [Act.put, nzA, nzB, nzC]
     refine hTk (i := 2) (v := ?_) hHeld (fun w hSw => ?_) ?_
     rotate_left
     ·go_simp; (try with_reducible rfl)
     try simp only [Act.put, nzA, nzB, nzC]
     refine hTk (i := 3) (v := ?_) hHeld (fun w hSw => ?_) ?_
     rotate_left
     ·go_simp; (try with_reducible rfl)
     try simp only [Act.put, nzA, nzB, nzC]
     refine hTk (i := 4) (v := ?_) hHeld (fun w hSw => ?_) ?_
     rotate_left
     ·go_simp; (try with_reducible rfl)
     try simp only [Act.put, nzA, nzB, nzC]
     refine hTk (i := 5) (v := ?_) hHeld (fun w hSw => ?_) ?_
     rotate_left
     ·(have hEs : Ext No wr _ := hSw); (have x0 := cellOf (hEs.blk HBX.out no_no)); (rw [HSX.out] at x0); go_simp; (try with_reducible rfl)
     try simp only [Act.put, nzA, nzB, nzC]
     refine hTk (i := 6) (v := ?_) hHeld (fun w hSw => ?_) ?_
     rotate_left
     ·go_simp; (try with_reducible rfl)
     try simp only [Act.put, nzA, nzB, nzC]
     refine hTk (i := 7) (v := ?_) hHeld (fun w hSw => ?_) ?_
     rotate_left
     ·go_simp; (try with_reducible rfl)
     try simp only [Act.put, nzA, nzB, nzC]
     refine hTk (i := 8) (v := ?_) hHeld (fun w hSw => ?_) ?_
     rotate_left
     ·(have hEs : Ext No wr _ := hSw); (have x0 := hEs.keep HQ0.out); go_simp; (try with_reducible rfl)
     try simp only [Act.put, nzA, nzB, nzC]
     refine hTk (i := 9) (v := ?_) hHeld (fun w hSw => ?_) ?_
     rotate_left
     ·go_simp; (try with_reducible rfl)
     try simp only [Act.put, nzA, nzB, nzC]
     refine hTk (i := 10) (v := ?_) hHeld (fun w hSw => ?_) ?_
     rotate_left
     ·(have hEs : Ext No wr _ := hSw); (have x0 := hEs.keep HGD.out); go_simp; (try with_reducible rfl)
     try simp only [Act.put, nzA, nzB, nzC]
     refine hTk (i := 11) (v := ?_) hHeld (fun w hSw => ?_) ?_
     rotate_left
     ·go_simp; (try with_reducible rfl)
     try simp only [Act.put, nzA, nzB, nzC]
     refine hTk (i := 12) (v := ?_) hHeld (fun w hSw => ?_) ?_
     rotate_left
     ·go_simp; (try with_reducible rfl)
     try simp only [Act.put, nzA, nzB, nzC]
     refine hTk (i := 13) (v := ?_) hHeld (fun w hSw => ?_) ?_
     rotate_left
     ·(have hEs : Ext No wr _ := hSw); (have x0 := hEs.keep HQ0.out); go_simp; (try with_reducible rfl)
     try simp only [Act.put, nzA, nzB, nzC]
     refine held_call (i := 14) rfl (by kernel_rfl) rfl (fun K hK => ?_)
     ((have hEx : Ext No wr _ := hHeld); go_simp; (go_at_call 37); (refine (rhasI_any _ (depD S n0) n0 _ (hid.out.extNo hEx)).mono ?_); (rintro e9 w9 ⟨rfl, hyA⟩); go_simp)
     refine hK.out _ _ ?_ ?_
     ·exact Ext.transNo (show Ext No wr _ from hHeld) hyA
     clear hK K hHeld
     intro hHeld
     try simp only [Act.put, nzA, nzB, nzC]
     refine hTk (i := 15) (v := ?_) hHeld (fun w hSw => ?_) ?_
     rotate_left
     ·go_simp; (try with_reducible rfl)
     try simp only [Act.put, nzA, nzB, nzC]
     refine hTk (i := 16) (v := ?_) hHeld (fun w hSw => ?_) ?_
     rotate_left
     ·go_simp; (try with_reducible rfl)
     try simp only [Act.put, nzA, nzB, nzC]
     refine hTk (i := 17) (v := ?_) hHeld (fun w hSw => ?_) ?_
     rotate_left
     ·go_simp; (try with_reducible rfl)
     try simp only [Act.put, nzA, nzB, nzC]
     refine wpAnyH_done (by kernel_rfl) ?_ _
     have hEx : Ext No wr _ := hHeld
     go_wp2_with fail
     go_meet
     exact ⟨by rw [HOB.out, HR.out], Lib.hid (hm.out.stepNo hEx)⟩
    ·have hc1z : ((cl : Int) == 1) = false := by simp; omega
     have HR : Hid (onceB S c = false) := Lib.hid (by rw [HON.out]; simp [hc1])
     refine wp_region_held_drew (S := (fun w' => Ext No wr w')) (by kernel_rfl) ?_ (fun hHeld => ?_)
     ·exact (Ext.refl _ _).drew
     refine hTk (i := 0) (v := ?_) hHeld (fun w hSw => ?_) ?_
     rotate_left
     ·go_simp; (try with_reducible rfl)
     try simp only [Act.put, nzA, nzB, nzC]
     refine hTk (i := 1) (v := ?_) hHeld (fun w hSw => ?_) ?_
     rotate_left
     ·go_simp; (try with_reducible rfl)
     try simp only [Act.put, nzA, nzB, nzC]
     refine hTk (i := 2) (v := ?_) hHeld (fun w hSw => ?_) ?_
     rotate_left
     ·go_simp; (try with_reducible rfl)
     try simp only [Act.put, nzA, nzB, nzC]
     refine hTk (i := 3) (v := ?_) hHeld (fun w hSw => ?_) ?_
     rotate_left
     ·go_simp; (try with_reducible rfl)
     try simp only [Act.put, nzA, nzB, nzC]
     refine hSk (i := 4) hHeld ?_
     try simp only [Act.put, nzA, nzB, nzC]
     refine hSk (i := 5) hHeld ?_
     try simp only [Act.put, nzA, nzB, nzC]
     refine hSk (i := 6) hHeld ?_
     try simp only [Act.put, nzA, nzB, nzC]
     refine hSk (i := 7) hHeld ?_
     try simp only [Act.put, nzA, nzB, nzC]
     refine hSk (i := 8) hHeld ?_
     try simp only [Act.put, nzA, nzB, nzC]
     refine hSk (i := 9) hHeld ?_
     try simp only [Act.put, nzA, nzB, nzC]
     refine hSk (i := 10) hHeld ?_
     try simp only [Act.put, nzA, nzB, nzC]
     refine hSk (i := 11) hHeld ?_
     try simp only [Act.put, nzA, nzB, nzC]
     refine hSk (i := 12) hHeld ?_
     try simp only [Act.put, nzA, nzB, nzC]
     refine hSk (i := 13) hHeld ?_
     try simp only [Act.put, nzA, nzB, nzC]
     refine hSk (i := 14) hHeld ?_
     try simp only [Act.put, nzA, nzB, nzC]
     refine hSk (i := 15) hHeld ?_
     try simp only [Act.put, nzA, nzB, nzC]
     refine hTk (i := 16) (v := ?_) hHeld (fun w hSw => ?_) ?_
     rotate_left
     ·go_simp; (try with_reducible rfl)
     try simp only [Act.put, nzA, nzB, nzC]
     refine hTk (i := 17) (v := ?_) hHeld (fun w hSw => ?_) ?_
     rotate_left
     ·go_simp; (try with_reducible rfl)
     try simp only [Act.put, nzA, nzB, nzC]
     refine wpAnyH_done (by kernel_rfl) ?_ _
     have hEx : Ext No wr _ := hHeld
     go_wp2_with fail
     go_meet
     exact ⟨by rw [HOB.out, HR.out], Lib.hid (hm.out.stepNo hEx)⟩
   case rest =>
    obtain ⟨rfl, hmc⟩ := hcut
    rename World => wc
    have HGD2 := Lib.hid hm.out.good
    clear hm HQ0 HGD HBX hid
    go_wp2_with fail
    go_loopg [8, 12] (remV S vs + 1) (fun q s8 s12 wx => ∃ (r cn : Nat) (us : List Nat) (ch : Bool), s8 = .int .i64 cn ∧ s12 = .bool ch ∧ Hid (us = iterP S c vs r) ∧ Hid (SoR S V wx A gv cap sx (us)) ∧ Hid (cn = cnt + r * cl) ∧ Hid (PassI S c vs us r q cn nl k ob ch))
    case atStart => exact ⟨0, cnt, vs, true, rfl, rfl, Lib.hid rfl, hmc, Lib.hid (by omega), Lib.hid ⟨HBD.out, Nat.le_refl _, fun r' hr' => absurd hr' (Nat.not_lt_zero _), fun e => absurd e (Nat.lt_irrefl _)⟩⟩
    case round =>
     clear hmc
     obtain ⟨r, cn, us, ch, rfl, rfl, hus, hmu, hcn, hI⟩ := hrel
     have HPI := Lib.hid (show PassOk S vs us from by rw [hus.out]; exact iterP_ok HOK.out HGD2.out hup.out HCN.out r)
     cases ch with
     | false =>
      go_wp2_with fail
      go_roundw
      case rel => exact ⟨k + 1, cn, us, HKK.out, rfl, by omega, hI.out.1, Lib.hid HPI.out.up, hmu, Lib.hid (by
       have h := SRun.succ hrun.out hkL (by rw [← HC.out]; exact hI.out.2)
       rw [← HC.out, ← HCL.out, ← hcn.out] at h
       exact h)⟩
      case measure => simp [intOf]; omega
     | true =>
      have hcnb : cn ≤ 16842752 := by have := hI.out.1; omega
      go_wp2_with fail
      go_loopw [8, 12, 13, 14] (fun s8 s12 i _ wx => ∃ (j cj : Nat) (b : Bool), i = .int .i64 j ∧ s8 = .int .i64 cj ∧ s12 = .bool b ∧ j ≤ cl ∧ cj = cn + j ∧ Hid (b = decide (passK S c us j ≠ us)) ∧ Hid (SoR S V wx A gv cap sx (passK S c us j))) (fun _ _ i _ _ => cl - (intOf i).toNat)
      case atStart => exact ⟨0, cn, false, rfl, rfl, rfl, Nat.zero_le _, rfl, Lib.hid (by rw [passK_zero]; simp), by rw [passK_zero]; exact hmu⟩
      case round =>
       clear hmu
       obtain ⟨j, cj, b, rfl, rfl, rfl, hj, hcj, hb, hmx⟩ := hrel
       rename World => wx
       have HCJ0 := Lib.hid hcj
       have hcjb : cj ≤ 16843008 := by omega
       clear hcj
       by_cases hlt2 : j < cl
       ·have hjz : (j : Int) < (cl : Int) := by omega
        have HJJ : Hid (Value.int .i64 ((j : Int) + 1) = .int .i64 ((j + 1 : Nat) : Int)) := Lib.hid (by rw [show ((j + 1 : Nat) : Int) = (j : Int) + 1 from by omega])
        have HCJ : Hid (Value.int .i64 ((cj : Int) + 1) = .int .i64 ((cj + 1 : Nat) : Int)) := Lib.hid (by rw [show ((cj + 1 : Nat) : Int) = (cj : Int) + 1 from by omega])
        have hjc : j < c.length := by rw [← HCL.out]; exact hlt2
        obtain ⟨n, hn⟩ : ∃ n, n = c[j] := ⟨_, rfl⟩
        have hq0 := hmx.out.ext.keep (HCC.out j hjc)
        rw [← hn] at hq0
        have hnN : n < S.deps.length := HCN.out n (by rw [hn]; exact List.getElem_mem hjc)
        have hnz : (n : Int) < (S.deps.length : Int) := by omega
        have hnz0 : (0 : Int) ≤ (n : Int) := by omega
        obtain ⟨ps, hps⟩ : ∃ ps, ps = passK S c us j := ⟨_, rfl⟩
        rw [← hps] at hmx hb
        have HPS := Lib.hid (show passK S c us (j + 1) = ps.set n (rightD S ps n) from by rw [passK_succ hjc, ← hps, ← hn])
        have HNE := Lib.hid (show decide (passK S c us (j + 1) ≠ us) = (b || !decide (rightD S ps n = rowD ps n)) from by
         rw [hb.out]
         by_cases e : ps = us
         ·have h1 := pass_same HPI.out.good hjc (by rw [← hn]; exact hnN) (by rw [← hps]; exact e)
          rw [← hn] at h1
          rw [e]
          simp only [ne_eq, not_true, decide_false, Bool.false_or]
          rw [← decide_not, decide_eq_decide]
          exact not_congr h1
         ·have h1 := pass_keep HOK.out HPI.out.good HPI.out.up HCN.out hjc (by rw [← hps]; exact e)
          simp [e, h1])
        have HQN := Lib.hid hq0
        clear hn hps hq0
        go_upto_region 17 with (fail)
        have hVx := hmx.out.ext.size
        have hWV := HXV.out.size
        have hgx := hmx.out.lt hn1
        go_cut [14] (fun s14 wy => ∃ (E : Nat) (aq : Option Addr) (cq : Nat), s14 = .pointer (some ⟨E, 0, none⟩) ∧ Hid (Ext No wx wy) ∧ Hid (wy.heap[E]? = some (.cells #[.int .i64 (S.w : Int), .slice aq (nw S.w) cq] 33 (0, 0))) ∧ Hid (SetAt (At gv) wy (.slice aq (nw S.w) cq) S.w (rightD S ps n)))
        case first =>
         refine wp_region_held_drew (S := (fun w' => Ext No wx w')) (by kernel_rfl) ?_ (fun hHeld => ?_)
         ·exact (Ext.refl _ _).drew
         generalize wx.drew = v0 at *
         refine hTk (i := 0) (v := ?_) hHeld (fun w hSw => ?_) ?_
         rotate_left
         ·(have hEs : Ext No wx _ := hSw); (have x0 := cellOf (hEs.blk hmx.out.box no_no)); (rw [HSX.out] at x0); go_simp; (try with_reducible rfl)
         try simp only [Act.put, nzA, nzB, nzC]
         refine hTk (i := 1) (v := ?_) hHeld (fun w hSw => ?_) ?_
         rotate_left
         ·go_simp; (try with_reducible rfl)
         try simp only [Act.put, nzA, nzB, nzC]
         refine hTk (i := 2) (v := ?_) hHeld (fun w hSw => ?_) ?_
         rotate_left
         ·go_simp; (try with_reducible rfl)
         try simp only [Act.put, nzA, nzB, nzC]
         refine hTk (i := 3) (v := ?_) hHeld (fun w hSw => ?_) ?_
         rotate_left
         ·go_simp; (try with_reducible rfl)
         try simp only [Act.put, nzA, nzB, nzC]
         refine hTk (i := 4) (v := ?_) hHeld (fun w hSw => ?_) ?_
         rotate_left
         ·go_simp; (try with_reducible rfl)
         try simp only [Act.put, nzA, nzB, nzC]
         refine hTk (i := 5) (v := ?_) hHeld (fun w hSw => ?_) ?_
         rotate_left
         ·(have hEs : Ext No wx _ := hSw); (have x0 := hEs.keep HQN.out); go_simp; (try with_reducible rfl)
         try simp only [Act.put, nzA, nzB, nzC]
         refine held_next2 (i := 6) (j := 7) (by kernel_rfl) (NextOp.mk rfl rfl (fun K hK => ?_)) (NextOp.mk rfl rfl (fun K hK => ?_))
         ·((have hEx : Ext No wx _ := hHeld); go_simp; (go_at_call 107); (refine (rright_any (fun b => V.heap.size ≤ b ∧ b < v0.heap.size) S _ _ _ _ ps n _ (fun _ e => e.2) ((H.out.mono (M' := (fun b => V.heap.size ≤ b ∧ b < v0.heap.size)) (fun i hi e => by omega)).extNo ((HXV.out.transNo hmx.out.ext).transNo hEx)) (hmx.out.sets.extNo hEx) hmx.out.good.len hnN).mono ?_); (rintro e9 v1 ⟨aq, cq, rfl, hsq, hyA⟩); go_simp)
          refine hK.out _ _ ?_ ?_
          ·exact Ext.transNo (show Ext No wx _ from hHeld) hyA
          clear hK K hHeld
          intro hHeld
          have hEs := hEx.size
          have hS := Lib.hid (hsq.out.mono (M' := fun b => b = gv) (fun i hi e => by omega))
          clear hEx hsq hyA hEs
          try simp only [Act.put, nzA, nzB, nzC]
          refine held_call (i := 7) rfl (by kernel_rfl) rfl (fun K hK => ?_)
          ((have hEV : wx.heap.size ≤ v1.heap.size := (show Ext No wx _ from hHeld).size); go_simp)
          refine hK.out _ _ ?_ ?_
          ·exact Ext.alloc (show Ext No wx _ from hHeld) _
          clear hK K hHeld
          intro hHeld
          have hBE := Lib.hid (alloc_top (w := v1) (o := (.cells #[.int .i64 0, .slice none 0 0] 33)) rfl)
          replace hS := Lib.hid ((hS.out.mono (M' := fun b => b = v1.heap.size ∨ b = gv) (fun i hi e => by rcases e with e | e; omega; exact e)).extNo ((Ext.refl No v1).alloc (.cells #[.int .i64 0, .slice none 0 0] 33)))
          generalize (v1.alloc (.cells #[.int .i64 0, .slice none 0 0] 33)) = v2 at *
          generalize v1.heap.size = E at *
          try simp only [Act.put, nzA, nzB, nzC]
          refine held_call (i := 8) rfl (by kernel_rfl) rfl (fun K hK => ?_)
          ((have cS := cellOf hBE.out); (have fS := freeOf hBE.out); go_simp; (clear cS fS))
          refine hK.out _ _ ?_ ?_
          ·exact ext2 (show Ext No wx _ from hHeld) hEV
          clear hK K hHeld
          intro hHeld
          try simp only [Act.put, nzA, nzB, nzC]
          refine wpAnyH_done (by kernel_rfl) ?_ _
          have hEx : Ext No wx _ := hHeld
          go_wp2_with fail
          go_meet
          have hE2 : Ext (At E) v2 _ := ext_two (Ext.refl No v2) E (u0 := .int .i64 (S.w : Int)) (u1 := .slice aq (nw S.w) cq)
          exact ⟨E, aq, cq, rfl, Lib.hid hEx, Lib.hid ((set_same (j := 1) (set_same (j := 0) hBE.out)).trans rfl), Lib.hid ((hS.out.ext hE2 (fun i _ e => .inl e)).mono (fun i _ e => .inr e))⟩
         ·((have hEV : wx.heap.size ≤ v0.heap.size := (show Ext No wx _ from hHeld).size); go_simp)
          refine hK.out _ _ ?_ ?_
          ·exact Ext.alloc (show Ext No wx _ from hHeld) _
          clear hK K hHeld
          intro hHeld
          have hBE := Lib.hid (alloc_top (w := v0) (o := (.cells #[.int .i64 0, .slice none 0 0] 33)) rfl)
          generalize (v0.alloc (.cells #[.int .i64 0, .slice none 0 0] 33)) = v1 at *
          generalize v0.heap.size = E at *
          try simp only [Act.put, nzA, nzB, nzC]
          refine held_call (i := 6) rfl (by kernel_rfl) rfl (fun K hK => ?_)
          ((have hEx : Ext No wx _ := hHeld); go_simp; (go_at_call 107); (refine (rright_any (fun b => V.heap.size ≤ b ∧ b < v1.heap.size) S _ _ _ _ ps n _ (fun _ e => e.2) ((H.out.mono (M' := (fun b => V.heap.size ≤ b ∧ b < v1.heap.size)) (fun i hi e => by omega)).extNo ((HXV.out.transNo hmx.out.ext).transNo hEx)) (hmx.out.sets.extNo hEx) hmx.out.good.len hnN).mono ?_); (rintro e9 v2 ⟨aq, cq, rfl, hsq, hyA⟩); go_simp)
          refine hK.out _ _ ?_ ?_
          ·exact Ext.transNo (show Ext No wx _ from hHeld) hyA
          clear hK K hHeld
          intro hHeld
          have hEs := hEx.size
          have hS := Lib.hid (hsq.out.mono (M' := fun b => b = E ∨ b = gv) (fun i hi e => by have := lt_of_block hBE.out; rcases e with e | e <;> omega))
          replace hBE := Lib.hid (hyA.blk hBE.out no_no)
          clear hEx hsq hyA hEs
          try simp only [Act.put, nzA, nzB, nzC]
          refine held_call (i := 8) rfl (by kernel_rfl) rfl (fun K hK => ?_)
          ((have cS := cellOf hBE.out); (have fS := freeOf hBE.out); go_simp; (clear cS fS))
          refine hK.out _ _ ?_ ?_
          ·exact ext2 (show Ext No wx _ from hHeld) hEV
          clear hK K hHeld
          intro hHeld
          try simp only [Act.put, nzA, nzB, nzC]
          refine wpAnyH_done (by kernel_rfl) ?_ _
          have hEx : Ext No wx _ := hHeld
          go_wp2_with fail
          go_meet
          have hE2 : Ext (At E) v2 _ := ext_two (Ext.refl No v2) E (u0 := .int .i64 (S.w : Int)) (u1 := .slice aq (nw S.w) cq)
          exact ⟨E, aq, cq, rfl, Lib.hid hEx, Lib.hid ((set_same (j := 1) (set_same (j := 0) hBE.out)).trans rfl), Lib.hid ((hS.out.ext hE2 (fun i _ e => .inl e)).mono (fun i _ e => .inr e))⟩
        case rest =>
         obtain ⟨E, aq, cq, rfl, hx5, hbE, hsv⟩ := hcut
         rename World => wy
         have hm5 := Lib.hid (hmx.out.stepNo hx5.out)
         have HQN5 := Lib.hid (hx5.out.keep HQN.out)
         clear hmx HQN hx5
         go_upto_region 19 with (fail)
         obtain ⟨a7, c7, g0, g1, hsq⟩ := hm5.out.cell hnN
         have HG := Lib.hid (And.intro g0 g1)
         obtain ⟨b2, hb2⟩ : ∃ b2, b2 = (b || !decide (rightD S ps n = rowD ps n)) := ⟨_, rfl⟩
         have HB2 := Lib.hid hb2
         clear hb2 g0 g1
         go_cut [12] (fun s12 wz => s12 = .bool b2 ∧ Hid (Ext No wy wz))
         case first =>
          cases b with
          | true =>
           refine wp_region_held_drew (S := (fun w' => Ext No wy w')) (by kernel_rfl) ?_ (fun hHeld => ?_)
           ·exact (Ext.refl _ _).drew
           refine hTk (i := 0) (v := ?_) hHeld (fun w hSw => ?_) ?_
           rotate_left
           ·go_simp; (try with_reducible rfl)
           try simp only [Act.put, nzA, nzB, nzC]
           refine hTk (i := 1) (v := ?_) hHeld (fun w hSw => ?_) ?_
           rotate_left
           ·go_simp; (try with_reducible rfl)
           try simp only [Act.put, nzA, nzB, nzC]
           refine hSk (i := 2) hHeld ?_
           try simp only [Act.put, nzA, nzB, nzC]
           refine hSk (i := 3) hHeld ?_
           try simp only [Act.put, nzA, nzB, nzC]
           refine hSk (i := 4) hHeld ?_
           try simp only [Act.put, nzA, nzB, nzC]
           refine hSk (i := 5) hHeld ?_
           try simp only [Act.put, nzA, nzB, nzC]
           refine hSk (i := 6) hHeld ?_
           try simp only [Act.put, nzA, nzB, nzC]
           refine hSk (i := 7) hHeld ?_
           try simp only [Act.put, nzA, nzB, nzC]
           refine hSk (i := 8) hHeld ?_
           try simp only [Act.put, nzA, nzB, nzC]
           refine hSk (i := 9) hHeld ?_
           try simp only [Act.put, nzA, nzB, nzC]
           refine hSk (i := 10) hHeld ?_
           try simp only [Act.put, nzA, nzB, nzC]
           refine hSk (i := 11) hHeld ?_
           try simp only [Act.put, nzA, nzB, nzC]
           refine hTk (i := 12) (v := ?_) hHeld (fun w hSw => ?_) ?_
           rotate_left
           ·go_simp; (try with_reducible rfl)
           try simp only [Act.put, nzA, nzB, nzC]
           refine hTk (i := 13) (v := ?_) hHeld (fun w hSw => ?_) ?_
           rotate_left
           ·go_simp; (try with_reducible rfl)
           try simp only [Act.put, nzA, nzB, nzC]
           refine wpAnyH_done (by kernel_rfl) ?_ _
           have hEx : Ext No wy _ := hHeld
           go_wp2_with fail
           go_meet
           exact ⟨by rw [HB2.out]; rfl, Lib.hid hEx⟩
          | false =>
           refine wp_region_held_drew (S := (fun w' => Ext No wy w')) (by kernel_rfl) ?_ (fun hHeld => ?_)
           ·exact (Ext.refl _ _).drew
           refine hTk (i := 0) (v := ?_) hHeld (fun w hSw => ?_) ?_
           rotate_left
           ·go_simp; (try with_reducible rfl)
           try simp only [Act.put, nzA, nzB, nzC]
           refine hTk (i := 1) (v := ?_) hHeld (fun w hSw => ?_) ?_
           rotate_left
           ·go_simp; (try with_reducible rfl)
           try simp only [Act.put, nzA, nzB, nzC]
           refine hTk (i := 2) (v := ?_) hHeld (fun w hSw => ?_) ?_
           rotate_left
           ·(have hEs : Ext No wy _ := hSw); (have x0 := cellOf (hEs.blk hbE.out no_no)); go_simp; (try with_reducible rfl)
           try simp only [Act.put, nzA, nzB, nzC]
           refine hTk (i := 3) (v := ?_) hHeld (fun w hSw => ?_) ?_
           rotate_left
           ·go_simp; (try with_reducible rfl)
           try simp only [Act.put, nzA, nzB, nzC]
           refine hTk (i := 4) (v := ?_) hHeld (fun w hSw => ?_) ?_
           rotate_left
           ·go_simp; (try with_reducible rfl)
           try simp only [Act.put, nzA, nzB, nzC]
           refine hTk (i := 5) (v := ?_) hHeld (fun w hSw => ?_) ?_
           rotate_left
           ·go_simp; (try with_reducible rfl)
           try simp only [Act.put, nzA, nzB, nzC]
           refine hTk (i := 6) (v := ?_) hHeld (fun w hSw => ?_) ?_
           rotate_left
           ·go_simp; (try with_reducible rfl)
           try simp only [Act.put, nzA, nzB, nzC]
           refine hTk (i := 7) (v := ?_) hHeld (fun w hSw => ?_) ?_
           rotate_left
           ·(have hEs : Ext No wy _ := hSw); (have x0 := hEs.keep HQN5.out); go_simp; (try with_reducible rfl)
           try simp only [Act.put, nzA, nzB, nzC]
           refine hTk (i := 8) (v := ?_) hHeld (fun w hSw => ?_) ?_
           rotate_left
           ·go_simp; (try with_reducible rfl)
           try simp only [Act.put, nzA, nzB, nzC]
           refine hTk (i := 9) (v := ?_) hHeld (fun w hSw => ?_) ?_
           rotate_left
           ·(have hEs : Ext No wy _ := hSw); (obtain ⟨p0, p1⟩ := HG.out); (have x0 := hEs.keep p0); (have x1 := hEs.keep p1); go_simp; (try with_reducible rfl)
           try simp only [Act.put, nzA, nzB, nzC]
           refine held_call (i := 10) rfl (by kernel_rfl) rfl (fun K hK => ?_)
           ((have hEx : Ext No wy _ := hHeld); go_simp; (go_at_call 52); (refine (rsame_d2 S.w (rightD S ps n) (rowD ps n) _ _ _ (hsv.out.no.extNo hEx) (hsq.out.extNo hEx)).mono ?_); (rintro e9 w9 ⟨rfl, hyA⟩); go_simp)
           refine hK.out _ _ ?_ ?_
           ·exact Ext.transNo (show Ext No wy _ from hHeld) hyA
           clear hK K hHeld
           intro hHeld
           try simp only [Act.put, nzA, nzB, nzC]
           refine hTk (i := 11) (v := ?_) hHeld (fun w hSw => ?_) ?_
           rotate_left
           ·go_simp; (try with_reducible rfl)
           try simp only [Act.put, nzA, nzB, nzC]
           refine hTk (i := 12) (v := ?_) hHeld (fun w hSw => ?_) ?_
           rotate_left
           ·go_simp; (try with_reducible rfl)
           try simp only [Act.put, nzA, nzB, nzC]
           refine hTk (i := 13) (v := ?_) hHeld (fun w hSw => ?_) ?_
           rotate_left
           ·go_simp; (try with_reducible rfl)
           try simp only [Act.put, nzA, nzB, nzC]
           refine wpAnyH_done (by kernel_rfl) ?_ _
           have hEx : Ext No wy _ := hHeld
           go_wp2_with fail
           go_meet
           exact ⟨by rw [HB2.out]; simp, Lib.hid hEx⟩
         case rest =>
          obtain ⟨rfl, hx6⟩ := hcut
          rename World => wz
          have hm6 := Lib.hid (hm5.out.stepNo hx6.out)
          have hsw := Lib.hid (hsv.out.extNo hx6.out)
          have hBz := Lib.hid (hx6.out.blk hbE.out no_no)
          have HQz := Lib.hid (hx6.out.keep HQN5.out)
          clear hm5 hsv HG hsq hbE HQN5 hx6
          go_upto_region 20 with (fail)
          refine wp_region_heldL [7] (fun w' => Ext No wz w') (by kernel_rfl) ?_ (fun hHeld => ?_)
          ·exact (Ext.refl _ _).drew
          have hm6d := Lib.hid (hm6.out.stepNo (Ext.refl No _).drew)
          have hswd := Lib.hid (hsw.out.extNo (Ext.refl No _).drew)
          generalize wz.drew = v0 at *
          refine heldL_free (i := 0) (v := ?_) rfl (by kernel_rfl) (by kernel_rfl) (by kernel_rfl) (by kernel_rfl) (by kernel_rfl) (fun _ _ _ h => h) rfl (fun w => ?_) hHeld ?_
          rotate_left
          ·go_simp; (try with_reducible rfl)
          try simp only [Act.put, nzA, nzB, nzC]
          replace hHeld := (ST_set (T := [7]) (i := 0) (by kernel_rfl) _ _).2 hHeld
          refine heldL_free (i := 1) (v := ?_) rfl (by kernel_rfl) (by kernel_rfl) (by kernel_rfl) (by kernel_rfl) (by kernel_rfl) (fun _ _ _ h => h) rfl (fun w => ?_) hHeld ?_
          rotate_left
          ·go_simp; (try with_reducible rfl)
          try simp only [Act.put, nzA, nzB, nzC]
          replace hHeld := (ST_set (T := [7]) (i := 1) (by kernel_rfl) _ _).2 hHeld
          refine heldL_free (i := 2) (v := ?_) rfl (by kernel_rfl) (by kernel_rfl) (by kernel_rfl) (by kernel_rfl) (by kernel_rfl) (fun _ _ _ h => h) rfl (fun w => ?_) hHeld ?_
          rotate_left
          ·go_simp; (try with_reducible rfl)
          try simp only [Act.put, nzA, nzB, nzC]
          replace hHeld := (ST_set (T := [7]) (i := 2) (by kernel_rfl) _ _).2 hHeld
          refine heldL_free (i := 3) (v := ?_) rfl (by kernel_rfl) (by kernel_rfl) (by kernel_rfl) (by kernel_rfl) (by kernel_rfl) (fun _ _ _ h => h) rfl (fun w => ?_) hHeld ?_
          rotate_left
          ·go_simp; (try with_reducible rfl)
          try simp only [Act.put, nzA, nzB, nzC]
          replace hHeld := (ST_set (T := [7]) (i := 3) (by kernel_rfl) _ _).2 hHeld
          refine heldL_take (i := 4) (v := ?_) rfl (by kernel_rfl) (by kernel_rfl) (by kernel_rfl) (by kernel_rfl) (by kernel_rfl) (fun _ _ _ h => h) rfl (fun w hSw => ?_) hHeld ?_
          rotate_left
          ·(have hEs : Ext No wz _ := hSw); (have x0 := hEs.keep HQz.out); go_simp; (try with_reducible rfl)
          try simp only [Act.put, nzA, nzB, nzC]
          replace hHeld := (ST_set (T := [7]) (i := 4) (by kernel_rfl) _ _).2 hHeld
          refine heldL_take (i := 5) (v := ?_) rfl (by kernel_rfl) (by kernel_rfl) (by kernel_rfl) (by kernel_rfl) (by kernel_rfl) (fun _ _ _ h => h) rfl (fun w hSw => ?_) hHeld ?_
          rotate_left
          ·(have hEs : Ext No wz _ := hSw); (have x0 := cellOf (hEs.blk hBz.out no_no)); go_simp; (try with_reducible rfl)
          try simp only [Act.put, nzA, nzB, nzC]
          replace hHeld := (ST_set (T := [7]) (i := 5) (by kernel_rfl) _ _).2 hHeld
          refine heldL_free (i := 6) (v := ?_) rfl (by kernel_rfl) (by kernel_rfl) (by kernel_rfl) (by kernel_rfl) (by kernel_rfl) (fun _ _ _ h => h) rfl (fun w => ?_) hHeld ?_
          rotate_left
          ·go_simp; (try with_reducible rfl)
          try simp only [Act.put, nzA, nzB, nzC]
          replace hHeld := (ST_set (T := [7]) (i := 6) (by kernel_rfl) _ _).2 hHeld
          refine heldL_next1 (i := 7) (by kernel_rfl) (NextL.mk rfl rfl (fun K hK => ?_))
          ((obtain ⟨a8, c8, k0, k1, -⟩ := hm6d.out.cell hnN); (have f0 := hm6d.out.free (n * 2)); (have f1 := hm6d.out.free (n * 2 + 1)); go_simp; (clear k0 k1 f0 f1))
          refine hK.out _ _ ?_ ?_
          ·exact fun h => absurd h (by decide)
          clear hK K hHeld
          intro hHeld
          have hput := Lib.hid (hm6d.out.put hnN hswd.out)
          generalize ((v0.setCell ⟨gv, n * 2, none⟩ (.int .i64 (S.w : Int))).setCell ⟨gv, n * 2 + 1, none⟩ (.slice aq (nw S.w) cq)) = v1 at *
          try simp only [Act.put, nzA, nzB, nzC]
          refine heldL_done (by kernel_rfl) ?_ _
          go_wp2_with fail
          go_roundw
          case rel => exact ⟨j + 1, cj + 1, b2, HJJ.out, HCJ.out, rfl, by omega, by have := HCJ0.out; omega, Lib.hid (by rw [HNE.out]; exact HB2.out), by rw [HPS.out]; exact hput⟩
          case measure => simp [intOf]; omega
       ·have hge2 : ¬ (j : Int) < (cl : Int) := by omega
        have hjc : j = cl := by omega
        have HPA := Lib.hid (show passK S c us j = passD S c us from by rw [hjc, HCL.out, passK_all])
        rw [HPA.out] at hb hmx
        obtain ⟨b3, hb3⟩ : ∃ b3, b3 = (b && !ob) := ⟨_, rfl⟩
        obtain ⟨q', hq', hI'⟩ := PassI.next (cl := cl) (b := b3) HOK.out HPI.out.good HPI.out.up HCN.out (by omega) hlt HOB.out hus.out hI.out (by rw [hb3, hb.out, Bool.and_comm])
        have HI' := Lib.hid hI'
        have HJC := Lib.hid hjc
        have HB3 := Lib.hid hb3
        clear hI' hjc hb hb3
        cases b with
        | true =>
         go_wp2_with fail
         go_roundg q'
         case rel => exact ⟨r + 1, cj, passD S c us, b3, rfl, by rw [HB3.out]; rfl, Lib.hid (by rw [hus.out]; rfl), hmx, Lib.hid (by have h1 := HCJ0.out; have h2 := hcn.out; have h3 := HJC.out; rw [Nat.succ_mul]; omega), Lib.hid (by have h1 := HCJ0.out; rw [HJC.out] at h1; rw [h1]; exact HI'.out)⟩
         case measure => exact hq'
        | false =>
         go_wp2_with fail
         go_roundg q'
         case rel => exact ⟨r + 1, cj, passD S c us, b3, rfl, by rw [HB3.out]; rfl, Lib.hid (by rw [hus.out]; rfl), hmx, Lib.hid (by have h1 := HCJ0.out; have h2 := hcn.out; have h3 := HJC.out; rw [Nat.succ_mul]; omega), Lib.hid (by have h1 := HCJ0.out; rw [HJC.out] at h1; rw [h1]; exact HI'.out)⟩
         case measure => exact hq'
  ·have hge : ¬ (k : Int) < (nl : Int) := by omega
   obtain rfl : k = nl := by omega
   go_wp2_with fail
   refine ret_ex rfl ?_
   simp [results, Try.results77, go_sem]
   exact ⟨g, R, vs, cnt, _, _, HGO.out, HORD.out, Lib.hid (by rw [← HLL.out, ← HNL.out]; exact hrun.out), rfl, Lib.hid hm.out.sets, HXV.out.transNo hm.out.ext⟩
end Go.Proofs.Ytkdjdhflhlbelaa

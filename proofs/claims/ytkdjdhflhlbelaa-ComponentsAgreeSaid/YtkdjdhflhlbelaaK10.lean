/- The walk of components.Solve. -/
import Derived.Test.YtkdjdhflhlbelaaK9
import Derived.Deep.LoopGhost
set_option linter.unusedVariables false
set_option linter.unusedSimpArgs false
namespace Go.Proofs.Ytkdjdhflhlbelaa
open Go Go.RowKit Tj
/-- what holds between two passes over a component; false: no more passes -/
def PassI (S : SysD) (c vs us : List Nat) (r q cn nl k : Nat) (ob : Bool) : Bool → Prop
 | true => cn + (remV S us + (nl - k)) * S.deps.length ≤ 16842752 ∧ remV S us + 1 ≤ q ∧ (∀ r', r' < r → passD S c (iterP S c vs r') ≠ iterP S c vs r') ∧ (0 < r → ob = false)
 | false => cn + (remV S us + (nl - (k + 1))) * S.deps.length ≤ 16842752 ∧ CompRun S c vs us r
theorem bound_mul {a b x N : Nat} (h : a + 1 ≤ b) : (a + x) * N + N ≤ (b + x) * N := by
 have h1 : (a + x) * N + N = (a + x + 1) * N := by rw [Nat.succ_mul]
 rw [h1]
 exact Nat.mul_le_mul (by omega) (Nat.le_refl _)
theorem PassI.next {S : SysD} {c vs us : List Nat} {r q cn nl k cl : Nat} {ob b : Bool} (hS : SysOk S) (hg : GoodV S us) (hu : UpV S us) (hc : ∀ n ∈ c, n < S.deps.length) (hcl : cl ≤ S.deps.length) (hk : k < nl) (hob : ob = onceB S c) (hus : us = iterP S c vs r)
  (h : PassI S c vs us r q cn nl k ob true) (hb : b = (!ob && decide (passD S c us ≠ us))) : ∃ q', q' < q ∧ PassI S c vs (passD S c us) (r + 1) q' (cn + cl) nl k ob b := by
 obtain ⟨h1, h2, h3, h4⟩ := h
 have hp := pass_all hS hg hu hc
 have hr1 := rem_le hp.le
 cases ho : ob with
 | true =>
  rw [ho] at hb
  obtain rfl : b = false := by rw [hb]; rfl
  have hr0 : r = 0 := by
   rcases Nat.eq_zero_or_pos r with e | e
   ·exact e
   ·rw [h4 e] at ho; cases ho
  subst hr0
  refine ⟨0, by omega, ?_, ⟨by rw [hus]; rfl, Nat.le_refl _, fun _ => rfl, fun e => ?_, fun e => ?_⟩⟩
  ·have h5 := bound_mul (a := remV S (passD S c us) + (nl - (k + 1))) (b := remV S us + (nl - k)) (x := 0) (N := S.deps.length) (by omega)
   simp only [Nat.add_zero] at h5
   omega
  ·rw [← hob, ho] at e; cases e
  ·rw [← hob, ho] at e; cases e
 | false =>
  rw [ho] at hb
  by_cases he : passD S c us = us
  ·obtain rfl : b = false := by rw [hb]; simp [he]
   refine ⟨0, by omega, ?_, ⟨by rw [hus]; rfl, by omega, fun e => ?_, fun _ => ?_, fun _ r' hr' => h3 r' (by omega)⟩⟩
   ·have h5 := bound_mul (a := remV S (passD S c us) + (nl - (k + 1))) (b := remV S us + (nl - k)) (x := 0) (N := S.deps.length) (by omega)
    simp only [Nat.add_zero] at h5
    omega
   ·rw [← hob, ho] at e; cases e
   ·rw [Nat.add_sub_cancel, ← hus]; exact he
  ·obtain rfl : b = true := by rw [hb]; simp [he]
   have hr2 := rem_lt hg hp.good hp.le (fun e => he e.symm)
   refine ⟨remV S (passD S c us) + 1, by omega, ?_, Nat.le_refl _, fun r' hr' => ?_, fun _ => ho ▸ rfl⟩
   ·have h5 := bound_mul (a := remV S (passD S c us)) (b := remV S us) (x := nl - k) (N := S.deps.length) (by omega)
    omega
   ·by_cases e : r' = r
    ·subst e; rw [← hus]; exact he
    ·exact h3 r' (by omega)
theorem head_get {c : List Nat} (h : 0 < c.length) : c.headD 0 = c[0] := by
 cases c with
 | nil => cases h
 | cons a l => rfl
theorem start_bound {S : SysD} {nl : Nat} (hn : S.deps.length ≤ 256) (hw : S.w ≤ 256) (hl : nl ≤ S.deps.length) : 0 + (remV S (zerosD S) + (nl - 0)) * S.deps.length ≤ 16842752 := by
 have h1 : remV S (zerosD S) ≤ S.deps.length * S.w := Nat.sub_le _ _
 have h2 : S.deps.length * S.w ≤ 256 * 256 := Nat.mul_le_mul hn hw
 have h3 : (remV S (zerosD S) + (nl - 0)) * S.deps.length ≤ (65536 + 256) * 256 := Nat.mul_le_mul (by omega) hn
 omega
set_option maxRecDepth 100000 in
set_option maxHeartbeats 16000000 in
theorem csolve_any (S : SysD) (vd vt vb : Value) (W : World) (h : SysAt No W vd vt vb S) :
  Calls Try.prog 38 #[.agg #[.int .i64 (S.w : Int), vd, vt, vb]] W (CSolvePost No S W) := by
 have H := Lib.hid h
 have hok := h.ok
 have HOK := Lib.hid hok
 have hnn := hok.n2
 have hn1 := hok.n1
 have hww := hok.w
 obtain ⟨ad, cd, at1, ct, ab, cb, rfl, rfl, rfl⟩ := h.slices
 have hmk := mk_sets S.deps.length (by omega)
 clear h hok
 go_enter Try.func38, Try.ntmps38
 go_upto_region 1 with (fail)
 have hx0 : Ext No W (W.alloc (.cells #[.int .i64 (S.w : Int), .slice ad S.deps.length cd, .slice at1 S.deps.length ct, .slice ab S.deps.length cb] 29)) := (Ext.refl _ _).alloc _
 have HA := Lib.hid (alloc_top (w := W) (o := (.cells #[.int .i64 (S.w : Int), .slice ad S.deps.length cd, .slice at1 S.deps.length ct, .slice ab S.deps.length cb] 29)) rfl)
 generalize (W.alloc (.cells #[.int .i64 (S.w : Int), .slice ad S.deps.length cd, .slice at1 S.deps.length ct, .slice ab S.deps.length cb] 29)) = w1 at *
 have cA := cellOf HA.out
 go_wp2_with fail
 refine (order_any S _ _ _ _ (H.out.extNo hx0)).mono ?_
 rintro e2 V ⟨g, R, ao, co, Ld, hgo, hord, rfl, hLd, hLA, hLn, hx2⟩
 have HGO := Lib.hid hgo
 have HORD := Lib.hid hord
 obtain ⟨L, hL⟩ : ∃ L, L = (ordS S g R).2 := ⟨_, rfl⟩
 rw [← hL] at hLd
 have HLL := Lib.hid hL
 have HLC : Hid (∀ c ∈ L, ∀ n ∈ c, n < S.deps.length) := Lib.hid (by rw [hL]; exact ordS_lt S g R)
 have HLE : Hid (∀ c ∈ L, c.length ≤ S.deps.length ∧ 1 ≤ c.length) := Lib.hid (by rw [hL]; exact ordS_len S g R)
 obtain ⟨nl, hnl⟩ : ∃ nl, nl = L.length := ⟨_, rfl⟩
 have hlen : Ld.length = nl := by rw [hnl]; have := congrArg List.length hLd.out; simpa using this
 rw [hlen] at hLn hLA ⊢
 have HNL := Lib.hid hnl
 have HAV := Lib.hid (hx2.blk HA.out no_no)
 have HXV := Lib.hid (hx0.transNo hx2)
 have hsl := lt_of_block HAV.out
 clear cA hx0 hx2 HA hgo hord hL hnl hlen
 have cA := cellOf HAV.out
 have h0 : LOwn kS No (V.alloc (.cells (zeroSets S.deps.length) 33)) V.heap.size (.slice (some ⟨V.heap.size, 0, none⟩) S.deps.length S.deps.length) (List.replicate S.deps.length (zeroS, Value.slice none 0 0)) := by
  refine ⟨?_, fun p hp => ?_⟩
  ·have h := World.ownsRow_lit (base := V.heap.size) (e := 33) (size := 2) V (zeroSets S.deps.length) S.deps.length (Nat.le_refl _) (by simp only [maxLen]; omega) (by simp [zeroSets, madeCells])
   rw [zeroSets_list] at h
   rw [List.length_replicate]
   exact h
  ·rw [List.eq_of_mem_replicate hp]
   exact (⟨zero_row, by simp [zeroS]⟩ : WordsAt _ _ (.slice none 0 0) zeroS.words)
 have hxz : Ext No V (V.alloc (.cells (zeroSets S.deps.length) 33)) := (Ext.refl _ _).alloc _
 have H0 := Lib.hid h0
 have HXZ := Lib.hid hxz
 clear h0 hxz
 go_upto_region 5 with (fail)
 clear hmk cA
 generalize (V.alloc (.cells (zeroSets S.deps.length) 33)) = v1 at *
 obtain ⟨gv, hgv⟩ : ∃ gv, gv = V.heap.size := ⟨_, rfl⟩
 rw [← hgv] at H0 ⊢
 have hsg : W.heap.size < gv := by omega
 have HGV := Lib.hid hgv
 clear hgv hsl
 obtain ⟨sx, hsx⟩ : ∃ sx : Array Value, sx = #[.int .i64 (S.w : Int), .slice ad S.deps.length cd, .slice at1 S.deps.length ct, .slice ab S.deps.length cb] := ⟨_, rfl⟩
 rw [← hsx] at HAV
 have HSX := Lib.hid hsx
 clear hsx
 go_wp2_with fail
 go_loopw [8, 31] (fun _ i wr => ∃ (k : Nat) (Q : LS), k ≤ S.deps.length ∧ i = .int .i64 k ∧ Hid (LOwn kS No wr gv (.slice (some ⟨gv, 0, none⟩) S.deps.length S.deps.length) Q) ∧ Hid (Q.map Prod.fst = partE S.deps.length k S.w) ∧ Hid (Ext No V wr)) (fun _ i _ => S.deps.length - (intOf i).toNat)
 case atStart => exact ⟨0, _, Nat.zero_le _, rfl, H0, Lib.hid (by simp [partE]), HXZ⟩
 case round =>
  clear H0 HXZ
  obtain ⟨k, Q, hk, rfl, hQ, he, hx⟩ := hrel
  rename World => wr
  have hQl : Q.length = S.deps.length := by have := congrArg List.length he.out; simp [partE] at this; omega
  have HQL := Lib.hid hQl
  have hHX := Lib.hid (HXV.out.transNo hx.out)
  have HAr := Lib.hid (hx.out.blk HAV.out no_no)
  clear hQl
  by_cases hlt : k < S.deps.length
  ·have hlz : (k : Int) < (S.deps.length : Int) := by omega
   have HKK : Hid (Value.int .i64 ((k : Int) + 1) = .int .i64 ((k + 1 : Nat) : Int)) := Lib.hid (by rw [show ((k + 1 : Nat) : Int) = (k : Int) + 1 from by omega])
   have cA := cellOf HAr.out
   rw [HSX.out] at cA
   go_wp2_with fail
   refine (bempty_any (At gv) S.w _ (fun b e => ?_) hww).mono ?_
   ·unfold At at e; rw [e]; exact (hQ.out.lt _ rfl).2
   rintro e1 w5 ⟨a1, c1, rfl, hs1, hx1⟩
   have hL1 := hQ.out.extNo hx1
   have hso : SetsOwn No w5 gv (.slice (some ⟨gv, 0, none⟩) S.deps.length S.deps.length) Q := ⟨hL1.own, hL1.ok⟩
   obtain ⟨gq, hgq, -, -, -, hcell, hfro⟩ := hso.ownAt (k := k) (by rw [HQL.out]; exact hlt)
   simp only [Option.some.injEq, Addr.mk.injEq, and_true] at hgq
   subst hgq
   obtain ⟨q0, q1⟩ := hcell k (by rw [HQL.out]; exact hlt)
   have hput := Lib.hid (SetsOwn.put (p := (setN S.w 0, .slice a1 (nw S.w) c1)) (by have h := hso; rw [← HQL.out] at h; exact h) (i := k) (by rw [HQL.out]; exact hlt) (hs1.out.words.mono (fun i _ e => by rcases e with e | e; exact e.elim; exact e)))
   rw [HQL.out] at hput
   have hx2 := Lib.hid (show Ext No V _ from (hx.out.transNo hx1).trans2 (((Ext.refl (At gv) w5).setAt (k * 2) (.int .i64 (S.w : Int))).setAt (k * 2 + 1) (.slice a1 (nw S.w) c1)) (fun i hi e => by unfold At at e; have := HGV.out; omega))
   clear hcell hL1 hso hx1 hs1 cA
   go_wp2_with fail
   clear q0 q1 hfro
   go_roundw
   case rel => exact ⟨k + 1, Q.set k (setN S.w 0, .slice a1 (nw S.w) c1), by omega, HKK.out, Lib.hid ⟨by rw [List.length_set, HQL.out]; have h := hput.out.own; rw [List.length_set, HQL.out] at h; exact h, hput.out.ok⟩, Lib.hid (by rw [List.map_set, he.out]; exact partE_set hlt), hx2⟩
   case measure => simp [intOf]; omega
  ·have hge : ¬ (k : Int) < (S.deps.length : Int) := by omega
   obtain rfl : k = S.deps.length := by omega
   have hm0 := Lib.hid (show SoM S V wr W.heap.size gv sx (zerosD S) from ⟨hx.out, HAr.out, ⟨Q, by rw [HQL.out]; exact hQ.out, by rw [he.out]; simp [partE, zerosD]⟩, good_zeros S, hww, by omega, by have := HGV.out; omega⟩)
   clear hQ he HQL hHX HAr hx
   go_wp2_with fail
   go_loopw [9, 11, 12, 13, 15, 16, 46] (fun s9 _ _ _ _ _ i wx => ∃ (k cnt : Nat) (vs : List Nat), i = .int .i64 k ∧ s9 = .int .i64 cnt ∧ k ≤ nl ∧ cnt + (remV S vs + (nl - k)) * S.deps.length ≤ 16842752 ∧ Hid (UpV S vs) ∧ Hid (SoM S V wx W.heap.size gv sx (vs)) ∧ Hid (SRun S L k vs cnt)) (fun _ _ _ _ _ _ i _ => nl - (intOf i).toNat)
   case atStart => exact ⟨0, 0, _, rfl, rfl, Nat.zero_le _, start_bound hnn hww hLn, Lib.hid (up_zeros S), hm0, Lib.hid .zero⟩
   case round =>
    clear hm0
    obtain ⟨k, cnt, vs, rfl, rfl, hk, hbd, hup, hm, hrun⟩ := hrel
    rename World => wr
    by_cases hlt : k < nl
    ·have hlz : (k : Int) < (nl : Int) := by omega
     have HKK : Hid (Value.int .i64 ((k : Int) + 1) = .int .i64 ((k + 1 : Nat) : Int)) := Lib.hid (by rw [show ((k + 1 : Nat) : Int) = (k : Int) + 1 from by omega])
     have hkL : k < L.length := by rw [← HNL.out]; exact hlt
     obtain ⟨bo, oo, ko, ac, cc, hve, gc, hic⟩ := ld_at (hLA.out.extNo hm.out.ext) hLd.out hkL
     rw [← HNL.out] at hve
     simp only [Value.slice.injEq] at hve
     obtain ⟨rfl, -, rfl⟩ := hve
     obtain ⟨c, hc⟩ : ∃ c, c = L[k] := ⟨_, rfl⟩
     have hcN := HLC.out L[k] (List.getElem_mem hkL)
     have hcl := HLE.out L[k] (List.getElem_mem hkL)
     rw [← hc] at hic gc hcN hcl
     have HC := Lib.hid hc
     have HCN := Lib.hid hcN
     obtain ⟨cl, hcl0⟩ : ∃ cl, cl = c.length := ⟨_, rfl⟩
     have HCL := Lib.hid hcl0
     rw [← hcl0] at hic gc hcl
     obtain ⟨hcl1, hcl2⟩ := hcl
     have HBD := Lib.hid hbd
     have HIC0 := Lib.hid (show Ints No V .i64 (.slice ac cl cc) (natsZ c) from by
      obtain ⟨bo2, oo2, ko2, ac2, cc2, hve2, gc2, hic2⟩ := ld_at hLA.out hLd.out hkL
      rw [← HNL.out] at hve2
      simp only [Value.slice.injEq, Option.some.injEq, Addr.mk.injEq] at hve2
      obtain ⟨⟨rfl, rfl, -⟩, -, -⟩ := hve2
      have e := hm.out.ext.keep gc2
      rw [gc, ← hc, ← hcl0] at e
      simp only [Option.some.injEq, Value.slice.injEq] at e
      obtain ⟨rfl, -, rfl⟩ := e
      rw [← hc, ← hcl0] at hic2
      exact hic2.out)
     clear hc hcN hcl0 hbd hic
     obtain ⟨n0, hn0⟩ : ∃ n0, n0 = c.headD 0 := ⟨_, rfl⟩
     obtain ⟨bc, oc, kc, hvc, hbc, -, hcell⟩ := IntsN.at HIC0.out (i := 0) (by rw [← HCL.out]; omega)
     rw [← HCL.out] at hvc
     simp only [Value.slice.injEq] at hvc
     obtain ⟨rfl, -, rfl⟩ := hvc
     have HCC := Lib.hid hcell
     have hq0 := hcell 0 (by rw [← HCL.out]; omega)
     have hn0' : n0 = c[0]'(by rw [← HCL.out]; omega) := by rw [hn0]; exact head_get _
     rw [← hn0', Nat.add_zero] at hq0
     have hn0N : n0 < S.deps.length := HCN.out n0 (by rw [hn0']; exact List.getElem_mem _)
     have HQ0 := Lib.hid (hm.out.ext.keep hq0)
     have HON : Hid (onceB S c = ((cl == 1) && !(depD S n0).contains n0)) := Lib.hid (by rw [hn0]; unfold onceB; rw [HCL.out])
     have hn0z : (n0 : Int) < (S.deps.length : Int) := by omega
     have hn0z0 : (0 : Int) ≤ (n0 : Int) := by omega
     have hclz : (0 : Int) < (cl : Int) := by omega
     obtain ⟨bd, od, kd, aq, cq, hvd, gd, hid⟩ := (H.out.extNo (HXV.out.transNo hm.out.ext)).dep hn0N
     simp only [Value.slice.injEq] at hvd
     obtain ⟨rfl, -, rfl⟩ := hvd
     have HGD := Lib.hid gd
     have HBX := Lib.hid hm.out.box
     obtain ⟨ob, hob⟩ : ∃ ob, ob = onceB S c := ⟨_, rfl⟩
     have HOB := Lib.hid hob
     clear hn0 hn0' hq0 hcell hbc gd hob
     go_upto_region 14 with (fail)
     clear gc
     go_cut [12] (fun s12 wx => s12 = .bool ob ∧ Hid (SoM S V wx W.heap.size gv sx (vs)))
     case first =>
      by_cases hc1 : cl = 1
      ·have HR : Hid (onceB S c = !(depD S n0).contains n0) := Lib.hid (by rw [HON.out, hc1]; rfl)
       subst hc1
       refine wp_region_held_drew (S := (fun w' => Ext No wr w')) (by kernel_rfl) ?_ (fun hHeld => ?_)
       ·exact (Ext.refl _ _).drew
       refine hTk (i := 0) (v := ?_) hHeld (fun w hSw => ?_) ?_
       rotate_left
       ·go_simp; (try with_reducible rfl)
       try simp only [Act.put, nzA, nzB, nzC]
       refine hTk (i := 1) (v := ?_) hHeld (fun w hSw => ?_) ?_
       rotate_left
       ·go_simp; (try with_reducible rfl)
       try simp only [Act.put, nzA, nzB, nzC]
       refine hTk (i := 2) (v := ?_) hHeld (fun w hSw => ?_) ?_
       rotate_left
       ·go_simp; (try with_reducible rfl)
       try simp only [Act.put, nzA, nzB, nzC]
       refine hTk (i := 3) (v := ?_) hHeld (fun w hSw => ?_) ?_
       rotate_left
       ·go_simp; (try with_reducible rfl)
       try simp only [Act.put, nzA, nzB, nzC]
       refine hTk (i := 4) (v := ?_) hHeld (fun w hSw => ?_) ?_
       rotate_left
       ·go_simp; (try with_reducible rfl)
       try simp only [Act.put, nzA, nzB, nzC]
       refine hTk (i := 5) (v := ?_) hHeld (fun w hSw => ?_) ?_
       rotate_left
       ·(have hEs : Ext No wr _ := hSw); (have x0 := cellOf (hEs.blk HBX.out no_no)); (rw [HSX.out] at x0); go_simp; (try with_reducible rfl)
       try simp only [Act.put, nzA, nzB, nzC]
       refine hTk (i := 6) (v := ?_) hHeld (fun w hSw => ?_) ?_
       rotate_left
       ·go_simp; (try with_reducible rfl)
       try simp only [Act.put, nzA, nzB, nzC]
       refine hTk (i := 7) (v := ?_) hHeld (fun w hSw => ?_) ?_
       rotate_left
       ·go_simp; (try with_reducible rfl)
       try simp only [Act.put, nzA, nzB, nzC]
       refine hTk (i := 8) (v := ?_) hHeld (fun w hSw => ?_) ?_
       rotate_left
       ·(have hEs : Ext No wr _ := hSw); (have x0 := hEs.keep HQ0.out); go_simp; (try with_reducible rfl)
       try simp only [Act.put, nzA, nzB, nzC]
       refine hTk (i := 9) (v := ?_) hHeld (fun w hSw => ?_) ?_
       rotate_left
       ·go_simp; (try with_reducible rfl)
       try simp only [Act.put, nzA, nzB, nzC]
       refine hTk (i := 10) (v := ?_) hHeld (fun w hSw => ?_) ?_
       rotate_left
       ·(have hEs : Ext No wr _ := hSw); (have x0 := hEs.keep HGD.out); go_simp; (try with_reducible rfl)
       try simp only [Act.put, nzA, nzB, nzC]
       refine hTk (i := 11) (v := ?_) hHeld (fun w hSw => ?_) ?_
       rotate_left
       ·go_simp; (try with_reducible rfl)
       try simp only [Act.put, nzA, nzB, nzC]
       refine hTk (i := 12) (v := ?_) hHeld (fun w hSw => ?_) ?_
       rotate_left
       ·go_simp; (try with_reducible rfl)
       try simp only [Act.put, nzA, nzB, nzC]
       refine hTk (i := 13) (v := ?_) hHeld (fun w hSw => ?_) ?_
       rotate_left
       ·(have hEs : Ext No wr _ := hSw); (have x0 := hEs.keep HQ0.out); go_simp; (try with_reducible rfl)
       try simp only [Act.put, nzA, nzB, nzC]
       refine held_call (i := 14) rfl (by kernel_rfl) rfl (fun K hK => ?_)
       ((have hEx : Ext No wr _ := hHeld); go_simp; (go_at_call 87); (refine (containsI_any _ (depD S n0) n0 _ (hid.out.extNo hEx)).mono ?_); (rintro e9 w9 ⟨rfl, hyA⟩); go_simp)
       refine hK.out _ _ ?_ ?_
       ·exact Ext.transNo (show Ext No wr _ from hHeld) hyA
       clear hK K hHeld
       intro hHeld
       try simp only [Act.put, nzA, nzB, nzC]
       refine hTk (i := 15) (v := ?_) hHeld (fun w hSw => ?_) ?_
       rotate_left
       ·go_simp; (try with_reducible rfl)
       try simp only [Act.put, nzA, nzB, nzC]
       refine hTk (i := 16) (v := ?_) hHeld (fun w hSw => ?_) ?_
       rotate_left
       ·go_simp; (try with_reducible rfl)
       try simp only [Act.put, nzA, nzB, nzC]
       refine hTk (i := 17) (v := ?_) hHeld (fun w hSw => ?_) ?_
       rotate_left
       ·go_simp; (try with_reducible rfl)
       try simp only [Act.put, nzA, nzB, nzC]
       refine wpAnyH_done (by kernel_rfl) ?_ _
       have hEx : Ext No wr _ := hHeld
       go_wp2_with fail
       go_meet
       exact ⟨by rw [HOB.out, HR.out]; simp, Lib.hid (hm.out.stepNo hEx)⟩
      ·have hc1z : ((cl : Int) == 1) = false := by simp; omega
       have HR : Hid (onceB S c = false) := Lib.hid (by rw [HON.out]; simp [hc1])
       refine wp_region_held_drew (S := (fun w' => Ext No wr w')) (by kernel_rfl) ?_ (fun hHeld => ?_)
       ·exact (Ext.refl _ _).drew
       refine hTk (i := 0) (v := ?_) hHeld (fun w hSw => ?_) ?_
       rotate_left
       ·go_simp; (try with_reducible rfl)
       try simp only [Act.put, nzA, nzB, nzC]
       refine hTk (i := 1) (v := ?_) hHeld (fun w hSw => ?_) ?_
       rotate_left
       ·go_simp; (try with_reducible rfl)
       try simp only [Act.put, nzA, nzB, nzC]
       refine hTk (i := 2) (v := ?_) hHeld (fun w hSw => ?_) ?_
       rotate_left
       ·go_simp; (try with_reducible rfl)
       try simp only [Act.put, nzA, nzB, nzC]
       refine hTk (i := 3) (v := ?_) hHeld (fun w hSw => ?_) ?_
       rotate_left
       ·go_simp; (try with_reducible rfl)
       try simp only [Act.put, nzA, nzB, nzC]
       refine hSk (i := 4) hHeld ?_
       try simp only [Act.put, nzA, nzB, nzC]
       refine hSk (i := 5) hHeld ?_
       try simp only [Act.put, nzA, nzB, nzC]
       refine hSk (i := 6) hHeld ?_
       try simp only [Act.put, nzA, nzB, nzC]
       refine hSk (i := 7) hHeld ?_
       try simp only [Act.put, nzA, nzB, nzC]
       refine hSk (i := 8) hHeld ?_
       try simp only [Act.put, nzA, nzB, nzC]
       refine hSk (i := 9) hHeld ?_
       try simp only [Act.put, nzA, nzB, nzC]
       refine hSk (i := 10) hHeld ?_
       try simp only [Act.put, nzA, nzB, nzC]
       refine hSk (i := 11) hHeld ?_
       try simp only [Act.put, nzA, nzB, nzC]
       refine hSk (i := 12) hHeld ?_
       try simp only [Act.put, nzA, nzB, nzC]
       refine hSk (i := 13) hHeld ?_
       try simp only [Act.put, nzA, nzB, nzC]
       refine hSk (i := 14) hHeld ?_
       try simp only [Act.put, nzA, nzB, nzC]
       refine hSk (i := 15) hHeld ?_
       try simp only [Act.put, nzA, nzB, nzC]
       refine hTk (i := 16) (v := ?_) hHeld (fun w hSw => ?_) ?_
       rotate_left
       ·go_simp; (try with_reducible rfl)
       try simp only [Act.put, nzA, nzB, nzC]
       refine hTk (i := 17) (v := ?_) hHeld (fun w hSw => ?_) ?_
       rotate_left
       ·go_simp; (try with_reducible rfl)
       try simp only [Act.put, nzA, nzB, nzC]
       refine wpAnyH_done (by kernel_rfl) ?_ _
       have hEx : Ext No wr _ := hHeld
       go_wp2_with fail
       go_meet
       exact ⟨by rw [HOB.out, HR.out], Lib.hid (hm.out.stepNo hEx)⟩
     case rest =>
      obtain ⟨rfl, hmc⟩ := hcut
      rename World => wc
      have HGD2 := Lib.hid hm.out.good
      clear hm HQ0 HGD HBX hid
      go_wp2_with fail
      go_loopg [9, 13] (remV S vs + 1) (fun q s9 s13 wx => ∃ (r cn : Nat) (us : List Nat) (ch : Bool), s9 = .int .i64 cn ∧ s13 = .bool ch ∧ Hid (us = iterP S c vs r) ∧ Hid (SoM S V wx W.heap.size gv sx (us)) ∧ Hid (cn = cnt + r * cl) ∧ Hid (PassI S c vs us r q cn nl k ob ch))
      case atStart => exact ⟨0, cnt, vs, true, rfl, rfl, Lib.hid rfl, hmc, Lib.hid (by omega), Lib.hid ⟨HBD.out, Nat.le_refl _, fun r' hr' => absurd hr' (Nat.not_lt_zero _), fun e => absurd e (Nat.lt_irrefl _)⟩⟩
      case round =>
       clear hmc
       obtain ⟨r, cn, us, ch, rfl, rfl, hus, hmu, hcn, hI⟩ := hrel
       have HPI := Lib.hid (show PassOk S vs us from by rw [hus.out]; exact iterP_ok HOK.out HGD2.out hup.out HCN.out r)
       cases ch with
       | false =>
        go_wp2_with fail
        go_roundw
        case rel => exact ⟨k + 1, cn, us, HKK.out, rfl, by omega, hI.out.1, Lib.hid HPI.out.up, hmu, Lib.hid (by
         have h := SRun.succ hrun.out hkL (by rw [← HC.out]; exact hI.out.2)
         rw [← HC.out, ← HCL.out, ← hcn.out] at h
         exact h)⟩
        case measure => simp [intOf]; omega
       | true =>
        have hcnb : cn ≤ 16842752 := by have := hI.out.1; omega
        go_wp2_with fail
        go_loopw [9, 13, 15, 16, 70] (fun s9 s13 _ _ i wx => ∃ (j cj : Nat) (b : Bool), i = .int .i64 j ∧ s9 = .int .i64 cj ∧ s13 = .bool b ∧ j ≤ cl ∧ cj = cn + j ∧ Hid (b = (!ob && decide (passK S c us j ≠ us))) ∧ Hid (SoM S V wx W.heap.size gv sx (passK S c us j))) (fun _ _ _ _ i _ => cl - (intOf i).toNat)
        case atStart => exact ⟨0, cn, false, rfl, rfl, rfl, Nat.zero_le _, rfl, Lib.hid (by rw [passK_zero]; simp), by rw [passK_zero]; exact hmu⟩
        case round =>
         clear hmu
         obtain ⟨j, cj, b, rfl, rfl, rfl, hj, hcj, hb, hmx⟩ := hrel
         rename World => wx
         have HCJ0 := Lib.hid hcj
         have hcjb : cj ≤ 16843008 := by omega
         clear hcj
         by_cases hlt2 : j < cl
         ·have hjz : (j : Int) < (cl : Int) := by omega
          have HJJ : Hid (Value.int .i64 ((j : Int) + 1) = .int .i64 ((j + 1 : Nat) : Int)) := Lib.hid (by rw [show ((j + 1 : Nat) : Int) = (j : Int) + 1 from by omega])
          have HCJ : Hid (Value.int .i64 ((cj : Int) + 1) = .int .i64 ((cj + 1 : Nat) : Int)) := Lib.hid (by rw [show ((cj + 1 : Nat) : Int) = (cj : Int) + 1 from by omega])
          have hjc : j < c.length := by rw [← HCL.out]; exact hlt2
          obtain ⟨n, hn⟩ : ∃ n, n = c[j] := ⟨_, rfl⟩
          have hq0 := hmx.out.ext.keep (HCC.out j hjc)
          rw [← hn] at hq0
          have hnN : n < S.deps.length := HCN.out n (by rw [hn]; exact List.getElem_mem hjc)
          have hnz : (n : Int) < (S.deps.length : Int) := by omega
          have hnz0 : (0 : Int) ≤ (n : Int) := by omega
          obtain ⟨ps, hps⟩ : ∃ ps, ps = passK S c us j := ⟨_, rfl⟩
          rw [← hps] at hmx hb
          have HPS := Lib.hid (show passK S c us (j + 1) = ps.set n (rightD S ps n) from by rw [passK_succ hjc, ← hps, ← hn])
          have HNE := Lib.hid (show (!ob && decide (passK S c us (j + 1) ≠ us)) = (b || (!ob && !decide (rightD S ps n = rowD ps n))) from by
           rw [hb.out]
           cases ob with
           | true => rfl
           | false =>
            by_cases e : ps = us
            ·have h1 := pass_same HPI.out.good hjc (by rw [← hn]; exact hnN) (by rw [← hps]; exact e)
             rw [← hn] at h1
             rw [e]
             simp only [ne_eq, not_true, decide_false, Bool.not_false, Bool.true_and, Bool.false_or]
             rw [← decide_not, decide_eq_decide]
             exact not_congr h1
            ·have h1 := pass_keep HOK.out HPI.out.good HPI.out.up HCN.out hjc (by rw [← hps]; exact e)
             simp [e, h1])
          have hgvl := hmx.out.lt hn1
          have cA := cellOf hmx.out.box
          rw [HSX.out] at cA
          have HHV := Lib.hid (H.out.extNo (HXV.out.transNo hmx.out.ext))
          clear hn hps
          go_wp2_with fail
          clear cA hq0
          refine (cright_any (At gv) S _ _ _ _ ps n _ (fun q e => by unfold At at e; omega) HHV.out hmx.out.sets hmx.out.good.len hnN).mono ?_
          rintro e5 w5 ⟨a5, c5, rfl, hs5, hx5⟩
          have hxa : Ext No w5 (w5.alloc (.cells #[.int .i64 (S.w : Int), .slice a5 (nw S.w) c5] 33)) := (Ext.refl _ _).alloc _
          have HVX := Lib.hid (alloc_top (w := w5) (o := (.cells #[.int .i64 (S.w : Int), .slice a5 (nw S.w) c5] 33)) rfl)
          have hm5 := Lib.hid ((hmx.out.stepNo hx5).stepNo hxa)
          have hsv := Lib.hid (hs5.out.extNo hxa)
          go_upto_region 22 with (fail)
          clear hmx hs5 hx5 hxa HHV hgvl
          generalize (w5.alloc (.cells #[.int .i64 (S.w : Int), .slice a5 (nw S.w) c5] 33)) = w6 at *
          generalize w5.heap.size = DV at *
          obtain ⟨a7, c7, g0, g1, hsq⟩ := hm5.out.cell hnN
          have HG := Lib.hid (And.intro g0 g1)
          obtain ⟨b2, hb2⟩ : ∃ b2, b2 = (b || (!ob && !decide (rightD S ps n = rowD ps n))) := ⟨_, rfl⟩
          have HB2 := Lib.hid hb2
          clear hb2 g0 g1
          go_cut [13] (fun s13 wy => s13 = .bool b2 ∧ Hid (Ext No w6 wy))
          case first =>
           cases b with
           | true =>
            refine wp_region_held_drew (S := (fun w' => Ext No w6 w')) (by kernel_rfl) ?_ (fun hHeld => ?_)
            ·exact (Ext.refl _ _).drew
            refine hTk (i := 0) (v := ?_) hHeld (fun w hSw => ?_) ?_
            rotate_left
            ·go_simp; (try with_reducible rfl)
            try simp only [Act.put, nzA, nzB, nzC]
            refine hTk (i := 1) (v := ?_) hHeld (fun w hSw => ?_) ?_
            rotate_left
            ·go_simp; (try with_reducible rfl)
            try simp only [Act.put, nzA, nzB, nzC]
            refine hSk (i := 2) hHeld ?_
            try simp only [Act.put, nzA, nzB, nzC]
            refine hSk (i := 3) hHeld ?_
            try simp only [Act.put, nzA, nzB, nzC]
            refine hSk (i := 4) hHeld ?_
            try simp only [Act.put, nzA, nzB, nzC]
            refine hSk (i := 5) hHeld ?_
            try simp only [Act.put, nzA, nzB, nzC]
            refine hSk (i := 6) hHeld ?_
            try simp only [Act.put, nzA, nzB, nzC]
            refine hSk (i := 7) hHeld ?_
            try simp only [Act.put, nzA, nzB, nzC]
            refine hSk (i := 8) hHeld ?_
            try simp only [Act.put, nzA, nzB, nzC]
            refine hSk (i := 9) hHeld ?_
            try simp only [Act.put, nzA, nzB, nzC]
            refine hSk (i := 10) hHeld ?_
            try simp only [Act.put, nzA, nzB, nzC]
            refine hSk (i := 11) hHeld ?_
            try simp only [Act.put, nzA, nzB, nzC]
            refine hSk (i := 12) hHeld ?_
            try simp only [Act.put, nzA, nzB, nzC]
            refine hTk (i := 13) (v := ?_) hHeld (fun w hSw => ?_) ?_
            rotate_left
            ·go_simp; (try with_reducible rfl)
            try simp only [Act.put, nzA, nzB, nzC]
            refine hTk (i := 14) (v := ?_) hHeld (fun w hSw => ?_) ?_
            rotate_left
            ·go_simp; (try with_reducible rfl)
            try simp only [Act.put, nzA, nzB, nzC]
            refine wpAnyH_done (by kernel_rfl) ?_ _
            have hEx : Ext No w6 _ := hHeld
            go_wp2_with fail
            go_meet
            exact ⟨by rw [HB2.out]; rfl, Lib.hid hEx⟩
           | false =>
            cases ob with
            | true =>
             refine wp_region_held_drew (S := (fun w' => Ext No w6 w')) (by kernel_rfl) ?_ (fun hHeld => ?_)
             ·exact (Ext.refl _ _).drew
             refine hTk (i := 0) (v := ?_) hHeld (fun w hSw => ?_) ?_
             rotate_left
             ·go_simp; (try with_reducible rfl)
             try simp only [Act.put, nzA, nzB, nzC]
             refine hTk (i := 1) (v := ?_) hHeld (fun w hSw => ?_) ?_
             rotate_left
             ·go_simp; (try with_reducible rfl)
             try simp only [Act.put, nzA, nzB, nzC]
             refine hTk (i := 2) (v := ?_) hHeld (fun w hSw => ?_) ?_
             rotate_left
             ·go_simp; (try with_reducible rfl)
             try simp only [Act.put, nzA, nzB, nzC]
             refine hTk (i := 3) (v := ?_) hHeld (fun w hSw => ?_) ?_
             rotate_left
             ·go_simp; (try with_reducible rfl)
             try simp only [Act.put, nzA, nzB, nzC]
             refine hTk (i := 4) (v := ?_) hHeld (fun w hSw => ?_) ?_
             rotate_left
             ·go_simp; (try with_reducible rfl)
             try simp only [Act.put, nzA, nzB, nzC]
             refine hSk (i := 5) hHeld ?_
             try simp only [Act.put, nzA, nzB, nzC]
             refine hSk (i := 6) hHeld ?_
             try simp only [Act.put, nzA, nzB, nzC]
             refine hSk (i := 7) hHeld ?_
             try simp only [Act.put, nzA, nzB, nzC]
             refine hSk (i := 8) hHeld ?_
             try simp only [Act.put, nzA, nzB, nzC]
             refine hSk (i := 9) hHeld ?_
             try simp only [Act.put, nzA, nzB, nzC]
             refine hSk (i := 10) hHeld ?_
             try simp only [Act.put, nzA, nzB, nzC]
             refine hSk (i := 11) hHeld ?_
             try simp only [Act.put, nzA, nzB, nzC]
             refine hTk (i := 12) (v := ?_) hHeld (fun w hSw => ?_) ?_
             rotate_left
             ·go_simp; (try with_reducible rfl)
             try simp only [Act.put, nzA, nzB, nzC]
             refine hTk (i := 13) (v := ?_) hHeld (fun w hSw => ?_) ?_
             rotate_left
             ·go_simp; (try with_reducible rfl)
             try simp only [Act.put, nzA, nzB, nzC]
             refine hTk (i := 14) (v := ?_) hHeld (fun w hSw => ?_) ?_
             rotate_left
             ·go_simp; (try with_reducible rfl)
             try simp only [Act.put, nzA, nzB, nzC]
             refine wpAnyH_done (by kernel_rfl) ?_ _
             have hEx : Ext No w6 _ := hHeld
             go_wp2_with fail
             go_meet
             exact ⟨by rw [HB2.out]; rfl, Lib.hid hEx⟩
            | false =>
             refine wp_region_held_drew (S := (fun w' => Ext No w6 w')) (by kernel_rfl) ?_ (fun hHeld => ?_)
             ·exact (Ext.refl _ _).drew
             refine hTk (i := 0) (v := ?_) hHeld (fun w hSw => ?_) ?_
             rotate_left
             ·go_simp; (try with_reducible rfl)
             try simp only [Act.put, nzA, nzB, nzC]
             refine hTk (i := 1) (v := ?_) hHeld (fun w hSw => ?_) ?_
             rotate_left
             ·go_simp; (try with_reducible rfl)
             try simp only [Act.put, nzA, nzB, nzC]
             refine hTk (i := 2) (v := ?_) hHeld (fun w hSw => ?_) ?_
             rotate_left
             ·go_simp; (try with_reducible rfl)
             try simp only [Act.put, nzA, nzB, nzC]
             refine hTk (i := 3) (v := ?_) hHeld (fun w hSw => ?_) ?_
             rotate_left
             ·go_simp; (try with_reducible rfl)
             try simp only [Act.put, nzA, nzB, nzC]
             refine hTk (i := 4) (v := ?_) hHeld (fun w hSw => ?_) ?_
             rotate_left
             ·go_simp; (try with_reducible rfl)
             try simp only [Act.put, nzA, nzB, nzC]
             refine hTk (i := 5) (v := ?_) hHeld (fun w hSw => ?_) ?_
             rotate_left
             ·(have hEs : Ext No w6 _ := hSw); (have x0 := cellOf (hEs.blk HVX.out no_no)); go_simp; (try with_reducible rfl)
             try simp only [Act.put, nzA, nzB, nzC]
             refine hTk (i := 6) (v := ?_) hHeld (fun w hSw => ?_) ?_
             rotate_left
             ·go_simp; (try with_reducible rfl)
             try simp only [Act.put, nzA, nzB, nzC]
             refine hTk (i := 7) (v := ?_) hHeld (fun w hSw => ?_) ?_
             rotate_left
             ·go_simp; (try with_reducible rfl)
             try simp only [Act.put, nzA, nzB, nzC]
             refine hTk (i := 8) (v := ?_) hHeld (fun w hSw => ?_) ?_
             rotate_left
             ·go_simp; (try with_reducible rfl)
             try simp only [Act.put, nzA, nzB, nzC]
             refine hTk (i := 9) (v := ?_) hHeld (fun w hSw => ?_) ?_
             rotate_left
             ·(have hEs : Ext No w6 _ := hSw); (obtain ⟨p0, p1⟩ := HG.out); (have x0 := hEs.keep p0); (have x1 := hEs.keep p1); go_simp; (try with_reducible rfl)
             try simp only [Act.put, nzA, nzB, nzC]
             refine held_call (i := 10) rfl (by kernel_rfl) rfl (fun K hK => ?_)
             ((have hEx : Ext No w6 _ := hHeld); go_simp; (go_at_call 16); (refine (equal_any S.w (rightD S ps n) (rowD ps n) _ _ _ (hsv.out.no.extNo hEx) (hsq.out.extNo hEx)).mono ?_); (rintro e9 w9 ⟨rfl, hyA⟩); go_simp)
             refine hK.out _ _ ?_ ?_
             ·exact Ext.transNo (show Ext No w6 _ from hHeld) hyA
             clear hK K hHeld
             intro hHeld
             try simp only [Act.put, nzA, nzB, nzC]
             refine hTk (i := 11) (v := ?_) hHeld (fun w hSw => ?_) ?_
             rotate_left
             ·go_simp; (try with_reducible rfl)
             try simp only [Act.put, nzA, nzB, nzC]
             refine hTk (i := 12) (v := ?_) hHeld (fun w hSw => ?_) ?_
             rotate_left
             ·go_simp; (try with_reducible rfl)
             try simp only [Act.put, nzA, nzB, nzC]
             refine hTk (i := 13) (v := ?_) hHeld (fun w hSw => ?_) ?_
             rotate_left
             ·go_simp; (try with_reducible rfl)
             try simp only [Act.put, nzA, nzB, nzC]
             refine hTk (i := 14) (v := ?_) hHeld (fun w hSw => ?_) ?_
             rotate_left
             ·go_simp; (try with_reducible rfl)
             try simp only [Act.put, nzA, nzB, nzC]
             refine wpAnyH_done (by kernel_rfl) ?_ _
             have hEx : Ext No w6 _ := hHeld
             go_wp2_with fail
             go_meet
             exact ⟨by rw [HB2.out]; simp, Lib.hid hEx⟩
          case rest =>
           obtain ⟨rfl, hx6⟩ := hcut
           rename World => wy
           have hm6 := Lib.hid (hm5.out.stepNo hx6.out)
           have hput := Lib.hid (hm6.out.put hnN (hsv.out.extNo hx6.out))
           have cV := cellOf (hx6.out.blk HVX.out no_no)
           have f0 := hm6.out.free (n * 2)
           have f1 := hm6.out.free (n * 2 + 1)
           obtain ⟨a8, c8, k0, k1, -⟩ := hm6.out.cell hnN
           clear hm5 hsv HVX HG hsq
           go_wp2_with fail
           clear cV f0 f1 k0 k1
           go_roundw
           case rel => exact ⟨j + 1, cj + 1, b2, HJJ.out, HCJ.out, rfl, by omega, by have := HCJ0.out; omega, Lib.hid (by rw [HNE.out]; exact HB2.out), by rw [HPS.out]; exact hput⟩
           case measure => simp [intOf]; omega
         ·have hge2 : ¬ (j : Int) < (cl : Int) := by omega
          have hjc : j = cl := by omega
          have HPA := Lib.hid (show passK S c us j = passD S c us from by rw [hjc, HCL.out, passK_all])
          rw [HPA.out] at hb hmx
          obtain ⟨q', hq', hI'⟩ := PassI.next (cl := cl) HOK.out HPI.out.good HPI.out.up HCN.out (by omega) hlt HOB.out hus.out hI.out hb.out
          have HI' := Lib.hid hI'
          have HJC := Lib.hid hjc
          clear hI' hjc
          go_wp2_with fail
          go_roundg q'
          case rel => exact ⟨r + 1, cj, passD S c us, b, rfl, rfl, Lib.hid (by rw [hus.out]; rfl), hmx, Lib.hid (by have h1 := HCJ0.out; have h2 := hcn.out; have h3 := HJC.out; rw [Nat.succ_mul]; omega), Lib.hid (by have h1 := HCJ0.out; rw [HJC.out] at h1; rw [h1]; exact HI'.out)⟩
          case measure => exact hq'
    ·have hge : ¬ (k : Int) < (nl : Int) := by omega
     obtain rfl : k = nl := by omega
     go_wp2_with fail
     refine ret_ex rfl ?_
     simp [results, Try.results38, go_sem]
     exact ⟨g, R, vs, cnt, _, _, HGO.out, HORD.out, Lib.hid (by rw [← HLL.out, ← HNL.out]; exact hrun.out), rfl, Lib.hid hm.out.sets, HXV.out.transNo hm.out.ext⟩
end Go.Proofs.Ytkdjdhflhlbelaa

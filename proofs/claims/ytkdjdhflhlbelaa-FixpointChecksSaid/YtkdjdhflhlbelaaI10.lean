/- Merged: I7 I10 -/
import Derived.Test.YtkdjdhflhlbelaaI5
import Derived.Test.YtkdjdhflhlbelaaI6
import Derived.Test.YtkdjdhflhlbelaaI8
set_option linter.unusedVariables false
set_option linter.unusedSimpArgs false
/- I7 -/
namespace Go.Proofs.Ytkdjdhflhlbelaa
open Go Go.RowKit
set_option maxRecDepth 100000 in
set_option maxHeartbeats 4000000 in
theorem rSolve_any (M : Nat → Prop) (S : SysD) (vd vt vb : Value) (W : World) (hM : ∀ b, M b → b < W.heap.size) (h : SysAt M W vd vt vb S) :
    Calls Try.prog 21 #[.agg #[.int .i64 (S.w : Int), vd, vt, vb]] W (SolvePost M S W) := by
  have H := Lib.hid h
  have HM := Lib.hid hM
  have hok := h.ok
  have hn := hok.n2
  have HOK := Lib.hid hok
  obtain ⟨R, hR, hRle⟩ := fix_ex hok
  have HR := Lib.hid hR
  have hRb : R ≤ 65536 := Nat.le_trans hRle (Nat.le_trans (Nat.mul_le_mul hn hok.w) (by decide))
  obtain ⟨ad, cd, at1, ct, ab, cb, rfl, rfl, rfl⟩ := h.slices
  clear h hM hok hR hRle
  go_enter Try.func21, Try.ntmps21
  go_wp2_with fail
  have hx0 : Ext No W (W.alloc (.cells #[.int .i64 (S.w : Int), .slice ad S.deps.length cd, .slice at1 S.deps.length ct, .slice ab S.deps.length cb] 29)) := (Ext.refl _ _).alloc _
  refine (rvalidSys_yes S _ _ _ _ (H.out.no.extNo hx0)).mono ?_
  rintro e1 w1 ⟨rfl, hx1⟩
  have HA := Lib.hid (hx1.blk (alloc_top (w := W) (o := (.cells #[.int .i64 (S.w : Int), .slice ad S.deps.length cd, .slice at1 S.deps.length ct, .slice ab S.deps.length cb] 29)) rfl) no_no)
  have HX := Lib.hid (hx0.transNo hx1)
  clear hx0 hx1
  have cA := cellOf HA.out
  go_wp2_with fail
  clear cA
  refine (rEmptyV_any M S _ _ _ _ (fun b hb => Nat.lt_of_lt_of_le (HM.out b hb) HX.out.size) (H.out.no.extNo HX.out)).mono ?_
  rintro e2 w2 ⟨a2, c2, rfl, hs2, hx2⟩
  rw [show (zerosD S).length = S.deps.length from by simp [zerosD]] at hs2 ⊢
  have HS2 := Lib.hid (show SetsV M w2 _ S.w (iterD S 0) from hs2.out)
  have HA2 := Lib.hid (hx2.blk HA.out no_no)
  have HX2 := Lib.hid (HX.out.transNo hx2)
  clear hs2 hx2 HA HX
  go_wp2_with fail
  go_loopw [5, 6, 7, 8] (fun s5 s6 _ _ wr => ∃ (k : Nat) (a : Option Addr) (c : Nat), s5 = .slice a S.deps.length c ∧ s6 = .int .i64 k ∧ k ≤ R ∧ Hid (SetsV M wr (.slice a S.deps.length c) S.w (iterD S k)) ∧ Hid (∀ j, j < k → iterD S (j + 1) ≠ iterD S j) ∧ Hid (Ext No W wr) ∧ Hid (wr.heap[W.heap.size]? = some (.cells #[.int .i64 (S.w : Int), .slice ad S.deps.length cd, .slice at1 S.deps.length ct, .slice ab S.deps.length cb] 29 (0, 0)))) (fun _ s6 _ _ _ => R - (intOf s6).toNat)
  case atStart => exact ⟨0, a2, c2, rfl, rfl, Nat.zero_le _, HS2, Lib.hid (fun j hj => absurd hj (Nat.not_lt_zero _)), HX2, HA2⟩
  case round =>
    clear HS2 HX2 HA2
    obtain ⟨k, a3, c3, rfl, rfl, hk, hs3, hne, hx, hA⟩ := hrel
    rename World => wr
    have cA := cellOf hA.out
    go_wp2_with fail
    clear cA
    refine (rNext_any M S _ _ _ _ (iterD S k) _ (fun b hb => Nat.lt_of_lt_of_le (HM.out b hb) hx.out.size) (H.out.extNo hx.out) hs3.out.no (good_iter HOK.out k).len).mono ?_
    rintro e4 w4 ⟨a4, c4, rfl, hs4, hx4⟩
    rw [show (nextD S (iterD S k)).length = S.deps.length from nextTo_len _ _ _] at hs4 ⊢
    have HS4 := Lib.hid (show SetsV M w4 _ S.w (iterD S (k + 1)) from hs4.out)
    have HS3 := Lib.hid (hs3.out.extNo hx4)
    have HX4 := Lib.hid (hx.out.transNo hx4)
    have HA4 := Lib.hid (hx4.blk hA.out no_no)
    have hl1 := (good_iter HOK.out (k + 1)).len
    have HL1 := Lib.hid hl1
    clear hs4 hs3 hx hx4 hA hl1
    go_wp2_with fail
    refine (rsameSets_any S.w (iterD S (k + 1)) (iterD S k) _ _ _ HS4.out.no HS3.out.no (by rw [HL1.out]; omega)).mono ?_
    rintro e5 w5 ⟨rfl, hx5⟩
    by_cases he : iterD S (k + 1) = iterD S k
    · rw [decide_eq_true he]
      have HE := Lib.hid he
      clear he
      go_wp2_with fail
      have hRk : k = R := HR.out.eq hne.out HE.out
      subst hRk
      refine ret_ex rfl ?_
      simp [results, Try.results21, go_sem]
      exact ⟨k, a3, c3, HR.out, rfl, Lib.hid (HS3.out.extNo hx5), HX4.out.transNo hx5⟩
    · rw [decide_eq_false he]
      have HE := Lib.hid he
      have hkR : k < R := by
        rcases Nat.lt_or_ge k R with h | h
        · exact h
        · exfalso
          have : k = R := by omega
          subst this
          exact he HR.out.fix
      clear he
      have hadd : IntKind.i64.wrap ((k : Int) + 1) = ((k + 1 : Nat) : Int) := by rw [IntWalk.i64_in _ (by omega)]; omega
      go_wp2_with fail
      go_roundw
      case rel => exact ⟨k + 1, a4, c4, rfl, by go_num, by omega, Lib.hid (HS4.out.extNo hx5), Lib.hid (fun j hj => by
        by_cases e : j = k
        · subst e; exact HE.out
        · exact hne.out j (by omega)), Lib.hid (HX4.out.transNo hx5), Lib.hid (hx5.blk HA4.out no_no)⟩
      case measure => simp [intOf]; omega
set_option maxRecDepth 100000 in
set_option maxHeartbeats 2000000 in
theorem rIsAbove_inv (x : Int) (vd vt vb vv : Value) (Ld : LD) (Lt : LT) (Lb : LS) (av : Option Addr) (nv cv : Nat) (W : World) (hvv : vv = .slice av nv cv) (h : YAt No W vd vt vb Ld Lt Lb) (hn : ¬ VS x Ld Lt Lb) :
    Calls Try.prog 64 #[.agg #[.int .i64 x, vd, vt, vb], vv] W (BoolPost false W) := by
  have H := Lib.hid h
  obtain ⟨ad, cd, rfl⟩ := h.d.slice
  obtain ⟨at1, ct, rfl⟩ := h.t.slice
  obtain ⟨ab, cb, rfl⟩ := h.b.slice
  subst hvv
  clear h
  go_enter Try.func64, Try.ntmps64
  go_wp2_with fail
  have hx0 : Ext No W (W.alloc (.cells #[.int .i64 x, .slice ad Ld.length cd, .slice at1 Lt.length ct, .slice ab Lb.length cb] 29)) := (Ext.refl _ _).alloc _
  refine (rvalidSys_any x _ _ _ Ld Lt Lb _ (H.out.extNo hx0)).mono ?_
  rintro e1 w1 ⟨b1, rfl, hb1, hx1⟩
  obtain rfl := tells_f hb1 hn
  have hx := hx0.transNo hx1
  clear hb1 hx0 hx1
  go_wp2_with fail
  go_ret
  exact ⟨rfl, hx⟩
set_option maxRecDepth 100000 in
set_option maxHeartbeats 2000000 in
theorem rIsAbove_val (S : SysD) (vd vt vb vv : Value) (Lv : LS) (W : World) (h : SysAt No W vd vt vb S) (hv : LAt kS No W vv Lv) (hE : valE (S.w : Int) S.deps.length Lv ≠ 0) :
    Calls Try.prog 64 #[.agg #[.int .i64 (S.w : Int), vd, vt, vb], vv] W (BoolPost false W) := by
  have H := Lib.hid h
  have HV := Lib.hid hv
  obtain ⟨ad, cd, at1, ct, ab, cb, rfl, rfl, rfl⟩ := h.slices
  obtain ⟨av, cv, rfl⟩ := hv.slice
  obtain ⟨E, hEE⟩ : ∃ E, E = valE (S.w : Int) S.deps.length Lv := ⟨_, rfl⟩
  rw [← hEE] at hE
  have HEE := Lib.hid hEE
  have hne : (E != 0) = true := by simp [hE]
  have heq : (E == 0) = false := by simp [hE]
  clear h hv hEE
  go_enter Try.func64, Try.ntmps64
  go_wp2_with fail
  have hx0 : Ext No W (W.alloc (.cells #[.int .i64 (S.w : Int), .slice ad S.deps.length cd, .slice at1 S.deps.length ct, .slice ab S.deps.length cb] 29)) := (Ext.refl _ _).alloc _
  refine (rvalidSys_yes S _ _ _ _ (H.out.extNo hx0)).mono ?_
  rintro e1 w1 ⟨rfl, hx1⟩
  have cA := cellOf (hx1.blk (alloc_top (w := W) (o := (.cells #[.int .i64 (S.w : Int), .slice ad S.deps.length cd, .slice at1 S.deps.length ct, .slice ab S.deps.length cb] 29)) rfl) no_no)
  have HX := Lib.hid (hx0.transNo hx1)
  clear hx0 hx1
  go_wp2_with fail
  clear cA
  refine (rvalues_any (S.w : Int) _ _ _ _ _ _ _ _ _ _ Lv _ (HV.out.extNo HX.out)).mono ?_
  rintro e3 w3 ⟨rfl, hx3⟩
  rw [← HEE.out]
  go_wp2_with fail
  go_ret
  exact ⟨rfl, HX.out.transNo hx3⟩
set_option maxRecDepth 100000 in
set_option maxHeartbeats 4000000 in
theorem rIsAbove_any (S : SysD) (vd vt vb vv : Value) (vs : List Nat) (W : World) (h : SysAt No W vd vt vb S) (hv : SetsV No W vv S.w vs) (hl : vs.length = S.deps.length) :
    Calls Try.prog 64 #[.agg #[.int .i64 (S.w : Int), vd, vt, vb], vv] W (Tells (LeV S (nextD S vs) vs) W) := by
  have H := Lib.hid h
  have HV := Lib.hid hv
  have HL := Lib.hid hl
  have hnn := h.ok.n2
  obtain ⟨ad, cd, at1, ct, ab, cb, rfl, rfl, rfl⟩ := h.slices
  obtain ⟨av, cv, rfl⟩ := hv.slice
  obtain ⟨Lv, hLv, hLm, hLl⟩ := hv.list
  have hE : valE (S.w : Int) S.deps.length Lv = 0 := valE_ok (by omega) (fun p hp => (set_of_map hLm hv.hw hv.hm p hp).1) (fun p hp => (set_of_map hLm hv.hw hv.hm p hp).2)
  have HE := Lib.hid hE
  have HLV := Lib.hid hLv
  clear h hv hl hLv hLm hLl hE
  go_enter Try.func64, Try.ntmps64
  go_wp2_with fail
  have hx0 : Ext No W (W.alloc (.cells #[.int .i64 (S.w : Int), .slice ad S.deps.length cd, .slice at1 S.deps.length ct, .slice ab S.deps.length cb] 29)) := (Ext.refl _ _).alloc _
  refine (rvalidSys_yes S _ _ _ _ (H.out.extNo hx0)).mono ?_
  rintro e1 w1 ⟨rfl, hx1⟩
  have HA := Lib.hid (hx1.blk (alloc_top (w := W) (o := (.cells #[.int .i64 (S.w : Int), .slice ad S.deps.length cd, .slice at1 S.deps.length ct, .slice ab S.deps.length cb] 29)) rfl) no_no)
  have HX1 := Lib.hid (hx0.transNo hx1)
  have cA := cellOf HA.out
  clear hx0 hx1
  go_wp2_with fail
  clear cA
  refine (rvalues_any (S.w : Int) _ _ _ _ _ _ _ _ _ _ Lv _ (HLV.out.extNo HX1.out)).mono ?_
  rintro e3 w3 ⟨rfl, hx3⟩
  rw [HE.out]
  have HA3 := Lib.hid (hx3.blk HA.out no_no)
  have HX := Lib.hid (HX1.out.transNo hx3)
  clear hx3 HX1 HA
  go_wp2_with fail
  go_loopw [5] (fun i wr => ∃ k : Nat, i = .int .i64 k ∧ k ≤ S.deps.length ∧ Hid (Ext No w3 wr) ∧ Hid (∀ j, j < k → LeB (rowD (nextD S vs) j) (rowD vs j))) (fun i _ => S.deps.length - (intOf i).toNat)
  case atStart => exact ⟨0, rfl, Nat.zero_le _, Lib.hid (Ext.refl _ _), Lib.hid (fun j hj => absurd hj (Nat.not_lt_zero _))⟩
  case round =>
    obtain ⟨k, rfl, hk, hx, hm⟩ := hrel
    rename World => wr
    by_cases hlt : k < S.deps.length
    · have hlz : (k : Int) < (S.deps.length : Int) := by omega
      obtain ⟨p1, p2, p3, p4, p5, hve, hcl2, hq2⟩ := (HV.out.extNo (HX.out.transNo hx.out)).cells (i := k) (by rw [HL.out]; exact hlt)
      simp only [Value.slice.injEq] at hve
      obtain ⟨rfl, -, rfl⟩ := hve
      have hlv : (k : Int) < (vs.length : Int) := by rw [HL.out]; exact hlz
      have HQ2 := Lib.hid hcl2
      have HB := Lib.hid (hx.out.blk HA3.out no_no)
      have HRW : Hid (rowD (nextD S vs) k = rightD S vs k) := Lib.hid (nextTo_row hlt)
      clear hcl2
      cases hs : subN (rowD (nextD S vs) k) (rowD vs k) with
      | true =>
        have HS := Lib.hid hs
        clear hs
        go_upto_region 6 with (fail)
        refine wp_region_held_drew (S := (fun w' => Ext No wr w')) (by kernel_rfl) ?_ (fun hHeld => ?_)
        · exact (Ext.refl _ _).drew
        refine hTk (i := 0) (v := ?_) rfl (by kernel_rfl) (fun _ _ _ h => h) rfl (fun w hSw => ?_) hHeld ?_
        rotate_left
        · (have hEs : Ext No wr _ := hSw); (have x0 := cellOf (hEs.blk HB.out no_no)); go_simp; (try with_reducible rfl)
        try simp only [Act.put, nzA, nzB, nzC]
        refine hTk (i := 1) (v := ?_) rfl (by kernel_rfl) (fun _ _ _ h => h) rfl (fun w hSw => ?_) hHeld ?_
        rotate_left
        · go_simp; (try with_reducible rfl)
        try simp only [Act.put, nzA, nzB, nzC]
        refine hTk (i := 2) (v := ?_) rfl (by kernel_rfl) (fun _ _ _ h => h) rfl (fun w hSw => ?_) hHeld ?_
        rotate_left
        · go_simp; (try with_reducible rfl)
        try simp only [Act.put, nzA, nzB, nzC]
        refine hTk (i := 4) (v := ?_) rfl (by kernel_rfl) (fun _ _ _ h => h) rfl (fun w hSw => ?_) hHeld ?_
        rotate_left
        · go_simp; (try with_reducible rfl)
        try simp only [Act.put, nzA, nzB, nzC]
        refine hTk (i := 5) (v := ?_) rfl (by kernel_rfl) (fun _ _ _ h => h) rfl (fun w hSw => ?_) hHeld ?_
        rotate_left
        · go_simp; (try with_reducible rfl)
        try simp only [Act.put, nzA, nzB, nzC]
        refine hTk (i := 6) (v := ?_) rfl (by kernel_rfl) (fun _ _ _ h => h) rfl (fun w hSw => ?_) hHeld ?_
        rotate_left
        · go_simp; (try with_reducible rfl)
        try simp only [Act.put, nzA, nzB, nzC]
        refine hTk (i := 7) (v := ?_) rfl (by kernel_rfl) (fun _ _ _ h => h) rfl (fun w hSw => ?_) hHeld ?_
        rotate_left
        · (have hEs : Ext No wr _ := hSw); (obtain ⟨p0, p1⟩ := HQ2.out); (have x0 := hEs.keep p0); (have x1 := hEs.keep p1); go_simp; (try with_reducible rfl)
        try simp only [Act.put, nzA, nzB, nzC]
        refine held_call (i := 3) rfl (by kernel_rfl) rfl (fun K hK => ?_)
        ((have hEx : Ext No wr _ := hHeld); go_simp; (go_at_call 107); (refine (rright_any No S _ _ _ _ vs k _ (fun _ e => e.elim) (H.out.extNo (HX.out.transNo (hx.out.transNo hEx))) (HV.out.extNo (HX.out.transNo (hx.out.transNo hEx))) HL.out hlt).mono ?_); (rintro e8 w8 ⟨a8, c8, rfl, hs8, hyA⟩); (rw [← HRW.out] at hs8); go_simp)
        refine hK.out _ _ ?_ (fun hNew => ?_)
        · exact Ext.transNo (show Ext No wr _ from hHeld) hyA
        clear hK K hHeld
        have hHeld := hNew
        clear hNew
        try simp only [Act.put, nzA, nzB, nzC]
        refine held_call (i := 8) rfl (by kernel_rfl) rfl (fun K hK => ?_)
        ((have hEx : Ext No wr _ := hHeld); go_simp; (go_at_call 106); (refine (rsubset_any S.w (rowD (nextD S vs) k) (rowD vs k) _ _ _ hs8.out (hq2.out.extNo hEx)).mono ?_); (rintro e9 w9 ⟨rfl, hyA⟩); (rw [HS.out]); go_simp)
        refine hK.out _ _ ?_ (fun hNew => ?_)
        · exact Ext.transNo (show Ext No wr _ from hHeld) hyA
        clear hK K hHeld
        have hHeld := hNew
        clear hNew
        try simp only [Act.put, nzA, nzB, nzC]
        refine hTk (i := 9) (v := ?_) rfl (by kernel_rfl) (fun _ _ _ h => h) rfl (fun w hSw => ?_) hHeld ?_
        rotate_left
        · go_simp; (try with_reducible rfl)
        try simp only [Act.put, nzA, nzB, nzC]
        refine wpAnyH_done (by kernel_rfl) ?_ _
        have hEx : Ext No wr _ := hHeld
        go_wp2_with fail
        go_roundw
        case rel => exact ⟨k + 1, by go_num, by omega, Lib.hid (hx.out.transNo hEx), Lib.hid (fun j hj => by
          by_cases e : j = k
          · subst e; exact le_of_sub HS.out
          · exact hm.out j (by omega))⟩
        case measure => simp [intOf]; omega
      | false =>
        have HS := Lib.hid hs
        clear hs
        go_upto_region 6 with (fail)
        refine wp_region_held_drew (S := (fun w' => Ext No wr w')) (by kernel_rfl) ?_ (fun hHeld => ?_)
        · exact (Ext.refl _ _).drew
        refine hTk (i := 0) (v := ?_) rfl (by kernel_rfl) (fun _ _ _ h => h) rfl (fun w hSw => ?_) hHeld ?_
        rotate_left
        · (have hEs : Ext No wr _ := hSw); (have x0 := cellOf (hEs.blk HB.out no_no)); go_simp; (try with_reducible rfl)
        try simp only [Act.put, nzA, nzB, nzC]
        refine hTk (i := 1) (v := ?_) rfl (by kernel_rfl) (fun _ _ _ h => h) rfl (fun w hSw => ?_) hHeld ?_
        rotate_left
        · go_simp; (try with_reducible rfl)
        try simp only [Act.put, nzA, nzB, nzC]
        refine hTk (i := 2) (v := ?_) rfl (by kernel_rfl) (fun _ _ _ h => h) rfl (fun w hSw => ?_) hHeld ?_
        rotate_left
        · go_simp; (try with_reducible rfl)
        try simp only [Act.put, nzA, nzB, nzC]
        refine hTk (i := 4) (v := ?_) rfl (by kernel_rfl) (fun _ _ _ h => h) rfl (fun w hSw => ?_) hHeld ?_
        rotate_left
        · go_simp; (try with_reducible rfl)
        try simp only [Act.put, nzA, nzB, nzC]
        refine hTk (i := 5) (v := ?_) rfl (by kernel_rfl) (fun _ _ _ h => h) rfl (fun w hSw => ?_) hHeld ?_
        rotate_left
        · go_simp; (try with_reducible rfl)
        try simp only [Act.put, nzA, nzB, nzC]
        refine hTk (i := 6) (v := ?_) rfl (by kernel_rfl) (fun _ _ _ h => h) rfl (fun w hSw => ?_) hHeld ?_
        rotate_left
        · go_simp; (try with_reducible rfl)
        try simp only [Act.put, nzA, nzB, nzC]
        refine hTk (i := 7) (v := ?_) rfl (by kernel_rfl) (fun _ _ _ h => h) rfl (fun w hSw => ?_) hHeld ?_
        rotate_left
        · (have hEs : Ext No wr _ := hSw); (obtain ⟨p0, p1⟩ := HQ2.out); (have x0 := hEs.keep p0); (have x1 := hEs.keep p1); go_simp; (try with_reducible rfl)
        try simp only [Act.put, nzA, nzB, nzC]
        refine held_call (i := 3) rfl (by kernel_rfl) rfl (fun K hK => ?_)
        ((have hEx : Ext No wr _ := hHeld); go_simp; (go_at_call 107); (refine (rright_any No S _ _ _ _ vs k _ (fun _ e => e.elim) (H.out.extNo (HX.out.transNo (hx.out.transNo hEx))) (HV.out.extNo (HX.out.transNo (hx.out.transNo hEx))) HL.out hlt).mono ?_); (rintro e8 w8 ⟨a8, c8, rfl, hs8, hyA⟩); (rw [← HRW.out] at hs8); go_simp)
        refine hK.out _ _ ?_ (fun hNew => ?_)
        · exact Ext.transNo (show Ext No wr _ from hHeld) hyA
        clear hK K hHeld
        have hHeld := hNew
        clear hNew
        try simp only [Act.put, nzA, nzB, nzC]
        refine held_call (i := 8) rfl (by kernel_rfl) rfl (fun K hK => ?_)
        ((have hEx : Ext No wr _ := hHeld); go_simp; (go_at_call 106); (refine (rsubset_any S.w (rowD (nextD S vs) k) (rowD vs k) _ _ _ hs8.out (hq2.out.extNo hEx)).mono ?_); (rintro e9 w9 ⟨rfl, hyA⟩); (rw [HS.out]); go_simp)
        refine hK.out _ _ ?_ (fun hNew => ?_)
        · exact Ext.transNo (show Ext No wr _ from hHeld) hyA
        clear hK K hHeld
        have hHeld := hNew
        clear hNew
        try simp only [Act.put, nzA, nzB, nzC]
        refine hTk (i := 9) (v := ?_) rfl (by kernel_rfl) (fun _ _ _ h => h) rfl (fun w hSw => ?_) hHeld ?_
        rotate_left
        · go_simp; (try with_reducible rfl)
        try simp only [Act.put, nzA, nzB, nzC]
        refine wpAnyH_done (by kernel_rfl) ?_ _
        have hEx : Ext No wr _ := hHeld
        go_wp2_with fail
        go_ret
        exact tells_false (fun e => by have := sub_of_le (e k hlt); rw [HS.out] at this; cases this) (HX.out.transNo (hx.out.transNo hEx))
    · have hge : ¬ (k : Int) < (vs.length : Int) := by rw [HL.out]; omega
      have hge2 : ¬ (k : Int) < (S.deps.length : Int) := by omega
      go_wp2_with fail
      go_ret
      exact tells_true (fun i hi => hm.out i (by omega)) (HX.out.transNo hx.out)
set_option maxRecDepth 100000 in
set_option maxHeartbeats 2000000 in
theorem rIsSol_no (x : Int) (ad at1 ab : Option Addr) (nd cd nt ct nb cb : Nat) (vv : Value) (av : Option Addr) (nv cv : Nat) (W : World) (hvv : vv = .slice av nv cv)
    (hA : ∀ w', Ext No W w' → Calls Try.prog 64 #[.agg #[.int .i64 x, .slice ad nd cd, .slice at1 nt ct, .slice ab nb cb], vv] w' (BoolPost false w')) :
    Calls Try.prog 63 #[.agg #[.int .i64 x, .slice ad nd cd, .slice at1 nt ct, .slice ab nb cb], vv] W (BoolPost false W) := by
  have HA := Lib.hid hA
  subst hvv
  clear hA
  go_enter Try.func63, Try.ntmps63
  go_wp2_with fail
  have hx0 : Ext No W (W.alloc (.cells #[.int .i64 x, .slice ad nd cd, .slice at1 nt ct, .slice ab nb cb] 29)) := (Ext.refl _ _).alloc _
  refine (HA.out _ hx0).mono ?_
  rintro e1 w1 ⟨rfl, hx1⟩
  go_wp2_with fail
  go_ret
  exact ⟨rfl, hx0.transNo hx1⟩
set_option maxRecDepth 100000 in
set_option maxHeartbeats 2000000 in
theorem rIsSol_any (S : SysD) (vd vt vb vv : Value) (vs : List Nat) (W : World) (h : SysAt No W vd vt vb S) (hv : SetsV No W vv S.w vs) (hl : vs.length = S.deps.length) :
    Calls Try.prog 63 #[.agg #[.int .i64 (S.w : Int), vd, vt, vb], vv] W (BoolPost (decide (nextD S vs = vs)) W) := by
  have H := Lib.hid h
  have HV := Lib.hid hv
  have HL := Lib.hid hl
  have hnn := h.ok.n2
  obtain ⟨ad, cd, at1, ct, ab, cb, rfl, rfl, rfl⟩ := h.slices
  obtain ⟨av, cv, rfl⟩ := hv.slice
  clear h hv hl
  go_enter Try.func63, Try.ntmps63
  go_wp2_with fail
  have hx0 : Ext No W (W.alloc (.cells #[.int .i64 (S.w : Int), .slice ad S.deps.length cd, .slice at1 S.deps.length ct, .slice ab S.deps.length cb] 29)) := (Ext.refl _ _).alloc _
  refine (rIsAbove_any S _ _ _ _ vs _ (H.out.extNo hx0) (HV.out.extNo hx0) HL.out).mono ?_
  rintro e1 w1 ⟨b1, rfl, hb1, hx1⟩
  have HA := Lib.hid (hx1.blk (alloc_top (w := W) (o := (.cells #[.int .i64 (S.w : Int), .slice ad S.deps.length cd, .slice at1 S.deps.length ct, .slice ab S.deps.length cb] 29)) rfl) no_no)
  have HX := Lib.hid (hx0.transNo hx1)
  clear hx0 hx1
  cases b1 with
  | false =>
    have hne : nextD S vs ≠ vs := fun e => tells_no hb1 (by rw [e]; exact LeV.refl S vs)
    have HNE := Lib.hid hne
    clear hb1 hne
    go_wp2_with fail
    go_ret
    exact ⟨by rw [decide_eq_false HNE.out]; rfl, HX.out⟩
  | true =>
    clear hb1
    have cA := cellOf HA.out
    go_wp2_with fail
    clear cA
    refine (rNext_any No S _ _ _ _ vs _ (fun _ e => e.elim) (H.out.extNo HX.out) (HV.out.extNo HX.out) HL.out).mono ?_
    rintro e3 w3 ⟨a3, c3, rfl, hs3, hx3⟩
    have HX3 := Lib.hid (HX.out.transNo hx3)
    have hl3 : (nextD S vs).length = S.deps.length := nextTo_len _ _ _
    have HL3 := Lib.hid hl3
    clear hx3 hl3
    go_wp2_with fail
    refine (rsameSets_any S.w (nextD S vs) vs _ _ _ hs3.out (HV.out.extNo HX3.out) (by rw [HL3.out]; omega)).mono ?_
    rintro e4 w4 ⟨rfl, hx4⟩
    go_wp2_with fail
    go_ret
    exact ⟨rfl, HX3.out.transNo hx4⟩
end Go.Proofs.Ytkdjdhflhlbelaa

/- I10 -/
namespace Go.Proofs.Ytkdjdhflhlbelaa
open Go Go.RowKit
/-- values and an error -/
def NextR (E : Int) (wd : Nat) (us : List Nat) (W : World) (e : Ending) (w' : World) : Prop :=
  ∃ a c, e = .returned (.tuple #[.slice a us.length c, .int .i64 E]) ∧ Hid (SetsV No w' (.slice a us.length c) wd us) ∧ Ext No W w'
theorem NextR.err {E : Int} {W w' : World} {e : Ending} (h : ErrPost (.slice none 0 0) E W e w') : NextR E 0 [] W e w' := by
  obtain ⟨rfl, hx⟩ := h
  exact ⟨none, 0, rfl, Lib.hid (LAt.setsV (L := []) (LAt.nil _ _ (Nat.zero_le _)) rfl (Nat.zero_le _) (fun m hm => by cases hm)), hx⟩
theorem NextR.ok {wd : Nat} {us : List Nat} {W w' : World} {e : Ending} (h : SetsEPost No wd us W e w') : NextR 0 wd us W e w' := h
set_option maxRecDepth 100000 in
set_option maxHeartbeats 4000000 in
theorem checks_of (x E : Int) (wd : Nat) (us : List Nat) (b1 b2 : Bool) (ad at1 ab av : Option Addr) (nd cd nt ct nb cb nv cv : Nat) (W : World) (hul : us.length ≤ 1048576)
    (h1 : (∀ w', Ext No W w' → Calls Try.prog 28 #[.agg #[.int .i64 x, .slice ad nd cd, .slice at1 nt ct, .slice ab nb cb], .slice av nv cv] w' (NextR E wd us w'))) (h2 : (∀ w', Ext No W w' → Calls Try.prog 60 #[.agg #[.int .i64 x, .slice ad nd cd, .slice at1 nt ct, .slice ab nb cb], .slice av nv cv] w' (NextR E wd us w')))
    (h3 : (∀ w', Ext No W w' → Calls Try.prog 26 #[.agg #[.int .i64 x, .slice ad nd cd, .slice at1 nt ct, .slice ab nb cb], .slice av nv cv] w' (BoolPost b1 w'))) (h4 : (∀ w', Ext No W w' → Calls Try.prog 63 #[.agg #[.int .i64 x, .slice ad nd cd, .slice at1 nt ct, .slice ab nb cb], .slice av nv cv] w' (BoolPost b1 w')))
    (h5 : (∀ w', Ext No W w' → Calls Try.prog 29 #[.agg #[.int .i64 x, .slice ad nd cd, .slice at1 nt ct, .slice ab nb cb], .slice av nv cv] w' (BoolPost b2 w'))) (h6 : (∀ w', Ext No W w' → Calls Try.prog 64 #[.agg #[.int .i64 x, .slice ad nd cd, .slice at1 nt ct, .slice ab nb cb], .slice av nv cv] w' (BoolPost b2 w'))) :
    Calls Try.prog 24 #[.agg #[.int .i64 x, .slice ad nd cd, .slice at1 nt ct, .slice ab nb cb], .slice av nv cv] W (BoolPost true W) := by
  have H1 := Lib.hid h1
  have H2 := Lib.hid h2
  have H3 := Lib.hid h3
  have H4 := Lib.hid h4
  have H5 := Lib.hid h5
  have H6 := Lib.hid h6
  clear h1 h2 h3 h4 h5 h6
  go_enter Try.func24, Try.ntmps24
  go_upto_region 1 with (fail)
  have hx0 : Ext No W (W.alloc (.cells #[.int .i64 x, .slice ad nd cd, .slice at1 nt ct, .slice ab nb cb] 29)) := (Ext.refl _ _).alloc _
  have HA := Lib.hid (alloc_top (w := W) (o := (.cells #[.int .i64 x, .slice ad nd cd, .slice at1 nt ct, .slice ab nb cb] 29)) rfl)
  generalize (W.alloc (.cells #[.int .i64 x, .slice ad nd cd, .slice at1 nt ct, .slice ab nb cb] 29)) = w0 at *
  have cA := cellOf HA.out
  go_wp2_with fail
  refine (H1.out _ hx0).mono ?_
  rintro e1 w1 ⟨a1, c1, rfl, hu1, hx1⟩
  have HA1 := Lib.hid (hx1.blk HA.out no_no)
  have HX1 := Lib.hid (hx0.transNo hx1)
  clear cA hx0 hx1 HA
  have cA := cellOf HA1.out
  go_wp2_with fail
  refine (H2.out _ HX1.out).mono ?_
  rintro e2 w2 ⟨a2, c2, rfl, hu2, hx2⟩
  have HB := Lib.hid (hx2.blk HA1.out no_no)
  have HX := Lib.hid (HX1.out.transNo hx2)
  have HU1 := Lib.hid (hu1.out.extNo hx2)
  have HU2 := Lib.hid hu2.out
  clear cA hx2 hu1 hu2 HA1 HX1
  go_upto_region 3 with (fail)
  refine wp_region_held_drew (S := (fun w' => Ext No w2 w')) (by kernel_rfl) ?_ (fun hHeld => ?_)
  · exact (Ext.refl _ _).drew
  refine hTk (i := 0) (v := ?_) rfl (by kernel_rfl) (fun _ _ _ h => h) rfl (fun w hSw => ?_) hHeld ?_
  rotate_left
  · go_simp; (try with_reducible rfl)
  try simp only [Act.put, nzA, nzB, nzC]
  refine hTk (i := 1) (v := ?_) rfl (by kernel_rfl) (fun _ _ _ h => h) rfl (fun w hSw => ?_) hHeld ?_
  rotate_left
  · go_simp; (try with_reducible rfl)
  try simp only [Act.put, nzA, nzB, nzC]
  refine hTk (i := 2) (v := ?_) rfl (by kernel_rfl) (fun _ _ _ h => h) rfl (fun w hSw => ?_) hHeld ?_
  rotate_left
  · go_simp; (try with_reducible rfl)
  try simp only [Act.put, nzA, nzB, nzC]
  refine hTk (i := 3) (v := ?_) rfl (by kernel_rfl) (fun _ _ _ h => h) rfl (fun w hSw => ?_) hHeld ?_
  rotate_left
  · go_simp; (try with_reducible rfl)
  try simp only [Act.put, nzA, nzB, nzC]
  refine hTk (i := 4) (v := ?_) rfl (by kernel_rfl) (fun _ _ _ h => h) rfl (fun w hSw => ?_) hHeld ?_
  rotate_left
  · go_simp; (try with_reducible rfl)
  try simp only [Act.put, nzA, nzB, nzC]
  refine hTk (i := 5) (v := ?_) rfl (by kernel_rfl) (fun _ _ _ h => h) rfl (fun w hSw => ?_) hHeld ?_
  rotate_left
  · go_simp; (try with_reducible rfl)
  try simp only [Act.put, nzA, nzB, nzC]
  refine held_call (i := 6) rfl (by kernel_rfl) rfl (fun K hK => ?_)
  ((have hEx : Ext No w2 _ := hHeld); go_simp; (go_at_call 33); (refine (rsameSets_any wd us us _ _ _ (HU1.out.extNo hEx) (HU2.out.extNo hEx) hul).mono ?_); (rintro e3 v3 ⟨rfl, hyA⟩); (rw [decide_eq_true rfl]); go_simp)
  refine hK.out _ _ ?_ (fun hNew => ?_)
  · exact Ext.transNo (show Ext No w2 _ from hHeld) hyA
  clear hK K hHeld
  have hHeld := hNew
  clear hNew
  try simp only [Act.put, nzA, nzB, nzC]
  refine hTk (i := 7) (v := ?_) rfl (by kernel_rfl) (fun _ _ _ h => h) rfl (fun w hSw => ?_) hHeld ?_
  rotate_left
  · go_simp; (try with_reducible rfl)
  try simp only [Act.put, nzA, nzB, nzC]
  refine hTk (i := 8) (v := ?_) rfl (by kernel_rfl) (fun _ _ _ h => h) rfl (fun w hSw => ?_) hHeld ?_
  rotate_left
  · go_simp; (try with_reducible rfl)
  try simp only [Act.put, nzA, nzB, nzC]
  refine hTk (i := 9) (v := ?_) rfl (by kernel_rfl) (fun _ _ _ h => h) rfl (fun w hSw => ?_) hHeld ?_
  rotate_left
  · (have hEs : Ext No w2 _ := hSw); (have x0 := cellOf (hEs.blk HB.out no_no)); go_simp; (try with_reducible rfl)
  try simp only [Act.put, nzA, nzB, nzC]
  refine hTk (i := 10) (v := ?_) rfl (by kernel_rfl) (fun _ _ _ h => h) rfl (fun w hSw => ?_) hHeld ?_
  rotate_left
  · go_simp; (try with_reducible rfl)
  try simp only [Act.put, nzA, nzB, nzC]
  refine hTk (i := 12) (v := ?_) rfl (by kernel_rfl) (fun _ _ _ h => h) rfl (fun w hSw => ?_) hHeld ?_
  rotate_left
  · (have hEs : Ext No w2 _ := hSw); (have x0 := cellOf (hEs.blk HB.out no_no)); go_simp; (try with_reducible rfl)
  try simp only [Act.put, nzA, nzB, nzC]
  refine hTk (i := 13) (v := ?_) rfl (by kernel_rfl) (fun _ _ _ h => h) rfl (fun w hSw => ?_) hHeld ?_
  rotate_left
  · go_simp; (try with_reducible rfl)
  try simp only [Act.put, nzA, nzB, nzC]
  refine held_call (i := 11) rfl (by kernel_rfl) rfl (fun K hK => ?_)
  ((have hEx : Ext No w2 _ := hHeld); go_simp; (go_at_call 26); (refine (H3.out _ (HX.out.transNo hEx)).mono ?_); (rintro e4 v4 ⟨rfl, hyA⟩); go_simp)
  refine hK.out _ _ ?_ (fun hNew => ?_)
  · exact Ext.transNo (show Ext No w2 _ from hHeld) hyA
  clear hK K hHeld
  have hHeld := hNew
  clear hNew
  try simp only [Act.put, nzA, nzB, nzC]
  refine held_call (i := 14) rfl (by kernel_rfl) rfl (fun K hK => ?_)
  ((have hEx : Ext No w2 _ := hHeld); go_simp; (go_at_call 63); (refine (H4.out _ (HX.out.transNo hEx)).mono ?_); (rintro e5 v5 ⟨rfl, hyA⟩); go_simp)
  refine hK.out _ _ ?_ (fun hNew => ?_)
  · exact Ext.transNo (show Ext No w2 _ from hHeld) hyA
  clear hK K hHeld
  have hHeld := hNew
  clear hNew
  try simp only [Act.put, nzA, nzB, nzC]
  refine hTk (i := 15) (v := ?_) rfl (by kernel_rfl) (fun _ _ _ h => h) rfl (fun w hSw => ?_) hHeld ?_
  rotate_left
  · go_simp; (try with_reducible rfl)
  try simp only [Act.put, nzA, nzB, nzC]
  refine hTk (i := 16) (v := ?_) rfl (by kernel_rfl) (fun _ _ _ h => h) rfl (fun w hSw => ?_) hHeld ?_
  rotate_left
  · go_simp; (try with_reducible rfl)
  try simp only [Act.put, nzA, nzB, nzC]
  refine hTk (i := 17) (v := ?_) rfl (by kernel_rfl) (fun _ _ _ h => h) rfl (fun w hSw => ?_) hHeld ?_
  rotate_left
  · go_simp; (try with_reducible rfl)
  try simp only [Act.put, nzA, nzB, nzC]
  refine hTk (i := 18) (v := ?_) rfl (by kernel_rfl) (fun _ _ _ h => h) rfl (fun w hSw => ?_) hHeld ?_
  rotate_left
  · (have hEs : Ext No w2 _ := hSw); (have x0 := cellOf (hEs.blk HB.out no_no)); go_simp; (try with_reducible rfl)
  try simp only [Act.put, nzA, nzB, nzC]
  refine hTk (i := 19) (v := ?_) rfl (by kernel_rfl) (fun _ _ _ h => h) rfl (fun w hSw => ?_) hHeld ?_
  rotate_left
  · go_simp; (try with_reducible rfl)
  try simp only [Act.put, nzA, nzB, nzC]
  refine hTk (i := 21) (v := ?_) rfl (by kernel_rfl) (fun _ _ _ h => h) rfl (fun w hSw => ?_) hHeld ?_
  rotate_left
  · (have hEs : Ext No w2 _ := hSw); (have x0 := cellOf (hEs.blk HB.out no_no)); go_simp; (try with_reducible rfl)
  try simp only [Act.put, nzA, nzB, nzC]
  refine hTk (i := 22) (v := ?_) rfl (by kernel_rfl) (fun _ _ _ h => h) rfl (fun w hSw => ?_) hHeld ?_
  rotate_left
  · go_simp; (try with_reducible rfl)
  try simp only [Act.put, nzA, nzB, nzC]
  refine held_call (i := 20) rfl (by kernel_rfl) rfl (fun K hK => ?_)
  ((have hEx : Ext No w2 _ := hHeld); go_simp; (go_at_call 29); (refine (H5.out _ (HX.out.transNo hEx)).mono ?_); (rintro e6 v6 ⟨rfl, hyA⟩); go_simp)
  refine hK.out _ _ ?_ (fun hNew => ?_)
  · exact Ext.transNo (show Ext No w2 _ from hHeld) hyA
  clear hK K hHeld
  have hHeld := hNew
  clear hNew
  try simp only [Act.put, nzA, nzB, nzC]
  refine held_call (i := 23) rfl (by kernel_rfl) rfl (fun K hK => ?_)
  ((have hEx : Ext No w2 _ := hHeld); go_simp; (go_at_call 64); (refine (H6.out _ (HX.out.transNo hEx)).mono ?_); (rintro e7 v7 ⟨rfl, hyA⟩); go_simp)
  refine hK.out _ _ ?_ (fun hNew => ?_)
  · exact Ext.transNo (show Ext No w2 _ from hHeld) hyA
  clear hK K hHeld
  have hHeld := hNew
  clear hNew
  try simp only [Act.put, nzA, nzB, nzC]
  refine hTk (i := 24) (v := ?_) rfl (by kernel_rfl) (fun _ _ _ h => h) rfl (fun w hSw => ?_) hHeld ?_
  rotate_left
  · go_simp; (try with_reducible rfl)
  try simp only [Act.put, nzA, nzB, nzC]
  refine hTk (i := 25) (v := ?_) rfl (by kernel_rfl) (fun _ _ _ h => h) rfl (fun w hSw => ?_) hHeld ?_
  rotate_left
  · go_simp; (try with_reducible rfl)
  try simp only [Act.put, nzA, nzB, nzC]
  refine hTk (i := 26) (v := ?_) rfl (by kernel_rfl) (fun _ _ _ h => h) rfl (fun w hSw => ?_) hHeld ?_
  rotate_left
  · go_simp; (try with_reducible rfl)
  try simp only [Act.put, nzA, nzB, nzC]
  refine wpAnyH_done (by kernel_rfl) ?_ _
  have hEx : Ext No w2 _ := hHeld
  go_wp2_with fail
  go_ret
  exact ⟨rfl, HX.out.transNo hEx⟩
theorem vals_of {S : SysD} {W : World} {sl : Value} {L : LS} (hL : LAt kS No W sl L) (h : ∀ p ∈ L, FitS (S.w : Int) p.1) : ∃ vs : List Nat, L.map Prod.fst = vs.map (setN S.w) ∧ ∀ m ∈ vs, m < 2 ^ S.w := by
  obtain ⟨vs, hv⟩ := lift_map (f := fun m : {m : Nat // m < 2 ^ S.w} => setN S.w m.1) L (fun p hp => by
    have h1 := h p hp
    have h2 : WordsAt No W p.2 p.1.words := hL.ok p hp
    obtain ⟨w', m, _, hm, he⟩ := (validB_iff h2.lt).1 h1.1
    have h3 := h1.2
    rw [he] at h3
    have h4 : ((w' : Nat) : Int) = (S.w : Int) := h3
    obtain rfl : w' = S.w := by omega
    exact ⟨⟨m, hm⟩, he⟩)
  exact ⟨vs.map Subtype.val, by rw [hv, List.map_map]; rfl, fun m hm => by
    obtain ⟨q, _, rfl⟩ := List.mem_map.1 hm
    exact q.2⟩
theorem Tells.dec {p : Prop} {W w' : World} {e : Ending} (h : Tells p W e w') : BoolPost (@decide p (Classical.propDecidable p)) W e w' := by
  obtain ⟨b, rfl, hb, hx⟩ := h
  refine ⟨?_, hx⟩
  by_cases hp : p
  · rw [hb.2 hp, @decide_eq_true p (Classical.propDecidable p) hp]
  · rw [tells_f hb hp, @decide_eq_false p (Classical.propDecidable p) hp]
theorem checks_any (x : Int) (vd vt vb vv : Value) (Ld : LD) (Lt : LT) (Lb Lv : LS) (W : World) (h : YAt No W vd vt vb Ld Lt Lb) (hv : LAt kS No W vv Lv) :
    Calls Try.prog 24 #[.agg #[.int .i64 x, vd, vt, vb], vv] W (BoolPost true W) := by
  have h0 := h
  have hv0 := hv
  by_cases hV : VS x Ld Lt Lb
  · obtain ⟨S, rfl, hS, hSl⟩ := hV.sys h
    obtain ⟨ad, cd, at1, ct, ab, cb, rfl, rfl, rfl⟩ := hS.slices
    obtain ⟨av, cv, rfl⟩ := hv.slice
    by_cases hE : valE (S.w : Int) S.deps.length Lv = 0
    · obtain ⟨hl, hf⟩ := valE_zero hE
      obtain ⟨vs, hm, hlt⟩ := vals_of hv0 hf
      have hl2 : vs.length = S.deps.length := by have := congrArg List.length hm; simp at this; omega
      have hvs : SetsV No W (.slice av Lv.length cv) S.w vs := hv0.setsV hm hS.ok.w hlt
      have hn2 := hS.ok.n2
      refine checks_of (S.w : Int) 0 S.w (nextD S vs) (decide (nextD S vs = vs)) (@decide (LeV S (nextD S vs) vs) (Classical.propDecidable _)) ad at1 ab av _ cd _ ct _ cb _ cv W (by have : (nextD S vs).length = S.deps.length := nextTo_len _ _ _; omega) ?_ ?_ ?_ ?_ ?_ ?_
      · exact fun w' hx => (sysNext_any No S _ _ _ _ vs w' (fun _ e => e.elim) (hS.extNo hx) (hvs.extNo hx) hl2).mono (fun _ _ h => NextR.ok h)
      · exact fun w' hx => (rNext_any No S _ _ _ _ vs w' (fun _ e => e.elim) (hS.extNo hx) (hvs.extNo hx) hl2).mono (fun _ _ h => NextR.ok h)
      · exact fun w' hx => (isSol_any S _ _ _ _ vs w' (hS.extNo hx) (hvs.extNo hx) hl2).mono (fun _ _ h => by rw [show decide (nextD S vs = vs) = decide (vs = nextD S vs) from by rw [decide_eq_decide]; exact eq_comm]; exact h)
      · exact fun w' hx => rIsSol_any S _ _ _ _ vs w' (hS.extNo hx) (hvs.extNo hx) hl2
      · exact fun w' hx => (isAbove_any S _ _ _ _ vs w' (hS.extNo hx) (hvs.extNo hx) hl2).mono (fun _ _ h => h.dec)
      · exact fun w' hx => (rIsAbove_any S _ _ _ _ vs w' (hS.extNo hx) (hvs.extNo hx) hl2).mono (fun _ _ h => h.dec)
    · refine checks_of (S.w : Int) (valE (S.w : Int) S.deps.length Lv) 0 [] false false ad at1 ab av _ cd _ ct _ cb _ cv W (Nat.zero_le _) ?_ ?_ ?_ ?_ ?_ ?_
      · exact fun w' hx => (next_val S _ _ _ _ Lv w' (hS.extNo hx) (hv0.extNo hx) hE).mono (fun _ _ h => NextR.err h)
      · exact fun w' hx => (rNext_val S _ _ _ _ Lv w' (hS.extNo hx) (hv0.extNo hx) hE).mono (fun _ _ h => NextR.err h)
      · exact fun w' hx => isSol_err (S.w : Int) _ ad at1 ab _ cd _ ct _ cb _ av _ cv w' rfl hE (fun w2 hx2 => next_val S _ _ _ _ Lv w2 ((hS.extNo hx).extNo hx2) ((hv0.extNo hx).extNo hx2) hE)
      · exact fun w' hx => rIsSol_no (S.w : Int) ad at1 ab _ cd _ ct _ cb _ av _ cv w' rfl (fun w2 hx2 => rIsAbove_val S _ _ _ _ Lv w2 ((hS.extNo hx).extNo hx2) ((hv0.extNo hx).extNo hx2) hE)
      · exact fun w' hx => isAbove_err (S.w : Int) _ ad at1 ab _ cd _ ct _ cb _ av _ cv w' rfl hE (fun w2 hx2 => next_val S _ _ _ _ Lv w2 ((hS.extNo hx).extNo hx2) ((hv0.extNo hx).extNo hx2) hE)
      · exact fun w' hx => rIsAbove_val S _ _ _ _ Lv w' (hS.extNo hx) (hv0.extNo hx) hE
  · obtain ⟨ad, cd, rfl⟩ := h.d.slice
    obtain ⟨at1, ct, rfl⟩ := h.t.slice
    obtain ⟨ab, cb, rfl⟩ := h.b.slice
    obtain ⟨av, cv, rfl⟩ := hv.slice
    refine checks_of x 1 0 [] false false ad at1 ab av _ cd _ ct _ cb _ cv W (Nat.zero_le _) ?_ ?_ ?_ ?_ ?_ ?_
    · exact fun w' hx => (next_inv x _ _ _ _ Ld Lt Lb av _ cv w' rfl (h0.extNo hx) hV).mono (fun _ _ h => NextR.err h)
    · exact fun w' hx => (rNext_inv x _ _ _ _ Ld Lt Lb av _ cv w' rfl (h0.extNo hx) hV).mono (fun _ _ h => NextR.err h)
    · exact fun w' hx => isSol_err x 1 ad at1 ab _ cd _ ct _ cb _ av _ cv w' rfl (by decide) (fun w2 hx2 => next_inv x _ _ _ _ Ld Lt Lb av _ cv w2 rfl ((h0.extNo hx).extNo hx2) hV)
    · exact fun w' hx => rIsSol_no x ad at1 ab _ cd _ ct _ cb _ av _ cv w' rfl (fun w2 hx2 => rIsAbove_inv x _ _ _ _ Ld Lt Lb av _ cv w2 rfl ((h0.extNo hx).extNo hx2) hV)
    · exact fun w' hx => isAbove_err x 1 ad at1 ab _ cd _ ct _ cb _ av _ cv w' rfl (by decide) (fun w2 hx2 => next_inv x _ _ _ _ Ld Lt Lb av _ cv w2 rfl ((h0.extNo hx).extNo hx2) hV)
    · exact fun w' hx => rIsAbove_inv x _ _ _ _ Ld Lt Lb av _ cv w' rfl (h0.extNo hx) hV
end Go.Proofs.Ytkdjdhflhlbelaa

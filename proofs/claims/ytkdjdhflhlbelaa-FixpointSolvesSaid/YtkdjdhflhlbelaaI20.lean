/- solves: both sides' Solve and SolveWeb agree; the walk of FixpointSolves. -/
import Derived.Test.YtkdjdhflhlbelaaI10
import Derived.Test.YtkdjdhflhlbelaaI11
import Derived.Test.YtkdjdhflhlbelaaI13
import Derived.Test.YtkdjdhflhlbelaaI17
import Derived.Test.YtkdjdhflhlbelaaI19
import Derived.Test.YtkdjdhflhlbelaaF10
set_option linter.unusedVariables false
set_option linter.unusedSimpArgs false
namespace Go.Proofs.Ytkdjdhflhlbelaa
open Go Go.RowKit
/-- values, a round and an error -/
def SolR (E n : Int) (wd : Nat) (us : List Nat) (W : World) (e : Ending) (w' : World) : Prop :=
 ∃ a c, e = .returned (.tuple #[.slice a us.length c, .int .i64 n, .int .i64 E]) ∧ Hid (SetsV No w' (.slice a us.length c) wd us) ∧ Ext No W w'
/-- a web whose solutions are known -/
def WebR (E : Int) (wd : Nat) (us : List Nat) (W : World) (e : Ending) (w' : World) : Prop :=
 ∃ (z : Int) (aB aI : Option Addr) (nB cB nI cI : Nat) (E' : Int), e = .returned (.tuple #[.agg #[.int .i64 z, .slice aB nB cB, .slice aI nI cI], .int .i64 E']) ∧ Ext No W w' ∧
  Hid (∀ w2, Ext No w' w2 → Calls Try.prog 32 #[.agg #[.int .i64 z, .slice aB nB cB, .slice aI nI cI]] w2 (NextR E wd us w2)) ∧
  Hid (∀ w2, Ext No w' w2 → Calls Try.prog 55 #[.agg #[.int .i64 z, .slice aB nB cB, .slice aI nI cI]] w2 (NextR E wd us w2))
theorem setsV_nil (W : World) : SetsV No W (.slice none 0 0) 0 [] := LAt.setsV (L := []) (LAt.nil _ _ (Nat.zero_le _)) rfl (Nat.zero_le _) (fun m hm => by cases hm)
set_option maxRecDepth 100000 in
set_option maxHeartbeats 4000000 in
theorem solves_of (x E n G : Int) (wd wd2 : Nat) (us us2 : List Nat) (ad at1 ab : Option Addr) (nd cd nt ct nb cb : Nat) (W : World) (hul : us.length ≤ 1048576) (hul2 : us2.length ≤ 1048576)
  (h1 : (∀ w', Ext No W w' → Calls Try.prog 15 #[.agg #[.int .i64 x, .slice ad nd cd, .slice at1 nt ct, .slice ab nb cb]] w' (SolR E n wd us w'))) (h2 : (∀ w', Ext No W w' → Calls Try.prog 21 #[.agg #[.int .i64 x, .slice ad nd cd, .slice at1 nt ct, .slice ab nb cb]] w' (SolR E n wd us w'))) (h3 : (∀ w', Ext No W w' → Calls Try.prog 54 #[.agg #[.int .i64 x, .slice ad nd cd, .slice at1 nt ct, .slice ab nb cb]] w' (WebR G wd2 us2 w'))) :
  Calls Try.prog 18 #[.agg #[.int .i64 x, .slice ad nd cd, .slice at1 nt ct, .slice ab nb cb]] W (BoolPost true W) := by
 have H1 := Lib.hid h1
 have H2 := Lib.hid h2
 have H3 := Lib.hid h3
 clear h1 h2 h3
 go_enter Try.func18, Try.ntmps18
 go_upto_region 1 with (fail)
 have hx0 : Ext No W (W.alloc (.cells #[.int .i64 x, .slice ad nd cd, .slice at1 nt ct, .slice ab nb cb] 29)) := (Ext.refl _ _).alloc _
 have HA := Lib.hid (alloc_top (w := W) (o := (.cells #[.int .i64 x, .slice ad nd cd, .slice at1 nt ct, .slice ab nb cb] 29)) rfl)
 generalize (W.alloc (.cells #[.int .i64 x, .slice ad nd cd, .slice at1 nt ct, .slice ab nb cb] 29)) = w0 at *
 have cA := cellOf HA.out
 go_wp2_with fail
 refine (H1.out _ hx0).mono ?_
 rintro e1 w1 ⟨a1, c1, rfl, hu1, hx1⟩
 have HA1 := Lib.hid (hx1.blk HA.out no_no)
 have HX1 := Lib.hid (hx0.transNo hx1)
 clear cA hx0 hx1 HA
 have cA := cellOf HA1.out
 go_wp2_with fail
 refine (H2.out _ HX1.out).mono ?_
 rintro e2 w2 ⟨a2, c2, rfl, hu2, hx2⟩
 have HA2 := Lib.hid (hx2.blk HA1.out no_no)
 have HX2 := Lib.hid (HX1.out.transNo hx2)
 have HU1 := Lib.hid (hu1.out.extNo hx2)
 clear cA hx2 hu1 HA1 HX1
 have cA := cellOf HA2.out
 go_wp2_with fail
 refine (H3.out _ HX2.out).mono ?_
 rintro e3 w3 ⟨z, aB, aI, nB, cB, nI, cI, E', rfl, hx3, h4, h5⟩
 have hxa : Ext No w3 (w3.alloc (.cells #[.int .i64 z, .slice aB nB cB, .slice aI nI cI] 56)) := (Ext.refl _ _).alloc _
 have HW := Lib.hid (alloc_top (w := w3) (o := (.cells #[.int .i64 z, .slice aB nB cB, .slice aI nI cI] 56)) rfl)
 have HXA := Lib.hid hxa
 have HX3 := Lib.hid ((HX2.out.transNo hx3).transNo hxa)
 have HU3 := Lib.hid ((HU1.out.extNo hx3).extNo hxa)
 have HU4 := Lib.hid ((hu2.out.extNo hx3).extNo hxa)
 clear cA hxa hx3 HU1 hu2 HX2 HA2
 go_upto_region 4 with (fail)
 generalize (w3.alloc (.cells #[.int .i64 z, .slice aB nB cB, .slice aI nI cI] 56)) = w4 at *
 generalize w3.heap.size = D at *
 have cW := cellOf HW.out
 go_wp2_with fail
 refine (h4.out _ HXA.out).mono ?_
 rintro e5 w5 ⟨a5, c5, rfl, hu5, hx5⟩
 have HW5 := Lib.hid (hx5.blk HW.out no_no)
 have HXB := Lib.hid (HXA.out.transNo hx5)
 have HX5 := Lib.hid (HX3.out.transNo hx5)
 have HU5 := Lib.hid (HU3.out.extNo hx5)
 have HU6 := Lib.hid (HU4.out.extNo hx5)
 clear cW hx5 HU3 HU4 HX3 HXA HW
 have cW := cellOf HW5.out
 go_wp2_with fail
 refine (h5.out _ HXB.out).mono ?_
 rintro e6 w6 ⟨a6, c6, rfl, hu6, hx6⟩
 have HX6 := Lib.hid (HX5.out.transNo hx6)
 have HU7 := Lib.hid (HU5.out.extNo hx6)
 have HU8 := Lib.hid (HU6.out.extNo hx6)
 have HV7 := Lib.hid (hu5.out.extNo hx6)
 clear cW hx6 HU5 HU6 HX5 HXB HW5 hu5
 go_wp2_with fail
 refine (rsameSets_any wd us us _ _ _ HU7.out HU8.out hul).mono ?_
 rintro e7 w7 ⟨rfl, hx7⟩
 rw [decide_eq_true rfl]
 go_wp2_with fail
 refine (rsameSets_any wd2 us2 us2 _ _ _ (HV7.out.extNo hx7) (hu6.out.extNo hx7) hul2).mono ?_
 rintro e8 w8 ⟨rfl, hx8⟩
 rw [decide_eq_true rfl]
 go_wp2_with fail
 go_ret
 exact ⟨rfl, (HX6.out.transNo hx7).transNo hx8⟩
theorem solves_any (x : Int) (vd vt vb : Value) (Ld : LD) (Lt : LT) (Lb : LS) (W : World) (h : YAt No W vd vt vb Ld Lt Lb) :
  Calls Try.prog 18 #[.agg #[.int .i64 x, vd, vt, vb]] W (BoolPost true W) := by
 have h0 := h
 by_cases hV : VS x Ld Lt Lb
 ·obtain ⟨S, rfl, hS, hSl⟩ := hV.sys h
  have hok := hS.ok
  obtain ⟨R, hR, -⟩ := fix_ex hok
  obtain ⟨ad, cd, at1, ct, ab, cb, rfl, rfl, rfl⟩ := hS.slices
  have hl : (iterD S R).length = S.deps.length := (good_iter hok R).len
  have hn2 := hok.n2
  have hconv : ∀ W' e w', SolveWPost No S W' e w' → NextR 0 S.w (iterD S R) W' e w' := fun W' e w' ⟨R', a, c, hR', he, hs, hx⟩ => by
   obtain rfl := hR.eq hR'.first hR'.fix
   exact ⟨a, c, by rw [he, hl], by rw [hl]; exact hs, hx⟩
  refine solves_of (S.w : Int) 0 (R : Int) 0 S.w S.w (iterD S R) (iterD S R) ad at1 ab _ cd _ ct _ cb W (by omega) (by omega) ?_ ?_ ?_
  ·exact fun w' hx => (sysSolve_any No S _ _ _ w' (fun _ e => e.elim) (hS.extNo hx)).mono (fun e w2 ⟨R', a, c, hR', he, hs, hx⟩ => by
    obtain rfl := hR.eq hR'.first hR'.fix
    exact ⟨a, c, by rw [he, hl], by rw [hl]; exact hs, hx⟩)
  ·exact fun w' hx => (rSolve_any No S _ _ _ w' (fun _ e => e.elim) (hS.extNo hx)).mono (fun e w2 ⟨R', a, c, hR', he, hs, hx⟩ => by
    obtain rfl := hR.eq hR'.first hR'.fix
    exact ⟨a, c, by rw [he, hl], by rw [hl]; exact hs, hx⟩)
  ·exact fun w' hx => (rWeb_any S _ _ _ w' (hS.extNo hx)).mono (fun e w2 ⟨a1, a2, c1, c2, he, hW, hx2⟩ => ⟨(S.w : Int), a1, a2, _, c1, _, c2, 0, he, hx2,
    Lib.hid (fun w3 hx3 => (solveWeb_any No S _ _ w3 (fun _ e => e.elim) (hW.out.extNo hx3)).mono (hconv w3)),
    Lib.hid (fun w3 hx3 => (rSolveWeb_any No S _ _ w3 (fun _ e => e.elim) (hW.out.extNo hx3)).mono (hconv w3))⟩)
 ·obtain ⟨ad, cd, rfl⟩ := h.d.slice
  obtain ⟨at1, ct, rfl⟩ := h.t.slice
  obtain ⟨ab, cb, rfl⟩ := h.b.slice
  refine solves_of x 1 0 1 0 0 [] [] ad at1 ab _ cd _ ct _ cb W (Nat.zero_le _) (Nat.zero_le _) ?_ ?_ ?_
  ·exact fun w' hx => (solve_inv x _ _ _ Ld Lt Lb w' (h0.extNo hx) hV).mono (fun e w2 ⟨he, hx2⟩ => ⟨none, 0, he, Lib.hid (setsV_nil _), hx2⟩)
  ·exact fun w' hx => (rSolve_inv x _ _ _ Ld Lt Lb w' (h0.extNo hx) hV).mono (fun e w2 ⟨he, hx2⟩ => ⟨none, 0, he, Lib.hid (setsV_nil _), hx2⟩)
  ·exact fun w' hx => (rWeb_inv x _ _ _ Ld Lt Lb w' (h0.extNo hx) hV).mono (fun e w2 ⟨he, hx2⟩ => ⟨0, none, none, 0, 0, 0, 0, 1, he, hx2,
    Lib.hid (fun w3 _ => (solveWeb_zero w3).mono (fun _ _ h => NextR.err h)),
    Lib.hid (fun w3 _ => (rSolveWeb_zero w3).mono (fun _ _ h => NextR.err h))⟩)
set_option maxRecDepth 100000 in
set_option maxHeartbeats 8000000 in
theorem fixpointSolves_any (tl : Value) (zs : List Int) (x : Int) (vd vt vb : Value) (Ld : LD) (Lt : LT) (Lb : LS) (w : World) (ht : Ints No w .i64 tl zs) (hy : YAt No w vd vt vb Ld Lt Lb) :
  Calls Try.prog 4 #[tl, .agg #[.int .i64 x, vd, vt, vb]] w fun e w' => e = .returned (.bool true) ∧ Ext No w w' := by
 have HT := Lib.hid ht
 have HY := Lib.hid hy
 obtain ⟨at', ct', rfl⟩ := Row.slice ht
 obtain ⟨ad0, cd0, rfl⟩ := hy.d.slice
 obtain ⟨at0, ct0, rfl⟩ := hy.t.slice
 obtain ⟨ab0, cb0, rfl⟩ := hy.b.slice
 obtain ⟨bS, hbS⟩ : ∃ bS : Array Value, bS = #[.int .i64 x, .slice ad0 Ld.length cd0, .slice at0 Lt.length ct0, .slice ab0 Lb.length cb0] := ⟨_, rfl⟩
 have HBS := Lib.hid hbS
 clear ht hy hbS
 go_enter Try.func4, Try.ntmps4
 go_upto_region 1 with (fail)
 have hx0 : Ext No w (w.alloc (.cells #[.int .i64 x, .slice ad0 Ld.length cd0, .slice at0 Lt.length ct0, .slice ab0 Lb.length cb0] 29)) := (Ext.refl _ _).alloc _
 have HS0 := Lib.hid (show (w.alloc (.cells #[.int .i64 x, .slice ad0 Ld.length cd0, .slice at0 Lt.length ct0, .slice ab0 Lb.length cb0] 29)).heap[w.heap.size]? = some (.cells bS 29 (0, 0)) from by rw [HBS.out]; exact alloc_top rfl)
 generalize (w.alloc (.cells #[.int .i64 x, .slice ad0 Ld.length cd0, .slice at0 Lt.length ct0, .slice ab0 Lb.length cb0] 29)) = wa at *
 go_wp2_with fail
 refine (new_any _ zs _ (Row.extNo HT.out hx0)).mono ?_
 rintro e0 w0 ⟨rfl, ht0, hx1, hs0⟩
 have hwa := lt_of_block HS0.out
 obtain ⟨tb, htb⟩ : ∃ tb, tb = wa.heap.size := ⟨_, rfl⟩
 rw [← htb] at ht0 hwa ⊢
 have HX0 := Lib.hid (hx0.transNo hx1)
 have HB0 := Lib.hid (hx1.blk HS0.out no_no)
 have HT0 := Lib.hid ht0
 clear htb hx0 hx1 HS0 hs0 ht0
 go_wp2_with fail
 go_loopw [6, 7] (fun s6 _ wr => ∃ k : Nat, s6 = .int .i64 k ∧ k ≤ 5 ∧ Hid (TapeOk wr tb) ∧ Hid (Ext No w wr) ∧ Hid (wr.heap[w.heap.size]? = some (.cells bS 29 (0, 0)))) (fun s6 _ _ => 5 - (intOf s6).toNat)
 case atStart => exact ⟨0, rfl, Nat.zero_le _, HT0, HX0, HB0⟩
 case round =>
  clear HT0 HX0 HB0
  obtain ⟨i, rfl, hi, htp, hx, hbs⟩ := hrel
  rename World => wr
  by_cases hlt : i < 5
  ·have hlz : (i : Int) < 5 := by omega
   have HII : Hid (Value.int .i64 ((i : Int) + 1) = .int .i64 ((i + 1 : Nat) : Int)) := Lib.hid (by rw [show ((i + 1 : Nat) : Int) = (i : Int) + 1 from by omega])
   go_wp2_with fail
   refine (sysgen_any tb 6 _ (by decide) (by decide) htp.out).mono ?_
   rintro e1 w1 ⟨S, vd1, vt1, vb1, rfl, hw4, hn5, hS, ht1, hx1⟩
   have hok := hS.out.ok
   obtain ⟨ad, cd, at1, ct, ab, cb, rfl, rfl, rfl⟩ := hS.out.slices
   have hxa : Ext No w1 (w1.alloc (.cells #[.int .i64 (S.w : Int), .slice ad S.deps.length cd, .slice at1 S.deps.length ct, .slice ab S.deps.length cb] 29)) := (Ext.refl _ _).alloc _
   have htw := htp.out.lt
   have HX := Lib.hid (alloc_top (w := w1) (o := (.cells #[.int .i64 (S.w : Int), .slice ad S.deps.length cd, .slice at1 S.deps.length ct, .slice ab S.deps.length cb] 29)) rfl)
   have HSY := Lib.hid ((hS.out.mono (M' := At tb) (fun i hi e => by unfold Lo; unfold At at e; omega)).extNo hxa)
   have HE := Lib.hid ((hx.out.trans2 hx1 (fun i hi e => by unfold At at e; omega)).transNo hxa)
   have HB1 := Lib.hid (hxa.blk (hx1.blk hbs.out (by unfold At; omega)) no_no)
   have HTP := Lib.hid (ht1.ext hxa)
   have htX : tb < w1.heap.size := ht1.lt
   obtain ⟨LD1, LT1, LB1, hYX, hVS⟩ := HSY.out.vs
   have HYX := Lib.hid hYX
   have HVS := Lib.hid hVS
   clear htp hx hbs hS ht1 hx1 hxa hok htw hYX hVS
   go_upto_region 6 with (fail)
   generalize (w1.alloc (.cells #[.int .i64 (S.w : Int), .slice ad S.deps.length cd, .slice at1 S.deps.length ct, .slice ab S.deps.length cb] 29)) = V1 at *
   have hXl : w1.heap.size < V1.heap.size := lt_of_block HX.out
   generalize w1.heap.size = X at *
   have cX := cellOf HX.out
   go_wp2_with fail
   clear cX
   refine (solves_any (S.w : Int) _ _ _ LD1 LT1 LB1 _ HYX.out.no).mono ?_
   rintro e2 w2 ⟨rfl, hx2⟩
   have HX2 := Lib.hid (hx2.blk HX.out no_no)
   have HYX2 := Lib.hid (HYX.out.extNo hx2)
   have HE2 := Lib.hid (HE.out.transNo hx2)
   have HB2 := Lib.hid (hx2.blk HB1.out no_no)
   have HTP2 := Lib.hid (HTP.out.ext hx2)
   clear hx2 HX HSY HYX HE HB1 HTP hXl
   have cX := cellOf HX2.out
   go_wp2_with fail
   clear cX
   refine (spoilSys_any tb (S.w : Int) _ _ _ LD1 LT1 LB1 _ HYX2.out HVS.out HTP2.out).mono ?_
   rintro e3 w3 ⟨xs, vd2, vt2, vb2, LD2, LT2, LB2, rfl, hY3, ht3, hx3⟩
   have HE3 := Lib.hid (HE2.out.trans2 hx3 (fun i hi e => by unfold At at e; omega))
   have HB3 := Lib.hid (hx3.blk HB2.out (by unfold At; omega))
   have HTP3 := Lib.hid ht3
   have HY3 := Lib.hid hY3
   clear hx3 ht3 hY3 HE2 HB2 HTP2 HX2 HYX2
   go_wp2_with fail
   refine (solves_any xs _ _ _ LD2 LT2 LB2 _ HY3.out).mono ?_
   rintro e4 w4 ⟨rfl, hx4⟩
   have HE4 := Lib.hid (HE3.out.transNo hx4)
   have HB4 := Lib.hid (hx4.blk HB3.out no_no)
   have HTP4 := Lib.hid (HTP3.out.ext hx4)
   clear hx4 HE3 HB3 HTP3 HY3
   go_wp2_with fail
   go_roundw
   case rel => exact ⟨i + 1, HII.out, by omega, HTP4, HE4, HB4⟩
   case measure => simp [intOf]; omega
  ·have hge : ¬ (i : Int) < 5 := by omega
   have hb := hbs.out
   rw [HBS.out] at hb
   have HBX := Lib.hid hb
   have cS := cellOf hb
   clear hb
   go_wp2_with fail
   clear cS
   refine (huge_any x _ _ _ Ld Lt Lb _ (HY.out.extNo hx.out)).mono ?_
   rintro e1 w1 ⟨⟨b, rfl⟩, hx1⟩
   have HX1 := Lib.hid (hx.out.transNo hx1)
   have HBX1 := Lib.hid (hx1.blk HBX.out no_no)
   clear hx1
   cases b with
   | true =>
    go_wp2_with fail
    go_ret
    exact ⟨rfl, HX1.out⟩
   | false =>
    have cS := cellOf HBX1.out
    go_wp2_with fail
    clear cS
    refine (solves_any x _ _ _ Ld Lt Lb _ (HY.out.extNo HX1.out)).mono ?_
    rintro e2 w2 ⟨rfl, hx2⟩
    go_wp2_with fail
    refine (sane11_any _).mono ?_
    rintro e3 w3 ⟨rfl, hx3⟩
    go_wp2_with fail
    go_ret
    exact ⟨rfl, (HX1.out.transNo hx2).transNo hx3⟩
end Go.Proofs.Ytkdjdhflhlbelaa

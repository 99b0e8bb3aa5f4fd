
import Derived.Test.YtmddchceacmopaaGreatDoorE30
set_option linter.unusedVariables false
set_option linter.unusedSimpArgs false
namespace Go.Proofs.YtmddchceacmopaaGreatDoor
open Go Go.RowKit
set_option maxRecDepth 100000 in
set_option maxHeartbeats 8000000 in
theorem eliminationSolves_any (tl : Value) (zs : List Int) (w : World) (hT : TabW w) (ht : Ints No w .i64 tl zs) : Calls Tryz.prog 5 #[tl] w (BoolPost true w) := by
 have HT := Lib.hid ht
 have HTB := Lib.hid hT
 obtain ⟨at', ct', rfl⟩ := Row.slice ht
 clear ht hT
 go_enter Tryz.func5, Tryz.ntmps5
 go_wp2_with fail
 refine (new_any _ zs _ HT.out).mono ?_
 rintro e0 w0 ⟨rfl, ht0, hx0, hs0⟩
 obtain ⟨tb, htb⟩ : ∃ tb, tb = w.heap.size := ⟨_, rfl⟩
 rw [← htb] at ht0 ⊢
 have HTb := Lib.hid htb
 clear htb
 go_wp2_with fail
 refine (sysgen_any tb 6 _ (by decide) (by decide) ht0).mono ?_
 rintro e1 w1 ⟨S, vd, vt, vb, rfl, hw4, hn5, hS, ht1, hx1⟩
 have hok := hS.out.ok
 obtain ⟨ad, cd, at1, ct, ab, cb, rfl, rfl, rfl⟩ := hS.out.slices
 have hxa : Ext No w1 (w1.alloc (.cells #[.int .i64 (S.w : Int), .slice ad S.deps.length cd, .slice at1 S.deps.length ct, .slice ab S.deps.length cb] 55)) := (Ext.refl _ _).alloc _
 have HA := Lib.hid (alloc_top (w := w1) (o := (.cells #[.int .i64 (S.w : Int), .slice ad S.deps.length cd, .slice at1 S.deps.length ct, .slice ab S.deps.length cb] 55)) rfl)
 have HS := Lib.hid (hS.out.no.extNo hxa)
 have HX := Lib.hid ((hx0.trans2 hx1 (fun i hi e => by unfold At at e; have := HTb.out; omega)).transNo hxa)
 have HOK := Lib.hid hok
 have HO8 := Lib.hid (webOf_ok8 hok (by omega) (by omega))
 clear hx0 hs0 ht0 hS ht1 hx1 hxa hok
 go_upto_region 2 with (fail)
 generalize (w1.alloc (.cells #[.int .i64 (S.w : Int), .slice ad S.deps.length cd, .slice at1 S.deps.length ct, .slice ab S.deps.length cb] 55)) = V1 at *
 generalize w1.heap.size = A at *
 have cA := cellOf HA.out
 go_wp2_with fail
 clear cA
 refine (web_any S _ _ _ _ HS.out).mono ?_
 rintro e2 w2 ⟨a7, a8, c7, c8, rfl, hw2, hx2⟩
 have hxb : Ext No w2 (w2.alloc (.cells #[.int .i64 (S.w : Int), .slice a7 S.deps.length c7, .slice a8 S.deps.length c8] 26)) := (Ext.refl _ _).alloc _
 have HB := Lib.hid (alloc_top (w := w2) (o := (.cells #[.int .i64 (S.w : Int), .slice a7 S.deps.length c7, .slice a8 S.deps.length c8] 26)) rfl)
 have HW := Lib.hid ((hw2.out.extNo hxb).wb)
 have HS2 := Lib.hid (HS.out.extNo (hx2.transNo hxb))
 have HA2 := Lib.hid ((hx2.transNo hxb).blk HA.out no_no)
 have HX2 := Lib.hid (HX.out.transNo (hx2.transNo hxb))
 clear HS HA HX hx2 hxb hw2
 go_upto_region 3 with (fail)
 generalize (w2.alloc (.cells #[.int .i64 (S.w : Int), .slice a7 S.deps.length c7, .slice a8 S.deps.length c8] 26)) = V2 at *
 generalize w2.heap.size = B at *
 have cB := cellOf HB.out
 go_wp2_with fail
 clear cB
 obtain ⟨R, hR, -⟩ := fixW_ex HO8.out.ok
 have HR := Lib.hid hR
 clear hR
 refine (esolve_any (webOf S) R _ _ _ HO8.out HR.out HW.out (HTB.out.ext HX2.out)).mono ?_
 rintro e3 w3 ⟨sl, rfl, hs3, hx3⟩
 obtain ⟨a9, c9, rfl⟩ := hs3.out.slice
 have HS3 := Lib.hid (HS2.out.extNo hx3)
 have HA3 := Lib.hid (hx3.blk HA2.out no_no)
 have HX3 := Lib.hid (HX2.out.transNo hx3)
 clear HS2 HA2 HX2 hx3 HW HB
 have cA := cellOf HA3.out
 go_wp2_with fail
 clear cA
 refine (sysSolve_any No S _ _ _ _ (fun _ e => e.elim) HS3.out).mono ?_
 rintro e4 w4 ⟨R2, a5, c5, hR2, rfl, hs4, hx4⟩
 have hRR : R = R2 := (webOf_fix hR2).eq HR.out.first HR.out.fix
 subst hRR
 have HV4 := Lib.hid (hs3.out.extNo hx4)
 have HX4 := Lib.hid (HX3.out.transNo hx4)
 have HL := Lib.hid ((goodw_iter HO8.out.ok R).len)
 have hwl := webOf_len S
 have hnn := HOK.out.n2
 have HEQ := Lib.hid (webOf_iter (S := S) R)
 have HLL := Lib.hid (show (iterW (webOf S) R).length ≤ 1048576 from by have := HL.out; omega)
 clear hR2 HX3 hs3 hx4 HS3 HA3 hwl
 go_wp2_with fail
 refine (rsameSets_any S.w (iterW (webOf S) R) (iterD S R) _ _ _ HV4.out hs4.out HLL.out).mono ?_
 rw [decide_eq_true HEQ.out]
 rintro e5 w5 ⟨rfl, hx5⟩
 go_wp2_with fail
 refine (sane13_any _ (HTB.out.ext (HX4.out.transNo hx5))).mono ?_
 rintro e6 w6 ⟨rfl, hx6⟩
 go_wp2_with fail
 go_ret
 exact ⟨rfl, (HX4.out.transNo hx5).transNo hx6⟩

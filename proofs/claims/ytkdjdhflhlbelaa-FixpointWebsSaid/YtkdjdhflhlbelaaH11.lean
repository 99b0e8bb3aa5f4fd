/- The walk of FixpointWebs. -/
import Derived.Test.YtkdjdhflhlbelaaH9
import Derived.Test.YtkdjdhflhlbelaaH10
import Derived.Test.YtkdjdhflhlbelaaF10
set_option linter.unusedVariables false
set_option linter.unusedSimpArgs false
namespace Go.Proofs.Ytkdjdhflhlbelaa
open Go Go.RowKit
set_option maxRecDepth 100000 in
set_option maxHeartbeats 8000000 in
theorem fixpointWebs_any (tl : Value) (zs : List Int) (w : World) (ht : Ints No w .i64 tl zs) : Calls Try.prog 7 #[tl] w fun e w' => e = .returned (.bool true) ∧ Ext No w w' := by
  have HT := Lib.hid ht
  obtain ⟨at', ct', rfl⟩ := Row.slice ht
  clear ht
  go_enter Try.func7, Try.ntmps7
  go_wp2_with fail
  refine (new_any _ zs _ HT.out).mono ?_
  rintro e0 w0 ⟨rfl, ht0, hx0, hs0⟩
  obtain ⟨tb, htb⟩ : ∃ tb, tb = w.heap.size := ⟨_, rfl⟩
  rw [← htb] at ht0 ⊢
  have HTB := Lib.hid htb
  clear htb
  go_wp2_with fail
  refine (sysgen_any tb 6 _ (by decide) (by decide) ht0).mono ?_
  rintro e1 w1 ⟨S, vd, vt, vb, rfl, hw4, hn5, hS, ht1, hx1⟩
  have hok := hS.out.ok
  obtain ⟨ad, cd, at1, ct, ab, cb, rfl, rfl, rfl⟩ := hS.out.slices
  have hxa : Ext No w1 (w1.alloc (.cells #[.int .i64 (S.w : Int), .slice ad S.deps.length cd, .slice at1 S.deps.length ct, .slice ab S.deps.length cb] 29)) := (Ext.refl _ _).alloc _
  have HA := Lib.hid (alloc_top (w := w1) (o := (.cells #[.int .i64 (S.w : Int), .slice ad S.deps.length cd, .slice at1 S.deps.length ct, .slice ab S.deps.length cb] 29)) rfl)
  have HS := Lib.hid (hS.out.no.extNo hxa)
  have HX := Lib.hid ((hx0.trans2 hx1 (fun i hi e => by unfold At at e; have := HTB.out; omega)).transNo hxa)
  have HOK := Lib.hid hok
  clear hx0 hs0 ht0 hS ht1 hx1 hxa hok
  have cA := cellOf HA.out
  go_wp2_with fail
  clear cA
  generalize (w1.alloc (.cells #[.int .i64 (S.w : Int), .slice ad S.deps.length cd, .slice at1 S.deps.length ct, .slice ab S.deps.length cb] 29)) = V1 at *
  generalize w1.heap.size = A at *
  refine (sysSolve_any No S _ _ _ V1 no_lt' HS.out).mono ?_
  rintro e2 w2 ⟨R, a5, c5, hR, rfl, hs5, hx2⟩
  have HR := Lib.hid hR
  have HS2 := Lib.hid (HS.out.extNo hx2)
  have HX2 := Lib.hid (HX.out.transNo hx2)
  have HA2 := Lib.hid (hx2.blk HA.out no_no)
  clear HS HX HA hx2 hR
  have cA := cellOf HA2.out
  go_wp2_with fail
  refine (web_any S _ _ _ _ HS2.out).mono ?_
  rintro e3 w3 ⟨a7, a8, c7, c8, rfl, hw3, hx3⟩
  have hxb : Ext No w3 (w3.alloc (.cells #[.int .i64 (S.w : Int), .slice a7 S.deps.length c7, .slice a8 S.deps.length c8] 56)) := (Ext.refl _ _).alloc _
  have HB := Lib.hid (alloc_top (w := w3) (o := (.cells #[.int .i64 (S.w : Int), .slice a7 S.deps.length c7, .slice a8 S.deps.length c8] 56)) rfl)
  have HW := Lib.hid (hw3.out.extNo hxb)
  have HV := Lib.hid (hs5.out.extNo (hx3.transNo hxb))
  have HX3 := Lib.hid (HX2.out.transNo (hx3.transNo hxb))
  clear cA HS2 HX2 HA2 hs5 hx3 hxb hw3
  have cB := cellOf HB.out
  go_wp2_with fail
  clear cB
  generalize (w3.alloc (.cells #[.int .i64 (S.w : Int), .slice a7 S.deps.length c7, .slice a8 S.deps.length c8] 56)) = V3 at *
  generalize w3.heap.size = B at *
  refine (solveWeb_any No S _ _ V3 no_lt' HW.out).mono ?_
  rintro e4 w4 ⟨R2, a9, c9, hR2, rfl, hs9, hx4⟩
  have hRR : R2 = R := HR.out.eq hR2.first hR2.fix
  subst hRR
  have HV4 := Lib.hid (HV.out.extNo hx4)
  have HX4 := Lib.hid (HX3.out.transNo hx4)
  have hlen := (good_iter HOK.out R2).len
  have hnn := HOK.out.n2
  have HL := Lib.hid hlen
  clear hR2 HX3 HV hx4 HB HW hlen
  go_wp2_with fail
  refine (rsameSets_any S.w (iterD S R2) (iterD S R2) _ _ _ hs9.out HV4.out (by rw [HL.out]; omega)).mono ?_
  rw [decide_eq_true rfl]
  rintro e5 w5 ⟨rfl, hx5⟩
  go_wp2_with fail
  refine (sane11_any _).mono ?_
  rintro e6 w6 ⟨rfl, hx6⟩
  go_wp2_with fail
  go_ret
  exact ⟨rfl, (HX4.out.transNo hx5).transNo hx6⟩
end Go.Proofs.Ytkdjdhflhlbelaa

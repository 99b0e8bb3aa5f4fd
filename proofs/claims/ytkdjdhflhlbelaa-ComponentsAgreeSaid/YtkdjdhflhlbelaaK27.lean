/- The walk of ComponentsAgree. -/
import Derived.Test.YtkdjdhflhlbelaaK26
import Derived.Test.YtkdjdhflhlbelaaK13
import Derived.Test.YtkdjdhflhlbelaaI11
import Derived.Test.YtkdjdhflhlbelaaI13
import Derived.Test.YtkdjdhflhlbelaaI14
set_option linter.unusedVariables false
set_option linter.unusedSimpArgs false
namespace Go.Proofs.Ytkdjdhflhlbelaa
open Go Go.RowKit
set_option maxRecDepth 100000 in
set_option maxHeartbeats 8000000 in
theorem componentsAgree_any (tl : Value) (zs : List Int) (x : Int) (vd vt vb : Value) (Ld : LD) (Lt : LT) (Lb : LS) (w : World) (ht : Ints No w .i64 tl zs) (hy : YAt No w vd vt vb Ld Lt Lb) :
  Calls Try.prog 8 #[tl, .agg #[.int .i64 x, vd, vt, vb]] w fun e w' => e = .returned (.bool true) ∧ Ext No w w' := by
 have HT := Lib.hid ht
 have HY := Lib.hid hy
 obtain ⟨at', ct', rfl⟩ := Row.slice ht
 obtain ⟨ad0, cd0, rfl⟩ := hy.d.slice
 obtain ⟨at0, ct0, rfl⟩ := hy.t.slice
 obtain ⟨ab0, cb0, rfl⟩ := hy.b.slice
 obtain ⟨bS, hbS⟩ : ∃ bS : Array Value, bS = #[.int .i64 x, .slice ad0 Ld.length cd0, .slice at0 Lt.length ct0, .slice ab0 Lb.length cb0] := ⟨_, rfl⟩
 have HBS := Lib.hid hbS
 clear ht hy hbS
 go_enter Try.func8, Try.ntmps8
 go_upto_region 1 with (fail)
 have hx0 : Ext No w (w.alloc (.cells #[.int .i64 x, .slice ad0 Ld.length cd0, .slice at0 Lt.length ct0, .slice ab0 Lb.length cb0] 29)) := (Ext.refl _ _).alloc _
 have HS0 := Lib.hid (show (w.alloc (.cells #[.int .i64 x, .slice ad0 Ld.length cd0, .slice at0 Lt.length ct0, .slice ab0 Lb.length cb0] 29)).heap[w.heap.size]? = some (.cells bS 29 (0, 0)) from by rw [HBS.out]; exact alloc_top rfl)
 generalize (w.alloc (.cells #[.int .i64 x, .slice ad0 Ld.length cd0, .slice at0 Lt.length ct0, .slice ab0 Lb.length cb0] 29)) = wa at *
 go_wp2_with fail
 refine (new_any _ zs _ (Row.extNo HT.out hx0)).mono ?_
 rintro e0 w0 ⟨rfl, ht0, hx1, hs0⟩
 have hwa := lt_of_block HS0.out
 obtain ⟨tb, htb⟩ : ∃ tb, tb = wa.heap.size := ⟨_, rfl⟩
 rw [← htb] at ht0 hwa ⊢
 have HX0 := Lib.hid (hx0.transNo hx1)
 have HB0 := Lib.hid (hx1.blk HS0.out no_no)
 have HT0 := Lib.hid ht0
 clear htb hx0 hx1 HS0 hs0 ht0
 go_wp2_with fail
 go_loopw [6, 7] (fun s6 _ wr => ∃ k : Nat, s6 = .int .i64 k ∧ k ≤ 5 ∧ Hid (TapeOk wr tb) ∧ Hid (Ext No w wr) ∧ Hid (wr.heap[w.heap.size]? = some (.cells bS 29 (0, 0)))) (fun s6 _ _ => 5 - (intOf s6).toNat)
 case atStart => exact ⟨0, rfl, Nat.zero_le _, HT0, HX0, HB0⟩
 case round =>
  clear HT0 HX0 HB0
  obtain ⟨i, rfl, hi, htp, hx, hbs⟩ := hrel
  rename World => wr
  by_cases hlt : i < 5
  ·have hlz : (i : Int) < 5 := by omega
   have HII : Hid (Value.int .i64 ((i : Int) + 1) = .int .i64 ((i + 1 : Nat) : Int)) := Lib.hid (by rw [show ((i + 1 : Nat) : Int) = (i : Int) + 1 from by omega])
   go_wp2_with fail
   refine (sysgen_any tb 7 _ (by decide) (by decide) htp.out).mono ?_
   rintro e1 w1 ⟨S, vd1, vt1, vb1, rfl, hw4, hn5, hS, ht1, hx1⟩
   have hok := hS.out.ok
   obtain ⟨ad, cd, at1, ct, ab, cb, rfl, rfl, rfl⟩ := hS.out.slices
   have hxa : Ext No w1 (w1.alloc (.cells #[.int .i64 (S.w : Int), .slice ad S.deps.length cd, .slice at1 S.deps.length ct, .slice ab S.deps.length cb] 29)) := (Ext.refl _ _).alloc _
   have htw := htp.out.lt
   have HX := Lib.hid (alloc_top (w := w1) (o := (.cells #[.int .i64 (S.w : Int), .slice ad S.deps.length cd, .slice at1 S.deps.length ct, .slice ab S.deps.length cb] 29)) rfl)
   have HSY := Lib.hid ((hS.out.mono (M' := At tb) (fun i hi e => by unfold Lo; unfold At at e; omega)).extNo hxa)
   have HE := Lib.hid ((hx.out.trans2 hx1 (fun i hi e => by unfold At at e; omega)).transNo hxa)
   have HB1 := Lib.hid (hxa.blk (hx1.blk hbs.out (by unfold At; omega)) no_no)
   have HTP := Lib.hid (ht1.ext hxa)
   have htX : tb < w1.heap.size := ht1.lt
   obtain ⟨LD1, LT1, LB1, hYX, hVS⟩ := HSY.out.vs
   have HYX := Lib.hid hYX
   have HVS := Lib.hid hVS
   clear htp hx hbs hS ht1 hx1 hxa hok htw hYX hVS
   go_upto_region 6 with (fail)
   generalize (w1.alloc (.cells #[.int .i64 (S.w : Int), .slice ad S.deps.length cd, .slice at1 S.deps.length ct, .slice ab S.deps.length cb] 29)) = V1 at *
   have hXl : w1.heap.size < V1.heap.size := lt_of_block HX.out
   generalize w1.heap.size = X at *
   have cX := cellOf HX.out
   go_wp2_with fail
   clear cX
   refine (agrees12_any (S.w : Int) _ _ _ LD1 LT1 LB1 _ HYX.out.no).mono ?_
   rintro e2 w2 ⟨rfl, hx2⟩
   have HX2 := Lib.hid (hx2.blk HX.out no_no)
   have HYX2 := Lib.hid (HYX.out.extNo hx2)
   have HE2 := Lib.hid (HE.out.transNo hx2)
   have HB2 := Lib.hid (hx2.blk HB1.out no_no)
   have HTP2 := Lib.hid (HTP.out.ext hx2)
   clear hx2 HX HSY HYX HE HB1 HTP hXl
   have cX := cellOf HX2.out
   go_wp2_with fail
   clear cX
   refine (spoilSys_any tb (S.w : Int) _ _ _ LD1 LT1 LB1 _ HYX2.out HVS.out HTP2.out).mono ?_
   rintro e3 w3 ⟨xs, vd2, vt2, vb2, LD2, LT2, LB2, rfl, hY3, ht3, hx3⟩
   have HE3 := Lib.hid (HE2.out.trans2 hx3 (fun i hi e => by unfold At at e; omega))
   have HB3 := Lib.hid (hx3.blk HB2.out (by unfold At; omega))
   have HTP3 := Lib.hid ht3
   have HY3 := Lib.hid hY3
   clear hx3 ht3 hY3 HE2 HB2 HTP2 HX2 HYX2
   go_wp2_with fail
   refine (agrees12_any xs _ _ _ LD2 LT2 LB2 _ HY3.out).mono ?_
   rintro e4 w4 ⟨rfl, hx4⟩
   have HE4 := Lib.hid (HE3.out.transNo hx4)
   have HB4 := Lib.hid (hx4.blk HB3.out no_no)
   have HTP4 := Lib.hid (HTP3.out.ext hx4)
   clear hx4 HE3 HB3 HTP3 HY3
   go_wp2_with fail
   go_roundw
   case rel => exact ⟨i + 1, HII.out, by omega, HTP4, HE4, HB4⟩
   case measure => simp [intOf]; omega
  ·have hge : ¬ (i : Int) < 5 := by omega
   have hb := hbs.out
   rw [HBS.out] at hb
   have HBX := Lib.hid hb
   have cS := cellOf hb
   clear hb
   go_wp2_with fail
   clear cS
   refine (huge_any x _ _ _ Ld Lt Lb _ (HY.out.extNo hx.out)).mono ?_
   rintro e1 w1 ⟨⟨b, rfl⟩, hx1⟩
   have HX1 := Lib.hid (hx.out.transNo hx1)
   have HBX1 := Lib.hid (hx1.blk HBX.out no_no)
   clear hx1
   cases b with
   | true =>
    go_wp2_with fail
    go_ret
    exact ⟨rfl, HX1.out⟩
   | false =>
    have cS := cellOf HBX1.out
    go_wp2_with fail
    clear cS
    refine (agrees12_any x _ _ _ Ld Lt Lb _ (HY.out.extNo HX1.out)).mono ?_
    rintro e2 w2 ⟨rfl, hx2⟩
    go_wp2_with fail
    refine (sane12_any _).mono ?_
    rintro e3 w3 ⟨rfl, hx3⟩
    go_wp2_with fail
    go_ret
    exact ⟨rfl, (HX1.out.transNo hx2).transNo hx3⟩
end Go.Proofs.Ytkdjdhflhlbelaa

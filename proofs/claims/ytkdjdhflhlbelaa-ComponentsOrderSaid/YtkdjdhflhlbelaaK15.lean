/- The walk of ComponentsOrder. -/
import Derived.Test.YtkdjdhflhlbelaaK13
import Derived.Test.YtkdjdhflhlbelaaK14
import Derived.Test.YtkdjdhflhlbelaaF8
set_option linter.unusedVariables false
set_option linter.unusedSimpArgs false
namespace Go.Proofs.Ytkdjdhflhlbelaa
open Go Go.RowKit Tj
set_option maxRecDepth 100000 in
set_option maxHeartbeats 16000000 in
theorem componentsOrder_any (tl : Value) (zs : List Int) (w : World) (ht : Ints No w .i64 tl zs) : Calls Try.prog 9 #[tl] w fun e w' => e = .returned (.bool true) ∧ Ext No w w' := by
 obtain ⟨i0, hi0, hz0, hz1, hz2⟩ := info_parts infoInt2
 have HT := Lib.hid ht
 obtain ⟨at', ct', rfl⟩ := Row.slice ht
 clear ht
 go_enter Try.func9, Try.ntmps9
 go_wp2_with fail
 refine (new_any _ zs _ HT.out).mono ?_
 rintro e0 w0 ⟨rfl, ht0, hx0, hs0⟩
 obtain ⟨tb, htb⟩ : ∃ tb, tb = w.heap.size := ⟨_, rfl⟩
 rw [← htb] at ht0 ⊢
 have HTB := Lib.hid htb
 clear htb
 go_wp2_with fail
 refine (sysgen_any tb 8 _ (by decide) (by decide) ht0).mono ?_
 rintro e1 w1 ⟨S, vd, vt, vb, rfl, hw4, hn5, hS, ht1, hx1⟩
 have hok := hS.out.ok
 have hnn := hok.n2
 obtain ⟨ad, cd, at1, ct, ab, cb, rfl, rfl, rfl⟩ := hS.out.slices
 have hxa : Ext No w1 (w1.alloc (.cells #[.int .i64 (S.w : Int), .slice ad S.deps.length cd, .slice at1 S.deps.length ct, .slice ab S.deps.length cb] 29)) := (Ext.refl _ _).alloc _
 have HA := Lib.hid (alloc_top (w := w1) (o := (.cells #[.int .i64 (S.w : Int), .slice ad S.deps.length cd, .slice at1 S.deps.length ct, .slice ab S.deps.length cb] 29)) rfl)
 have HS := Lib.hid (hS.out.no.extNo hxa)
 have HX := Lib.hid ((hx0.trans2 hx1 (fun i hi e => by unfold At at e; have := HTB.out; omega)).transNo hxa)
 have HOK := Lib.hid hok
 clear hx0 hs0 ht0 hS ht1 hx1 hxa hok
 have cA := cellOf HA.out
 go_wp2_with fail
 clear cA
 generalize (w1.alloc (.cells #[.int .i64 (S.w : Int), .slice ad S.deps.length cd, .slice at1 S.deps.length ct, .slice ab S.deps.length cb] 29)) = V1 at *
 generalize w1.heap.size = A at *
 refine (order_any S _ _ _ V1 HS.out).mono ?_
 rintro e2 V ⟨g, R, ao, co, Ld, hgo, hord, rfl, hLd, hLA, hLn, hx2⟩
 have HAV := Lib.hid (hx2.blk HA.out no_no)
 have HSV := Lib.hid (HS.out.extNo hx2)
 have HXV := Lib.hid (HX.out.transNo hx2)
 have HI := Lib.hid (ordI (g := g) HOK.out R)
 have HALL := Lib.hid (ord_all HOK.out hgo hord)
 have HLT := Lib.hid (ordS_lt S g R)
 obtain ⟨L, hL⟩ : ∃ L, L = (ordS S g R).2 := ⟨_, rfl⟩
 rw [← hL] at hLd HI HALL HLT
 obtain ⟨nl, hnl⟩ : ∃ nl, nl = L.length := ⟨_, rfl⟩
 have hlen : Ld.length = nl := by rw [hnl]; have := congrArg List.length hLd.out; simpa using this
 rw [hlen] at hLn hLA ⊢
 have HNL := Lib.hid hnl
 have hfl : ∀ i, (L.take i).flatten.length ≤ S.deps.length := fun i => by
  have h1 := HALL.out.1
  have h2 : L.flatten = (L.take i).flatten ++ (L.drop i).flatten := by rw [← List.flatten_append, List.take_append_drop]
  rw [h2, List.length_append] at h1
  omega
 have HFL := Lib.hid hfl
 clear hgo hord hL hnl hlen hx2 HA HS HX hfl
 go_wp2_with fail
 go_loopw [6, 7, 8, 9, 10, 11] (fun s6 i _ _ _ _ wr => ∃ k : Nat, i = .int .i64 k ∧ k ≤ nl ∧ Hid (wr.ownsRow V.heap.size 3 1 s6 (L.take k).flatten.length ((natsZ (L.take k).flatten).map (.int .i64))) ∧ Hid (Ext No V wr)) (fun _ i _ _ _ _ _ => nl - (intOf i).toNat)
 case atStart => exact ⟨0, rfl, Nat.zero_le _, Lib.hid (World.ownsRow_nil _ _ _ _), Lib.hid (Ext.refl _ _)⟩
 case round =>
  obtain ⟨k, rfl, hk, hown, hx⟩ := hrel
  rename World => wr
  obtain ⟨aS, cs, hs6⟩ := (Row.ofOwns (M := No) hown.out (fun _ _ x => x)).slice
  obtain ⟨fl, hfl⟩ : ∃ fl, fl = (L.take k).flatten := ⟨_, rfl⟩
  rw [← hfl] at hown hs6
  have hflN : fl.length ≤ S.deps.length := by rw [hfl]; exact HFL.out k
  have HFK := Lib.hid hfl
  obtain ⟨fn, hfn⟩ : ∃ fn, fn = fl.length := ⟨_, rfl⟩
  rw [← hfn] at hown hs6 hflN
  subst hs6
  have HFN := Lib.hid hfn
  have HSEEN := Lib.hid (show Ints No wr .i64 (.slice aS fn cs) (natsZ fl) from by
   have h := Row.ofOwns (M := No) hown.out (fun _ _ x => x)
   unfold Ints
   rw [nats_len, ← HFN.out]
   exact h)
  clear hfl hfn
  by_cases hlt : k < nl
  ·have hlz : (k : Int) < (nl : Int) := by omega
   have HKK : Hid (Value.int .i64 ((k : Int) + 1) = .int .i64 ((k + 1 : Nat) : Int)) := Lib.hid (by rw [show ((k + 1 : Nat) : Int) = (k : Int) + 1 from by omega])
   have hkL : k < L.length := by rw [← HNL.out]; exact hlt
   obtain ⟨bo, oo, ko, ac, cc, hve, gc, hic⟩ := ld_at (hLA.out.extNo hx.out) hLd.out hkL
   rw [← HNL.out] at hve
   simp only [Value.slice.injEq] at hve
   obtain ⟨rfl, -, rfl⟩ := hve
   obtain ⟨c, hc⟩ : ∃ c, c = L[k] := ⟨_, rfl⟩
   rw [← hc] at hic gc
   have HC := Lib.hid hc
   have HGC := Lib.hid gc
   have HCT := Lib.hid (show ∀ n ∈ c, ∀ d ∈ depD S n, d ∈ fl ∨ d ∈ c from by rw [hc, HFK.out]; exact HI.out.top k hkL)
   have HCN := Lib.hid (show ∀ n ∈ c, n < S.deps.length from by rw [hc]; exact HLT.out _ (List.getElem_mem hkL))
   have HSUC := Lib.hid (show (L.take (k + 1)).flatten = fl ++ c from by rw [List.take_succ_eq_append_getElem hkL, List.flatten_append, HFK.out, hc]; simp)
   have HDIS := Lib.hid (show ∀ n ∈ c, n ∉ fl from fun n hn hn2 => by
    have h1 := HI.out.nodup
    have h2 : L.flatten = (L.take (k + 1)).flatten ++ (L.drop (k + 1)).flatten := by rw [← List.flatten_append, List.take_append_drop]
    rw [h2, HSUC.out, List.append_assoc, List.pairwise_append] at h1
    exact h1.2.2 n hn2 n (List.mem_append_left _ hn) rfl)
   obtain ⟨cl, hcl⟩ : ∃ cl, cl = c.length := ⟨_, rfl⟩
   have HCL := Lib.hid hcl
   rw [← hcl] at gc HGC hic
   have hclN : fn + cl ≤ S.deps.length := by
    have h := HFL.out (k + 1)
    rw [HSUC.out, List.length_append, ← HFN.out, ← HCL.out] at h
    exact h
   clear hc hcl
   have hwr := hx.out.size
   go_wp2_with fail
   clear gc
   go_loopw [8, 9, 10, 11] (fun i _ _ _ wx => ∃ j : Nat, i = .int .i64 j ∧ j ≤ cl ∧ Hid (Ext No wr wx)) (fun i _ _ _ _ => cl - (intOf i).toNat)
   case atStart => exact ⟨0, rfl, Nat.zero_le _, Lib.hid (Ext.refl _ _)⟩
   case round =>
    obtain ⟨j, rfl, hj, hx2⟩ := hrel
    rename World => wx
    have gc := hx2.out.keep HGC.out
    by_cases hlt2 : j < cl
    ·have hjz : (j : Int) < (cl : Int) := by omega
     have HJJ : Hid (Value.int .i64 ((j : Int) + 1) = .int .i64 ((j + 1 : Nat) : Int)) := Lib.hid (by rw [show ((j + 1 : Nat) : Int) = (j : Int) + 1 from by omega])
     have hjc : j < c.length := by rw [← HCL.out]; exact hlt2
     obtain ⟨b, off, cap', hsl, hb1, _, hcell⟩ := IntsN.at (Row.extNo hic.out hx2.out) hjc
     rw [← HCL.out] at hsl
     simp only [Value.slice.injEq] at hsl
     obtain ⟨rfl, _, rfl⟩ := hsl
     have q0 := hcell j hjc
     obtain ⟨n, hn⟩ : ∃ n, n = c[j] := ⟨_, rfl⟩
     rw [← hn] at q0
     have hnc : n ∈ c := by rw [hn]; exact List.getElem_mem hjc
     have hnN := HCN.out n hnc
     have HND := Lib.hid (HDIS.out n hnc)
     have HNT := Lib.hid (HCT.out n hnc)
     have hn1 : ¬ ((n : Int) < 0) := by omega
     have hn2 : ¬ ((S.deps.length : Int) ≤ (n : Int)) := by omega
     have hn0 : (0 : Int) ≤ (n : Int) := by omega
     have hn3 : (n : Int) < (S.deps.length : Int) := by omega
     clear hn hcell hb1 hnc
     have HXX := Lib.hid (hx.out.transNo hx2.out)
     have cA := cellOf (HXX.out.blk HAV.out no_no)
     go_wp2_with fail
     clear gc q0 cA
     refine (rhasI_any _ fl n _ (Row.extNo HSEEN.out hx2.out)).mono ?_
     rintro e3 w3 ⟨rfl, hx3⟩
     rw [decide_eq_false HND.out]
     have HX3 := Lib.hid (HXX.out.transNo hx3)
     have HX23 := Lib.hid (hx2.out.transNo hx3)
     obtain ⟨bd, od, kd, aq, cq, hve, gd, hid⟩ := HSV.out.dep hnN
     simp only [Value.slice.injEq] at hve
     obtain ⟨rfl, -, rfl⟩ := hve
     obtain ⟨d, hd⟩ : ∃ d, d = depD S n := ⟨_, rfl⟩
     rw [← hd] at gd hid HNT
     have HD := Lib.hid hd
     obtain ⟨dn, hdn⟩ : ∃ dn, dn = d.length := ⟨_, rfl⟩
     rw [← hdn] at gd hid
     have HDN := Lib.hid hdn
     have hdb : dn ≤ 9223372036854775807 := by rw [hdn]; exact IntsN.len hid.out
     have HGD := Lib.hid gd
     clear hd hdn gd hx3
     go_wp2_with fail
     go_loopw [10, 11] (fun i _ wy => ∃ q : Nat, i = .int .i64 q ∧ q ≤ dn ∧ Hid (Ext No w3 wy)) (fun i _ _ => dn - (intOf i).toNat)
     case atStart => exact ⟨0, rfl, Nat.zero_le _, Lib.hid (Ext.refl _ _)⟩
     case round =>
      obtain ⟨q, rfl, hq, hx4⟩ := hrel
      rename World => wy
      have HX4 := Lib.hid (HX3.out.transNo hx4.out)
      have HX24 := Lib.hid (HX23.out.transNo hx4.out)
      have cA := cellOf (HX4.out.blk HAV.out no_no)
      have gd := HX4.out.keep HGD.out
      by_cases hlt3 : q < dn
      ·have hqz : (q : Int) < (dn : Int) := by omega
       have HQQ : Hid (Value.int .i64 ((q : Int) + 1) = .int .i64 ((q + 1 : Nat) : Int)) := Lib.hid (by rw [show ((q + 1 : Nat) : Int) = (q : Int) + 1 from by omega])
       have hqd : q < d.length := by rw [← HDN.out]; exact hlt3
       obtain ⟨b2, off2, cap2, hsl, hb2, _, hcell⟩ := IntsN.at (Row.extNo hid.out HX4.out) hqd
       rw [← HDN.out] at hsl
       simp only [Value.slice.injEq] at hsl
       obtain ⟨rfl, _, rfl⟩ := hsl
       have q1 := hcell q hqd
       obtain ⟨m, hm⟩ : ∃ m, m = d[q] := ⟨_, rfl⟩
       rw [← hm] at q1
       have HMT := Lib.hid (HNT.out m (by rw [hm]; exact List.getElem_mem hqd))
       clear hm hcell hb2
       go_wp2_with fail
       clear q1 cA gd
       refine (rhasI_any _ fl m _ (Row.extNo HSEEN.out HX24.out)).mono ?_
       rintro e5 w5 ⟨rfl, hx5⟩
       by_cases hmf : m ∈ fl
       ·rw [decide_eq_true hmf]
        clear hmf
        go_wp2_with fail
        go_roundw
        case rel => exact ⟨q + 1, HQQ.out, by omega, Lib.hid (hx4.out.transNo hx5)⟩
        case measure => simp [intOf]; omega
       ·rw [decide_eq_false hmf]
        have hmc : m ∈ c := HMT.out.resolve_left hmf
        have HMC := Lib.hid hmc
        clear hmf hmc
        have gc := (HX24.out.transNo hx5).keep HGC.out
        go_wp2_with fail
        clear gc
        refine (rhasI_any _ c m _ (by have h := Row.extNo hic.out (HX24.out.transNo hx5); exact h)).mono ?_
        rintro e6 w6 ⟨rfl, hx6⟩
        rw [decide_eq_true HMC.out]
        go_wp2_with fail
        go_roundw
        case rel => exact ⟨q + 1, HQQ.out, by omega, Lib.hid ((hx4.out.transNo hx5).transNo hx6)⟩
        case measure => simp [intOf]; omega
      ·have hge : ¬ (q : Int) < (dn : Int) := by omega
       go_wp2_with fail
       clear cA gd
       go_roundw
       case rel => exact ⟨j + 1, HJJ.out, by omega, Lib.hid HX24.out⟩
       case measure => simp [intOf]; omega
    ·have hge : ¬ (j : Int) < (cl : Int) := by omega
     have hww := hx2.out.size
     have HRC := Lib.hid (show Row No wx 1 (.slice ac cl cc) cl ((natsZ c).map (.int .i64)) from by
      have h := Row.extNo hic.out hx2.out
      unfold Ints at h
      rw [nats_len, ← HCL.out] at h
      exact h)
     have HOW := Lib.hid (show wx.ownsRow V.heap.size 3 1 (.slice aS fn cs) fn ((natsZ fl).map (.int .i64)) from row_keep hown.out hx2.out (fun _ _ x => x))
     have hvw : V.heap.size ≤ wx.heap.size := by omega
     go_wp2_with (at_builtin; (refine wpList_app _ rfl (.tmp 89) (.tmp 93) 22 rfl V.heap.size 3 i0 _ 1 8 Try.underlying22 hi0 hz0 hz1 hz2 rfl (by omega) (.slice aS fn cs) fn ((natsZ fl).map (.int .i64)) rfl HOW.out No ac cl cc ((natsZ c).map (.int .i64)) rfl HRC.out (int_one (natsZ c)) (by omega) (by omega) hvw ?_); (intro v1 w9 hown1 hg9 hv9); (have ho9 := Lib.hid hown1); (have hx9 := Lib.hid (((Ext.refl (fun k => (Value.slice aS fn cs).ownBlock = some k) wx).grown hg9 (fun k hk _ => hk)))); (clear hown1 hg9 hv9 gc))
     go_roundw
     case rel => exact ⟨k + 1, HKK.out, by omega, Lib.hid (by
      have h := ho9.out
      rw [HSUC.out, List.length_append, ← HFN.out, ← HCL.out, show natsZ (fl ++ c) = natsZ fl ++ natsZ c from by simp [natsZ], List.map_append]
      exact h), Lib.hid ((hx.out.transNo hx2.out).trans2 hx9.out (fun i hi e => by have := (World.ownsRow.lt HOW.out i e).1; omega))⟩
     case measure => simp [intOf]; omega
  ·have hge : ¬ (k : Int) < (nl : Int) := by omega
   have hkn : k = L.length := by have := HNL.out; omega
   have hfin : fn = S.deps.length := by rw [HFN.out, HFK.out, hkn, List.take_length]; exact HALL.out.1
   have hfe : ((fn : Int) == (S.deps.length : Int)) = true := by simp [hfin]
   have HFE := Lib.hid hfin
   clear hfin hkn
   have cA := cellOf (hx.out.blk HAV.out no_no)
   go_wp2_with fail
   clear cA
   refine (sane12_any _).mono ?_
   rintro e7 w7 ⟨rfl, hx7⟩
   go_wp2_with fail
   go_ret
   exact ⟨rfl, (HXV.out.transNo hx.out).transNo hx7⟩
end Go.Proofs.Ytkdjdhflhlbelaa

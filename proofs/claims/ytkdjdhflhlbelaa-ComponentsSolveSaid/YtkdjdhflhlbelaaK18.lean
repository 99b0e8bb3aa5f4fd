/- The walk of ComponentsSolve. -/
import Derived.Test.YtkdjdhflhlbelaaK13
import Derived.Test.YtkdjdhflhlbelaaK17
import Derived.Test.YtkdjdhflhlbelaaH10
set_option linter.unusedVariables false
set_option linter.unusedSimpArgs false
namespace Go.Proofs.Ytkdjdhflhlbelaa
open Go Go.RowKit Tj
set_option maxRecDepth 100000 in
set_option maxHeartbeats 16000000 in
theorem componentsSolve_any (tl : Value) (zs : List Int) (w : World) (ht : Ints No w .i64 tl zs) : Calls Try.prog 10 #[tl] w fun e w' => e = .returned (.bool true) ∧ Ext No w w' := by
 obtain ⟨i0, hi0, hz0, hz1, hz2⟩ := info_parts infoInt2
 have HT := Lib.hid ht
 obtain ⟨at', ct', rfl⟩ := Row.slice ht
 clear ht
 go_enter Try.func10, Try.ntmps10
 go_wp2_with fail
 refine (new_any _ zs _ HT.out).mono ?_
 rintro e0 w0 ⟨rfl, ht0, hx0, hs0⟩
 obtain ⟨tb, htb⟩ : ∃ tb, tb = w.heap.size := ⟨_, rfl⟩
 rw [← htb] at ht0 ⊢
 have HTB := Lib.hid htb
 clear htb
 go_wp2_with fail
 refine (sysgen_own tb 7 _ (by decide) (by decide) ht0).mono ?_
 rintro e1 w1 ⟨sw, base, vd, vt, vb, Ld, Lt, Lb, rfl, hw4, hn5, _, hY, hbase, ht1, hx1⟩
 have htlt := ht0.lt
 obtain ⟨N, hLN⟩ : ∃ N, Ld.length = N := ⟨_, rfl⟩
 obtain ⟨hN1, hN2, g, cap, at1, ct, ab, cb, rfl, rfl, rfl, hgb, hg1⟩ := hY.out.shape hLN
 have hxa : Ext No w1 (w1.alloc (.cells #[.int .i64 (sw : Int), .slice (some ⟨g, 0, none⟩) N cap, .slice at1 N ct, .slice ab N cb] 29)) := (Ext.refl _ _).alloc _
 have HA := Lib.hid (alloc_top (w := w1) (o := (.cells #[.int .i64 (sw : Int), .slice (some ⟨g, 0, none⟩) N cap, .slice at1 N ct, .slice ab N cb] 29)) rfl)
 have HY := Lib.hid (hY.out.extNo hxa)
 have HX := Lib.hid ((hx0.trans2 hx1 (fun i hi e => by unfold At at e; have := HTB.out; omega)).transNo hxa)
 have HT1 := Lib.hid (ht1.ext hxa)
 have HLN := Lib.hid hLN
 have HTG := Lib.hid (show tb < w0.heap.size ∧ w0.heap.size ≤ g ∧ g < w1.heap.size ∧ w.heap.size ≤ g from ⟨htlt, by omega, hg1, by have := hx0.size; omega⟩)
 clear hx0 hs0 ht0 hY hbase ht1 hx1 hxa hLN hgb hg1 htlt
 go_wp2_with fail
 generalize (w1.alloc (.cells #[.int .i64 (sw : Int), .slice (some ⟨g, 0, none⟩) N cap, .slice at1 N ct, .slice ab N cb] 29)) = V1 at *
 generalize w1.heap.size = A at *
 refine (next_any tb 2 (by decide) V1 HT1.out).mono ?_
 rintro e2 V ⟨r, rfl, hr, _, hx2, _⟩
 have HAV := Lib.hid (hx2.blk HA.out (fun e => by unfold At at e; have := HTG.out; omega))
 have HYV := Lib.hid ((HY.out.ext hx2 (fun i hi e => by unfold At at e; subst e; have := HTG.out; simp only [Value.ownBlock, Option.some.injEq] at hi; omega) (fun i e => by unfold At at e; unfold Lo; have := HTG.out; omega)).mono (M' := No) (fun _ x => x.elim))
 have HXV := Lib.hid (HX.out.trans2 hx2 (fun i hi e => by unfold At at e; have := HTB.out; omega))
 clear hx2 HA HY HX HT1
 by_cases hr0 : r = 0
 ·subst hr0
  go_wp2_with fail
  go_loopw [5, 6, 7] (fun i _ _ wr => ∃ (k : Nat) (Lk : LD), i = .int .i64 k ∧ k ≤ N ∧ Lk.length = N ∧ Hid (OY No (sw : Int) wr base (.slice (some ⟨g, 0, none⟩) N cap) (.slice at1 N ct) (.slice ab N cb) Lk Lt Lb) ∧ Hid (Ext (At g) V wr)) (fun i _ _ _ => N - (intOf i).toNat)
  case atStart => exact ⟨0, Ld, rfl, Nat.zero_le _, HLN.out, HYV, Lib.hid (Ext.refl _ _)⟩
  case round =>
   obtain ⟨k, Lk, rfl, hk, hlk, hY, hx⟩ := hrel
   rename World => wr
   clear HLN
   have HLN := Lib.hid hlk
   have HAF := Lib.hid (hx.out.blk HAV.out (fun e => by unfold At at e; have := HTG.out; omega))
   have cA := cellOf HAF.out
   by_cases hlt : k < N
   ·have hlz : (k : Int) < (N : Int) := by omega
    have HKK : Hid (Value.int .i64 ((k : Int) + 1) = .int .i64 ((k + 1 : Nat) : Int)) := Lib.hid (by rw [show ((k + 1 : Nat) : Int) = (k : Int) + 1 from by omega])
    have hkL : k < Lk.length := by omega
    obtain ⟨ac, cc, gc, hic⟩ := hY.out.row hkL
    have HIC := Lib.hid hic
    obtain ⟨c, hc⟩ : ∃ c, c = Lk[k].1 := ⟨_, rfl⟩
    rw [← hc] at gc HIC
    have HC := Lib.hid hc
    obtain ⟨cn, hcn⟩ : ∃ cn, cn = c.length := ⟨_, rfl⟩
    rw [← hcn] at gc HIC
    have HCN := Lib.hid hcn
    have hcb : cn ≤ 1024 := by rw [hcn, hc]; have h1 := sumL_ge Lk k hkL; have h2 := hY.out.vs.tot; omega
    have HGC := Lib.hid gc
    have hwr := hx.out.size
    clear hc hcn hic hlk
    go_wp2_with fail
    clear gc cA
    go_loopw [6, 7] (fun d j wx => ∃ q : Nat, j = .int .i64 q ∧ q ≤ cn ∧ Hid (wx.ownsRow wr.heap.size 3 1 d ((c.take q).filter fun z => decide (z < (k : Int))).length (((c.take q).filter fun z => decide (z < (k : Int))).map (.int .i64))) ∧ Hid (Ext No wr wx)) (fun _ j _ => cn - (intOf j).toNat)
    case atStart => exact ⟨0, rfl, Nat.zero_le _, Lib.hid (World.ownsRow_nil _ _ _ _), Lib.hid (Ext.refl _ _)⟩
    case round =>
     obtain ⟨q, rfl, hq, hown, hx2⟩ := hrel
     rename World => wx
     obtain ⟨aS, cs, hs6⟩ := (Row.ofOwns (M := No) hown.out (fun _ _ x => x)).slice
     have gc := hx2.out.keep HGC.out
     have cA := cellOf (hx2.out.blk HAF.out no_no)
     obtain ⟨fl, hfl⟩ : ∃ fl, fl = (c.take q).filter fun z => decide (z < (k : Int)) := ⟨_, rfl⟩
     rw [← hfl] at hown hs6
     have HFL := Lib.hid hfl
     have hflq : fl.length ≤ q := by rw [hfl]; have h1 := List.length_filter_le (fun z => decide (z < (k : Int))) (c.take q); rw [List.length_take] at h1; omega
     obtain ⟨fn, hfn⟩ : ∃ fn, fn = fl.length := ⟨_, rfl⟩
     rw [← hfn] at hown hs6 hflq
     subst hs6
     have HFN := Lib.hid hfn
     clear hfl hfn
     by_cases hlt2 : q < cn
     ·have hqz : (q : Int) < (cn : Int) := by omega
      have HQQ : Hid (Value.int .i64 ((q : Int) + 1) = .int .i64 ((q + 1 : Nat) : Int)) := Lib.hid (by rw [show ((q + 1 : Nat) : Int) = (q : Int) + 1 from by omega])
      have hqc : q < c.length := by rw [← HCN.out]; exact hlt2
      obtain ⟨b, off, cap', hsl, hb1, _, hcell⟩ := Ints.at (Row.extNo HIC.out hx2.out) hqc
      rw [← HCN.out] at hsl
      simp only [Value.slice.injEq] at hsl
      obtain ⟨rfl, _, rfl⟩ := hsl
      have q0 := hcell q hqc
      obtain ⟨z, hz⟩ : ∃ z, z = c[q] := ⟨_, rfl⟩
      rw [← hz] at q0
      have HZ := Lib.hid hz
      clear hz hcell hb1
      by_cases hzk : z < (k : Int)
      ·have HST := Lib.hid (show (c.take (q + 1)).filter (fun z => decide (z < (k : Int))) = fl ++ [z] from by rw [filter_take_succ _ hqc, ← HZ.out, if_pos (by simpa using hzk), HFL.out])
       have hww := hx2.out.size
       go_wp2_with (at_builtin; (refine wpList_app _ rfl (.tmp 52) (.tmp 61) 22 rfl wr.heap.size 3 i0 _ 1 8 Try.underlying22 hi0 hz0 hz1 hz2 rfl (by omega) (.slice aS fn cs) fn (fl.map (.int .i64)) rfl (row_keep hown.out ((Ext.refl No _).alloc _) (fun _ _ x => x)) No (some ⟨wx.heap.size, 0, none⟩) 1 1 [.int .i64 z] rfl (Row.block (alloc_top rfl) rfl no_no (by omega)) (by simp [Value.oneCell']) (by omega) (by omega) (by simp; omega) ?_); (intro v1 w9 hown1 hg9 hv9); (have hm9 := Lib.hid (own_ext hx2.out hg9 (fun b hb => (World.ownsRow.lt hown.out b hb).1) (Nat.le_refl _))); (have ho9 := Lib.hid hown1); (clear hown1 hg9 hv9))
       clear gc cA q0
       go_roundw
       case rel => exact ⟨q + 1, HQQ.out, by omega, Lib.hid (by
        have h := ho9.out
        rw [HST.out, List.length_append, ← HFN.out, List.map_append]
        exact h), hm9⟩
       case measure => simp [intOf]; omega
      ·have HST := Lib.hid (show (c.take (q + 1)).filter (fun z => decide (z < (k : Int))) = fl from by rw [filter_take_succ _ hqc, ← HZ.out, if_neg (by simpa using hzk), List.append_nil, HFL.out])
       go_wp2_with fail
       clear gc cA q0
       go_roundw
       case rel => exact ⟨q + 1, HQQ.out, by omega, Lib.hid (by
        rw [HST.out, ← HFN.out]
        exact hown.out), hx2⟩
       case measure => simp [intOf]; omega
     ·have hge : ¬ (q : Int) < (cn : Int) := by omega
      have hfe : fl = Lk[k].1.filter fun z => decide (z < (k : Int)) := by
       have h1 : q = c.length := by rw [← HCN.out]; omega
       rw [HFL.out, h1, List.take_length, HC.out]
      have HYX := Lib.hid (hY.out.extNo hx2.out)
      have hgf := HYX.out.free k
      have hgw := HTG.out
      have hAs := lt_of_block HAF.out
      have hgr : g < wr.heap.size := by omega
      have hput := HYX.out.put (i := k) (d := .slice aS fn cs) HLN.out hkL (fun z => decide (z < (k : Int))) (by
       rw [← hfe]
       unfold Ints
       rw [← HFN.out]
       exact Row.ofOwns hown.out (fun b hb e => by rcases e with e | e; exact e; omega))
      have HPUT := Lib.hid hput
      clear hput
      have hcg := gc
      go_wp2_with fail
      clear gc cA
      go_roundw
      case rel => exact ⟨k + 1, _, HKK.out, by omega, by rw [List.length_set]; exact HLN.out, HPUT, Lib.hid ((hx.out.transNo hx2.out).setAt k _)⟩
      case measure => simp [intOf]; omega
   ·have hge : ¬ (k : Int) < (N : Int) := by omega
    have HYF := hY
    have HXF := Lib.hid (HXV.out.trans2 hx.out (fun i hi e => by unfold At at e; have := HTG.out; omega))
    go_wp2_with fail
    clear cA
    obtain ⟨S, hS1, hS2, hS3⟩ := HYF.out.vs.sys HYF.out.yat
    obtain rfl : sw = S.w := by omega
    have hSN : N = S.deps.length := by rw [hS3]; exact HLN.out.symm
    have HS := Lib.hid hS2
    have HOK := Lib.hid hS2.ok
    clear hS1 hS2 hS3
    subst hSN
    have cA := cellOf HAF.out
    go_wp2_with fail
    clear cA
    refine (csolve_any S _ _ _ wr HS.out).mono ?_
    rintro e3 w3 ⟨g1, R1, vs, n, av, cv, hg1, ho1, hrun, rfl, hsv, hx3⟩
    have HS3 := Lib.hid (HS.out.extNo hx3)
    have HA3 := Lib.hid (hx3.blk HAF.out no_no)
    have cA := cellOf HA3.out
    go_wp2_with fail
    clear cA
    refine (sysSolve_any No S _ _ _ w3 (fun _ x => x.elim) HS3.out).mono ?_
    rintro e4 w4 ⟨R2, au, cu, hfix, rfl, hsu, hx4⟩
    have HS4 := Lib.hid (HS3.out.extNo hx4)
    have HA4 := Lib.hid (hx4.blk HA3.out no_no)
    have cA := cellOf HA4.out
    go_wp2_with fail
    clear cA
    refine (order_any S _ _ _ w4 HS4.out).mono ?_
    rintro e5 w5 ⟨g2, R3, ao, co, Lo5, hg2, ho2, rfl, hLd, hLA, hLn, hx5⟩
    have HA5 := Lib.hid (hx5.blk HA4.out no_no)
    have hru := hrun.out
    have huq := ord_uniq HOK.out hg1 hg2 ho1 ho2
    rw [huq] at hru
    have hll : Lo5.length = (ordS S g2 R3).2.length := by have := congrArg List.length hLd.out; simpa using this
    have hle := solve_least HOK.out hg2 ho2 hfix hru
    have HONCE := Lib.hid (fun (h1 : S.deps.length ≤ Lo5.length) (h2 : ∀ y, y < S.deps.length → y ∉ depD S y) => solve_once HOK.out hg2 ho2 hru (by rw [← hll]; exact h1) h2)
    have hge := hle.2
    have HVS := Lib.hid hle.1
    clear hru huq hll hle hg1 ho1 hg2 ho2 hrun hLd hLA hfix
    go_wp2_with fail
    refine (rsameSets_any S.w vs (iterD S R2) _ _ w5 (hsv.out.extNo (hx4.transNo hx5)) (hsu.out.extNo hx5) (by have := (good_iter HOK.out R2).len; have := HOK.out.n2; have := HVS.out; subst this; omega)).mono ?_
    rintro e6 w6 ⟨rfl, hx6⟩
    rw [decide_eq_true HVS.out]
    have HA6 := Lib.hid (hx6.blk HA5.out no_no)
    have HX6 := Lib.hid (((HXF.out.transNo hx3).transNo (hx4.transNo hx5)).transNo hx6)
    have HS6 := Lib.hid (HS4.out.extNo (hx5.transNo hx6))
    have hnn := HOK.out.n2
    have cA := cellOf HA6.out
    go_wp2_with fail
    clear cA
    go_loopw [16, 17] (fun b i wr => ∃ (k : Nat) (b' : Bool), b = .bool b' ∧ i = .int .i64 k ∧ k ≤ S.deps.length ∧ Hid (b' = false → S.deps.length ≤ Lo5.length ∧ ∀ y, y < k → y ∉ depD S y) ∧ Hid (Ext No w6 wr)) (fun _ i _ => S.deps.length - (intOf i).toNat)
    case atStart => exact ⟨0, decide (Lo5.length < S.deps.length), rfl, rfl, Nat.zero_le _, Lib.hid (fun h => ⟨by have h3 := of_decide_eq_false h; omega, fun y hy => absurd hy (Nat.not_lt_zero _)⟩), Lib.hid (Ext.refl _ _)⟩
    case round =>
     obtain ⟨k, b', rfl, rfl, hk, hb, hx⟩ := hrel
     rename World => wr
     have cA := cellOf (hx.out.blk HA6.out no_no)
     by_cases hlt : k < S.deps.length
     ·have hlz : (k : Int) < (S.deps.length : Int) := by omega
      have HKK : Hid (Value.int .i64 ((k : Int) + 1) = .int .i64 ((k + 1 : Nat) : Int)) := Lib.hid (by rw [show ((k + 1 : Nat) : Int) = (k : Int) + 1 from by omega])
      obtain ⟨bd, od, kd, aq, cq, hve, gd, hid⟩ := (HS6.out.extNo hx.out).dep hlt
      simp only [Value.slice.injEq, Option.some.injEq, Addr.mk.injEq] at hve
      obtain ⟨⟨rfl, rfl, -⟩, -, rfl⟩ := hve
      rw [Nat.zero_add] at gd
      cases b' with
      | true =>
       go_wp2_with fail
       go_roundw
       case rel => exact ⟨k + 1, true, rfl, HKK.out, by omega, Lib.hid (fun h => by cases h), hx⟩
       case measure => simp [intOf]; omega
      | false =>
       go_wp2_with fail
       refine (rhasI_any _ (depD S k) k wr hid.out).mono ?_
       rintro e7 w7 ⟨rfl, hx7⟩
       go_wp2_with fail
       go_roundw
       case rel => exact ⟨k + 1, decide (k ∈ depD S k), by simp, HKK.out, by omega, Lib.hid (fun h => ⟨(hb.out (by first | rfl | trivial)).1, fun y hy => by
        rcases Nat.lt_or_ge y k with h2 | h2
        ·exact (hb.out (by first | rfl | trivial)).2 y h2
        ·obtain rfl : y = k := by omega
         exact of_decide_eq_false h⟩), Lib.hid (hx.out.transNo hx7)⟩
       case measure => simp [intOf]; omega
     ·have hge2 : ¬ (k : Int) < (S.deps.length : Int) := by omega
      obtain rfl : k = S.deps.length := by omega
      have hgez : (S.deps.length : Int) ≤ (n : Int) := by omega
      cases b' with
      | true =>
       go_wp2_with fail
       refine (sane12_any _).mono ?_
       rintro e8 w8 ⟨rfl, hx8⟩
       go_wp2_with fail
       go_ret
       exact ⟨rfl, (HX6.out.transNo hx.out).transNo hx8⟩
      | false =>
       have hnN : n = S.deps.length := HONCE.out (hb.out rfl).1 (hb.out rfl).2
       subst hnN
       go_wp2_with fail
       refine (sane12_any _).mono ?_
       rintro e8 w8 ⟨rfl, hx8⟩
       go_wp2_with fail
       go_ret
       exact ⟨rfl, (HX6.out.transNo hx.out).transNo hx8⟩
 ·have hre : ((r : Int) == 0) = false := by simpa using hr0
  have HYF := HYV
  have HXF := HXV
  have HAF := HAV
  have cA := cellOf HAF.out
  go_wp2_with fail
  clear cA
  obtain ⟨S, hS1, hS2, hS3⟩ := HYF.out.vs.sys HYF.out.yat
  obtain rfl : sw = S.w := by omega
  have hSN : N = S.deps.length := by rw [hS3]; exact HLN.out.symm
  have HS := Lib.hid hS2
  have HOK := Lib.hid hS2.ok
  clear hS1 hS2 hS3
  subst hSN
  have cA := cellOf HAF.out
  go_wp2_with fail
  clear cA
  refine (csolve_any S _ _ _ V HS.out).mono ?_
  rintro e3 w3 ⟨g1, R1, vs, n, av, cv, hg1, ho1, hrun, rfl, hsv, hx3⟩
  have HS3 := Lib.hid (HS.out.extNo hx3)
  have HA3 := Lib.hid (hx3.blk HAF.out no_no)
  have cA := cellOf HA3.out
  go_wp2_with fail
  clear cA
  refine (sysSolve_any No S _ _ _ w3 (fun _ x => x.elim) HS3.out).mono ?_
  rintro e4 w4 ⟨R2, au, cu, hfix, rfl, hsu, hx4⟩
  have HS4 := Lib.hid (HS3.out.extNo hx4)
  have HA4 := Lib.hid (hx4.blk HA3.out no_no)
  have cA := cellOf HA4.out
  go_wp2_with fail
  clear cA
  refine (order_any S _ _ _ w4 HS4.out).mono ?_
  rintro e5 w5 ⟨g2, R3, ao, co, Lo5, hg2, ho2, rfl, hLd, hLA, hLn, hx5⟩
  have HA5 := Lib.hid (hx5.blk HA4.out no_no)
  have hru := hrun.out
  have huq := ord_uniq HOK.out hg1 hg2 ho1 ho2
  rw [huq] at hru
  have hll : Lo5.length = (ordS S g2 R3).2.length := by have := congrArg List.length hLd.out; simpa using this
  have hle := solve_least HOK.out hg2 ho2 hfix hru
  have HONCE := Lib.hid (fun (h1 : S.deps.length ≤ Lo5.length) (h2 : ∀ y, y < S.deps.length → y ∉ depD S y) => solve_once HOK.out hg2 ho2 hru (by rw [← hll]; exact h1) h2)
  have hge := hle.2
  have HVS := Lib.hid hle.1
  clear hru huq hll hle hg1 ho1 hg2 ho2 hrun hLd hLA hfix
  go_wp2_with fail
  refine (rsameSets_any S.w vs (iterD S R2) _ _ w5 (hsv.out.extNo (hx4.transNo hx5)) (hsu.out.extNo hx5) (by have := (good_iter HOK.out R2).len; have := HOK.out.n2; have := HVS.out; subst this; omega)).mono ?_
  rintro e6 w6 ⟨rfl, hx6⟩
  rw [decide_eq_true HVS.out]
  have HA6 := Lib.hid (hx6.blk HA5.out no_no)
  have HX6 := Lib.hid (((HXF.out.transNo hx3).transNo (hx4.transNo hx5)).transNo hx6)
  have HS6 := Lib.hid (HS4.out.extNo (hx5.transNo hx6))
  have hnn := HOK.out.n2
  have cA := cellOf HA6.out
  go_wp2_with fail
  clear cA
  go_loopw [16, 17] (fun b i wr => ∃ (k : Nat) (b' : Bool), b = .bool b' ∧ i = .int .i64 k ∧ k ≤ S.deps.length ∧ Hid (b' = false → S.deps.length ≤ Lo5.length ∧ ∀ y, y < k → y ∉ depD S y) ∧ Hid (Ext No w6 wr)) (fun _ i _ => S.deps.length - (intOf i).toNat)
  case atStart => exact ⟨0, decide (Lo5.length < S.deps.length), rfl, rfl, Nat.zero_le _, Lib.hid (fun h => ⟨by have h3 := of_decide_eq_false h; omega, fun y hy => absurd hy (Nat.not_lt_zero _)⟩), Lib.hid (Ext.refl _ _)⟩
  case round =>
   obtain ⟨k, b', rfl, rfl, hk, hb, hx⟩ := hrel
   rename World => wr
   have cA := cellOf (hx.out.blk HA6.out no_no)
   by_cases hlt : k < S.deps.length
   ·have hlz : (k : Int) < (S.deps.length : Int) := by omega
    have HKK : Hid (Value.int .i64 ((k : Int) + 1) = .int .i64 ((k + 1 : Nat) : Int)) := Lib.hid (by rw [show ((k + 1 : Nat) : Int) = (k : Int) + 1 from by omega])
    obtain ⟨bd, od, kd, aq, cq, hve, gd, hid⟩ := (HS6.out.extNo hx.out).dep hlt
    simp only [Value.slice.injEq, Option.some.injEq, Addr.mk.injEq] at hve
    obtain ⟨⟨rfl, rfl, -⟩, -, rfl⟩ := hve
    rw [Nat.zero_add] at gd
    cases b' with
    | true =>
     go_wp2_with fail
     go_roundw
     case rel => exact ⟨k + 1, true, rfl, HKK.out, by omega, Lib.hid (fun h => by cases h), hx⟩
     case measure => simp [intOf]; omega
    | false =>
     go_wp2_with fail
     refine (rhasI_any _ (depD S k) k wr hid.out).mono ?_
     rintro e7 w7 ⟨rfl, hx7⟩
     go_wp2_with fail
     go_roundw
     case rel => exact ⟨k + 1, decide (k ∈ depD S k), by simp, HKK.out, by omega, Lib.hid (fun h => ⟨(hb.out (by first | rfl | trivial)).1, fun y hy => by
      rcases Nat.lt_or_ge y k with h2 | h2
      ·exact (hb.out (by first | rfl | trivial)).2 y h2
      ·obtain rfl : y = k := by omega
       exact of_decide_eq_false h⟩), Lib.hid (hx.out.transNo hx7)⟩
     case measure => simp [intOf]; omega
   ·have hge2 : ¬ (k : Int) < (S.deps.length : Int) := by omega
    obtain rfl : k = S.deps.length := by omega
    have hgez : (S.deps.length : Int) ≤ (n : Int) := by omega
    cases b' with
    | true =>
     go_wp2_with fail
     refine (sane12_any _).mono ?_
     rintro e8 w8 ⟨rfl, hx8⟩
     go_wp2_with fail
     go_ret
     exact ⟨rfl, (HX6.out.transNo hx.out).transNo hx8⟩
    | false =>
     have hnN : n = S.deps.length := HONCE.out (hb.out rfl).1 (hb.out rfl).2
     subst hnN
     go_wp2_with fail
     refine (sane12_any _).mono ?_
     rintro e8 w8 ⟨rfl, hx8⟩
     go_wp2_with fail
     go_ret
     exact ⟨rfl, (HX6.out.transNo hx.out).transNo hx8⟩
end Go.Proofs.Ytkdjdhflhlbelaa

/- The walk of ProofRanks. -/
import Derived.Test.YtjeohlooaiociaaGreatDoorP16
set_option linter.unusedVariables false
set_option linter.unusedSimpArgs false
namespace Go.Proofs.YtjeohlooaiociaaGreatDoor
open Go Go.RowKit Tj
theorem infoBoP : (Tryz.prog.info? 4).map (fun i => (i.zero, i.size, i.bytes)) = some (some (.bool false), 1, 1) := by kernel_rfl
theorem zeroBP_eq (n : Nat) : madeCells (Value.cells (.bool false)) (n * 1) = rowP n (fun _ => .bool false) := by
 refine Array.ext (by simp [madeCells, rowP]) (fun i h1 h2 => ?_)
 simp [madeCells, rowP, Value.cells, Nat.mod_one]
theorem mk_boolsP (n : Nat) (hn : n ≤ 1000000) (w : World) : (Instr.makeSlice 59 (.int .i64 (n : Int)) (.int .i64 (n : Int))).run Tryz.prog w = .ok (.slice (some ⟨w.heap.size, 0, none⟩) n n) (w.alloc (.cells (rowP n (fun _ => .bool false)) 4)) := by
 obtain ⟨i, hi, hz0, hz1, hz2⟩ := info_parts infoBoP
 have h := run_makeSlice (P := Tryz.prog) w 59 4 i _ Tryz.underlying59 hi hz0 .i64 .i64 n n (by omega) (Int.le_refl _) (by rw [hz1]; simp; omega) (by rw [hz2]; omega) (by omega)
 simp only [Int.toNat_natCast, hz1, zeroBP_eq] at h
 exact h
def SeenP (S : SysD) (R k j : Nat) (D : Nat → Bool) : Prop := ∀ n i, n < S.deps.length → i < (memD S (iterD S R) n).length → (n < k ∨ n = k ∧ i < j) → D (rkI S (iterD S R) n i R) = true
structure SnM (S : SysD) (R : Nat) (w5 wr : World) (gB k j : Nat) (D : Nat → Bool) : Prop where
 ext : Ext (At gB) w5 wr
 seen : BlkF wr gB 4 R (fun i => .bool (D i))
 all : SeenP S R k j D
section
variable {S : SysD} {R : Nat} {w5 wr : World} {gB k j : Nat} {D : Nat → Bool}
theorem SnM.put (h : SnM S R w5 wr gB k j D) (m : Nat) (hm : rkI S (iterD S R) k j R = m) : SnM S R w5 (wr.setCell ⟨gB, m, none⟩ (.bool true)) gB k (j + 1) (upd D m true) := by
 refine ⟨h.ext.setAt _ _, ?_, fun n i hn hi hc => ?_⟩
 ·have := h.seen.set m (.bool true)
  rwa [show upd (fun i => Value.bool (D i)) m (.bool true) = fun i => .bool (upd D m true i) from by funext x; unfold upd; split <;> rfl] at this
 ·by_cases e : rkI S (iterD S R) n i R = m
  ·rw [e]; exact if_pos rfl
  ·have e2 : upd D m true (rkI S (iterD S R) n i R) = D (rkI S (iterD S R) n i R) := if_neg e
   rw [e2]
   refine h.all n i hn hi ?_
   rcases hc with hc | ⟨rfl, hc⟩
   ·exact .inl hc
   ·refine .inr ⟨rfl, ?_⟩
    rcases Nat.lt_or_ge i j with h1 | h1
    ·exact h1
    ·obtain rfl : i = j := by omega
     exact absurd hm e
theorem SnM.row (h : SnM S R w5 wr gB k j D) (hj : (memD S (iterD S R) k).length ≤ j) : SnM S R w5 wr gB (k + 1) 0 D := ⟨h.ext, h.seen, fun n i hn hi hc => h.all n i hn hi (by
 rcases hc with hc | ⟨rfl, hc⟩
 ·by_cases e : n = k
  ·subst e; exact .inr ⟨rfl, by omega⟩
  ·exact .inl (by omega)
 ·omega)⟩
end
set_option maxRecDepth 100000 in
set_option maxHeartbeats 16000000 in
theorem proofRanks_any (tl : Value) (zs : List Int) (w : World) (hT : TabW w) (ht : Ints No w .i64 tl zs) : Calls Tryz.prog 6 #[tl] w (BoolPost true w) := by
 have HT := Lib.hid ht
 have HTB := Lib.hid hT
 obtain ⟨at', ct', rfl⟩ := Row.slice ht
 clear ht hT
 go_enter Tryz.func6, Tryz.ntmps6
 go_wp2_with fail
 refine (new_any _ zs _ HT.out).mono ?_
 rintro e0 w0 ⟨rfl, ht0, hx0, hs0⟩
 obtain ⟨tb, htb⟩ : ∃ tb, tb = w.heap.size := ⟨_, rfl⟩
 rw [← htb] at ht0 ⊢
 have HTb := Lib.hid htb
 clear htb
 go_wp2_with fail
 refine (sysgen_any tb 6 _ (by decide) (by decide) ht0).mono ?_
 rintro e1 w1 ⟨S, vd, vt, vb, rfl, hw4, hn5, hS, ht1, hx1⟩
 have hok := hS.out.ok
 obtain ⟨ad, cd, at1, ct, ab, cb, rfl, rfl, rfl⟩ := hS.out.slices
 have hxa : Ext No w1 (w1.alloc (.cells #[.int .i64 (S.w : Int), .slice ad S.deps.length cd, .slice at1 S.deps.length ct, .slice ab S.deps.length cb] 27)) := (Ext.refl _ _).alloc _
 have HA := Lib.hid (alloc_top (w := w1) (o := (.cells #[.int .i64 (S.w : Int), .slice ad S.deps.length cd, .slice at1 S.deps.length ct, .slice ab S.deps.length cb] 27)) rfl)
 have HS := Lib.hid (hS.out.no.extNo hxa)
 have HX := Lib.hid ((hx0.trans2 hx1 (fun i hi e => by unfold At at e; have := HTb.out; omega)).transNo hxa)
 have HOK := Lib.hid hok
 have hnn := hok.n2
 have hn1 := hok.n1
 have hww := hok.w
 clear hx0 hs0 ht0 hS ht1 hx1 hxa hok
 go_upto_region 2 with (fail)
 generalize (w1.alloc (.cells #[.int .i64 (S.w : Int), .slice ad S.deps.length cd, .slice at1 S.deps.length ct, .slice ab S.deps.length cb] 27)) = V1 at *
 generalize w1.heap.size = A at *
 have cA := cellOf HA.out
 go_wp2_with fail
 clear cA
 refine (pmake_any S _ _ _ V1 (HTB.out.ext HX.out) HS.out).mono ?_
 rintro e2 w2 ⟨R, a, ar, c, cr, Rk, hF, rfl, hP, hK, hx2⟩
 have HF := Lib.hid hF
 have HS2 := Lib.hid (HS.out.extNo hx2)
 have HX2 := Lib.hid (HX.out.transNo hx2)
 have HA2 := Lib.hid (hx2.blk HA.out no_no)
 have HRB := Lib.hid (rounds_le HOK.out hF)
 clear HS HX HA hx2 hF
 go_upto_region 3 with (fail)
 have hxp : Ext No w2 (w2.alloc (.cells #[.slice a S.deps.length c, .slice ar S.deps.length cr] 29)) := (Ext.refl _ _).alloc _
 have HB := Lib.hid (alloc_top (w := w2) (o := (.cells #[.slice a S.deps.length c, .slice ar S.deps.length cr] 29)) rfl)
 have HP3 := Lib.hid (hP.out.extNo hxp)
 have HS3 := Lib.hid (HS2.out.extNo hxp)
 have HX3 := Lib.hid (HX2.out.transNo hxp)
 have HA3 := Lib.hid (hxp.blk HA2.out no_no)
 clear HS2 HX2 HA2 hP hxp
 generalize (w2.alloc (.cells #[.slice a S.deps.length c, .slice ar S.deps.length cr] 29)) = V3 at *
 generalize w2.heap.size = PB at *
 have cA := cellOf HA3.out
 go_wp2_with fail
 clear cA
 refine (sysSolve_any No S _ _ _ V3 (fun b e => e.elim) HS3.out).mono ?_
 rintro e4 w4 ⟨R', a5, c5, hR', rfl, hs5, hx4⟩
 obtain rfl : R' = R := HF.out.eq hR'.first hR'.fix
 have HP4 := Lib.hid (HP3.out.extNo hx4)
 have HX4 := Lib.hid (HX3.out.transNo hx4)
 have HA4 := Lib.hid (hx4.blk HA3.out no_no)
 have HB4 := Lib.hid (hx4.blk HB.out no_no)
 clear HS3 HX3 HA3 HB HP3 hs5 hR' hx4
 have cA := cellOf HA4.out
 have cB := cellOf HB4.out
 have hmul : IntKind.i64.wrap ((S.deps.length : Int) * (S.w : Int)) = ((S.deps.length * S.w : Nat) : Int) := by
  rw [show (S.deps.length : Int) * (S.w : Int) = ((S.deps.length * S.w : Nat) : Int) from by simp]
  exact IntWalk.i64_in _ (by have := Nat.mul_le_mul hn5 hw4; omega)
 have hpb : S.deps.length * S.w ≤ 24 := Nat.mul_le_mul hn5 hw4
 obtain ⟨P, hPe⟩ : ∃ P : Nat, P = S.deps.length * S.w := ⟨_, rfl⟩
 have hRP : R' ≤ P := by rw [hPe]; exact HRB.out
 rw [← hPe] at hmul hpb
 clear hPe
 have hadd : IntKind.i64.wrap ((P : Int) + 1) = (P : Int) + 1 := IntWalk.i64_in _ (by omega)
 have hcmp : ¬ ((P : Int) + 1 < (R' : Int)) := by omega
 have hneg : ¬ ((R' : Int) < 0) := by omega
 have hnz : ((S.deps.length : Int) == 0) = false := beq_eq_false_iff_ne.2 (by omega)
 have hmk := mk_boolsP R' (by omega)
 have HMK := Lib.hid hmk
 clear hmk
 go_upto_region 6 with (fail)
 have hmk := HMK.out
 go_upto_region 7 with (fail)
 clear hmk cA cB hmul hadd hcmp hneg hnz
 have hxm : Ext No w4 (w4.alloc (.cells (rowP R' (fun _ => .bool false)) 4)) := (Ext.refl _ _).alloc _
 have HM0 := Lib.hid (show SnM S R' (w4.alloc (.cells (rowP R' (fun _ => .bool false)) 4)) (w4.alloc (.cells (rowP R' (fun _ => .bool false)) 4)) w4.heap.size 0 0 (fun _ => false) from ⟨Ext.refl _ _, alloc_top rfl, fun n i hn hi hc => by omega⟩)
 have HP5 := Lib.hid (show PrfAt (At w4.heap.size) (w4.alloc (.cells (rowP R' (fun _ => .bool false)) 4)) S (.slice a S.deps.length c) (.slice ar S.deps.length cr) (iterD S R') Rk from ⟨(HP4.out.vals.mono (M' := At w4.heap.size) (fun i hi e => by unfold At at e; omega)).extNo hxm, (HP4.out.rk.mono (M' := At w4.heap.size) (fun i hi e => by unfold At at e; omega)).extNo hxm, HP4.out.l1, HP4.out.l2, HP4.out.l3⟩)
 have HB5 := Lib.hid (hxm.blk HB4.out no_no)
 have HX5 := Lib.hid (HX4.out.transNo hxm)
 have HG := Lib.hid HX4.out.size
 have hne : ¬ At w4.heap.size PB := fun e => by have := lt_of_block HB4.out; unfold At at e; omega
 clear HP4 HB4 HX4 HA4 hxm HMK
 generalize (w4.alloc (.cells (rowP R' (fun _ => .bool false)) 4)) = w5 at *
 generalize w4.heap.size = gB at *
 obtain ⟨br, ofr, kr, a0, c0, hve, -, -⟩ := HP5.out.rank (n := 0) (by omega)
 simp only [Value.slice.injEq] at hve
 obtain ⟨rfl, -, -⟩ := hve
 have HNE := Lib.hid hne
 clear hne
 go_wp2_with fail
 go_loopw [10, 11, 12] (fun i _ _ wr => ∃ (k : Nat) (D : Nat → Bool), k ≤ S.deps.length ∧ i = .int .i64 k ∧ Hid (SnM S R' w5 wr gB k 0 D)) (fun i _ _ _ => S.deps.length - (intOf i).toNat)
 case atStart => exact ⟨0, _, Nat.zero_le _, rfl, HM0⟩
 case round =>
  clear HM0
  obtain ⟨k, D, hk, rfl, hm⟩ := hrel
  rename World => wr
  by_cases hlt : k < S.deps.length
  ·have hlz : (k : Int) < (S.deps.length : Int) := by omega
   have HKK : Hid (Value.int .i64 ((k : Int) + 1) = .int .i64 ((k + 1 : Nat) : Int)) := Lib.hid (by rw [show ((k + 1 : Nat) : Int) = (k : Int) + 1 from by omega])
   obtain ⟨cn, hcn⟩ : ∃ cn, cn = (memD S (iterD S R') k).length := ⟨_, rfl⟩
   have hcl : cn ≤ 256 := by rw [hcn]; exact memD_len hww _ k
   have HCN := Lib.hid hcn
   have HK2 := Lib.hid (hK.out k hlt)
   have HLN := Lib.hid (show (rkD Rk k).length = cn from by rw [hK.out k hlt, hcn]; simp [natsZ])
   clear hcn
   have cB := cellOf (hm.out.ext.blk HB5.out HNE.out)
   go_wp2_with fail
   clear cB
   go_loopw [11, 12] (fun i _ wx => ∃ (j : Nat) (E : Nat → Bool), j ≤ cn ∧ i = .int .i64 j ∧ Hid (SnM S R' w5 wx gB k j E)) (fun i _ _ => cn - (intOf i).toNat)
   case atStart => exact ⟨0, _, Nat.zero_le _, rfl, hm⟩
   case round =>
    clear hm
    obtain ⟨j, E, hj, rfl, hm⟩ := hrel
    rename World => wx
    have hx := hm.out.ext
    obtain ⟨b1, o1, k1, a1, c1, hve, hcell, hq⟩ := (show PrfAt (At gB) wx S _ _ _ Rk from ⟨HP5.out.vals.ext hx (fun _ _ h => h), HP5.out.rk.ext hx (fun _ _ h => h), HP5.out.l1, HP5.out.l2, HP5.out.l3⟩).rank hlt
    simp only [Value.slice.injEq, Option.some.injEq, Addr.mk.injEq] at hve
    obtain ⟨⟨rfl, rfl, -⟩, -, -⟩ := hve
    rw [HLN.out] at hcell hq
    have hnN : (k : Int) < (S.deps.length : Int) := by omega
    have cB := cellOf (hx.blk HB5.out HNE.out)
    clear hx
    by_cases hlt2 : j < cn
    ·have hjz : (j : Int) < (cn : Int) := by omega
     have HJJ : Hid (Value.int .i64 ((j : Int) + 1) = .int .i64 ((j + 1 : Nat) : Int)) := Lib.hid (by rw [show ((j + 1 : Nat) : Int) = (j : Int) + 1 from by omega])
     have hjm : j < (memD S (iterD S R') k).length := by rw [← HCN.out]; exact hlt2
     obtain ⟨r, hr⟩ : ∃ r, r = rkI S (iterD S R') k j R' := ⟨_, rfl⟩
     have hrR : r < R' := by rw [hr]; exact ranks_lt HOK.out hjm
     have hq2 := hq.out
     rw [HK2.out] at hq2
     have hjl : j < ((List.range (memD S (iterD S R') k).length).map fun i => rkI S (iterD S R') k i R').length := by simpa using hjm
     obtain ⟨b2, o2, k2, hve2, -, -, hc2⟩ := IntsP.at hq2 hjl
     simp only [Value.slice.injEq] at hve2
     obtain ⟨rfl, -, -⟩ := hve2
     have hc3 := hc2 j hjl
     rw [show ((List.range (memD S (iterD S R') k).length).map fun i => rkI S (iterD S R') k i R')[j] = r from by simp [hr]] at hc3
     have HRI := Lib.hid hr
     have hn1' : ¬ ((r : Int) < 0) := by omega
     have hn2' : ¬ ((R' : Int) ≤ (r : Int)) := by omega
     have hn3' : (r : Int) < (R' : Int) := by omega
     have cS := hm.out.seen.cell hrR
     have fS := hm.out.seen.free r
     clear hq hq2 hc2 hjl hr
     go_wp2_with fail
     clear cB hcell hc3 cS fS
     go_roundw
     case rel => exact ⟨j + 1, _, by omega, HJJ.out, Lib.hid (hm.out.put r HRI.out.symm)⟩
     case measure => simp [intOf]; omega
    ·have hge : ¬ (j : Int) < (cn : Int) := by omega
     clear hq
     go_wp2_with fail
     clear cB hcell
     go_roundw
     case rel => exact ⟨k + 1, _, by omega, HKK.out, Lib.hid (hm.out.row (by rw [← HCN.out]; omega))⟩
     case measure => simp [intOf]; omega
  ·have hge : ¬ (k : Int) < (S.deps.length : Int) := by omega
   obtain rfl : k = S.deps.length := by omega
   have cB := cellOf (hm.out.ext.blk HB5.out HNE.out)
   go_wp2_with fail
   clear cB
   have HXR := Lib.hid (HX5.out.trans2 hm.out.ext (fun i hi e => by unfold At at e; have := HG.out; omega))
   go_loopw [13] (fun i wy => ∃ q : Nat, q ≤ R' ∧ i = .int .i64 q ∧ Hid (Ext No wr wy)) (fun i _ => R' - (intOf i).toNat)
   case atStart => exact ⟨0, Nat.zero_le _, rfl, Lib.hid (Ext.refl _ _)⟩
   case round =>
    obtain ⟨q, hq, rfl, hx⟩ := hrel
    rename World => wy
    by_cases hlt2 : q < R'
    ·have hqz : (q : Int) < (R' : Int) := by omega
     have HJJ : Hid (Value.int .i64 ((q : Int) + 1) = .int .i64 ((q + 1 : Nat) : Int)) := Lib.hid (by rw [show ((q + 1 : Nat) : Int) = (q : Int) + 1 from by omega])
     have hD : D q = true := by
      obtain ⟨n, hn, i, hi, e⟩ := ranks_all HOK.out HF.out hlt2
      have := hm.out.all n i hn hi (.inl hn)
      rwa [e] at this
     have cS := (hm.out.seen.ext hx.out no_no).cell hlt2
     rw [hD] at cS
     clear hD
     go_wp2_with fail
     clear cS
     go_roundw
     case rel => exact ⟨q + 1, by omega, HJJ.out, hx⟩
     case measure => simp [intOf]; omega
    ·have hge2 : ¬ (q : Int) < (R' : Int) := by omega
     go_wp2_with fail
     refine (sane17_any _ (HTB.out.ext (HXR.out.transNo hx.out))).mono ?_
     rintro e9 w9 ⟨rfl, hx9⟩
     go_wp2_with fail
     go_ret
     exact ⟨rfl, (HXR.out.transNo hx.out).transNo hx9⟩
end Go.Proofs.YtjeohlooaiociaaGreatDoor

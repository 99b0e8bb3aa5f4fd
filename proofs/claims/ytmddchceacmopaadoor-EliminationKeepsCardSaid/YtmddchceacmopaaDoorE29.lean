
import Derived.Test.YtmddchceacmopaaDoorE28
set_option linter.unusedVariables false
set_option linter.unusedSimpArgs false
namespace Go.Proofs.YtmddchceacmopaaDoor
open Go Go.RowKit
theorem RowOkA.setF {w n k : Nat} {l : ArcsL} {f : TrD} (h : RowOkA w n l) (hk : k < l.length) (hf : TrOk f ∧ f.w = w) : RowOkA w n (l.set k (l[k].1, f)) := by
 refine ⟨?_, fun p hp => ?_, fun p hp => ?_⟩
 ·have e : froms (l.set k (l[k].1, f)) = froms l := by
   unfold froms
   rw [List.map_set]
   refine List.ext_getElem (by simp) (fun j h1 h2 => ?_)
   rw [List.getElem_set]
   split
   ·rename_i e; subst e; simp
   rfl
  rw [e]; exact h.asc
 ·rcases List.mem_or_eq_of_mem_set hp with hp | rfl
  ·exact h.lt p hp
  show l[k].1 < n
  exact h.lt _ (List.getElem_mem hk)
 rcases List.mem_or_eq_of_mem_set hp with hp | rfl
 ·exact h.trs p hp
 exact hf
theorem mw_arc {w w' : World} {base lim lim' i j : Nat} {vb vi v : Value} {LB : LS} {RL : RLs} {S : WebD} {L : LA} {p : Int × RawT × Value × Value × Value} {f : TrD} (h : MW w base lim vb vi LB RL S) (hi : i < RL.length) (hq : RL[i] = (L, v)) (hj : j < L.length) (hp : p.1 = L[j].1) (hf : p.2.1 = rawT f) (hok : TrOk f ∧ f.w = S.w) (hx : MWx w' base lim' vb vi LB (RL.set i (L.set j p, v))) :
  ∃ S' : WebD, MW w' base lim' vb vi LB (RL.set i (L.set j p, v)) S' ∧ S'.w = S.w ∧ S'.ins.length = S.ins.length ∧ ∀ k, OwnB13 vb vi (RL.set i (L.set j p, v)) k → OwnB13 vb vi RL k := by
 have hiS : i < S.ins.length := by rw [← h.len]; exact hi
 have hrow : L.map cutA = arcsRow (arcW S i) := by have h9 := h.rows i hi; rw [hq] at h9; exact h9
 have hjl : j < (arcW S i).length := by have h9 := congrArg List.length hrow; rw [List.length_map, arcsRow_len] at h9; omega
 have h1 := arcs_at hrow hj hjl
 have h2 : L[j].1 = ((arcW S i)[j].1 : Int) := congrArg Prod.fst h1
 have hcut : cutA p = (((arcW S i)[j].1 : Int), rawT f) := by rw [← h2, ← hp, ← hf]; rfl
 have hro := h.ok.ok.row i
 refine ⟨⟨S.w, S.ins.set i ((arcW S i).set j ((arcW S i)[j].1, f)), S.bnd⟩, ⟨hx, ?_, h.bnd, by rw [List.length_set, List.length_set]; exact h.len, fun k hk => ?_⟩, rfl, List.length_set, fun k hk => ?_⟩
 ·refine webOk8_of h.ok.w8 (by rw [List.length_set]; exact h.ok.ok.n1) (by rw [List.length_set]; exact h.ok.n8) (by rw [List.length_set]; exact h.ok.ok.lb) (fun l hl => ?_) h.ok.ok.bnd
  rw [List.length_set]
  rcases List.mem_or_eq_of_mem_set hl with hl | rfl
  ·obtain ⟨n, hn, rfl⟩ := List.getElem_of_mem hl
   have h9 := h.ok.ok.row n
   rw [arcW_get hn] at h9
   exact h9
  exact hro.setF hjl hok
 ·have hk2 : k < RL.length := by simpa using hk
  rw [arcW_set hiS, List.getElem_set]
  by_cases e : i = k
  ·rw [if_pos e, if_pos e.symm]
   show (L.set j p).map cutA = _
   rw [List.map_set, hrow, hcut]
   simp only [arcsRow, List.map_set]
  rw [if_neg e, if_neg (fun h => e h.symm)]
  exact h.rows k hk2
 rcases hk with e | e | ⟨q, hq2, e⟩
 ·exact .inl e
 ·exact .inr (.inl e)
 rcases List.mem_or_eq_of_mem_set hq2 with hq2 | rfl
 ·exact .inr (.inr ⟨q, hq2, e⟩)
 exact .inr (.inr ⟨RL[i], List.getElem_mem hi, by rw [hq]; exact e⟩)
theorem MW.stepLow {w w' : World} {base lim : Nat} {vb vi : Value} {LB : LS} {RL : RLs} {S : WebD} {M : Nat → Prop} (h : MW w base lim vb vi LB RL S) (hx : Ext M w w') (hM : ∀ i, i < w.heap.size → M i → i < base) : MW w' base lim vb vi LB RL S := ⟨h.x.stepLow hx hM, h.ok, h.bnd, h.len, h.rows⟩
theorem mw_web {w : World} {base lim : Nat} {vb vi : Value} {LB : LS} {RL : RLs} {S : SysD} (hx : MWx w base lim vb vi LB RL) (hS : SysOk S) (h8 : S.w ≤ 8) (hn : S.deps.length ≤ 32) (hb : LB.map Prod.fst = S.bnd.map (setN S.w)) (hl : RL.length = S.deps.length) (hr : ∀ i (h : i < RL.length), RL[i].1.map cutA = arcsR S i) : MW w base lim vb vi LB RL (webOf S) :=
 ⟨hx, webOf_ok8 hS h8 hn, hb, by rw [hl, webOf_len], fun i hi => by
  rw [hr i hi, webOf_arc (by rw [← hl]; exact hi)]
  simp [arcsR, arcsRow, List.map_map, Function.comp_def]⟩
theorem MW.top {w : World} {base lim : Nat} {vb vi : Value} {LB : LS} {RL : RLs} {S : WebD} (h : MW w base lim vb vi LB RL S) : MW w base w.heap.size vb vi LB RL S := ⟨h.x.lift h.x.lh (Nat.le_refl _), h.ok, h.bnd, h.len, h.rows⟩
def GenWeb (tb n : Nat) (W : World) (e : Ending) (w' : World) : Prop :=
 ∃ (S : WebD) (vb vi : Value), e = .returned (.agg #[.int .i64 (S.w : Int), vb, vi]) ∧ Hid (WebOk8 S) ∧ S.ins.length ≤ n ∧ Hid (WbAt (Lo W.heap.size) w' vb vi S) ∧ TapeOk w' tb ∧ Ext (At tb) W w'
set_option maxRecDepth 100000 in
set_option maxHeartbeats 16000000 in
theorem web13_any (tb n : Nat) (W : World) (hn : 1 ≤ n) (hn2 : n ≤ 32) (ht : TapeOk W tb) : Calls Tryd.prog 12 #[.pointer (some ⟨tb, 0, none⟩), .int .i64 (n : Int)] W (GenWeb tb n W) := by
 have hlt0 := ht.lt
 have HT0 := Lib.hid ht
 clear ht
 go_enter Tryd.func12, Tryd.ntmps12
 go_upto_region 1 with (fail)
 have hx0 : Ext No W (W.alloc (.cells #[.int .i64 0, .slice none 0 0, .slice none 0 0] 37)) := (Ext.refl _ _).alloc _
 have HC := Lib.hid (alloc_top (w := W) (o := .cells #[.int .i64 0, .slice none 0 0, .slice none 0 0] 37) rfl)
 have HVW := Lib.hid (show (W.alloc (.cells #[.int .i64 0, .slice none 0 0, .slice none 0 0] 37)).heap.size = W.heap.size + 1 from by simp)
 have HX := Lib.hid hx0
 clear hx0
 generalize (W.alloc (.cells #[.int .i64 0, .slice none 0 0, .slice none 0 0] 37)) = V at *
 have HTV := Lib.hid (HT0.out.ext HX.out)
 go_wp2_with fail
 refine (sysgen_any tb n V hn (by omega) HTV.out).mono ?_
 rintro e1 w1 ⟨S0, vd, vt, vb, rfl, hS4, hSn, hS0, hT1, hx1⟩
 obtain ⟨ad, cd, at1, ct, ab, cb, rfl, rfl, rfl⟩ := hS0.out.slices
 have HT1 := Lib.hid hT1
 have HX1 := Lib.hid hx1
 clear hT1 hx1
 go_upto_region 2 with (fail)
 have hx2 : Ext No w1 (w1.alloc (.cells #[.int .i64 (S0.w : Int), .slice ad S0.deps.length cd, .slice at1 S0.deps.length ct, .slice ab S0.deps.length cb] 72)) := (Ext.refl _ _).alloc _
 have HB2 := Lib.hid (alloc_top (w := w1) (o := .cells #[.int .i64 (S0.w : Int), .slice ad S0.deps.length cd, .slice at1 S0.deps.length ct, .slice ab S0.deps.length cb] 72) rfl)
 have HX2 := Lib.hid hx2
 clear hx2
 generalize (w1.alloc (.cells #[.int .i64 (S0.w : Int), .slice ad S0.deps.length cd, .slice at1 S0.deps.length ct, .slice ab S0.deps.length cb] 72)) = w2 at *
 have cB := cellOf HB2.out
 go_wp2_with fail
 clear cB
 refine (rWebO_any V.heap.size S0 _ _ _ w2 (Nat.le_trans HX1.out.size HX2.out.size) (hS0.out.ext HX2.out (fun _ _ e => e.elim))).mono ?_
 rintro e3 w3 ⟨vB, vI, LB, RL0, rfl, hMx, hLb, hLr, hRr, hx3⟩
 have hMW := mw_web hMx.out hS0.out.ok (by omega) (by omega) hLb.out hLr.out hRr.out
 obtain ⟨N, hN⟩ : ∃ N, N = RL0.length := ⟨_, rfl⟩
 have hN1 : 1 ≤ N := by rw [hN, hLr.out]; exact hS0.out.ok.n1
 have hNn : N ≤ n := by rw [hN, hLr.out]; exact hSn
 obtain ⟨gI, cI, rfl⟩ := hMx.out.sliceI (by omega)
 rw [← hN] at hMW hMx ⊢
 have HN0 := Lib.hid (show (webOf S0).ins.length = N from by rw [webOf_len, ← hLr.out, hN])
 obtain ⟨abb, cbb, hvB⟩ := hMW.at.bnd.slice
 have hbl : (webOf S0).bnd.length = N := by rw [hMW.ok.ok.lb]; exact HN0.out
 rw [hbl] at hvB
 subst hvB
 clear hLb hLr hRr hN hbl
 obtain ⟨x, hx⟩ : ∃ x, x = S0.w := ⟨_, rfl⟩
 have HX3 := Lib.hid (HX2.out.transNo hx3)
 have HXW := Lib.hid hx
 have HMW := Lib.hid hMW
 rw [← hx] at hS4 ⊢
 clear hMW hMx hx3 hS0 hx
 go_upto_region 3 with (fail)
 have HO := Lib.hid (alloc_top (w := w3) (o := .cells #[.int .i64 (x : Int), .slice abb N cbb, .slice (some ⟨gI, 0, none⟩) N cI] 37) rfl)
 have hx4 : Ext No w3 (w3.alloc (.cells #[.int .i64 (x : Int), .slice abb N cbb, .slice (some ⟨gI, 0, none⟩) N cI] 37)) := (Ext.refl _ _).alloc _
 have hbV : V.heap.size = W.heap.size + 1 := HVW.out
 have hs1 := HX1.out.size
 have hs3 := HX3.out.size
 have hlV := HMW.out.x.lh
 have HM4 := Lib.hid ((HMW.out.stepNo hx4).top)
 have HnO := Lib.hid (show ¬ (OwnB13 (.slice abb N cbb) (.slice (some ⟨gI, 0, none⟩) N cI) RL0) w3.heap.size from fun e => by have := (HMW.out.x.own e).2; omega)
 have HT4 := Lib.hid (HT1.out.ext (HX3.out.transNo hx4))
 have HX4 := Lib.hid (HX1.out.transNo (HX3.out.transNo hx4))
 have HC4 := Lib.hid (HX4.out.blk HC.out (fun e => by unfold At at e; omega))
 have HTB := Lib.hid (show tb < V.heap.size from by omega)
 have HDB := Lib.hid (show V.heap.size ≤ w3.heap.size from by omega)
 have HXF := Lib.hid (HX.out.ofNo.trans HX4.out)
 have HBV := Lib.hid hbV
 clear hx4 HX1 HX3 HMW HC HT1 HX4 HX2 HB2 HTV HVW HX HT0 hs1 hs3 hbV hlV
 generalize (w3.alloc (.cells #[.int .i64 (x : Int), .slice abb N cbb, .slice (some ⟨gI, 0, none⟩) N cI] 37)) = w4 at *
 generalize w3.heap.size = D at *
 generalize V.heap.size = base at *
 go_wp2_with fail
 go_loopw [8, 9] (fun s8 _ wr => ∃ (i : Nat) (S : WebD) (RL : RLs), s8 = .int .i64 i ∧ i ≤ N ∧ Hid (MW wr base wr.heap.size (.slice abb N cbb) (.slice (some ⟨gI, 0, none⟩) N cI) LB RL S) ∧ Hid (S.w = x ∧ S.ins.length = N) ∧ Hid (¬ (OwnB13 (.slice abb N cbb) (.slice (some ⟨gI, 0, none⟩) N cI) RL) D) ∧ Hid (TapeOk wr tb) ∧ Hid (Ext (fun k => k = tb ∨ (base ≤ k ∧ k ≠ D)) w4 wr)) (fun s8 _ _ => N - (intOf s8).toNat)
 case atStart => exact ⟨0, _, RL0, rfl, Nat.zero_le _, HM4, Lib.hid ⟨HXW.out.symm, HN0.out⟩, HnO, HT4, Lib.hid (Ext.refl _ _)⟩
 clear HM4 HnO HT4
 obtain ⟨i, S, RL, rfl, hi, HMWr, HSW, HnO, HTr, HXr⟩ := hrel
 rename World => wr
 have hDF : ¬ (fun k => k = tb ∨ (base ≤ k ∧ k ≠ D)) D := fun e => by have := HTB.out; have := HDB.out; rcases e with e | e <;> omega
 have HDF := Lib.hid hDF
 clear hDF
 have HOr := Lib.hid (HXr.out.blk HO.out HDF.out)
 have cO := cellOf HOr.out
 by_cases hlt : i < N
 ·have hlz : (i : Int) < (N : Int) := by omega
  have HII : Hid (Value.int .i64 ((i : Int) + 1) = .int .i64 ((i + 1 : Nat) : Int)) := Lib.hid (by rw [show ((i + 1 : Nat) : Int) = (i : Int) + 1 from by omega])
  have HNR := Lib.hid (show N = RL.length from by rw [HMWr.out.len, HSW.out.2])
  have HiR := Lib.hid (show i < RL.length from by have := HNR.out; omega)
  obtain ⟨⟨L0, v0⟩, hq0⟩ : ∃ q, q = RL[i]'HiR.out := ⟨_, rfl⟩
  have hr0 := HMWr.out.x.r _ (List.getElem_mem HiR.out)
  rw [← hq0] at hr0
  obtain ⟨ar, c, hv0⟩ := hr0.slice
  obtain ⟨m, hm⟩ : ∃ m, m = L0.length := ⟨_, rfl⟩
  simp only at hv0
  rw [← hm] at hv0
  subst hv0
  have hm32 : m ≤ 32 := by
   have h9 := HMWr.out.rowLen HiR.out
   rw [← hq0] at h9
   have h8 := (HMWr.out.ok.ok.row i).len
   rw [HSW.out.2] at h8
   simp only at h9
   omega
  have HQr := Lib.hid (show ∃ (L : LA) (hi : i < RL.length), RL[i] = (L, .slice ar m c) ∧ L.length = m from ⟨L0, HiR.out, hq0.symm, hm.symm⟩)
  clear hr0 hq0 hm HNR HiR
  have hCI : wr.cell? ⟨gI, i, none⟩ = some (.slice ar m c) := by
   obtain ⟨L, hiR, hq, hl⟩ := HQr.out
   have h9 := HMWr.out.x.cellI (by rw [HMWr.out.len, HSW.out.2]) hiR
   rw [hq] at h9
   exact h9
  go_wp2_with fail
  clear cO hCI
  go_loopw [9] (fun s9 wx => ∃ (j : Nat) (S : WebD) (RL : RLs), s9 = .int .i64 j ∧ j ≤ m ∧ Hid (MW wx base wx.heap.size (.slice abb N cbb) (.slice (some ⟨gI, 0, none⟩) N cI) LB RL S) ∧ Hid (S.w = x ∧ S.ins.length = N) ∧ Hid (¬ (OwnB13 (.slice abb N cbb) (.slice (some ⟨gI, 0, none⟩) N cI) RL) D) ∧ Hid (TapeOk wx tb) ∧ Hid (Ext (fun k => k = tb ∨ (base ≤ k ∧ k ≠ D)) w4 wx) ∧ Hid (∃ (L : LA) (hi : i < RL.length), RL[i] = (L, .slice ar m c) ∧ L.length = m)) (fun s9 _ => m - (intOf s9).toNat)
  case atStart => exact ⟨0, S, RL, rfl, Nat.zero_le _, HMWr, HSW, HnO, HTr, HXr, HQr⟩
  clear HMWr HSW HnO HTr HXr HQr HOr
  obtain ⟨j, S, RL, rfl, hj, HMWx, HSW, HnO, HTx, HXx, HQx⟩ := hrel
  rename World => wx
  have HOx := Lib.hid (HXx.out.blk HO.out HDF.out)
  have cO := cellOf HOx.out
  have hCI : wx.cell? ⟨gI, i, none⟩ = some (.slice ar m c) := by
   obtain ⟨L, hiR, hq, hl⟩ := HQx.out
   have h9 := HMWx.out.x.cellI (by rw [HMWx.out.len, HSW.out.2]) hiR
   rw [hq] at h9
   exact h9
  by_cases hlt2 : j < m
  ·have hjz : (j : Int) < (m : Int) := by omega
   have HJJ : Hid (Value.int .i64 ((j : Int) + 1) = .int .i64 ((j + 1 : Nat) : Int)) := Lib.hid (by rw [show ((j + 1 : Nat) : Int) = (j : Int) + 1 from by omega])
   have HCI := Lib.hid hCI
   go_wp2_with fail
   clear cO hCI
   refine (next_lt tb 2 (by decide) (by decide) wx HTx.out).mono ?_
   rintro e9 wz ⟨r, rfl, hr, hT9, hx9, -⟩
   have HMWz := Lib.hid ((HMWx.out.stepLow hx9 (fun k _ e => by have := HTB.out; unfold At at e; omega)).top)
   have HTz := Lib.hid hT9
   have HXz := Lib.hid (HXx.out.trans (hx9.mono (fun k _ e => .inl e)))
   by_cases hr1 : r = 1
   ·subst hr1
    obtain ⟨L, hiR, hq, hl⟩ := HQx.out
    obtain ⟨g, cap', hsh⟩ := own_shape (HMWx.out.x.r _ (List.getElem_mem hiR)).own (by rw [hq]; simp only; omega)
    rw [hq] at hsh
    simp only [Value.slice.injEq] at hsh
    obtain ⟨rfl, -, rfl⟩ := hsh
    have HiR := Lib.hid hiR
    have HQ := Lib.hid (show RL[i]'HiR.out = (L, .slice (some ⟨g, 0, none⟩) m c) ∧ L.length = m from ⟨hq, hl⟩)
    have HjL := Lib.hid (show j < L.length from by rw [HQ.out.2]; exact hlt2)
    obtain ⟨fz, hfz⟩ : ∃ z : Int, z = (L[j]'HjL.out).1 := ⟨_, rfl⟩
    have HFZ := Lib.hid hfz
    clear hfz
    have HNR := Lib.hid (show N = RL.length from by rw [HMWx.out.len, HSW.out.2])
    have HOz := Lib.hid (HXz.out.blk HO.out HDF.out)
    have HnD := Lib.hid (show ¬ At tb D from fun e => HDF.out (.inl e))
    have HnI := Lib.hid (show ¬ At tb gI from fun e => by have h1 := (HMWx.out.x.own (k := gI) (.inr (.inl rfl))).1; have := HTB.out; unfold At at e; omega)
    have HCz := Lib.hid (hx9.keepM HCI.out HnI.out)
    have hgo : (OwnB13 (.slice abb N cbb) (.slice (some ⟨gI, 0, none⟩) N cI) RL) g := .inr (.inr ⟨_, List.getElem_mem hiR, by rw [hq]; rfl⟩)
    have HgB := Lib.hid (HMWx.out.x.own hgo).1
    have HgT := Lib.hid (show tb < g from by have := HgB.out; have := HTB.out; omega)
    have HgD := Lib.hid (show g ≠ D from fun e => HnO.out (e ▸ hgo))
    have HMz0 := HMWz
    clear hq hl hiR hgo HMWx HTx HXx HQx HOx hT9 hx9 HCI
    go_upto_region 10 with (fail)
    refine wp_region_heldL [12] (fun w' => Ext (At tb) wz w') (by kernel_rfl) ?_ (fun hHeld => ?_)
    ·exact (Ext.refl _ _).drew
    have HE := Lib.hid (show Ext No wz wz.drew from (Ext.refl _ _).drew)
    generalize wz.drew = v0 at *
    refine hHs [0] (hHl hHeld ?_)
    clear hHeld
    refine hFn ?_ (fun w => ?_) ?_
    rotate_left
    ·go_simp; (try with_reducible rfl)
    simp only [Act.put, nzA, nzB, nzC]
    refine hHe fun hHeld => ?_
    refine hHs [1] (hHl hHeld ?_)
    clear hHeld
    refine hHn ?_ (fun w hSw => ?_) ?_
    rotate_left
    ·(have q0 := cellOf ((show Ext (At tb) wz _ from hSw).blk HOz.out HnD.out)); go_simp; (try with_reducible rfl)
    simp only [Act.put, nzA, nzB, nzC]
    refine hHe fun hHeld => ?_
    refine hHs [2, 3] (hHl hHeld ?_)
    clear hHeld
    iterate 2
     refine hFn ?_ (fun w => ?_) ?_
     rotate_left
     ·go_simp; (try with_reducible rfl)
     simp only [Act.put, nzA, nzB, nzC]
    refine hHe fun hHeld => ?_
    refine hHs [4] (hHl hHeld ?_)
    clear hHeld
    refine hHn ?_ (fun w hSw => ?_) ?_
    rotate_left
    ·(have q0 := (show Ext (At tb) wz _ from hSw).keepM HCz.out HnI.out); go_simp; (try with_reducible rfl)
    simp only [Act.put, nzA, nzB, nzC]
    refine hHe fun hHeld => ?_
    refine hHs [5, 6, 7] (hHl hHeld ?_)
    clear hHeld
    iterate 3
     refine hFn ?_ (fun w => ?_) ?_
     rotate_left
     ·go_simp; (try with_reducible rfl)
     simp only [Act.put, nzA, nzB, nzC]
    refine hHe fun hHeld => ?_
    refine hHs [8] (hHl hHeld ?_)
    clear hHeld
    refine hHn ?_ (fun w hSw => ?_) ?_
    rotate_left
    ·(have q0 := cellOf ((show Ext (At tb) wz _ from hSw).blk HOz.out HnD.out)); go_simp; (try with_reducible rfl)
    simp only [Act.put, nzA, nzB, nzC]
    refine hHe fun hHeld => ?_
    refine heldL_next1 (i := 9) (by kernel_rfl) (NextL.mk rfl rfl (fun K hK => ?_))
    ((go_simp); (go_at_call 30); (refine (gtr_any tb x v0 (by omega) (HTz.out.ext HE.out)).mono ?_); (rintro e1 va ⟨tr, sg, sk, sc, hw, rfl, hS, hT9, hx9⟩); (go_simp))
    refine hK.out _ _ ?_ ?_
    ·intro _; exact HE.out.ofNo.trans hx9
    clear hK K hHeld
    intro hHeld
    have HTW := Lib.hid hw
    have HOK9 := Lib.hid hS.out.ok
    obtain ⟨x1, y1, hs1⟩ := hS.out.gen.slice
    obtain ⟨x2, y2, hs2⟩ := hS.out.kill.slice
    obtain ⟨x3, y3, hs3⟩ := Row.slice hS.out.copies
    rw [hw] at hs1 hs2
    subst hs1 hs2 hs3
    obtain ⟨z3, hz3⟩ : ∃ z3, z3 = tr.copies.length := ⟨_, rfl⟩
    rw [← hz3] at hS ⊢
    clear hz3 hw
    have hMz : MWx va base va.heap.size (.slice abb N cbb) (.slice (some ⟨gI, 0, none⟩) N cI) LB RL := ((HMWz.out.x.stepNo HE.out).stepLow hx9 (fun i _ e => by have := HTB.out; unfold At at e; omega)).lift (Nat.le_trans HMWz.out.x.lh (Nat.le_trans HE.out.size hx9.size)) (Nat.le_refl _)
    have hok9 := Lib.hid (show kA.ok (HotW (.slice abb N cbb) (.slice (some ⟨gI, 0, none⟩) N cI) RL va.heap.size base) va ((fz, rawT tr, Value.slice x1 (nw x) y1, Value.slice x2 (nw x) y2, Value.slice x3 z3 y3) : Int × RawT × Value × Value × Value) from hS.out.raw.mono (fun i hi e => (HMWz.out.x.stepNo HE.out).clear hi e))
    have HMz := Lib.hid hMz
    have HT9 := Lib.hid hT9
    replace HE := Lib.hid (HE.out.ofNo.trans hx9)
    clear hMz hT9 hx9 hS
    try simp only [Act.put, nzA, nzB, nzC]
    refine hHs [10, 11] (hHl hHeld ?_)
    clear hHeld
    iterate 2
     refine hFn ?_ (fun w => ?_) ?_
     rotate_left
     ·go_simp; (try with_reducible rfl)
     simp only [Act.put, nzA, nzB, nzC]
    refine hHe fun hHeld => ?_
    refine heldL_next1 (i := 12) (by kernel_rfl) (NextL.mk rfl rfl (fun K hK => ?_))
    ((obtain ⟨⟨u0, u1, u2, u3, u4, u5, q0, q1, q2, q3, q4, q5⟩, f0, f1, f2, f3, f4, f5⟩ := HMz.out.cells6 (L := L) HiR.out HQ.out.1 HQ.out.2.symm HjL.out); go_simp; (clear q0 q1 q2 q3 q4 q5 f0 f1 f2 f3 f4 f5))
    refine hK.out _ _ ?_ ?_
    ·exact fun h => absurd h (by decide)
    clear hK K hHeld
    intro hHeld
    have hR8 : MWx (((((va.setCell ⟨g, j * 6 + 1, none⟩ (.int .i64 (x : Int))).setCell ⟨g, j * 6 + 2, none⟩ (.slice x1 (nw x) y1)).setCell ⟨g, j * 6 + 3, none⟩ (.int .i64 (x : Int))).setCell ⟨g, j * 6 + 4, none⟩ (.slice x2 (nw x) y2)).setCell ⟨g, j * 6 + 5, none⟩ (.slice x3 z3 y3)) base va.heap.size (.slice abb N cbb) (.slice (some ⟨gI, 0, none⟩) N cI) LB (RL.set i (L.set j ((fz, rawT tr, Value.slice x1 (nw x) y1, Value.slice x2 (nw x) y2, Value.slice x3 z3 y3) : Int × RawT × Value × Value × Value), (.slice (some ⟨g, 0, none⟩) m c))) := by
     have hLm := HQ.out.2
     have h := HMz.out.putArc (p := ((fz, rawT tr, Value.slice x1 (nw x) y1, Value.slice x2 (nw x) y2, Value.slice x3 z3 y3) : Int × RawT × Value × Value × Value)) (t := i) (k := j) (g := g) (c := c) (L := L) HNR.out HiR.out (by rw [HQ.out.1, hLm]) HjL.out HFZ.out hok9.out
     rw [hLm] at h
     have hjw : tr.w = x := HTW.out
     simp only [rawT, setN, hjw] at h ⊢
     exact h
    have hE5 : Ext (At g) va (((((va.setCell ⟨g, j * 6 + 1, none⟩ (.int .i64 (x : Int))).setCell ⟨g, j * 6 + 2, none⟩ (.slice x1 (nw x) y1)).setCell ⟨g, j * 6 + 3, none⟩ (.int .i64 (x : Int))).setCell ⟨g, j * 6 + 4, none⟩ (.slice x2 (nw x) y2)).setCell ⟨g, j * 6 + 5, none⟩ (.slice x3 z3 y3)) := (((((Ext.refl _ _).setAt _ _).setAt _ _).setAt _ _).setAt _ _).setAt _ _
    have HR9 := Lib.hid (hR8.lift hE5.size (Nat.le_refl _))
    have HTn := Lib.hid (HT9.out.extAbove hE5 (fun b hb e => by have := HgT.out; unfold At at e; omega))
    have HXn := Lib.hid (show Ext (fun k => k = tb ∨ (base ≤ k ∧ k ≠ D)) w4 (((((va.setCell ⟨g, j * 6 + 1, none⟩ (.int .i64 (x : Int))).setCell ⟨g, j * 6 + 2, none⟩ (.slice x1 (nw x) y1)).setCell ⟨g, j * 6 + 3, none⟩ (.int .i64 (x : Int))).setCell ⟨g, j * 6 + 4, none⟩ (.slice x2 (nw x) y2)).setCell ⟨g, j * 6 + 5, none⟩ (.slice x3 z3 y3)) from (HXz.out.trans (HE.out.mono (fun k _ e => .inl e))).trans (hE5.mono (fun k _ e => .inr (by rw [show k = g from e]; exact ⟨HgB.out, HgD.out⟩))))
    clear HMz HE hE5 hR8 hok9 HT9 HXz HMWz HTz HOz HCz
    generalize (((((va.setCell ⟨g, j * 6 + 1, none⟩ (.int .i64 (x : Int))).setCell ⟨g, j * 6 + 2, none⟩ (.slice x1 (nw x) y1)).setCell ⟨g, j * 6 + 3, none⟩ (.int .i64 (x : Int))).setCell ⟨g, j * 6 + 4, none⟩ (.slice x2 (nw x) y2)).setCell ⟨g, j * 6 + 5, none⟩ (.slice x3 z3 y3)) = wn at *
    try simp only [Act.put, nzA, nzB, nzC]
    refine heldL_done (by kernel_rfl) ?_ _
    go_wp2_with fail
    obtain ⟨S', h1, h2, h3, h4⟩ := mw_arc HMz0.out HiR.out HQ.out.1 HjL.out (p := ((fz, rawT tr, Value.slice x1 (nw x) y1, Value.slice x2 (nw x) y2, Value.slice x3 z3 y3) : Int × RawT × Value × Value × Value)) (f := tr) HFZ.out rfl ⟨HOK9.out, by rw [HTW.out]; exact HSW.out.1.symm⟩ HR9.out
    go_roundw
    case rel => exact ⟨j + 1, S', (RL.set i (L.set j ((fz, rawT tr, Value.slice x1 (nw x) y1, Value.slice x2 (nw x) y2, Value.slice x3 z3 y3) : Int × RawT × Value × Value × Value), (.slice (some ⟨g, 0, none⟩) m c))), HJJ.out, by omega, Lib.hid h1, Lib.hid ⟨by rw [h2]; exact HSW.out.1, by rw [h3]; exact HSW.out.2⟩, Lib.hid (fun e => HnO.out (h4 _ e)), HTn, HXn, Lib.hid ⟨L.set j ((fz, rawT tr, Value.slice x1 (nw x) y1, Value.slice x2 (nw x) y2, Value.slice x3 z3 y3) : Int × RawT × Value × Value × Value), by rw [List.length_set]; exact HiR.out, by rw [List.getElem_set_self], by rw [List.length_set]; exact HQ.out.2⟩⟩
    case measure => simp [intOf]; omega
   have hr0 : ¬ (r : Int) = 1 := by omega
   have hrb : ((r : Int) == 1) = false := by rw [beq_eq_false_iff_ne]; exact hr0
   go_wp2_with fail
   go_roundw
   case rel => exact ⟨j + 1, S, RL, HJJ.out, by omega, HMWz, HSW, HnO, HTz, HXz, HQx⟩
   case measure => simp [intOf]; omega
  have hge : ¬ (j : Int) < (m : Int) := by omega
  go_wp2_with fail
  go_roundw
  case rel => exact ⟨i + 1, S, RL, HII.out, by omega, HMWx, HSW, HnO, HTx, HXx⟩
  case measure => simp [intOf]; omega
 have hge : ¬ (i : Int) < (N : Int) := by omega
 have hC := HXr.out.blk HC4.out (fun e => by have := HBV.out; rcases e with e | e <;> omega)
 have cC := cellOf hC
 have fC := freeOf hC
 have hE3 : Ext (At W.heap.size) wr (((wr.setCell ⟨W.heap.size, 0, none⟩ (.int .i64 (x : Int))).setCell ⟨W.heap.size, 1, none⟩ (.slice abb N cbb)).setCell ⟨W.heap.size, 2, none⟩ (.slice (some ⟨gI, 0, none⟩) N cI)) := ext3E _ _ _ _ _
 have hbF := (set_same (j := 2) (u := (.slice (some ⟨gI, 0, none⟩) N cI)) (set_same (j := 1) (u := (.slice abb N cbb)) (set_same (j := 0) (u := .int .i64 (x : Int)) hC))).trans rfl
 go_wp2_with fail
 generalize (((wr.setCell ⟨W.heap.size, 0, none⟩ (.int .i64 (x : Int))).setCell ⟨W.heap.size, 1, none⟩ (.slice abb N cbb)).setCell ⟨W.heap.size, 2, none⟩ (.slice (some ⟨gI, 0, none⟩) N cI)) = WF at *
 have cF := cellOf hbF
 refine ret_ex rfl ?_
 simp [results, Tryd.results12, go_sem, cF]
 have hBV := HBV.out
 exact ⟨S, _, _, by rw [HSW.out.1], Lib.hid HMWr.out.ok, by rw [HSW.out.2]; exact hNn, Lib.hid ((HMWr.out.at.ext hE3 (fun k _ e => by unfold At at e; show k < _; omega)).mono (fun k _ e => by have : k < W.heap.size := e; omega)), HTr.out.extAbove hE3 (fun k hk e => by unfold At at e; omega), (HXF.out.trans2 HXr.out (fun k hk e => by rcases e with e | e; exact e; omega)).trans2 hE3 (fun k hk e => by unfold At at e; omega)⟩

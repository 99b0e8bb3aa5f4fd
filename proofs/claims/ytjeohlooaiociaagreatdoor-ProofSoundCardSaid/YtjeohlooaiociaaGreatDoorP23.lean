/- The walk of ProofSound. -/
import Derived.Test.YtjeohlooaiociaaGreatDoorP22
import Derived.Test.YtjeohlooaiociaaGreatDoorG1
import Derived.Test.YtjeohlooaiociaaGreatDoorP16
set_option linter.unusedVariables false
set_option linter.unusedSimpArgs false
namespace Go.Proofs.YtjeohlooaiociaaGreatDoor
open Go Go.RowKit Tj
/-- what stays true of a round's system, solution and proof while the tape is read -/
structure SdM (tb : Nat) (W0 wr : World) (A PB : Nat) (S : SysD) (vd vt vb vv vr v5 : Value) (vs : List Nat) (Rk : LD) : Prop where
 ext : Ext No W0 wr
 tape : TapeOk wr tb
 sys : SysAt (At tb) wr vd vt vb S
 boxA : wr.heap[A]? = some (.cells #[.int .i64 (S.w : Int), vd, vt, vb] 27 (0, 0))
 boxP : wr.heap[PB]? = some (.cells #[vv, vr] 29 (0, 0))
 prf : PrfAt (At tb) wr S vv vr vs Rk
 val : SetsV (At tb) wr v5 S.w vs
 ne : tb ≠ A ∧ tb ≠ PB
 low : W0.heap.size ≤ tb
section
variable {tb : Nat} {W0 wr w' : World} {A PB : Nat} {S : SysD} {vd vt vb vv vr v5 : Value} {vs : List Nat} {Rk : LD}
theorem SdM.step (h : SdM tb W0 wr A PB S vd vt vb vv vr v5 vs Rk) (hx : Ext (At tb) wr w') (ht : TapeOk w' tb) : SdM tb W0 w' A PB S vd vt vb vv vr v5 vs Rk := by
 have h1 := h.low
 have h2 := h.ne
 exact ⟨h.ext.trans2 hx (fun i hi e => by unfold At at e; omega), ht, h.sys.ext hx (fun _ _ e => e), hx.blk h.boxA (fun (e : A = tb) => h2.1 e.symm), hx.blk h.boxP (fun (e : PB = tb) => h2.2 e.symm), ⟨h.prf.vals.ext hx (fun _ _ e => e), h.prf.rk.ext hx (fun _ _ e => e), h.prf.l1, h.prf.l2, h.prf.l3⟩, h.val.ext hx (fun _ _ e => e), h2, h1⟩
theorem SdM.stepNo (h : SdM tb W0 wr A PB S vd vt vb vv vr v5 vs Rk) (hx : Ext No wr w') : SdM tb W0 w' A PB S vd vt vb vv vr v5 vs Rk := h.step hx.ofNo (h.tape.ext hx)
end
theorem PrfAt.noP {M : Nat → Prop} {W : World} {S : SysD} {vv vr : Value} {vs : List Nat} {R : LD} (h : PrfAt M W S vv vr vs R) : PrfAt No W S vv vr vs R := ⟨h.vals.no, h.rk.no, h.l1, h.l2, h.l3⟩
/-- ranks under way: a list of rows next to the tape -/
structure QkM (tb : Nat) (wq wr : World) (QB : Nat) (vq vr : Value) (L : LS) (R : LD) : Prop where
 ext : Ext (At tb) wq wr
 tape : TapeOk wr tb
 box : wr.heap[QB]? = some (.cells #[vq, vr] 29 (0, 0))
 v : LAt kS (fun b => b = tb ∨ b = QB ∨ vr.ownBlock = some b) wr vq L
 r : LOwn kD (fun b => b = tb ∨ b = QB) wr wq.heap.size vr R
 ne : tb < wq.heap.size ∧ wq.heap.size ≤ QB ∧ ∀ k, vr.ownBlock = some k → k ≠ QB
section
variable {tb : Nat} {wq wr w' w1 w2 : World} {QB : Nat} {vq vr v' : Value} {L : LS} {R : LD}
theorem QkM.step (h : QkM tb wq wr QB vq vr L R) (hx : Ext (At tb) wr w') (ht : TapeOk w' tb) : QkM tb wq w' QB vq vr L R := by
 have h1 := h.ne
 exact ⟨h.ext.trans hx, ht, hx.blk h.box (fun (e : QB = tb) => by have := h1.1; have := h1.2.1; omega), h.v.ext hx (fun _ _ e => .inl e), h.r.ext2 hx (fun i hi e => by have := (h.r.lt i hi).1; unfold At at e; omega) (fun i _ e => .inl e), h1⟩
theorem QkM.stepNo (h : QkM tb wq wr QB vq vr L R) (hx : Ext No wr w') : QkM tb wq w' QB vq vr L R := h.step hx.ofNo (h.tape.ext hx)
theorem QkM.add {o : Obj} {p : List Int × Value} (h : QkM tb wq wr QB vq vr L R) (hp : Ints (fun b => (b = tb ∨ b = QB) ∨ vr.ownBlock = some b) wr .i64 p.2 p.1) (hown : w2.ownsRow wq.heap.size 22 1 v' (R.length + 1) (R.flatMap kD.cells ++ [p.2])) (hg : (wr.alloc o).grownBy w2 vr.ownBlock)
  (hv : v'.ownBlock = vr.ownBlock ∨ v'.ownBlock = some (wr.alloc o).heap.size) :
  QkM tb wq (w2.setCell ⟨QB, 1, none⟩ v') QB vq v' L (R ++ [p]) ∧ w2.heap[QB]? = some (.cells #[vq, vr] 29 (0, 0)) := by
 obtain ⟨h1, h2, h3⟩ := h.ne
 have hQ := lt_of_block h.box
 have hsz : (wr.alloc o).heap.size = wr.heap.size + 1 := by simp
 have hE : Ext (fun k => vr.ownBlock = some k) wr w2 := ((Ext.refl _ wr).alloc o).grown hg (fun k hk _ => hk)
 have hE2 : Ext (At QB) w2 (w2.setCell ⟨QB, 1, none⟩ v') := (Ext.refl (At QB) _).setAt _ _
 have hlo : ∀ i, vr.ownBlock = some i → wq.heap.size ≤ i := fun i hi => (h.r.lt i hi).1
 have hb2 := hE.blk h.box (fun e => h3 QB e rfl)
 have hr2 := h.r.app (E := fun k => vr.ownBlock = some k) hp hown hE (fun _ e => e) (hv.imp id (fun hv k hk => by rw [hv] at hk; simp only [Option.some.injEq] at hk; omega))
 have hn2 : ∀ k, v'.ownBlock = some k → k ≠ QB := fun k hk => by
  rcases hv with hv | hv
  ·rw [hv] at hk; exact h3 k hk
  ·rw [hv] at hk; simp only [Option.some.injEq] at hk; omega
 refine ⟨⟨?_, ?_, (set_same (j := 1) hb2).trans rfl, ?_, hr2.ext2 hE2 (fun i hi e => hn2 i hi e) (fun i _ e => .inr e), h1, h2, hn2⟩, hb2⟩
 ·exact (h.ext.trans2 hE (fun i hi e => by have := hlo i e; omega)).trans2 hE2 (fun i hi e => by unfold At at e; omega)
 ·exact (h.tape.extAbove hE (fun i hi e => by have := hlo i e; omega)).extAbove hE2 (fun i hi e => by unfold At at e; omega)
 ·have h5 : LAt kS (fun b => (b = tb ∨ b = QB ∨ vr.ownBlock = some b) ∨ v'.ownBlock = some b) wr vq L := h.v.mono (fun i hi e => by
   rcases e with e | e
   ·exact e
   ·rcases hv with hv | hv
    ·rw [hv] at e; exact .inr (.inr e)
    ·rw [hv] at e; simp only [Option.some.injEq] at e; omega)
  exact ((h5.ext hE (fun i _ e => .inl (.inr (.inr e)))).ext hE2 (fun i _ e => .inl (.inr (.inl e)))).mono (fun i _ e => by
   rcases e with e | e | e
   ·exact .inl (.inl e)
   ·exact .inl (.inr (.inl e))
   ·exact .inr e)
end
def lenV23 : Value → Nat
 | .slice _ n _ => n
 | _ => 0
theorem rkD_lens {M : Nat → Prop} {W : World} {S : SysD} {vv vr : Value} {vs : List Nat} {R : LD} (h : PrfAt M W S vv vr vs R) (hw : S.w ≤ 256) : ∀ p ∈ R, p.1.length ≤ 256 := fun p hp => by
 obtain ⟨n, hn, rfl⟩ := List.getElem_of_mem hp
 have h1 : n < S.deps.length := by rw [← h.l2]; exact hn
 have h2 := h.l3 n h1
 rw [rkD_get hn] at h2
 rw [h2]
 exact memD_len hw vs n
set_option maxRecDepth 100000 in
set_option maxHeartbeats 16000000 in
theorem proofSound_any (tl : Value) (zs : List Int) (w : World) (hT : TabW w) (ht : Ints No w .i64 tl zs) : Calls Tryz.prog 4 #[tl] w (BoolPost true w) := by
 obtain ⟨iI, hiI, hI0, hI1, hI2⟩ := info_parts infoI22
 obtain ⟨iD, hiD, hD0, hD1, hD2⟩ := info_parts infoD22
 have HT := Lib.hid ht
 have HTB := Lib.hid hT
 obtain ⟨at', ct', rfl⟩ := Row.slice ht
 clear ht hT
 go_enter Tryz.func4, Tryz.ntmps4
 go_wp2_with fail
 refine (new_any _ zs _ HT.out).mono ?_
 rintro e0 w0 ⟨rfl, ht0, hx0, hs0⟩
 obtain ⟨tb, htb⟩ : ∃ tb, tb = w.heap.size := ⟨_, rfl⟩
 rw [← htb] at ht0 ⊢
 have HTb := Lib.hid htb
 have HT0 := Lib.hid ht0
 have HX0 := Lib.hid hx0
 clear htb ht0 hx0 hs0
 go_wp2_with fail
 go_loopw [4, 5, 6, 7, 8, 9, 10, 11, 12, 13, 14, 15] (fun i _ _ _ _ _ _ _ _ _ _ _ wr => ∃ k : Nat, k ≤ 6 ∧ i = .int .i64 k ∧ Hid (TapeOk wr tb ∧ Ext No w wr)) (fun i _ _ _ _ _ _ _ _ _ _ _ _ => 6 - (intOf i).toNat)
 case atStart => exact ⟨0, Nat.zero_le _, rfl, Lib.hid ⟨HT0.out, HX0.out⟩⟩
 case round =>
  obtain ⟨i, hi, rfl, hm⟩ := hrel
  rename World => wr
  clear HT0 HX0
  by_cases hlt : i < 6
  ·have hlz : (i : Int) < 6 := by omega
   have HII : Hid (Value.int .i64 ((i : Int) + 1) = .int .i64 ((i + 1 : Nat) : Int)) := Lib.hid (by rw [show ((i + 1 : Nat) : Int) = (i : Int) + 1 from by omega])
   go_wp2_with fail
   refine (sysgen_any tb 4 _ (by decide) (by decide) hm.out.1).mono ?_
   rintro e1 w1 ⟨S, vd, vt, vb, rfl, hw4, hn4, hS, ht1, hx1⟩
   have HOK := Lib.hid hS.out.ok
   obtain ⟨ad, cd, at1, ct, ab, cb, rfl, rfl, rfl⟩ := hS.out.slices
   have htw : tb < wr.heap.size := hm.out.1.lt
   have HS := Lib.hid (hS.out.mono (M' := At tb) (fun i _ e => by unfold At at e; unfold Lo; omega))
   have HX1 := Lib.hid (hm.out.2.trans2 hx1 (fun i hi e => by unfold At at e; have := HTb.out; omega))
   have HT1 := Lib.hid ht1
   have hnn := HOK.out.n2
   have hn1 := HOK.out.n1
   have hww := HOK.out.w
   clear hm hS ht1 hx1
   go_upto_region 6 with (fail)
   have hxa : Ext No w1 (w1.alloc (.cells #[.int .i64 (S.w : Int), .slice ad S.deps.length cd, .slice at1 S.deps.length ct, .slice ab S.deps.length cb] 27)) := (Ext.refl _ _).alloc _
   have HA := Lib.hid (alloc_top (w := w1) (o := (.cells #[.int .i64 (S.w : Int), .slice ad S.deps.length cd, .slice at1 S.deps.length ct, .slice ab S.deps.length cb] 27)) rfl)
   have HS1 := Lib.hid (HS.out.extNo hxa)
   have HXA := Lib.hid (HX1.out.transNo hxa)
   have HTA := Lib.hid (HT1.out.ext hxa)
   have HAtb := Lib.hid (show tb ≠ w1.heap.size from by have := HT1.out.lt; omega)
   clear hxa HS HX1 HT1
   generalize (w1.alloc (.cells #[.int .i64 (S.w : Int), .slice ad S.deps.length cd, .slice at1 S.deps.length ct, .slice ab S.deps.length cb] 27)) = V1 at *
   generalize w1.heap.size = A at *
   have cA := cellOf HA.out
   go_wp2_with fail
   clear cA
   refine (sysSolve_any (At tb) S _ _ _ V1 (fun b e => by rw [show b = tb from e]; exact HTA.out.lt) HS1.out.no).mono ?_
   rintro e2 w2 ⟨R, a5, c5, hR, rfl, hs5, hx2⟩
   have HF := Lib.hid hR
   have HS2 := Lib.hid (HS1.out.extNo hx2)
   have HX2 := Lib.hid (HXA.out.transNo hx2)
   have HT2 := Lib.hid (HTA.out.ext hx2)
   have HA2 := Lib.hid (hx2.blk HA.out no_no)
   have HV2 := Lib.hid hs5.out
   clear hR hx2 hs5 HS1 HXA HTA HA
   have cA := cellOf HA2.out
   go_wp2_with fail
   clear cA
   refine (pmakeM_any (At tb) S _ _ _ w2 (fun b e => by rw [show b = tb from e]; exact HT2.out.lt) (HTB.out.ext HX2.out) HS2.out.no).mono ?_
   rintro e3 w3 ⟨R', a, ar, c, cr, Rk, hF, rfl, hP, hK, hx3⟩
   obtain rfl : R = R' := hF.eq HF.out.first HF.out.fix
   have HS3 := Lib.hid (HS2.out.extNo hx3)
   have HX3 := Lib.hid (HX2.out.transNo hx3)
   have HT3 := Lib.hid (HT2.out.ext hx3)
   have HA3 := Lib.hid (hx3.blk HA2.out no_no)
   have HV3 := Lib.hid (HV2.out.extNo hx3)
   clear hF hx3 HS2 HX2 HT2 HA2 HV2
   go_upto_region 8 with (fail)
   have hxp : Ext No w3 (w3.alloc (.cells #[.slice a S.deps.length c, .slice ar S.deps.length cr] 29)) := (Ext.refl _ _).alloc _
   have HM := Lib.hid (show SdM tb w (w3.alloc (.cells #[.slice a S.deps.length c, .slice ar S.deps.length cr] 29)) A w3.heap.size S _ _ _ (.slice a S.deps.length c) (.slice ar S.deps.length cr) (.slice a5 S.deps.length c5) (iterD S R) Rk from ⟨HX3.out.transNo hxp, HT3.out.ext hxp, HS3.out.extNo hxp, hxp.blk HA3.out no_no, alloc_top rfl, ⟨hP.out.vals.extNo hxp, hP.out.rk.extNo hxp, hP.out.l1, hP.out.l2, hP.out.l3⟩, HV3.out.extNo hxp, ⟨HAtb.out, by have := HT3.out.lt; omega⟩, by have := HTb.out; omega⟩)
   clear hxp HS3 HX3 HT3 HA3 HV3 hP HAtb
   generalize (w3.alloc (.cells #[.slice a S.deps.length c, .slice ar S.deps.length cr] 29)) = V3 at *
   generalize w3.heap.size = PB at *
   obtain ⟨Lp, hLp, hLe, hLl⟩ := HM.out.prf.vals.list
   have HLP := Lib.hid hLp
   have HLE := Lib.hid hLe
   have HACC := Lib.hid (mk_acc HOK.out HF.out HM.out.prf.l2 hK.out hLe)
   clear hLp hLe hLl
   have cA := cellOf HM.out.boxA
   have cP := cellOf HM.out.boxP
   go_wp2_with ((go_at_call 15); (refine (check_any S _ _ _ _ _ Lp Rk V3 (HTB.out.ext HM.out.ext) HM.out.sys.no HLP.out.no HM.out.prf.rk.no).mono ?_); (rintro e4 w4 ⟨z4, rfl, hz4, hx4⟩); (obtain rfl : z4 = 0 := by rcases hz4 with h | h; exact h.2; exact absurd HACC.out h.1); (have HM4 := Lib.hid (HM.out.stepNo hx4)); (clear hx4 hz4 cA cP); (have cA := cellOf HM4.out.boxA); (have cP := cellOf HM4.out.boxP))
   clear cA cP
   refine (rsameSets_any S.w (iterD S R) (iterD S R) _ _ w4 HM4.out.prf.noP.vals HM4.out.val.no (by rw [(good_iter HOK.out R).len]; omega)).mono ?_
   rintro e5 w5 ⟨rfl, hx5⟩
   rw [decide_eq_true rfl]
   have HM5 := Lib.hid (HM4.out.stepNo hx5)
   clear hx5 HM4 HM HLP
   have cA := cellOf HM5.out.boxA
   go_wp2_with fail
   clear cA
   refine (values_any tb S.w S.deps.length _ _ ab cb _ (by omega) hn1 hnn HM5.out.tape).mono ?_
   rintro e6 w6 ⟨v6, L6, rfl, hl6, hL6, ht6, hx6⟩
   obtain ⟨a6, c6, hv6⟩ := hL6.out.slice
   subst hv6
   have HM6 := Lib.hid (HM5.out.step hx6 ht6)
   have htb5 : tb < w5.heap.size := HM5.out.tape.lt
   have hq0 : LAt kS (At tb) w6 (.slice a6 L6.length c6) L6 := hL6.out.list2 (fun b hb (e : b = tb) => by have := (hL6.out.lt b hb).1; omega) (fun b (e : b = tb) => by unfold Lo; omega)
   have HQ0 := Lib.hid (show LAt kS (fun b => b = tb ∨ b = w6.heap.size ∨ Value.ownBlock (.slice none 0 0) = some b) w6 (.slice a6 L6.length c6) L6 from hq0.mono (fun i hi e => by
    rcases e with e | e | e
    ·exact e
    ·omega
    ·cases e))
   have HLL := Lib.hid hl6
   clear hL6 ht6 hx6 HM5 hq0 htb5
   go_upto_region 11 with (fail)
   have hxq : Ext No w6 (w6.alloc (.cells #[.slice a6 L6.length c6, .slice none 0 0] 29)) := (Ext.refl _ _).alloc _
   have HQ1 := Lib.hid (show QkM tb w6 (w6.alloc (.cells #[.slice a6 L6.length c6, .slice none 0 0] 29)) w6.heap.size (.slice a6 L6.length c6) (.slice none 0 0) L6 [] from ⟨hxq.ofNo, HM6.out.tape.ext hxq, alloc_top rfl, HQ0.out.extNo hxq, LOwn.nil _ _ _ _, ⟨HM6.out.tape.lt, Nat.le_refl _, fun k hk => by cases hk⟩⟩)
   clear hxq HQ0
   generalize (w6.alloc (.cells #[.slice a6 L6.length c6, .slice none 0 0] 29)) = V6 at *
   generalize hQB : w6.heap.size = QB at *
   have HQBE := Lib.hid hQB
   clear hQB
   obtain ⟨nq, hnq⟩ : ∃ nq, nq = L6.length := ⟨_, rfl⟩
   rw [← hnq] at HQ1 ⊢
   have HNQ := Lib.hid hnq
   have hnq5 : nq ≤ 5 := by rw [hnq]; have := HLL.out; omega
   clear hnq
   go_wp2_with fail
   go_loopw [12, 13, 14] (fun i _ _ wx => ∃ (k : Nat) (v' : Value) (R6 : LD), k ≤ nq ∧ i = .int .i64 k ∧ Hid (R6.length = k) ∧ Hid (QkM tb w6 wx QB (.slice a6 nq c6) v' L6 R6)) (fun i _ _ _ => nq - (intOf i).toNat)
   case atStart => exact ⟨0, _, [], Nat.zero_le _, rfl, Lib.hid rfl, HQ1⟩
   case round =>
    clear HQ1
    obtain ⟨k, v', R6, hk, rfl, hR6, hq⟩ := hrel
    rename World => wx
    obtain ⟨aR, cR, rfl⟩ := hq.out.r.slice
    rw [hR6.out] at hq
    by_cases hltk : k < nq
    ·have hlzk : (k : Int) < (nq : Int) := by omega
     have HKK : Hid (Value.int .i64 ((k : Int) + 1) = .int .i64 ((k + 1 : Nat) : Int)) := Lib.hid (by rw [show ((k + 1 : Nat) : Int) = (k : Int) + 1 from by omega])
     have hkL : k < L6.length := by rw [← HNQ.out]; exact hltk
     obtain ⟨b0, o0, k0, hve, -, -, hcell⟩ := hq.out.v.atS hkL
     rw [← HNQ.out] at hve
     simp only [Value.slice.injEq] at hve
     obtain ⟨rfl, -, rfl⟩ := hve
     obtain ⟨q0, q1⟩ := hcell k hkL
     have hwS : WordsAt No wx L6[k].2 L6[k].1.words := (hq.out.v.ok _ (List.getElem_mem hkL)).mono (fun _ _ x => x.elim)
     obtain ⟨s0, hs0⟩ : ∃ s0, s0 = L6[k] := ⟨_, rfl⟩
     rw [← hs0] at q0 q1 hwS
     obtain ⟨f1, f2, he2⟩ := hwS.slice
     rw [he2] at q1 hwS
     have cQ := cellOf hq.out.box
     clear hcell hs0 he2
     go_wp2_with fail
     clear cQ q0 q1
     refine (rmemR_any No s0.1 _ _ (fun _ e => e.elim) hwS).mono ?_
     rintro e7 w7 ⟨a7, c7, rfl, -, hx7⟩
     have hq7 := Lib.hid (hq.out.stepNo hx7)
     obtain ⟨cm, hcm⟩ : ∃ cm, cm = (memR s0.1).length := ⟨_, rfl⟩
     have hcl : cm ≤ 256 := by rw [hcm]; exact memR_len _
     rw [← hcm]
     clear hq hx7 hwS hcm
     go_wp2_with fail
     go_loopw [13] (fun s13 wy => ∃ (j : Nat) (l : List Int) (a : Option Addr) (cc : Nat), j ≤ cm ∧ s13 = .slice a j cc ∧ Hid (l.length = j) ∧ Hid (wy.ownsRow w7.heap.size 3 1 (.slice a j cc) j (l.map (.int .i64))) ∧ Hid (Ext (At tb) w7 wy ∧ TapeOk wy tb)) (fun s13 _ => cm - (lenV23 s13))
     case atStart => exact ⟨0, [], none, 0, Nat.zero_le _, rfl, Lib.hid rfl, Lib.hid ⟨by simp, .inl ⟨rfl, rfl⟩⟩, Lib.hid ⟨Ext.refl _ _, hq7.out.tape⟩⟩
     case round =>
      obtain ⟨j, l, aj, cj, hj, rfl, hl, hown, he⟩ := hrel
      rename World => wy
      by_cases hltj : j < cm
      ·have hjz : (j : Int) < (cm : Int) := by omega
       go_wp2_with fail
       refine (next_lt tb 5 (by decide) (by decide) _ he.out.2).mono ?_
       rintro e8 w8 ⟨r8, rfl, hr8, ht8, hx8, -⟩
       have HE8 := Lib.hid (And.intro (he.out.1.trans hx8) ht8)
       have HO8 := Lib.hid (row_keep hown.out hx8 (fun i hi e => by have := hq7.out.tape.lt; unfold At at e; omega))
       have hsz8 := HE8.out.1.size
       clear he hown ht8 hx8
       go_wp2_with (at_builtin; (refine wpList_app _ rfl (.tmp 76) (.tmp 79) 22 rfl w7.heap.size 3 iI _ 1 8 Tryz.underlying22 hiI hI0 hI1 hI2 rfl (by omega) (.slice aj j cj) j (l.map (.int .i64)) rfl (row_keep HO8.out ((Ext.refl No _).alloc _) (fun _ _ x => x)) No (some ⟨w8.heap.size, 0, none⟩) 1 1 [.int .i64 (r8 : Int)] rfl (Row.block (alloc_top rfl) rfl no_no (by omega)) (by simp [Value.oneCell']) (by omega) (by omega) (by simp; omega) ?_); (intro v9 w9 hown1 hg1 hv1); (obtain ⟨a9, c9, hs9⟩ := (Row.ofOwns (M := No) hown1 (fun _ _ x => x)).slice); (subst hs9); (have hE9 : Ext (fun k => Value.ownBlock (.slice aj j cj) = some k) w8 w9 := ((Ext.refl _ w8).alloc _).grown hg1 (fun k hk _ => hk)); (have hlo9 : ∀ i, Value.ownBlock (.slice aj j cj) = some i → w7.heap.size ≤ i := fun i hi => (World.ownsRow.lt HO8.out i hi).1); (have HE9 := Lib.hid (show Ext (At tb) w7 w9 ∧ TapeOk w9 tb from ⟨HE8.out.1.trans2 hE9 (fun i hi e => by have := hlo9 i e; omega), HE8.out.2.extAbove hE9 (fun i hi e => by have := hlo9 i e; have := hq7.out.tape.lt; omega)⟩)); (have HO9 := Lib.hid hown1); (clear hown1 hg1 hv1 hE9 hlo9))
       go_roundw
       case rel => exact ⟨j + 1, l ++ [(r8 : Int)], a9, c9, by omega, rfl, Lib.hid (by rw [List.length_append, hl.out]; rfl), Lib.hid (by rw [List.map_append]; exact HO9.out), HE9⟩
       case measure => simp [lenV23]; omega
      ·have hgej : ¬ (j : Int) < (cm : Int) := by omega
       have hqA := hq7.out.step he.out.1 he.out.2
       have HQA := Lib.hid hqA
       have hl7 := World.ownsRow.lt hown.out
       have HIN := Lib.hid (show Ints (fun b => (b = tb ∨ b = QB) ∨ Value.ownBlock (.slice aR k cR) = some b) wy .i64 (.slice aj j cj) l from by
        have h5 := hown.out
        rw [← hl.out] at h5 ⊢
        exact ints_own h5 (fun b hb e => by
         have h6 := (World.ownsRow.lt h5 b hb).1
         rcases e with (e | e) | e
         ·have := hq7.out.tape.lt; omega
         ·have := lt_of_block hq7.out.box; omega
         ·have := (hq7.out.r.lt b e).2; omega))
       have hro := hqA.r.own
       rw [hR6.out] at hro
       have HRO := Lib.hid hro
       have hwy : w6.heap.size ≤ wy.heap.size := hqA.ext.size
       have cQ := cellOf hqA.box
       have hbq := lt_of_block hqA.box
       clear hqA hro hown he hl7
       go_wp2_with (at_builtin; (refine wpList_app _ rfl (.tmp 82) (.tmp 84) 23 rfl w6.heap.size 22 iD _ 1 24 Tryz.underlying23 hiD hD0 hD1 hD2 rfl (by omega) (.slice aR k cR) k (R6.flatMap kD.cells) rfl (row_keep HRO.out ((Ext.refl No _).alloc _) (fun _ _ x => x)) No (some ⟨wy.heap.size, 0, none⟩) 1 1 [.slice aj j cj] rfl (Row.block (alloc_top rfl) rfl no_no (by omega)) (by simp [Value.oneCell']) (by omega) (by omega) (by simp; omega) ?_); (intro v9 w9 hown1 hg1 hv1); (obtain ⟨a9, c9, hs9⟩ := (Row.ofOwns (M := No) hown1 (fun _ _ x => x)).slice); (subst hs9); (have hadd := HQA.out.add (p := (l, .slice aj j cj)) HIN.out (by rw [hR6.out]; exact hown1) hg1 hv1); (have HAD := Lib.hid hadd.1); (have HB9 := Lib.hid hadd.2); (clear hown1 hg1 hv1 hadd cQ); (have cQ := cellOf HB9.out); (have fQ := freeOf HB9.out))
       go_roundw
       case rel => exact ⟨k + 1, _, R6 ++ [(l, .slice aj j cj)], by omega, HKK.out, Lib.hid (by rw [List.length_append, hR6.out]; rfl), HAD⟩
       case measure => simp [intOf]; omega
    ·have hgek : ¬ (k : Int) < (nq : Int) := by omega
     have HM7 := Lib.hid (HM6.out.step hq.out.ext hq.out.tape)
     have cQ := cellOf hq.out.box
     have cA := cellOf HM7.out.boxA
     have HQL := Lib.hid (show LAt kS No wx (.slice a6 nq c6) L6 from hq.out.v.mono (fun _ _ x => x.elim))
     have HQR := Lib.hid (show LAt kD No wx (.slice aR k cR) R6 from hq.out.r.list2 (fun _ _ x => x) (fun _ x => x.elim))
     have hbq := lt_of_block hq.out.box
     have HBQ := Lib.hid hq.out.box
     clear hq HM6
     by_cases hacc : AccP S L6 R6
     ·obtain ⟨hrk, us, hab, hd⟩ := hacc
      have hus := acc_least HOK.out HF.out hab hrk hd
      subst hus
      have HAC := Lib.hid (show AccP S L6 R6 from ⟨hrk, _, hab, hd⟩)
      have HSV := Lib.hid (HQL.out.setsV hab.1 hww hab.2.2.1)
      clear hrk hab hd
      go_wp2_with ((go_at_call 15); (refine (check_any S _ _ _ _ _ L6 R6 _ (HTB.out.ext HM7.out.ext) HM7.out.sys.no HQL.out HQR.out).mono ?_); (rintro e4 w8 ⟨z4, rfl, hz4, hx4⟩); (obtain rfl : z4 = 0 := by rcases hz4 with h | h; exact h.2; exact absurd HAC.out h.1); (have HM8 := Lib.hid (HM7.out.stepNo hx4)); (have HSV8 := Lib.hid (HSV.out.extNo hx4)); (have HBQ8 := Lib.hid (hx4.blk HBQ.out no_no)); (clear hx4 hz4 cA cQ); (have cQ := cellOf HBQ8.out))
      clear cQ
      refine (rsameSets_any S.w (iterD S R) (iterD S R) _ _ w8 HSV8.out HM8.out.val.no (by rw [(good_iter HOK.out R).len]; omega)).mono ?_
      rintro e5 w9 ⟨rfl, hx9⟩
      rw [decide_eq_true rfl]
      have HM9 := Lib.hid (HM8.out.stepNo hx9)
      clear hx9 HM8 HSV8 HBQ8 HSV HBQ HQL HQR HM7 HAC
      obtain ⟨Lq, hLq, hLqe, hLql⟩ := HM9.out.prf.vals.list
      have hLn : Lq.length = S.deps.length := by rw [hLql, (good_iter HOK.out R).len]
      have cP := cellOf HM9.out.boxP
      go_wp2_with fail
      clear cP
      refine (spoilP_any tb S.w _ _ Lq Rk _ hLq HM9.out.prf.rk (set_of_map hLqe hww (good_iter HOK.out R).lt) (by omega) (by rw [HM9.out.prf.l2, hLn]) (by omega) (by omega) (rkD_lens HM9.out.prf hww) HM9.out.tape).mono ?_
      rintro e10 w10 ⟨vc, vd', Lc, Rc, rfl, hLc, hRc, -, -, ht10, hx10⟩
      obtain ⟨ac, cc, rfl⟩ := hLc.out.slice
      obtain ⟨ae, ce, rfl⟩ := hRc.out.slice
      have hxc : Ext No w10 (w10.alloc (.cells #[.slice ac Lc.length cc, .slice ae Rc.length ce] 29)) := (Ext.refl _ _).alloc _
      have HMC := Lib.hid ((HM9.out.step hx10 ht10).stepNo hxc)
      have HLC := Lib.hid (hLc.out.no.extNo hxc)
      have HRC := Lib.hid (hRc.out.no.extNo hxc)
      have HBC := Lib.hid (alloc_top (w := w10) (o := (.cells #[.slice ac Lc.length cc, .slice ae Rc.length ce] 29)) rfl)
      clear hLq hLqe hLql hLn hLc hRc ht10 hx10 hxc HM9
      go_upto_region 22 with (fail)
      generalize (w10.alloc (.cells #[.slice ac Lc.length cc, .slice ae Rc.length ce] 29)) = V10 at *
      generalize w10.heap.size = CB at *
      have cC := cellOf HBC.out
      have cA := cellOf HMC.out.boxA
      by_cases hacc2 : AccP S Lc Rc
      ·obtain ⟨hrk, us, hab, hd⟩ := hacc2
       have hus := acc_least HOK.out HF.out hab hrk hd
       subst hus
       have HAC2 := Lib.hid (show AccP S Lc Rc from ⟨hrk, _, hab, hd⟩)
       have HSV := Lib.hid (HLC.out.setsV hab.1 hww hab.2.2.1)
       clear hrk hab hd
       go_wp2_with ((go_at_call 15); (refine (check_any S _ _ _ _ _ Lc Rc _ (HTB.out.ext HMC.out.ext) HMC.out.sys.no HLC.out HRC.out).mono ?_); (rintro e4 w11 ⟨z4, rfl, hz4, hx4⟩); (obtain rfl : z4 = 0 := by rcases hz4 with h | h; exact h.2; exact absurd HAC2.out h.1); (have HMD := Lib.hid (HMC.out.stepNo hx4)); (have HSV8 := Lib.hid (HSV.out.extNo hx4)); (have HBC8 := Lib.hid (hx4.blk HBC.out no_no)); (clear hx4 hz4 cA cC); (have cC := cellOf HBC8.out))
       clear cC
       refine (rsameSets_any S.w (iterD S R) (iterD S R) _ _ w11 HSV8.out HMD.out.val.no (by rw [(good_iter HOK.out R).len]; omega)).mono ?_
       rintro e5 w12 ⟨rfl, hx12⟩
       rw [decide_eq_true rfl]
       have HME := Lib.hid (HMD.out.stepNo hx12)
       clear hx12 HMD HSV8 HBC8 HSV HBC HLC HRC HMC HAC2
       go_wp2_with fail
       go_roundw
       case rel => exact ⟨i + 1, by omega, HII.out, Lib.hid ⟨HME.out.tape, HME.out.ext⟩⟩
       case measure => simp [intOf]; omega
      ·have HAC2 := Lib.hid hacc2
       clear hacc2
       go_wp2_with ((go_at_call 15); (refine (check_any S _ _ _ _ _ Lc Rc _ (HTB.out.ext HMC.out.ext) HMC.out.sys.no HLC.out HRC.out).mono ?_); (rintro e4 w11 ⟨z4, rfl, hz4, hx4⟩); (obtain rfl : z4 = 15 := by rcases hz4 with h | h; exact absurd h.1 HAC2.out; exact h.2); (have HMD := Lib.hid (HMC.out.stepNo hx4)); (clear hx4 hz4 cA cC))
       go_roundw
       case rel => exact ⟨i + 1, by omega, HII.out, Lib.hid ⟨HMD.out.tape, HMD.out.ext⟩⟩
       case measure => simp [intOf]; omega
     ·have HAC := Lib.hid hacc
      clear hacc
      go_upto_region 21 with ((go_at_call 15); (refine (check_any S _ _ _ _ _ L6 R6 _ (HTB.out.ext HM7.out.ext) HM7.out.sys.no HQL.out HQR.out).mono ?_); (rintro e4 w9 ⟨z4, rfl, hz4, hx4⟩); (obtain rfl : z4 = 15 := by rcases hz4 with h | h; exact absurd h.1 HAC.out; exact h.2); (have HM9 := Lib.hid (HM7.out.stepNo hx4)); (clear hx4 hz4 cA cQ))
      clear HBQ HQL HQR HM7 HAC
      obtain ⟨Lq, hLq, hLqe, hLql⟩ := HM9.out.prf.vals.list
      have hLn : Lq.length = S.deps.length := by rw [hLql, (good_iter HOK.out R).len]
      have cP := cellOf HM9.out.boxP
      go_wp2_with fail
      clear cP
      refine (spoilP_any tb S.w _ _ Lq Rk _ hLq HM9.out.prf.rk (set_of_map hLqe hww (good_iter HOK.out R).lt) (by omega) (by rw [HM9.out.prf.l2, hLn]) (by omega) (by omega) (rkD_lens HM9.out.prf hww) HM9.out.tape).mono ?_
      rintro e10 w10 ⟨vc, vd', Lc, Rc, rfl, hLc, hRc, -, -, ht10, hx10⟩
      obtain ⟨ac, cc, rfl⟩ := hLc.out.slice
      obtain ⟨ae, ce, rfl⟩ := hRc.out.slice
      have hxc : Ext No w10 (w10.alloc (.cells #[.slice ac Lc.length cc, .slice ae Rc.length ce] 29)) := (Ext.refl _ _).alloc _
      have HMC := Lib.hid ((HM9.out.step hx10 ht10).stepNo hxc)
      have HLC := Lib.hid (hLc.out.no.extNo hxc)
      have HRC := Lib.hid (hRc.out.no.extNo hxc)
      have HBC := Lib.hid (alloc_top (w := w10) (o := (.cells #[.slice ac Lc.length cc, .slice ae Rc.length ce] 29)) rfl)
      clear hLq hLqe hLql hLn hLc hRc ht10 hx10 hxc HM9
      go_upto_region 22 with (fail)
      generalize (w10.alloc (.cells #[.slice ac Lc.length cc, .slice ae Rc.length ce] 29)) = V10 at *
      generalize w10.heap.size = CB at *
      have cC := cellOf HBC.out
      have cA := cellOf HMC.out.boxA
      by_cases hacc2 : AccP S Lc Rc
      ·obtain ⟨hrk, us, hab, hd⟩ := hacc2
       have hus := acc_least HOK.out HF.out hab hrk hd
       subst hus
       have HAC2 := Lib.hid (show AccP S Lc Rc from ⟨hrk, _, hab, hd⟩)
       have HSV := Lib.hid (HLC.out.setsV hab.1 hww hab.2.2.1)
       clear hrk hab hd
       go_wp2_with ((go_at_call 15); (refine (check_any S _ _ _ _ _ Lc Rc _ (HTB.out.ext HMC.out.ext) HMC.out.sys.no HLC.out HRC.out).mono ?_); (rintro e4 w11 ⟨z4, rfl, hz4, hx4⟩); (obtain rfl : z4 = 0 := by rcases hz4 with h | h; exact h.2; exact absurd HAC2.out h.1); (have HMD := Lib.hid (HMC.out.stepNo hx4)); (have HSV8 := Lib.hid (HSV.out.extNo hx4)); (have HBC8 := Lib.hid (hx4.blk HBC.out no_no)); (clear hx4 hz4 cA cC); (have cC := cellOf HBC8.out))
       clear cC
       refine (rsameSets_any S.w (iterD S R) (iterD S R) _ _ w11 HSV8.out HMD.out.val.no (by rw [(good_iter HOK.out R).len]; omega)).mono ?_
       rintro e5 w12 ⟨rfl, hx12⟩
       rw [decide_eq_true rfl]
       have HME := Lib.hid (HMD.out.stepNo hx12)
       clear hx12 HMD HSV8 HBC8 HSV HBC HLC HRC HMC HAC2
       go_wp2_with fail
       go_roundw
       case rel => exact ⟨i + 1, by omega, HII.out, Lib.hid ⟨HME.out.tape, HME.out.ext⟩⟩
       case measure => simp [intOf]; omega
      ·have HAC2 := Lib.hid hacc2
       clear hacc2
       go_wp2_with ((go_at_call 15); (refine (check_any S _ _ _ _ _ Lc Rc _ (HTB.out.ext HMC.out.ext) HMC.out.sys.no HLC.out HRC.out).mono ?_); (rintro e4 w11 ⟨z4, rfl, hz4, hx4⟩); (obtain rfl : z4 = 15 := by rcases hz4 with h | h; exact absurd h.1 HAC2.out; exact h.2); (have HMD := Lib.hid (HMC.out.stepNo hx4)); (clear hx4 hz4 cA cC))
       go_roundw
       case rel => exact ⟨i + 1, by omega, HII.out, Lib.hid ⟨HMD.out.tape, HMD.out.ext⟩⟩
       case measure => simp [intOf]; omega
  ·obtain rfl : i = 6 := by omega
   go_wp2_with fail
   refine (sane17_any _ (HTB.out.ext hm.out.2)).mono ?_
   rintro e9 w9 ⟨rfl, hx9⟩
   go_wp2_with fail
   go_ret
   exact ⟨rfl, hm.out.2.transNo hx9⟩
end Go.Proofs.YtjeohlooaiociaaGreatDoor

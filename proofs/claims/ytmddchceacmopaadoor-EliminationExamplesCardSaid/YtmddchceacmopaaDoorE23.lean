
import Derived.Test.YtmddchceacmopaaDoorE22
set_option linter.unusedVariables false
set_option linter.unusedSimpArgs false
namespace Go.Proofs.YtmddchceacmopaaDoor
open Go Go.RowKit
theorem LOwn.arcAt {A : Nat → Prop} {W : World} {base g c N w k m : Nat} {L : LA} {l : ArcsL} {f : TrD} (hr : ∀ p ∈ l, TrOk p.2 ∧ p.2.w = w) (h : LOwn kA A W base (.slice (some ⟨g, 0, none⟩) N c) L) (h2 : L.map cutA = arcsRow l) (hk : k < l.length) (hm : (m, f) = l[k]) : ∃ ag cg ak ck ac n cc,
  (W.cell? ⟨g, k * 6, none⟩ = some (.int .i64 (m : Int)) ∧ W.cell? ⟨g, k * 6 + 1, none⟩ = some (.int .i64 (w : Int)) ∧ W.cell? ⟨g, k * 6 + 2, none⟩ = some (.slice ag (nw w) cg) ∧ W.cell? ⟨g, k * 6 + 3, none⟩ = some (.int .i64 (w : Int)) ∧ W.cell? ⟨g, k * 6 + 4, none⟩ = some (.slice ak (nw w) ck) ∧ W.cell? ⟨g, k * 6 + 5, none⟩ = some (.slice ac n cc)) ∧
  Hid (TrAt (fun b => A b ∨ b = g) W (.slice ag (nw w) cg) (.slice ak (nw w) ck) (.slice ac n cc) f) ∧ Hid (f.w = w) := by
 have e2 := congrArg List.length h2
 simp only [List.length_map, arcsRow_len] at e2
 have hk2 : k < L.length := by omega
 have hNL : N = L.length := by
  have h9 := h.own.2
  rcases h9 with ⟨h3, _⟩ | ⟨_, _, _, h3, _⟩
  ·simp at h3
  simp only [Value.slice.injEq] at h3; exact h3.2.1
 subst hNL
 have g5 : RawTAt (fun b => A b ∨ Value.ownBlock (.slice (some ⟨g, 0, none⟩) L.length c) = some b) W L[k].2.2.1 L[k].2.2.2.1 L[k].2.2.2.2 L[k].2.1 := h.ok _ (List.getElem_mem hk2)
 have g6 : cutA L[k] = ((m : Int), rawT f) := by rw [arcs_at h2 hk2 hk, ← hm]
 have g6a : L[k].1 = (m : Int) := congrArg Prod.fst g6
 have g6b : L[k].2.1 = rawT f := congrArg Prod.snd g6
 obtain ⟨g7, g8⟩ := hr _ (List.getElem_mem hk)
 rw [← hm] at g7 g8
 simp only at g7 g8
 rw [g6b] at g5
 have g9 := (g5.tr g7).mono (M' := fun b => A b ∨ b = g) (fun i _ e => e.imp id (fun e => by rw [e]; rfl))
 obtain ⟨ag, cg, k1⟩ := g9.gen.slice
 obtain ⟨ak, ck, k2⟩ := g9.kill.slice
 obtain ⟨ac, cc, k3⟩ := Row.slice g9.copies
 rw [k1, k2, k3] at g9
 rw [g8] at g9 k1 k2
 refine ⟨ag, cg, ak, ck, ac, _, cc, ⟨?_, ?_, ?_, ?_, ?_, ?_⟩, Lib.hid g9, Lib.hid g8⟩
 ·refine (show W.cell? ⟨g, k * 6, none⟩ = some (.int .i64 L[k].1) from h.cellAt (j := 0) hk2 (by decide) rfl).trans ?_
  rw [g6a]
 ·refine (show W.cell? ⟨g, k * 6 + 1, none⟩ = some (.int .i64 L[k].2.1.gen.width) from h.cellAt (j := 1) hk2 (by decide) rfl).trans ?_
  rw [g6b]; show some (Value.int .i64 ((f.w : Nat) : Int)) = _; rw [g8]
 ·refine (show W.cell? ⟨g, k * 6 + 2, none⟩ = some (L[k].2.2.1) from h.cellAt (j := 2) hk2 (by decide) rfl).trans ?_
  rw [k1]
 ·refine (show W.cell? ⟨g, k * 6 + 3, none⟩ = some (.int .i64 L[k].2.1.kill.width) from h.cellAt (j := 3) hk2 (by decide) rfl).trans ?_
  rw [g6b]; show some (Value.int .i64 ((f.w : Nat) : Int)) = _; rw [g8]
 ·refine (show W.cell? ⟨g, k * 6 + 4, none⟩ = some (L[k].2.2.2.1) from h.cellAt (j := 4) hk2 (by decide) rfl).trans ?_
  rw [k2]
 refine (show W.cell? ⟨g, k * 6 + 5, none⟩ = some (L[k].2.2.2.2) from h.cellAt (j := 5) hk2 (by decide) rfl).trans ?_
 rw [k3]
theorem elimRow_succ {rn l : ArcsL} {h : TrD} {k : Nat} (hk : k < rn.length) : elimRow (rn.take (k + 1)) h l = putA (elimRow (rn.take k) h l) (rn[k].1, compT rn[k].2 h) := by
 unfold elimRow
 rw [List.take_succ_eq_append_getElem hk, List.foldl_append]
 rfl
theorem RowOkA.taken {w n : Nat} {l : ArcsL} (h : RowOkA w n l) (k : Nat) : RowOkA w n (l.take k) :=
 ⟨h.asc.sublist ((List.take_sublist k l).map _), fun p hp => h.lt p (List.mem_of_mem_take hp), fun p hp => h.trs p (List.mem_of_mem_take hp)⟩
theorem mem_set13 {α : Type} {l : List α} {t : Nat} {q : α} (ht : t < l.length) : q ∈ l.set t q := by
 have h := List.getElem_mem (l := l.set t q) (n := t) (by simpa using ht)
 rw [List.getElem_set_self] at h
 exact h
theorem mixB_ne {R : WebD} {n t j : Nat} (h : j ≠ t) : mixB R n (t + 1) j = mixB R n t j := by
 unfold mixB
 by_cases e2 : j < t
 ·rw [if_pos (by omega), if_pos e2]
 rw [if_neg (by omega), if_neg e2]
theorem mixI_ne {R : WebD} {n t j : Nat} (h : j ≠ t) : mixI R n (t + 1) j = mixI R n t j := by
 unfold mixI
 by_cases e2 : j < t
 ·rw [if_pos (by omega), if_pos e2]
 rw [if_neg (by omega), if_neg e2]
theorem mix_next {R : WebD} {n t i mm : Nat} {f : TrD} (h : t ≠ n) (hi : i = ixA (arcW R t) n) (hi2 : i < (arcW R t).length) (hf : (mm, f) = (arcW R t)[i]) : mixB R n (t + 1) t = orN (rowD R.bnd t) (applyT f (rowD R.bnd n)) ∧ mixI R n (t + 1) t = elimRow (arcW R n) f ((arcW R t).eraseIdx i) := by
 subst hi
 have hf2 : f = ((arcW R t)[ixA (arcW R t) n]).2 := congrArg Prod.snd hf
 unfold mixB mixI
 rw [if_pos (by omega), if_pos (by omega)]
 unfold elimBnd elimIns
 rw [dif_pos ⟨h, hi2⟩, dif_pos ⟨h, hi2⟩, ← hf2]
 exact ⟨rfl, rfl⟩
set_option maxRecDepth 100000 in
set_option maxHeartbeats 16000000 in
theorem eliminate_any (S : WebD) (n base lim0 gB cB gI cI N : Nat) (LB : LS) (RL : RLs) (W : World) (hN : N = S.ins.length) (h : MW W base lim0 (.slice (some ⟨gB, 0, none⟩) N cB) (.slice (some ⟨gI, 0, none⟩) N cI) LB RL S) (hT : TabW W) (hlow : 0 < base) (hn : n < N) :
  Calls Tryd.prog 21 #[.agg #[.int .i64 (S.w : Int), .slice (some ⟨gB, 0, none⟩) N cB, .slice (some ⟨gI, 0, none⟩) N cI], .int .i64 (n : Int)] W (ResPostW (elimW S n) base (.slice (some ⟨gB, 0, none⟩) N cB) (.slice (some ⟨gI, 0, none⟩) N cI) RL W) := by
 have HS := Lib.hid h
 have HN := Lib.hid hN
 have HT := Lib.hid hT
 have hw8 := h.ok.w8
 have hn32 : N ≤ 32 := by rw [hN]; exact h.ok.n8
 have hlh := h.x.lh
 have HLOW := Lib.hid hlow
 have hnz : (n : Int) < (N : Int) := by omega
 clear h hT hlow hN
 go_enter Tryd.func21, Tryd.ntmps21
 go_upto_region 1 with (fail)
 have hxV : Ext No W (W.alloc (.cells #[.int .i64 (S.w : Int), .slice (some ⟨gB, 0, none⟩) N cB, .slice (some ⟨gI, 0, none⟩) N cI] 37)) := (Ext.refl _ _).alloc _
 have HBV := Lib.hid (alloc_top (w := W) (o := .cells #[.int .i64 (S.w : Int), .slice (some ⟨gB, 0, none⟩) N cB, .slice (some ⟨gI, 0, none⟩) N cI] 37) rfl)
 have HXV := Lib.hid hxV
 clear hxV
 generalize (W.alloc (.cells #[.int .i64 (S.w : Int), .slice (some ⟨gB, 0, none⟩) N cB, .slice (some ⟨gI, 0, none⟩) N cI] 37)) = V at *
 obtain ⟨bA, hbA⟩ : ∃ bA, bA = W.heap.size := ⟨_, rfl⟩
 rw [← hbA] at HBV ⊢
 have HbA := Lib.hid hbA
 clear hbA
 have qA := cellOf HBV.out
 go_wp2_with fail
 clear qA
 refine (resolve_any S n base lim0 gB cB gI cI N LB RL V HN.out (HS.out.stepNo HXV.out) (HT.out.ext HXV.out) HLOW.out hn).mono ?_
 rintro e1 w1 ⟨rfl, lim1, LB1, RL1, hMW, hx1, hown1⟩
 have hbV := lt_of_block HBV.out
 have hnoA : ¬ OwnB13 (.slice (some ⟨gB, 0, none⟩) N cB) (.slice (some ⟨gI, 0, none⟩) N cI) RL bA := fun e => by have := (HS.out.x.own e).2; have := HbA.out; omega
 have hR0 : RsM W w1 [(bA, #[.int .i64 (S.w : Int), .slice (some ⟨gB, 0, none⟩) N cB, .slice (some ⟨gI, 0, none⟩) N cI], 37)] base lim1 (.slice (some ⟨gB, 0, none⟩) N cB) (.slice (some ⟨gI, 0, none⟩) N cI) RL LB1 RL1 := by
  refine ⟨HXV.out.ofNo.trans hx1.out, hMW.out.x, fun b hb => ?_, fun k hk => (hown1.out k hk).imp id (fun e => Nat.le_trans HXV.out.size e), (HT.out.ext HXV.out).extM hx1.out (fun e => by have := (HS.out.x.own e).1; have := HLOW.out; omega), HLOW.out⟩
  rcases List.mem_cons.1 hb with rfl | hb
  ·exact ⟨hx1.out.blk HBV.out hnoA, fun e => by
    rcases hown1.out _ e with e | e
    ·exact hnoA e
    simp only at e; omega⟩
  cases hb
 have hR1 := Lib.hid hR0
 obtain ⟨R, hRdef⟩ : ∃ R, R = resolveW S n := ⟨_, rfl⟩
 rw [← hRdef] at hMW
 have HRD := Lib.hid hRdef
 have hres := resolve_ok HS.out.ok (n := n) (by rw [← HN.out]; exact hn)
 rw [← hRdef] at hres
 have HRW := Lib.hid hres.2.1
 have HRN := Lib.hid (show N = R.ins.length from by rw [hres.2.2]; exact HN.out)
 have HR8 := Lib.hid hres.1
 have HMX0 := Lib.hid (MixW.start (n := n) hMW.out HRN.out)
 clear hR0 hRdef hres hMW hx1 hown1 hnoA hbV HXV HBV
 have qA := cellOf (show w1.heap[bA]? = some (.cells #[.int .i64 (S.w : Int), .slice (some ⟨gB, 0, none⟩) N cB, .slice (some ⟨gI, 0, none⟩) N cI] 37 (0, 0)) from (hR1.out.bx (bA, #[.int .i64 (S.w : Int), .slice (some ⟨gB, 0, none⟩) N cB, .slice (some ⟨gI, 0, none⟩) N cI], 37) (by simp)).1)
 go_wp2_with fail
 clear qA
 go_loopw [6, 7, 8, 9, 10, 12, 13, 14, 24] (fun _ _ _ _ _ _ _ _ s24 wr => ∃ (t lim : Nat) (LBt : LS) (RLt : RLs), s24 = .int .i64 t ∧ t ≤ N ∧ Hid (RsM W wr [(bA, #[.int .i64 (S.w : Int), .slice (some ⟨gB, 0, none⟩) N cB, .slice (some ⟨gI, 0, none⟩) N cI], 37)] base lim (.slice (some ⟨gB, 0, none⟩) N cB) (.slice (some ⟨gI, 0, none⟩) N cI) RL LBt RLt) ∧ Hid (MixW R n t N LBt RLt)) (fun _ _ _ _ _ _ _ _ s24 _ => N - (intOf s24).toNat)
 case atStart => exact ⟨0, _, _, _, rfl, Nat.zero_le _, hR1, HMX0⟩
 clear hR1 HMX0
 obtain ⟨t, lim, LBt, RLt, rfl, ht, hR, HMX⟩ := hrel
 rename World => wr
 by_cases hlt : t < N
 ·have hlz : (t : Int) < (N : Int) := by omega
  have HKK : Hid (Value.int .i64 ((t : Int) + 1) = .int .i64 ((t + 1 : Nat) : Int)) := Lib.hid (by rw [show ((t + 1 : Nat) : Int) = (t : Int) + 1 from by omega])
  obtain ⟨L0, v0, ⟨htR, hq⟩, hL0⟩ := HMX.out.row hlt
  have HQ := Lib.hid (show ∃ htR : t < RLt.length, RLt[t] = (L0, v0) from ⟨htR, hq⟩)
  rw [mixI_at] at hL0
  have HL0 := Lib.hid hL0
  have har : ArcsW No wr v0 (arcW R t) := by have h9 := hR.out.x.row htR; rw [hq] at h9; exact ⟨L0, h9, hL0⟩
  have HRO := Lib.hid (HR8.out.ok.row t)
  have hmz : (arcW R t).length ≤ 32 := by have := HRO.out.len; have := HRN.out; omega
  obtain ⟨a0, cap, hv0⟩ := har.slice
  obtain ⟨m, hm⟩ : ∃ m, m = (arcW R t).length := ⟨_, rfl⟩
  rw [← hm] at hv0 hmz
  have HM := Lib.hid hm
  subst hv0
  have HAR := Lib.hid har
  have qI : wr.cell? ⟨gI, t, none⟩ = some (.slice a0 m cap) := by have h9 := hR.out.x.cellI HMX.out.lr htR; rw [hq] at h9; exact h9
  have HCI := Lib.hid qI
  have qA := cellOf (show wr.heap[bA]? = some (.cells #[.int .i64 (S.w : Int), .slice (some ⟨gB, 0, none⟩) N cB, .slice (some ⟨gI, 0, none⟩) N cI] 37 (0, 0)) from (hR.out.bx (bA, #[.int .i64 (S.w : Int), .slice (some ⟨gB, 0, none⟩) N cB, .slice (some ⟨gI, 0, none⟩) N cI], 37) (by simp)).1)
  clear hL0 har hm hq htR
  go_wp2_with fail
  clear qA qI
  refine (arc_any n R.w _ (arcW R t) _ HRO.out.trs HAR.out (by rw [← HM.out]; omega)).mono ?_
  rintro e1 w2 ⟨hh, hx2⟩
  have hR2 := Lib.hid (hR.out.stepNo hx2)
  have HX2 := Lib.hid hx2
  clear hR hx2
  by_cases htn : t = n
  ·have HSK := Lib.hid (HMX.out.skip (fun e => e.1 htn))
   subst htn
   rcases hh with ⟨h1, rfl⟩ | ⟨h1, rfl⟩
   ·clear h1
    go_wp2_with fail
    go_roundw
    case rel => exact ⟨t + 1, lim, LBt, RLt, HKK.out, by omega, hR2, HSK⟩
    case measure => simp [intOf]; omega
   clear h1
   go_wp2_with fail
   go_roundw
   case rel => exact ⟨t + 1, lim, LBt, RLt, HKK.out, by omega, hR2, HSK⟩
   case measure => simp [intOf]; omega
  have htnz : ¬ (t : Int) = (n : Int) := by omega
  have htnb : ((t : Int) == (n : Int)) = false := by rw [beq_eq_false_iff_ne]; exact htnz
  rcases hh with ⟨h1, rfl⟩ | ⟨h1, rfl⟩
  ·obtain ⟨i, hi⟩ : ∃ i, i = ixA (arcW R t) n := ⟨_, rfl⟩
   have HI := Lib.hid hi
   rw [← hi] at h1 ⊢
   clear hi
   have HI1 := Lib.hid h1
   have him : i < m := by rw [HM.out]; exact h1
   have hiz : (i : Int) < (m : Int) := by omega
   have hi0 : ¬ (i : Int) < 0 := by omega
   have hwi : IntKind.i64.wrap ((i : Int) + 1) = (i : Int) + 1 := by rw [IntKind.wrap_i64]; omega
   have hLm : L0.length = m := by have h9 := congrArg List.length HL0.out; rw [List.length_map, arcsRow_len, ← HM.out] at h9; exact h9
   have HLM := Lib.hid hLm
   have HOW := Lib.hid (show LOwn kA (HotW (.slice (some ⟨gB, 0, none⟩) N cB) (.slice (some ⟨gI, 0, none⟩) N cI) RLt lim base) w2 base (.slice a0 m cap) L0 from by obtain ⟨htR, hq⟩ := HQ.out; have h9 := hR2.out.x.r _ (List.getElem_mem htR); rw [hq] at h9; exact h9)
   obtain ⟨g, cap', hsh⟩ := own_shape HOW.out.own (by omega)
   simp only [Value.slice.injEq] at hsh
   obtain ⟨rfl, -, rfl⟩ := hsh
   clear hLm
   obtain ⟨⟨mm, f⟩, hmf⟩ : ∃ q : Nat × TrD, q = (arcW R t)[i] := ⟨_, rfl⟩
   obtain ⟨ag, cg, ak, ck, ac, nc, cc, gt, HT1, htw⟩ := HOW.out.arcAt HRO.out.trs HL0.out HI1.out hmf
   obtain ⟨q0, q1, q2, q3, q4, q5⟩ := gt
   have HMF := Lib.hid (show (mm, f) = (arcW R t)[i]'HI1.out from hmf)
   clear hmf h1
   have qA := cellOf (show w2.heap[bA]? = some (.cells #[.int .i64 (S.w : Int), .slice (some ⟨gB, 0, none⟩) N cB, .slice (some ⟨gI, 0, none⟩) N cI] 37 (0, 0)) from (hR2.out.bx (bA, #[.int .i64 (S.w : Int), .slice (some ⟨gB, 0, none⟩) N cB, .slice (some ⟨gI, 0, none⟩) N cI], 37) (by simp)).1)
   have qI := HX2.out.keep HCI.out
   go_upto_region 10 with (fail)
   have hx3 : Ext No w2 (w2.alloc (.cells #[.int .i64 (R.w : Int), .slice ag (nw R.w) cg, .int .i64 (R.w : Int), .slice ak (nw R.w) ck, .slice ac nc cc] 30)) := (Ext.refl _ _).alloc _
   have hR4 := Lib.hid ((hR2.out.stepNo hx3).addBox (alloc_top (w := w2) (o := (.cells #[.int .i64 (R.w : Int), .slice ag (nw R.w) cg, .int .i64 (R.w : Int), .slice ak (nw R.w) ck, .slice ac nc cc] 30)) rfl) hR2.out.x.lh)
   have HXU := Lib.hid (HX2.out.transNo hx3)
   replace HT1 := Lib.hid (HT1.out.extNo hx3)
   replace HOW := Lib.hid (HOW.out.extNo hx3)
   have HgL := Lib.hid (show ((HotW (.slice (some ⟨gB, 0, none⟩) N cB) (.slice (some ⟨gI, 0, none⟩) N cI) RLt lim base) g ∨ g = g) ∧ ((HotW (.slice (some ⟨gB, 0, none⟩) N cB) (.slice (some ⟨gI, 0, none⟩) N cI) RLt lim base) gI ∨ gI = g) ∧ ((HotW (.slice (some ⟨gB, 0, none⟩) N cB) (.slice (some ⟨gI, 0, none⟩) N cI) RLt lim base) gB ∨ gB = g) from ⟨.inr rfl, .inl (.inr (.inr (.inl rfl))), .inl (.inr (.inl rfl))⟩)
   clear hR2 HX2 hx3 q0 q1 q2 q3 q4 q5 qA qI
   generalize (w2.alloc (.cells #[.int .i64 (R.w : Int), .slice ag (nw R.w) cg, .int .i64 (R.w : Int), .slice ak (nw R.w) ck, .slice ac nc cc] 30)) = U at *
   generalize w2.heap.size = bH at *
   have HBU := Lib.hid (show U.heap[bA]? = some (.cells #[.int .i64 (S.w : Int), .slice (some ⟨gB, 0, none⟩) N cB, .slice (some ⟨gI, 0, none⟩) N cI] 37 (0, 0)) from (hR4.out.bx (bA, #[.int .i64 (S.w : Int), .slice (some ⟨gB, 0, none⟩) N cB, .slice (some ⟨gI, 0, none⟩) N cI], 37) (by simp)).1)
   have HOWU := HOW
   have HCIU := Lib.hid (HXU.out.keep HCI.out)
   have HgI0 := Lib.hid (show gI ≠ g from fun e => by
    obtain ⟨htR, hq⟩ := HQ.out
    exact (hR4.out.x.br _ (List.getElem_mem htR) gI (by rw [hq, e]; rfl)).2 rfl)
   have HgI := Lib.hid (show ¬ At g gI from fun e => HgI0.out e)
   have HgA := Lib.hid (show ¬ At g bA from fun e => (hR4.out.bx (bA, #[.int .i64 (S.w : Int), .slice (some ⟨gB, 0, none⟩) N cB, .slice (some ⟨gI, 0, none⟩) N cI], 37) (by simp)).2 (by obtain ⟨htR, hq⟩ := HQ.out; exact .inr (.inr ⟨_, List.getElem_mem htR, by rw [hq, show bA = g from e]; rfl⟩)))
   obtain ⟨m1, hm1⟩ : ∃ m1, m1 = m - 1 := ⟨_, rfl⟩
   have Hm1 := Lib.hid hm1
   clear hm1 HOW
   refine wp_region_heldL [13] (fun w' => Ext (At g) U w') (by kernel_rfl) ?_ (fun hHeld => ?_)
   ·exact (Ext.refl _ _).drew
   have HE := Lib.hid (show Ext No U U.drew from (Ext.refl _ _).drew)
   generalize U.drew = v0 at *
   refine hHs [0] (hHl hHeld ?_)
   clear hHeld
   refine hFn ?_ (fun w => ?_) ?_
   rotate_left
   ·go_simp; (try with_reducible rfl)
   simp only [Act.put, nzA, nzB, nzC]
   refine hHe fun hHeld => ?_
   refine hHs [1] (hHl hHeld ?_)
   clear hHeld
   refine hHn ?_ (fun w hSw => ?_) ?_
   rotate_left
   ·(have q0 := cellOf ((show Ext (At g) U _ from hSw).blk HBU.out HgA.out)); go_simp; (try with_reducible rfl)
   simp only [Act.put, nzA, nzB, nzC]
   refine hHe fun hHeld => ?_
   refine hHs [2, 3] (hHl hHeld ?_)
   clear hHeld
   iterate 2
    refine hFn ?_ (fun w => ?_) ?_
    rotate_left
    ·go_simp; (try with_reducible rfl)
    simp only [Act.put, nzA, nzB, nzC]
   refine hHe fun hHeld => ?_
   refine hHs [4] (hHl hHeld ?_)
   clear hHeld
   refine hHn ?_ (fun w hSw => ?_) ?_
   rotate_left
   ·(have q0 := cellOf ((show Ext (At g) U _ from hSw).blk HBU.out HgA.out)); go_simp; (try with_reducible rfl)
   simp only [Act.put, nzA, nzB, nzC]
   refine hHe fun hHeld => ?_
   refine hHs [5, 6] (hHl hHeld ?_)
   clear hHeld
   iterate 2
    refine hFn ?_ (fun w => ?_) ?_
    rotate_left
    ·go_simp; (try with_reducible rfl)
    simp only [Act.put, nzA, nzB, nzC]
   refine hHe fun hHeld => ?_
   refine hHs [7] (hHl hHeld ?_)
   clear hHeld
   refine hHn ?_ (fun w hSw => ?_) ?_
   rotate_left
   ·(have q0 := (show Ext (At g) U _ from hSw).keepM HCIU.out HgI.out); go_simp; (try with_reducible rfl)
   simp only [Act.put, nzA, nzB, nzC]
   refine hHe fun hHeld => ?_
   refine hHs [8, 9, 10] (hHl hHeld ?_)
   clear hHeld
   iterate 3
    refine hFn ?_ (fun w => ?_) ?_
    rotate_left
    ·go_simp; (try with_reducible rfl)
    simp only [Act.put, nzA, nzB, nzC]
   refine hHe fun hHeld => ?_
   refine heldL_next1 (i := 11) (by kernel_rfl) (NextL.mk rfl rfl (fun K hK => ?_))
   go_simp
   go_at_call 45
   refine (delete_any base g m cap i L0 _ (arcs_oneL HOWU.out.ok) (by have h9 := (HOWU.out.extNo HE.out).own; rw [HLM.out] at h9; exact h9) HLM.out.symm him (by omega)).mono ?_
   rintro e1 vd ⟨rfl, hown, hE5⟩
   rw [← Hm1.out] at hown ⊢
   go_simp
   refine hK.out _ _ ?_ ?_
   ·intro _; exact (HE.out.ofNo (M := At g)).trans hE5.out
   clear hK K hHeld
   intro hHeld
   have hI1 : vd.ownsRow base 34 1 (.slice (some ⟨gI, 0, none⟩) RLt.length cI) RLt.length (RLt.map Prod.snd) := row_keep2 (by have h9 := (hR4.out.stepNo HE.out).x.i; rw [HMX.out.lr] at h9; exact h9) hE5.out (fun k hk e => by rw [show k = g from e] at hk; exact HgI.out (Option.some.inj hk))
   have HI1v := Lib.hid hI1
   clear hI1
   try simp only [Act.put, nzA, nzB, nzC]
   refine hHs [12] (hHl hHeld ?_)
   clear hHeld
   refine hFn ?_ (fun w => ?_) ?_
   rotate_left
   ·go_simp; (try with_reducible rfl)
   simp only [Act.put, nzA, nzB, nzC]
   refine hHe fun hHeld => ?_
   refine heldL_next1 (i := 13) (by kernel_rfl) (NextL.mk rfl rfl (fun K hK => ?_))
   ((have q0 := World.ownsRow.cellAt HI1v.out t (by have := HMX.out.lr; omega)); (have f0 := World.ownsRow.frozenAt HI1v.out t); (rw [List.getElem?_eq_getElem (by rw [List.length_map]; have := HMX.out.lr; omega)] at q0); go_simp; (clear q0 f0))
   refine hK.out _ _ ?_ ?_
   ·exact fun h => absurd h (by decide)
   clear hK K hHeld
   intro hHeld
   have hR5 := Lib.hid (show RsM W (vd.setCell ⟨gI, t, none⟩ (.slice (some ⟨g, 0, none⟩) m1 cap)) [(bH, #[.int .i64 (R.w : Int), .slice ag (nw R.w) cg, .int .i64 (R.w : Int), .slice ak (nw R.w) ck, .slice ac nc cc], 30), (bA, #[.int .i64 (S.w : Int), .slice (some ⟨gB, 0, none⟩) N cB, .slice (some ⟨gI, 0, none⟩) N cI], 37)] base vd.heap.size (.slice (some ⟨gB, 0, none⟩) N cB) (.slice (some ⟨gI, 0, none⟩) N cI) RL LBt (RLt.set t ((L0.eraseIdx i), (.slice (some ⟨g, 0, none⟩) m1 cap))) from by
    obtain ⟨htR, hq⟩ := HQ.out
    exact (hR4.out.stepNo HE.out).putRow HMX.out.lr htR hq (hE5.out.mono (fun k _ e => by rw [show k = g from e]; rfl)) (by
     have h9 := hown.out
     rw [show m1 = (L0.eraseIdx i).length from by rw [List.length_eraseIdx]; have := HLM.out; have := Hm1.out; split <;> omega] at h9
     rw [show m1 = (L0.eraseIdx i).length from by rw [List.length_eraseIdx]; have := HLM.out; have := Hm1.out; split <;> omega]
     exact h9) (fun p hp => kA.mono (kA.ext ((HOWU.out.extNo HE.out).ok p (List.mem_of_mem_eraseIdx hp)) hE5.out (fun k _ e => .inr (by rw [show k = g from e]; rfl))) (fun k hk e => .inl (hot_row (v' := (.slice (some ⟨g, 0, none⟩) m1 cap)) htR hq rfl hk e))) (.inl rfl))
   have HEU := Lib.hid (show Ext (fun k => k = g ∨ k = gI) U (vd.setCell ⟨gI, t, none⟩ (.slice (some ⟨g, 0, none⟩) m1 cap)) from (HE.out.ofNo.trans (hE5.out.mono (fun k _ e => .inl e))).trans (((Ext.refl (At gI) vd).setAt t (.slice (some ⟨g, 0, none⟩) m1 cap)).mono (fun k _ e => .inr e)))
   have HTH := Lib.hid (HT1.out.ext HEU.out (fun k _ e => by rcases e with rfl | rfl; exact HgL.out.1; exact HgL.out.2.1))
   have HLIM := Lib.hid (show lim ≤ ((vd.setCell ⟨gI, t, none⟩ (.slice (some ⟨g, 0, none⟩) m1 cap))).heap.size from Nat.le_trans hR4.out.x.lh HEU.out.size)
   clear hR4 HOWU HCIU HBU HE hE5 hown HI1v HEU HT1
   generalize (vd.setCell ⟨gI, t, none⟩ (.slice (some ⟨g, 0, none⟩) m1 cap)) = U2 at *
   generalize vd.heap.size = lim2 at *
   try simp only [Act.put, nzA, nzB, nzC]
   refine heldL_done (by kernel_rfl) ?_ _
   skip
   go_upto_region 11 with (fail)
   have HBU := Lib.hid (show U2.heap[bA]? = some (.cells #[.int .i64 (S.w : Int), .slice (some ⟨gB, 0, none⟩) N cB, .slice (some ⟨gI, 0, none⟩) N cI] 37 (0, 0)) from (hR5.out.bx (bA, #[.int .i64 (S.w : Int), .slice (some ⟨gB, 0, none⟩) N cB, .slice (some ⟨gI, 0, none⟩) N cI], 37) (by simp)).1)
   have HBT := Lib.hid (show U2.heap[bH]? = some (.cells #[.int .i64 (R.w : Int), .slice ag (nw R.w) cg, .int .i64 (R.w : Int), .slice ak (nw R.w) ck, .slice ac nc cc] 30 (0, 0)) from (hR5.out.bx (bH, #[.int .i64 (R.w : Int), .slice ag (nw R.w) cg, .int .i64 (R.w : Int), .slice ak (nw R.w) ck, .slice ac nc cc], 30) (by simp)).1)
   obtain ⟨vn, hnB, hqB⟩ := HMX.out.set hn
   rw [mixB_self] at hqB
   have hsn : SetAt No U2 vn R.w (rowD R.bnd n) := hR5.out.x.setAt13 hnB hqB HR8.out.ok.w (HR8.out.ok.bn n)
   obtain ⟨an, cn, rfl⟩ := hsn.slice
   have HSN := Lib.hid hsn
   have HQN := Lib.hid (show U2.cell? ⟨gB, n * 2, none⟩ = some (.int .i64 (R.w : Int)) ∧ U2.cell? ⟨gB, n * 2 + 1, none⟩ = some (.slice an (nw R.w) cn) from by
    have h9 := hR5.out.x.cellB HMX.out.lb hnB
    rw [hqB] at h9
    exact h9)
   clear hsn hqB hnB
   go_cut [9, 10] (fun s9 s10 wx => ∃ (gV : Nat) (a6 : Option Addr) (c6 : Nat), s9 = .pointer (some ⟨gV, 0, none⟩) ∧ s10 = .int .i64 0 ∧ Hid (Ext No U2 wx) ∧ Hid (wx.heap[gV]? = some (.cells #[.int .i64 (R.w : Int), .slice a6 (nw R.w) c6] 24 (0, 0))) ∧ Hid (SetAt No wx (.slice a6 (nw R.w) c6) R.w (applyT f (rowD R.bnd n))) ∧ U2.heap.size ≤ gV)
   case first =>
    refine wp_region_held_drew (S := (fun w' => Ext No U2 w')) (by kernel_rfl) ?_ (fun hHeld => ?_)
    ·exact (Ext.refl _ _).drew
    generalize U2.drew = v0 at *
    refine hHs [0, 1] ?_
    iterate 2
     refine hTn ?_ hHeld (fun w hSw => ?_) ?_
     rotate_left
     ·(have q0 := cellOf ((show Ext No U2 _ from hSw).blk HBT.out no_no)); go_simp; (try with_reducible rfl)
     simp only [Act.put, nzA, nzB, nzC]
    refine hHe ?_
    refine hHs [2, 3, 4] ?_
    iterate 3
     refine hTn ?_ hHeld (fun w hSw => ?_) ?_
     rotate_left
     ·(have q0 := cellOf ((show Ext No U2 _ from hSw).blk HBU.out no_no)); go_simp; (try with_reducible rfl)
     simp only [Act.put, nzA, nzB, nzC]
    refine hHe ?_
    refine hTk 5 ?_ hHeld (fun w hSw => ?_) ?_
    rotate_left
    ·(obtain ⟨p0, p1⟩ := HQN.out); (have x0 := (show Ext No U2 _ from hSw).keep p0); (have x1 := (show Ext No U2 _ from hSw).keep p1); go_simp; (try with_reducible rfl)
    simp only [Act.put, nzA, nzB, nzC]
    refine held_next2 (i := 6) (j := 10) (by kernel_rfl) (NextOp.mk rfl rfl (fun K hK => ?_)) (NextOp.mk rfl rfl (fun K hK => ?_))
    ·(go_simp; (go_at_call 35); (have hSz := Lib.hid (show Ext No U2 _ from hHeld)); (refine (Apply_w (Lo v0.heap.size) f R.w (rowD R.bnd n) _ _ _ _ _ htw.out (fun b e => e) (HTH.out.no.extNo (show Ext No U2 _ from hHeld)) (HSN.out.extNo (show Ext No U2 _ from hHeld))).mono ?_); (rintro e0 v1 ⟨a6, c6, rfl, hS, hyA⟩); go_simp)
     refine hK.out _ _ ?_ ?_
     ·exact Ext.transNo (show Ext No U2 _ from hHeld) hyA
     clear hK K hHeld
     intro hHeld
     have hSV := hSz.out.size
     replace hS := Lib.hid (hS.out.mono (M' := Lo U2.heap.size) (fun i _ e => Nat.lt_of_lt_of_le e hSV))
     clear hyA hSz hSV
     try simp only [Act.put, nzA, nzB, nzC]
     refine hHs [7, 8, 9] ?_
     iterate 3
      refine hTn ?_ hHeld (fun w hSw => ?_) ?_
      rotate_left
      ·go_simp; (try with_reducible rfl)
      simp only [Act.put, nzA, nzB, nzC]
     refine hHe ?_
     refine hHc 10 fun K hK => ?_
     ((have wE := Lib.hid (show Ext No U2 _ from hHeld).size); go_simp)
     refine hK.out _ _ ?_ ?_
     ·exact Ext.alloc (show Ext No U2 _ from hHeld) _
     clear hK K hHeld
     intro hHeld
     have hE := Lib.hid (alloc_top (w := v1) (o := (.cells #[.int .i64 0, .slice none 0 0] 24)) rfl)
     replace hS := Lib.hid ((hS.out.mono (M' := fun b => Lo U2.heap.size b ∨ b = v1.heap.size) (fun i hi e => e.elim id (fun e => absurd hi (by rw [e]; exact Nat.lt_irrefl _)))).extNo ((Ext.refl No v1).alloc (.cells #[.int .i64 0, .slice none 0 0] 24)))
     generalize (v1.alloc (.cells #[.int .i64 0, .slice none 0 0] 24)) = v2 at *
     generalize v1.heap.size = gV at *
     try simp only [Act.put, nzA, nzB, nzC]
     refine hHc 11 fun K hK => ?_
     ((have cS := cellOf hE.out); (have fS := freeOf hE.out); go_simp; (clear cS fS))
     refine hK.out _ _ ?_ ?_
     ·exact ext2 (show Ext No U2 _ from hHeld) wE.out
     clear hK K hHeld
     intro hHeld
     try simp only [Act.put, nzA, nzB, nzC]
     refine hTk 12 ?_ hHeld (fun w hSw => ?_) ?_
     rotate_left
     ·go_simp; (try with_reducible rfl)
     simp only [Act.put, nzA, nzB, nzC]
     refine wpAnyH_done (by kernel_rfl) ?_ _
     have hEx : Ext No U2 _ := hHeld
     go_wp2_with fail
     go_meet
     exact ⟨gV, a6, c6, rfl, rfl, Lib.hid hEx, Lib.hid ((set_same (j := 1) (set_same (j := 0) hE.out)).trans rfl), Lib.hid ((hS.out.ext (((Ext.refl (At gV) v2).setAt 0 _).setAt 1 _) (fun i _ e => .inr e)).mono (fun i _ e => e.elim)), wE.out⟩
    ((have wE := Lib.hid (show Ext No U2 _ from hHeld).size); go_simp)
    refine hK.out _ _ ?_ ?_
    ·exact Ext.alloc (show Ext No U2 _ from hHeld) _
    clear hK K hHeld
    intro hHeld
    have hE := Lib.hid (alloc_top (w := v0) (o := (.cells #[.int .i64 0, .slice none 0 0] 24)) rfl)
    generalize (v0.alloc (.cells #[.int .i64 0, .slice none 0 0] 24)) = v1 at *
    generalize v0.heap.size = gV at *
    try simp only [Act.put, nzA, nzB, nzC]
    refine hHc 6 fun K hK => ?_
    (go_simp; (go_at_call 35); (have hSz := Lib.hid (show Ext No U2 _ from hHeld)); (refine (Apply_w (Lo v1.heap.size) f R.w (rowD R.bnd n) _ _ _ _ _ htw.out (fun b e => e) (HTH.out.no.extNo (show Ext No U2 _ from hHeld)) (HSN.out.extNo (show Ext No U2 _ from hHeld))).mono ?_); (rintro e0 v2 ⟨a6, c6, rfl, hS, hyA⟩); go_simp)
    refine hK.out _ _ ?_ ?_
    ·exact Ext.transNo (show Ext No U2 _ from hHeld) hyA
    clear hK K hHeld
    intro hHeld
    have hSV := hSz.out.size
    replace hS := Lib.hid (hS.out.mono (M' := fun b => Lo U2.heap.size b ∨ b = gV) (fun i _ e => e.elim (fun e => Nat.lt_of_lt_of_le e hSV) (fun e => (by rw [e]; exact lt_of_block hE.out))))
    replace hE := Lib.hid (hyA.blk hE.out no_no)
    clear hyA hSz hSV
    try simp only [Act.put, nzA, nzB, nzC]
    refine hHs [7, 8, 9] ?_
    iterate 3
     refine hTn ?_ hHeld (fun w hSw => ?_) ?_
     rotate_left
     ·go_simp; (try with_reducible rfl)
     simp only [Act.put, nzA, nzB, nzC]
    refine hHe ?_
    refine hHc 11 fun K hK => ?_
    ((have cS := cellOf hE.out); (have fS := freeOf hE.out); go_simp; (clear cS fS))
    refine hK.out _ _ ?_ ?_
    ·exact ext2 (show Ext No U2 _ from hHeld) wE.out
    clear hK K hHeld
    intro hHeld
    try simp only [Act.put, nzA, nzB, nzC]
    refine hTk 12 ?_ hHeld (fun w hSw => ?_) ?_
    rotate_left
    ·go_simp; (try with_reducible rfl)
    simp only [Act.put, nzA, nzB, nzC]
    refine wpAnyH_done (by kernel_rfl) ?_ _
    have hEx : Ext No U2 _ := hHeld
    go_wp2_with fail
    go_meet
    exact ⟨gV, a6, c6, rfl, rfl, Lib.hid hEx, Lib.hid ((set_same (j := 1) (set_same (j := 0) hE.out)).trans rfl), Lib.hid ((hS.out.ext (((Ext.refl (At gV) v2).setAt 0 _).setAt 1 _) (fun i _ e => .inr e)).mono (fun i _ e => e.elim)), wE.out⟩
   case rest =>
   obtain ⟨gV, a6, c6, rfl, rfl, hx6, hE6, hS6, wE6⟩ := hcut
   rename World => wx
   have hR6 := Lib.hid ((hR5.out.stepNo hx6.out).addBox (T := 24) (cs := #[.int .i64 (R.w : Int), .slice a6 (nw R.w) c6]) hE6.out (Nat.le_trans hR5.out.x.lh wE6))
   replace HTH := Lib.hid (HTH.out.extNo hx6.out)
   replace HLIM := Lib.hid (Nat.le_trans HLIM.out hx6.out.size)
   clear hR5 hx6 hE6 wE6 HBU HBT HSN HQN
   have HBU := Lib.hid (show wx.heap[bA]? = some (.cells #[.int .i64 (S.w : Int), .slice (some ⟨gB, 0, none⟩) N cB, .slice (some ⟨gI, 0, none⟩) N cI] 37 (0, 0)) from (hR6.out.bx (bA, #[.int .i64 (S.w : Int), .slice (some ⟨gB, 0, none⟩) N cB, .slice (some ⟨gI, 0, none⟩) N cI], 37) (by simp)).1)
   have HBVx := Lib.hid (show wx.heap[gV]? = some (.cells #[.int .i64 (R.w : Int), .slice a6 (nw R.w) c6] 24 (0, 0)) from (hR6.out.bx (gV, #[.int .i64 (R.w : Int), .slice a6 (nw R.w) c6], 24) (by simp)).1)
   obtain ⟨vt, htB, hqB⟩ := HMX.out.set hlt
   rw [mixB_at] at hqB
   have hst : SetAt No wx vt R.w (rowD R.bnd t) := hR6.out.x.setAt13 htB hqB HR8.out.ok.w (HR8.out.ok.bn t)
   obtain ⟨an, cn, rfl⟩ := hst.slice
   have HST := Lib.hid hst
   have HQT := Lib.hid (show wx.cell? ⟨gB, t * 2, none⟩ = some (.int .i64 (R.w : Int)) ∧ wx.cell? ⟨gB, t * 2 + 1, none⟩ = some (.slice an (nw R.w) cn) from by
    have h9 := hR6.out.x.cellB HMX.out.lb htB
    rw [hqB] at h9
    exact h9)
   clear hst hqB htB
   go_upto_region 12 with (fail)
   refine wp_region_heldL [14] (fun w' => Ext No wx w') (by kernel_rfl) ?_ (fun hHeld => ?_)
   ·exact (Ext.refl _ _).drew
   have HE := Lib.hid (show Ext No wx wx.drew from (Ext.refl _ _).drew)
   generalize wx.drew = v0 at *
   refine hHs [0] (hHl hHeld ?_)
   clear hHeld
   refine hFn ?_ (fun w => ?_) ?_
   rotate_left
   ·go_simp; (try with_reducible rfl)
   simp only [Act.put, nzA, nzB, nzC]
   refine hHe fun hHeld => ?_
   refine hHs [1] (hHl hHeld ?_)
   clear hHeld
   refine hHn ?_ (fun w hSw => ?_) ?_
   rotate_left
   ·(have q0 := cellOf ((show Ext No wx _ from hSw).blk HBU.out no_no)); go_simp; (try with_reducible rfl)
   simp only [Act.put, nzA, nzB, nzC]
   refine hHe fun hHeld => ?_
   refine hHs [2, 3] (hHl hHeld ?_)
   clear hHeld
   iterate 2
    refine hFn ?_ (fun w => ?_) ?_
    rotate_left
    ·go_simp; (try with_reducible rfl)
    simp only [Act.put, nzA, nzB, nzC]
   refine hHe fun hHeld => ?_
   refine hHs [4] (hHl hHeld ?_)
   clear hHeld
   refine hHn ?_ (fun w hSw => ?_) ?_
   rotate_left
   ·(have q0 := cellOf ((show Ext No wx _ from hSw).blk HBU.out no_no)); go_simp; (try with_reducible rfl)
   simp only [Act.put, nzA, nzB, nzC]
   refine hHe fun hHeld => ?_
   refine hHs [5, 6] (hHl hHeld ?_)
   clear hHeld
   iterate 2
    refine hFn ?_ (fun w => ?_) ?_
    rotate_left
    ·go_simp; (try with_reducible rfl)
    simp only [Act.put, nzA, nzB, nzC]
   refine hHe fun hHeld => ?_
   refine hHs [7] (hHl hHeld ?_)
   clear hHeld
   refine hHn ?_ (fun w hSw => ?_) ?_
   rotate_left
   ·(obtain ⟨p0, p1⟩ := HQT.out); (have q0 := (show Ext No wx _ from hSw).keep p0); (have q1 := (show Ext No wx _ from hSw).keep p1); go_simp; (try with_reducible rfl)
   simp only [Act.put, nzA, nzB, nzC]
   refine hHe fun hHeld => ?_
   refine hHs [8] (hHl hHeld ?_)
   clear hHeld
   refine hHn ?_ (fun w hSw => ?_) ?_
   rotate_left
   ·(have q0 := cellOf ((show Ext No wx _ from hSw).blk HBVx.out no_no)); go_simp; (try with_reducible rfl)
   simp only [Act.put, nzA, nzB, nzC]
   refine hHe fun hHeld => ?_
   refine heldL_next1 (i := 9) (by kernel_rfl) (NextL.mk rfl rfl (fun K hK => ?_))
   go_simp
   go_at_call 34
   refine (union_any (Lo v0.heap.size) R.w (rowD R.bnd t) (applyT f (rowD R.bnd n)) _ _ _ (fun b e => e) (HST.out.extNo HE.out) (hS6.out.extNo HE.out)).mono ?_
   rintro e0 va ⟨a7, c7, rfl, hs7, hyA⟩
   go_simp
   refine hK.out _ _ ?_ ?_
   ·intro _; exact HE.out.transNo hyA
   clear hK K hHeld
   intro hHeld
   have hR7 := Lib.hid ((hR6.out.stepNo (HE.out.transNo hyA)).top)
   have hw7 := Lib.hid (hs7.out.words.mono (M' := HotW (.slice (some ⟨gB, 0, none⟩) N cB) (.slice (some ⟨gI, 0, none⟩) N cI) (RLt.set t ((L0.eraseIdx i), (.slice (some ⟨g, 0, none⟩) m1 cap))) va.heap.size base) (fun k hk e => (hR6.out.stepNo HE.out).x.clear hk e))
   replace HE := Lib.hid (HE.out.transNo hyA)
   clear hyA
   try simp only [Act.put, nzA, nzB, nzC]
   refine hHs [10, 11, 12, 13] (hHl hHeld ?_)
   clear hHeld
   iterate 4
    refine hFn ?_ (fun w => ?_) ?_
    rotate_left
    ·go_simp; (try with_reducible rfl)
    simp only [Act.put, nzA, nzB, nzC]
   refine hHe fun hHeld => ?_
   refine heldL_next1 (i := 14) (by kernel_rfl) (NextL.mk rfl rfl (fun K hK => ?_))
   ((obtain ⟨q0, q1⟩ := hR7.out.x.cellB HMX.out.lb (t := t) (by have := HMX.out.lb; omega)); (have f0 := hR7.out.x.frzB HMX.out.lb (t * 2)); (have f1 := hR7.out.x.frzB HMX.out.lb (t * 2 + 1)); go_simp; (clear q0 q1 f0 f1))
   refine hK.out _ _ ?_ ?_
   ·exact fun h => absurd h (by decide)
   clear hK K hHeld
   intro hHeld
   have hR8 := Lib.hid (show RsM W ((va.setCell ⟨gB, t * 2, none⟩ (.int .i64 (R.w : Int))).setCell ⟨gB, t * 2 + 1, none⟩ (.slice a7 (nw R.w) c7)) [(gV, #[.int .i64 (R.w : Int), .slice a6 (nw R.w) c6], 24), (bH, #[.int .i64 (R.w : Int), .slice ag (nw R.w) cg, .int .i64 (R.w : Int), .slice ak (nw R.w) ck, .slice ac nc cc], 30), (bA, #[.int .i64 (S.w : Int), .slice (some ⟨gB, 0, none⟩) N cB, .slice (some ⟨gI, 0, none⟩) N cI], 37)] base va.heap.size (.slice (some ⟨gB, 0, none⟩) N cB) (.slice (some ⟨gI, 0, none⟩) N cI) RL (LBt.set t (setN R.w (orN (rowD R.bnd t) (applyT f (rowD R.bnd n))), .slice a7 (nw R.w) c7)) (RLt.set t ((L0.eraseIdx i), (.slice (some ⟨g, 0, none⟩) m1 cap))) from hR7.out.putB (p := (setN R.w (orN (rowD R.bnd t) (applyT f (rowD R.bnd n))), .slice a7 (nw R.w) c7)) HMX.out.lb (by have := HMX.out.lb; omega) hw7.out)
   replace HTH := Lib.hid ((HTH.out.extNo HE.out).ext (show Ext (At gB) va ((va.setCell ⟨gB, t * 2, none⟩ (.int .i64 (R.w : Int))).setCell ⟨gB, t * 2 + 1, none⟩ (.slice a7 (nw R.w) c7)) from ((Ext.refl _ _).setAt _ _).setAt _ _) (fun k _ e => by rw [show k = gB from e]; exact HgL.out.2.2))
   replace HLIM := Lib.hid (show lim ≤ (((va.setCell ⟨gB, t * 2, none⟩ (.int .i64 (R.w : Int))).setCell ⟨gB, t * 2 + 1, none⟩ (.slice a7 (nw R.w) c7))).heap.size from Nat.le_trans HLIM.out (Nat.le_trans HE.out.size (show Ext (At gB) va ((va.setCell ⟨gB, t * 2, none⟩ (.int .i64 (R.w : Int))).setCell ⟨gB, t * 2 + 1, none⟩ (.slice a7 (nw R.w) c7)) from ((Ext.refl _ _).setAt _ _).setAt _ _).size))
   clear hR6 hR7 hw7 hs7 HST HQT HBU HBVx hS6 HE
   generalize ((va.setCell ⟨gB, t * 2, none⟩ (.int .i64 (R.w : Int))).setCell ⟨gB, t * 2 + 1, none⟩ (.slice a7 (nw R.w) c7)) = U3 at *
   generalize va.heap.size = lim3 at *
   try simp only [Act.put, nzA, nzB, nzC]
   refine heldL_done (by kernel_rfl) ?_ _
   skip
   go_upto_region 13 with (fail)
   obtain ⟨LB3, hLB3⟩ : ∃ LB3, LB3 = LBt.set t (setN R.w (orN (rowD R.bnd t) (applyT f (rowD R.bnd n))), .slice a7 (nw R.w) c7) := ⟨_, rfl⟩
   rw [← hLB3] at hR8
   have HLB3 := Lib.hid hLB3
   clear hLB3
   obtain ⟨E, hE0⟩ : ∃ E, E = (arcW R t).eraseIdx i := ⟨_, rfl⟩
   have HEO := Lib.hid (show RowOkA R.w R.ins.length E from by rw [hE0]; exact HRO.out.erase)
   have HE0 := Lib.hid hE0
   clear hE0
   obtain ⟨Ln, vn, ⟨hnR, hqn⟩, hLn⟩ := HMX.out.row hn
   rw [mixI_self] at hLn
   have HRn := Lib.hid (show ∀ q : LA × Value, ∃ h : n < (RLt.set t q).length, (RLt.set t q)[n] = (Ln, vn) from fun q => ⟨by rw [List.length_set]; exact hnR, by rw [List.getElem_set_ne htn]; exact hqn⟩)
   have HARn := Lib.hid (show ∀ wq lq LBq q, RsM W wq [(gV, #[.int .i64 (R.w : Int), .slice a6 (nw R.w) c6], 24), (bH, #[.int .i64 (R.w : Int), .slice ag (nw R.w) cg, .int .i64 (R.w : Int), .slice ak (nw R.w) ck, .slice ac nc cc], 30), (bA, #[.int .i64 (S.w : Int), .slice (some ⟨gB, 0, none⟩) N cB, .slice (some ⟨gI, 0, none⟩) N cI], 37)] base lq (.slice (some ⟨gB, 0, none⟩) N cB) (.slice (some ⟨gI, 0, none⟩) N cI) RL LBq (RLt.set t q) → ArcsW No wq vn (arcW R n) from fun wq lq LBq q h => by
    obtain ⟨h1, h2⟩ := HRn.out q
    have h9 := h.x.row h1
    rw [h2] at h9
    exact ⟨Ln, h9, hLn⟩)
   have HCIn := Lib.hid (show ∀ wq lq LBq q, RsM W wq [(gV, #[.int .i64 (R.w : Int), .slice a6 (nw R.w) c6], 24), (bH, #[.int .i64 (R.w : Int), .slice ag (nw R.w) cg, .int .i64 (R.w : Int), .slice ak (nw R.w) ck, .slice ac nc cc], 30), (bA, #[.int .i64 (S.w : Int), .slice (some ⟨gB, 0, none⟩) N cB, .slice (some ⟨gI, 0, none⟩) N cI], 37)] base lq (.slice (some ⟨gB, 0, none⟩) N cB) (.slice (some ⟨gI, 0, none⟩) N cI) RL LBq (RLt.set t q) → wq.cell? ⟨gI, n, none⟩ = some vn from fun wq lq LBq q h => by
    obtain ⟨h1, h2⟩ := HRn.out q
    have h9 := h.x.cellI (by rw [List.length_set]; exact HMX.out.lr) h1
    rw [h2] at h9
    exact h9)
   obtain ⟨an, cn, hvn⟩ := (HARn.out _ _ _ _ hR8.out).slice
   obtain ⟨mn, hmn⟩ : ∃ mn, mn = (arcW R n).length := ⟨_, rfl⟩
   rw [← hmn] at hvn
   have HMN := Lib.hid hmn
   have hmn32 : mn ≤ 32 := by have := (HR8.out.ok.row n).len; have := HRN.out; omega
   subst hvn
   clear hnR hqn hLn hmn
   have qA := cellOf (show U3.heap[bA]? = some (.cells #[.int .i64 (S.w : Int), .slice (some ⟨gB, 0, none⟩) N cB, .slice (some ⟨gI, 0, none⟩) N cI] 37 (0, 0)) from (hR8.out.bx (bA, #[.int .i64 (S.w : Int), .slice (some ⟨gB, 0, none⟩) N cB, .slice (some ⟨gI, 0, none⟩) N cI], 37) (by simp)).1)
   have qI := HCIn.out _ _ _ _ hR8.out
   go_wp2_with fail
   clear qA qI
   go_loopw [12, 13, 14, 93] (fun _ _ _ s93 wy => ∃ (k limk : Nat) (L : LA) (v : Value), s93 = .int .i64 k ∧ k ≤ mn ∧ Hid (RsM W wy [(gV, #[.int .i64 (R.w : Int), .slice a6 (nw R.w) c6], 24), (bH, #[.int .i64 (R.w : Int), .slice ag (nw R.w) cg, .int .i64 (R.w : Int), .slice ak (nw R.w) ck, .slice ac nc cc], 30), (bA, #[.int .i64 (S.w : Int), .slice (some ⟨gB, 0, none⟩) N cB, .slice (some ⟨gI, 0, none⟩) N cI], 37)] base limk (.slice (some ⟨gB, 0, none⟩) N cB) (.slice (some ⟨gI, 0, none⟩) N cI) RL LB3 (RLt.set t (L, v))) ∧ Hid (L.map cutA = arcsRow (elimRow ((arcW R n).take k) f E)) ∧ Hid (TrAt (fun b => (HotW (.slice (some ⟨gB, 0, none⟩) N cB) (.slice (some ⟨gI, 0, none⟩) N cI) RLt lim base) b ∨ b = g) wy (.slice ag (nw R.w) cg) (.slice ak (nw R.w) ck) (.slice ac nc cc) f) ∧ Hid (∀ b, v.ownBlock = some b → (HotW (.slice (some ⟨gB, 0, none⟩) N cB) (.slice (some ⟨gI, 0, none⟩) N cI) RLt lim base) b ∨ b = g) ∧ Hid (lim ≤ wy.heap.size)) (fun _ _ _ s93 _ => mn - (intOf s93).toNat)
   case atStart => exact ⟨0, _, _, _, rfl, Nat.zero_le _, hR8, Lib.hid (by
    rw [List.take_zero, elimRow, List.foldl_nil, HE0.out, arcsRow, List.eraseIdx_eq_take_drop_succ, List.eraseIdx_eq_take_drop_succ, List.map_append, List.map_append, List.map_take, List.map_drop, HL0.out, arcsRow, List.map_take, List.map_drop]), HTH, Lib.hid (fun b e => .inr (Option.some.inj e).symm), HLIM⟩
   clear hR8 HTH HLIM
   obtain ⟨k, limk, L, v, rfl, hk, hRk, HLk, HTH, HVk, HLIM⟩ := hrel
   rename World => wy
   by_cases hlt2 : k < mn
   ·have hkz : (k : Int) < (mn : Int) := by omega
    have HKI : Hid (Value.int .i64 ((k : Int) + 1) = .int .i64 ((k + 1 : Nat) : Int)) := Lib.hid (by rw [show ((k + 1 : Nat) : Int) = (k : Int) + 1 from by omega])
    have HKL := Lib.hid (show k < (arcW R n).length from by rw [← HMN.out]; exact hlt2)
    obtain ⟨⟨mk, fk⟩, hmk⟩ : ∃ q : Nat × TrD, q = (arcW R n)[k]'HKL.out := ⟨_, rfl⟩
    have HMK := Lib.hid (show (mk, fk) = (arcW R n)[k]'HKL.out from hmk)
    obtain ⟨b, off, cap', ag2, cg2, ak2, ck2, ac2, nc2, cc2, hsl, gt, HTk, hfk⟩ := ArcsW.at (HR8.out.ok.row n).trs (HARn.out _ _ _ _ hRk.out) HKL.out hmk
    rw [← HMN.out] at hsl
    simp only [Value.slice.injEq] at hsl
    obtain ⟨rfl, -, rfl⟩ := hsl
    obtain ⟨q0, q1, q2, q3, q4, q5⟩ := gt
    clear hmk
    go_upto_region 16 with (fail)
    clear q0 q1 q2 q3 q4 q5
    have hx9 : Ext No wy (wy.alloc (.cells #[.int .i64 (mk : Int), .int .i64 (R.w : Int), .slice ag2 (nw R.w) cg2, .int .i64 (R.w : Int), .slice ak2 (nw R.w) ck2, .slice ac2 nc2 cc2] 33)) := (Ext.refl _ _).alloc _
    have hRa := Lib.hid ((hRk.out.stepNo hx9).addBox (alloc_top (w := wy) (o := (.cells #[.int .i64 (mk : Int), .int .i64 (R.w : Int), .slice ag2 (nw R.w) cg2, .int .i64 (R.w : Int), .slice ak2 (nw R.w) ck2, .slice ac2 nc2 cc2] 33)) rfl) hRk.out.x.lh)
    replace HTk := Lib.hid (HTk.out.extNo hx9)
    replace HTH := Lib.hid (HTH.out.extNo hx9)
    replace HLIM := Lib.hid (Nat.le_trans HLIM.out hx9.size)
    clear hRk hx9
    generalize (wy.alloc (.cells #[.int .i64 (mk : Int), .int .i64 (R.w : Int), .slice ag2 (nw R.w) cg2, .int .i64 (R.w : Int), .slice ak2 (nw R.w) ck2, .slice ac2 nc2 cc2] 33)) = Y at *
    generalize wy.heap.size = bK at *
    have HBK := Lib.hid (show Y.heap[bK]? = some (.cells #[.int .i64 (mk : Int), .int .i64 (R.w : Int), .slice ag2 (nw R.w) cg2, .int .i64 (R.w : Int), .slice ak2 (nw R.w) ck2, .slice ac2 nc2 cc2] 33 (0, 0)) from (hRa.out.bx (bK, #[.int .i64 (mk : Int), .int .i64 (R.w : Int), .slice ag2 (nw R.w) cg2, .int .i64 (R.w : Int), .slice ak2 (nw R.w) ck2, .slice ac2 nc2 cc2], 33) (by simp)).1)
    have HBH := Lib.hid (show Y.heap[bH]? = some (.cells #[.int .i64 (R.w : Int), .slice ag (nw R.w) cg, .int .i64 (R.w : Int), .slice ak (nw R.w) ck, .slice ac nc cc] 30 (0, 0)) from (hRa.out.bx (bH, #[.int .i64 (R.w : Int), .slice ag (nw R.w) cg, .int .i64 (R.w : Int), .slice ak (nw R.w) ck, .slice ac nc cc], 30) (by simp)).1)
    have qA := cellOf HBK.out
    have qH := cellOf HBH.out
    go_wp2_with fail
    clear qA qH
    refine (comp8M (Lo Y.heap.size) fk f R.w _ _ _ _ _ _ _ hfk.out htw.out (fun b e => e) HR8.out.w8 hRa.out.tab HTk.out HTH.out.no).mono ?_
    rintro e0 wz ⟨d1, e1, d2, e2, d3, n3, e3, rfl, hS9, hx9⟩
    go_upto_region 18 with (fail)
    have hx10 : Ext No Y (wz.alloc (.cells #[.int .i64 (R.w : Int), .slice d1 (nw R.w) e1, .int .i64 (R.w : Int), .slice d2 (nw R.w) e2, .slice d3 n3 e3] 30)) := hx9.alloc _
    have hRb := Lib.hid (((hRa.out.stepNo hx10).addBox (T := 30) (cs := #[.int .i64 (R.w : Int), .slice d1 (nw R.w) e1, .int .i64 (R.w : Int), .slice d2 (nw R.w) e2, .slice d3 n3 e3]) (alloc_top (w := wz) (o := (.cells #[.int .i64 (R.w : Int), .slice d1 (nw R.w) e1, .int .i64 (R.w : Int), .slice d2 (nw R.w) e2, .slice d3 n3 e3] 30)) rfl) (Nat.le_trans hRa.out.x.lh hx9.size)).top)
    have hCok := Lib.hid (show TrOk (compT fk f) ∧ (compT fk f).w = R.w from comp_ok HR8.out.w8 ⟨by rw [show fk = ((arcW R n)[k]'HKL.out).2 from congrArg Prod.snd HMK.out]; exact ((HR8.out.ok.row n).trs _ (List.getElem_mem _)).1, hfk.out⟩ ⟨by rw [show f = ((arcW R t)[i]'HI1.out).2 from congrArg Prod.snd HMF.out]; exact (HRO.out.trs _ (List.getElem_mem _)).1, htw.out⟩)
    have hS10 := Lib.hid (show TrAt (fun b => HotW (.slice (some ⟨gB, 0, none⟩) N cB) (.slice (some ⟨gI, 0, none⟩) N cI) (RLt.set t (L, v)) (wz.alloc (.cells #[.int .i64 (R.w : Int), .slice d1 (nw R.w) e1, .int .i64 (R.w : Int), .slice d2 (nw R.w) e2, .slice d3 n3 e3] 30)).heap.size base b ∨ v.ownBlock = some b) (wz.alloc (.cells #[.int .i64 (R.w : Int), .slice d1 (nw R.w) e1, .int .i64 (R.w : Int), .slice d2 (nw R.w) e2, .slice d3 n3 e3] 30)) (.slice d1 (nw R.w) e1) (.slice d2 (nw R.w) e2) (.slice d3 n3 e3) (compT fk f) from (hS9.out.extNo ((Ext.refl _ _).alloc _)).mono (fun b hb e => hRa.out.x.clear hb (e.elim id (fun e => .inr (.inr (.inr (.inl ⟨(L, v), mem_set13 (by have := HMX.out.lr; omega), e⟩)))))))
    replace HTH := Lib.hid (HTH.out.extNo hx10)
    replace HLIM := Lib.hid (Nat.le_trans HLIM.out hx10.size)
    clear hRa hS9 hx9 hx10 HTk HBK HBH
    generalize (wz.alloc (.cells #[.int .i64 (R.w : Int), .slice d1 (nw R.w) e1, .int .i64 (R.w : Int), .slice d2 (nw R.w) e2, .slice d3 n3 e3] 30)) = wv at *
    generalize wz.heap.size = bF at *
    have HBU := Lib.hid (show wv.heap[bA]? = some (.cells #[.int .i64 (S.w : Int), .slice (some ⟨gB, 0, none⟩) N cB, .slice (some ⟨gI, 0, none⟩) N cI] 37 (0, 0)) from (hRb.out.bx (bA, #[.int .i64 (S.w : Int), .slice (some ⟨gB, 0, none⟩) N cB, .slice (some ⟨gI, 0, none⟩) N cI], 37) (by simp)).1)
    have HBK := Lib.hid (show wv.heap[bK]? = some (.cells #[.int .i64 (mk : Int), .int .i64 (R.w : Int), .slice ag2 (nw R.w) cg2, .int .i64 (R.w : Int), .slice ak2 (nw R.w) ck2, .slice ac2 nc2 cc2] 33 (0, 0)) from (hRb.out.bx (bK, #[.int .i64 (mk : Int), .int .i64 (R.w : Int), .slice ag2 (nw R.w) cg2, .int .i64 (R.w : Int), .slice ak2 (nw R.w) ck2, .slice ac2 nc2 cc2], 33) (by simp)).1)
    have HBF := Lib.hid (show wv.heap[bF]? = some (.cells #[.int .i64 (R.w : Int), .slice d1 (nw R.w) e1, .int .i64 (R.w : Int), .slice d2 (nw R.w) e2, .slice d3 n3 e3] 30 (0, 0)) from (hRb.out.bx (bF, #[.int .i64 (R.w : Int), .slice d1 (nw R.w) e1, .int .i64 (R.w : Int), .slice d2 (nw R.w) e2, .slice d3 n3 e3], 30) (by simp)).1)
    have HnA := Lib.hid (show ¬ (fun k => v.ownBlock = some k) bA from fun e => (hRb.out.bx (bA, #[.int .i64 (S.w : Int), .slice (some ⟨gB, 0, none⟩) N cB, .slice (some ⟨gI, 0, none⟩) N cI], 37) (by simp)).2 (.inr (.inr ⟨(L, v), mem_set13 (by have := HMX.out.lr; omega), e⟩)))
    have HnK := Lib.hid (show ¬ (fun k => v.ownBlock = some k) bK from fun e => (hRb.out.bx (bK, #[.int .i64 (mk : Int), .int .i64 (R.w : Int), .slice ag2 (nw R.w) cg2, .int .i64 (R.w : Int), .slice ak2 (nw R.w) ck2, .slice ac2 nc2 cc2], 33) (by simp)).2 (.inr (.inr ⟨(L, v), mem_set13 (by have := HMX.out.lr; omega), e⟩)))
    have HnF := Lib.hid (show ¬ (fun k => v.ownBlock = some k) bF from fun e => (hRb.out.bx (bF, #[.int .i64 (R.w : Int), .slice d1 (nw R.w) e1, .int .i64 (R.w : Int), .slice d2 (nw R.w) e2, .slice d3 n3 e3], 30) (by simp)).2 (.inr (.inr ⟨(L, v), mem_set13 (by have := HMX.out.lr; omega), e⟩)))
    have HnI := Lib.hid (show ¬ (fun k => v.ownBlock = some k) gI from fun e => (hRb.out.x.br (L, v) (mem_set13 (by have := HMX.out.lr; omega)) gI e).2 rfl)
    have HLO := Lib.hid (show LOwn kA (HotW (.slice (some ⟨gB, 0, none⟩) N cB) (.slice (some ⟨gI, 0, none⟩) N cI) (RLt.set t (L, v)) wv.heap.size base) wv base v L from hRb.out.x.r (L, v) (mem_set13 (by have := HMX.out.lr; omega)))
    have HCIt := Lib.hid (show wv.cell? ⟨gI, t, none⟩ = some v from by
     have h9 := hRb.out.x.cellI (by rw [List.length_set]; exact HMX.out.lr) (t := t) (by rw [List.length_set]; have := HMX.out.lr; omega)
     rw [List.getElem_set_self] at h9
     exact h9)
    have HROk := Lib.hid (show RowOkA R.w R.ins.length (elimRow ((arcW R n).take k) f E) from elimRow_ok HR8.out.w8 ⟨by rw [show f = ((arcW R t)[i]'HI1.out).2 from congrArg Prod.snd HMF.out]; exact (HRO.out.trs _ (List.getElem_mem _)).1, htw.out⟩ _ _ ((HR8.out.ok.row n).taken k) HEO.out)
    obtain ⟨lk, hlk⟩ : ∃ lk, lk = elimRow ((arcW R n).take k) f E := ⟨_, rfl⟩
    rw [← hlk] at HLk HROk
    have HLKK := Lib.hid hlk
    clear hlk
    obtain ⟨fc, hfc⟩ : ∃ fc, fc = compT fk f := ⟨_, rfl⟩
    rw [← hfc] at hCok hS10
    have HFC := Lib.hid hfc
    clear hfc
    have hNle : R.ins.length ≤ 256 := by have := HRN.out; omega
    refine wp_region_heldL [17] (fun w' => Ext (fun k => v.ownBlock = some k) wv w') (by kernel_rfl) ?_ (fun hHeld => ?_)
    ·exact (Ext.refl _ _).drew
    have HE := Lib.hid (show Ext No wv wv.drew from (Ext.refl _ _).drew)
    generalize wv.drew = v0 at *
    refine hHs [0] (hHl hHeld ?_)
    clear hHeld
    refine hFn ?_ (fun w => ?_) ?_
    rotate_left
    ·go_simp; (try with_reducible rfl)
    simp only [Act.put, nzA, nzB, nzC]
    refine hHe fun hHeld => ?_
    refine hHs [1] (hHl hHeld ?_)
    clear hHeld
    refine hHn ?_ (fun w hSw => ?_) ?_
    rotate_left
    ·(have q0 := cellOf ((show Ext (fun k => v.ownBlock = some k) wv _ from hSw).blk HBU.out HnA.out)); go_simp; (try with_reducible rfl)
    simp only [Act.put, nzA, nzB, nzC]
    refine hHe fun hHeld => ?_
    refine hHs [2, 3] (hHl hHeld ?_)
    clear hHeld
    iterate 2
     refine hFn ?_ (fun w => ?_) ?_
     rotate_left
     ·go_simp; (try with_reducible rfl)
     simp only [Act.put, nzA, nzB, nzC]
    refine hHe fun hHeld => ?_
    refine hHs [4] (hHl hHeld ?_)
    clear hHeld
    refine hHn ?_ (fun w hSw => ?_) ?_
    rotate_left
    ·(have q0 := cellOf ((show Ext (fun k => v.ownBlock = some k) wv _ from hSw).blk HBU.out HnA.out)); go_simp; (try with_reducible rfl)
    simp only [Act.put, nzA, nzB, nzC]
    refine hHe fun hHeld => ?_
    refine hHs [5, 6] (hHl hHeld ?_)
    clear hHeld
    iterate 2
     refine hFn ?_ (fun w => ?_) ?_
     rotate_left
     ·go_simp; (try with_reducible rfl)
     simp only [Act.put, nzA, nzB, nzC]
    refine hHe fun hHeld => ?_
    refine hHs [7] (hHl hHeld ?_)
    clear hHeld
    refine hHn ?_ (fun w hSw => ?_) ?_
    rotate_left
    ·(have q0 := (show Ext (fun k => v.ownBlock = some k) wv _ from hSw).keepM HCIt.out HnI.out); go_simp; (try with_reducible rfl)
    simp only [Act.put, nzA, nzB, nzC]
    refine hHe fun hHeld => ?_
    refine hHs [8] (hHl hHeld ?_)
    clear hHeld
    refine hFn ?_ (fun w => ?_) ?_
    rotate_left
    ·go_simp; (try with_reducible rfl)
    simp only [Act.put, nzA, nzB, nzC]
    refine hHe fun hHeld => ?_
    refine hHs [9] (hHl hHeld ?_)
    clear hHeld
    refine hHn ?_ (fun w hSw => ?_) ?_
    rotate_left
    ·(have q0 := cellOf ((show Ext (fun k => v.ownBlock = some k) wv _ from hSw).blk HBK.out HnK.out)); go_simp; (try with_reducible rfl)
    simp only [Act.put, nzA, nzB, nzC]
    refine hHe fun hHeld => ?_
    refine hHs [10] (hHl hHeld ?_)
    clear hHeld
    refine hHn ?_ (fun w hSw => ?_) ?_
    rotate_left
    ·(have q0 := cellOf ((show Ext (fun k => v.ownBlock = some k) wv _ from hSw).blk HBF.out HnF.out)); go_simp; (try with_reducible rfl)
    simp only [Act.put, nzA, nzB, nzC]
    refine hHe fun hHeld => ?_
    refine hHs [11] (hHl hHeld ?_)
    clear hHeld
    refine hFn ?_ (fun w => ?_) ?_
    rotate_left
    ·go_simp; (try with_reducible rfl)
    simp only [Act.put, nzA, nzB, nzC]
    refine hHe fun hHeld => ?_
    refine heldL_next1 (i := 12) (by kernel_rfl) (NextL.mk rfl rfl (fun K hK => ?_))
    go_simp
    go_at_call 47
    refine (ejoin_any (HotW (.slice (some ⟨gB, 0, none⟩) N cB) (.slice (some ⟨gI, 0, none⟩) N cI) (RLt.set t (L, v)) wv.heap.size base) base R.ins.length R.w mk n3 v d1 d2 d3 e1 e2 e3 L lk fc v0 (hRb.out.tab.ext HE.out) (Nat.le_trans hRb.out.x.bl (Nat.le_trans hRb.out.x.lh HE.out.size)) HR8.out.w8 hNle HROk.out HLk.out (HLO.out.extNo HE.out) hCok.out (hS10.out.extNo HE.out)).mono ?_
    rintro e0 va ⟨v', L', rfl, hown, hL', hE5, hvv⟩
    go_simp
    refine hK.out _ _ ?_ ?_
    ·intro _; exact (HE.out.ofNo (M := fun k => v.ownBlock = some k)).trans hE5.out
    clear hK K hHeld
    intro hHeld
    obtain ⟨a9, c9, hv9⟩ := (Row.ofOwns (M := No) hown.out.own (fun _ _ x => x)).slice
    subst hv9
    have HVV := Lib.hid hvv
    have hI1 : va.ownsRow base 34 1 (.slice (some ⟨gI, 0, none⟩) RLt.length cI) RLt.length ((RLt.set t (L, v)).map Prod.snd) := row_keep2 (by have h9 := (hRb.out.stepNo HE.out).x.i; rw [List.length_set, HMX.out.lr] at h9; exact h9) hE5.out (fun k hk e => (hRb.out.x.br _ (mem_set13 (q := (L, v)) (by have := HMX.out.lr; omega)) k e).2 hk)
    have HI1v := Lib.hid hI1
    clear hI1 hvv
    try simp only [Act.put, nzA, nzB, nzC]
    refine hHs [13, 14, 15, 16] (hHl hHeld ?_)
    clear hHeld
    iterate 4
     refine hFn ?_ (fun w => ?_) ?_
     rotate_left
     ·go_simp; (try with_reducible rfl)
     simp only [Act.put, nzA, nzB, nzC]
    refine hHe fun hHeld => ?_
    refine heldL_next1 (i := 17) (by kernel_rfl) (NextL.mk rfl rfl (fun K hK => ?_))
    ((have q0 := World.ownsRow.cellAt HI1v.out t (by have := HMX.out.lr; omega)); (have f0 := World.ownsRow.frozenAt HI1v.out t); (rw [List.getElem?_eq_getElem (by rw [List.length_map, List.length_set]; have := HMX.out.lr; omega)] at q0); go_simp; (clear q0 f0))
    refine hK.out _ _ ?_ ?_
    ·exact fun h => absurd h (by decide)
    clear hK K hHeld
    intro hHeld
    have hR5 := Lib.hid (show RsM W (va.setCell ⟨gI, t, none⟩ (.slice a9 L'.length c9)) [(bF, #[.int .i64 (R.w : Int), .slice d1 (nw R.w) e1, .int .i64 (R.w : Int), .slice d2 (nw R.w) e2, .slice d3 n3 e3], 30), (bK, #[.int .i64 (mk : Int), .int .i64 (R.w : Int), .slice ag2 (nw R.w) cg2, .int .i64 (R.w : Int), .slice ak2 (nw R.w) ck2, .slice ac2 nc2 cc2], 33), (gV, #[.int .i64 (R.w : Int), .slice a6 (nw R.w) c6], 24), (bH, #[.int .i64 (R.w : Int), .slice ag (nw R.w) cg, .int .i64 (R.w : Int), .slice ak (nw R.w) ck, .slice ac nc cc], 30), (bA, #[.int .i64 (S.w : Int), .slice (some ⟨gB, 0, none⟩) N cB, .slice (some ⟨gI, 0, none⟩) N cI], 37)] base va.heap.size (.slice (some ⟨gB, 0, none⟩) N cB) (.slice (some ⟨gI, 0, none⟩) N cI) RL LB3 (RLt.set t (L', (.slice a9 L'.length c9))) from by
     have h9 := (hRb.out.stepNo HE.out).putRow (t := t) (L' := L') (v' := (.slice a9 L'.length c9)) (q := (L, v)) (by rw [List.length_set]; exact HMX.out.lr) (by rw [List.length_set]; have := HMX.out.lr; omega) (by rw [List.getElem_set_self]) hE5.out hown.out.own (fun p hp => kA.mono (hown.out.ok p hp) (fun b hb e => by
      have h1 := hRb.out.x.bl
      have h2 := hRb.out.x.lh
      have h3 := HE.out.size
      rcases e with e | e | e | ⟨r, hr, e⟩ | e
      ·exact .inl ⟨.inl e, by omega⟩
      ·have h4 := hRb.out.x.lb _ e; exact .inl ⟨.inr (.inl e), by omega⟩
      ·have h4 := hRb.out.x.li _ e; exact .inl ⟨.inr (.inr (.inl e)), by omega⟩
      ·rcases List.mem_or_eq_of_mem_set hr with hr | rfl
       ·have h4 := hRb.out.x.lr _ hr _ e; exact .inl ⟨.inr (.inr (.inr (.inl ⟨r, hr, e⟩))), by omega⟩
       exact .inr e
      omega)) (HVV.out.imp id (fun h k hk => h k hk))
     rw [List.set_set] at h9
     exact h9)
    have HTH2 := Lib.hid (show TrAt (fun b => (HotW (.slice (some ⟨gB, 0, none⟩) N cB) (.slice (some ⟨gI, 0, none⟩) N cI) RLt lim base) b ∨ b = g) (va.setCell ⟨gI, t, none⟩ (.slice a9 L'.length c9)) (.slice ag (nw R.w) cg) (.slice ak (nw R.w) ck) (.slice ac nc cc) f from ((HTH.out.extNo HE.out).ext hE5.out (fun b _ e => HVk.out b e)).ext (show Ext (At gI) va (va.setCell ⟨gI, t, none⟩ (.slice a9 L'.length c9)) from (Ext.refl _ _).setAt _ _) (fun b _ e => by rw [show b = gI from e]; exact HgL.out.2.1))
    have HVk2 := Lib.hid (show ∀ b, Value.ownBlock (.slice a9 L'.length c9) = some b → (HotW (.slice (some ⟨gB, 0, none⟩) N cB) (.slice (some ⟨gI, 0, none⟩) N cI) RLt lim base) b ∨ b = g from fun b e => by
     rcases HVV.out with h | h
     ·exact HVk.out b (by rw [← h]; exact e)
     exact .inl (.inr (.inr (.inr (.inr (Nat.le_trans HLIM.out (Nat.le_trans HE.out.size (h b e))))))))
    have HLIM2 := Lib.hid (show lim ≤ (va.setCell ⟨gI, t, none⟩ (.slice a9 L'.length c9)).heap.size from Nat.le_trans HLIM.out (Nat.le_trans HE.out.size (Nat.le_trans hE5.out.size (show Ext (At gI) va (va.setCell ⟨gI, t, none⟩ (.slice a9 L'.length c9)) from (Ext.refl _ _).setAt _ _).size)))
    have HLk2 := Lib.hid (show L'.map cutA = arcsRow (elimRow ((arcW R n).take (k + 1)) f E) from by
     rw [hL'.out, HLKK.out, HFC.out, elimRow_succ HKL.out, ← HMK.out])
    clear hRb HTH HVk HVV HLIM HLk HE hE5 hown HI1v hL' hS10 hCok HROk HLKK HFC HBU HBK HBF HLO HCIt
    generalize (va.setCell ⟨gI, t, none⟩ (.slice a9 L'.length c9)) = wn at *
    generalize va.heap.size = limn at *
    try simp only [Act.put, nzA, nzB, nzC]
    refine hHs [18] (hHl hHeld ?_)
    clear hHeld
    refine hFn ?_ (fun w => ?_) ?_
    rotate_left
    ·go_simp; (try with_reducible rfl)
    simp only [Act.put, nzA, nzB, nzC]
    refine hHe fun hHeld => ?_
    refine heldL_done (by kernel_rfl) ?_ _
    go_wp2_with fail
    go_roundw
    case rel => exact ⟨k + 1, limn, L', _, HKI.out, by omega, Lib.hid (hR5.out.cut (fun b hb => by simp only [List.mem_cons, List.not_mem_nil, or_false] at hb ⊢; rcases hb with h | h | h <;> simp [h])), HLk2, HTH2, HVk2, HLIM2⟩
    case measure => simp [intOf]; omega
   have hge : ¬ (k : Int) < (mn : Int) := by omega
   have hkm : k = mn := by omega
   subst hkm
   go_wp2_with fail
   go_roundw
   case rel =>
    refine ⟨t + 1, limk, LB3, RLt.set t (L, v), HKK.out, by omega, Lib.hid (hRk.out.cut (fun b hb => by rw [List.mem_singleton.1 hb]; simp)), Lib.hid ⟨?_, ?_, fun j hj => ?_, fun j hj => ?_⟩⟩
    ·rw [HLB3.out, List.length_set]; exact HMX.out.lb
    ·rw [List.length_set]; exact HMX.out.lr
    ·obtain ⟨g1, g2⟩ := mix_next htn HI.out HI1.out HMF.out
     rw [HLB3.out, List.getElem?_set]
     by_cases e : t = j
     ·subst e
      rw [if_pos rfl, if_pos (by rw [← HMX.out.lb]; exact hj), g1]
      rfl
     rw [if_neg e, mixB_ne (fun h => e h.symm)]
     exact HMX.out.b j hj
    obtain ⟨g1, g2⟩ := mix_next htn HI.out HI1.out HMF.out
    rw [List.getElem?_set]
    by_cases e : t = j
    ·subst e
     rw [if_pos rfl, if_pos (by rw [← HMX.out.lr]; exact hj), g2, ← HE0.out]
     have h9 := HLk.out
     rw [List.take_of_length_le (by rw [← HMN.out]; exact Nat.le_refl _)] at h9
     exact congrArg some h9
    rw [if_neg e, mixI_ne (fun h => e h.symm)]
    exact HMX.out.r j hj
   case measure => simp [intOf]; omega
  have HSK := Lib.hid (HMX.out.skip (fun e => h1 e.2))
  clear h1
  go_wp2_with fail
  go_roundw
  case rel => exact ⟨t + 1, lim, LBt, RLt, HKK.out, by omega, hR2, HSK⟩
  case measure => simp [intOf]; omega
 have hge : ¬ (t : Int) < (N : Int) := by omega
 have htN : t = N := by omega
 subst htN
 go_wp2_with fail
 go_ret
 have hnS : n < S.ins.length := by rw [← HN.out]; exact hn
 refine ⟨rfl, lim, LBt, RLt, Lib.hid ?_, Lib.hid hR.out.ext, Lib.hid hR.out.own⟩
 have h9 := HMX.out.done hR.out.x HRN.out (elimF_ok HR8.out)
 unfold elimW
 rw [← HRD.out]
 exact h9

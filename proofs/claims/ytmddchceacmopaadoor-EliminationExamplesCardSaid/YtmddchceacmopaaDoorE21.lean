
import Derived.Test.YtmddchceacmopaaDoorE20
set_option linter.unusedVariables false
set_option linter.unusedSimpArgs false
namespace Go.Proofs.YtmddchceacmopaaDoor
open Go Go.RowKit
def ResPostW (S' : WebD) (base : Nat) (vb vi : Value) (RL0 : RLs) (W : World) (e : Ending) (w' : World) : Prop :=
 e = .returned (.int .i64 0) ∧ ∃ (lim : Nat) (LB : LS) (RL : RLs), Hid (MW w' base lim vb vi LB RL S') ∧ Hid (Ext (OwnB13 vb vi RL0) W w') ∧ Hid (∀ k, OwnB13 vb vi RL k → OwnB13 vb vi RL0 k ∨ W.heap.size ≤ k)
theorem RsM.cell (W : World) : True := trivial
theorem MWx.setAt13 {w : World} {base lim t x m : Nat} {vb vi sl : Value} {LB : LS} {RL : RLs} (h : MWx w base lim vb vi LB RL) (ht : t < LB.length) (hq : LB[t] = (setN x m, sl)) (hx : x ≤ 256) (hm : m < 2 ^ x) : SetAt No w sl x m := by
 have h2 : WordsAt _ w LB[t].2 LB[t].1.words := h.b.ok _ (List.getElem_mem ht)
 rw [hq] at h2
 exact ⟨h2.mono (fun _ _ x => x.elim), hx, hm⟩
theorem hot_row {vb vi v' : Value} {RL : RLs} {lim lim' base t i : Nat} {q : LA × Value} {L' : LA} (ht : t < RL.length) (hq : RL[t] = q) (hv : v'.ownBlock = q.2.ownBlock) (hi : i < lim') (e : HotW vb vi (RL.set t (L', v')) lim' base i) : HotW vb vi RL lim base i := by
 rcases e with e | e | e | ⟨p, hp, e⟩ | e
 ·exact .inl e
 ·exact .inr (.inl e)
 ·exact .inr (.inr (.inl e))
 ·rcases List.mem_or_eq_of_mem_set hp with hp | rfl
  ·exact .inr (.inr (.inr (.inl ⟨p, hp, e⟩)))
  exact .inr (.inr (.inr (.inl ⟨RL[t], List.getElem_mem ht, by rw [hq, ← hv]; exact e⟩)))
 omega
def mixA (e : ArcsL) (s : TrD) (k : Nat) : ArcsL := (e.take k).map (fun p => (p.1, compT p.2 s)) ++ e.drop k
theorem mix_zero (e : ArcsL) (s : TrD) : mixA e s 0 = e := by simp [mixA]
theorem mix_all (e : ArcsL) (s : TrD) : mixA e s e.length = e.map (fun p => (p.1, compT p.2 s)) := by simp [mixA]
theorem mix_len (e : ArcsL) (s : TrD) (k : Nat) : (mixA e s k).length = e.length := by simp [mixA]; omega
theorem mix_at {e : ArcsL} {s : TrD} {k : Nat} (hk : k < e.length) : (mixA e s k)[k]'(by rw [mix_len]; exact hk) = e[k] := by
 have h : (mixA e s k)[k]? = some e[k] := by
  unfold mixA
  rw [List.getElem?_append_right (by simp; omega)]
  simp only [List.length_map, List.length_take, Nat.min_eq_left (Nat.le_of_lt hk), Nat.sub_self, List.getElem?_drop, Nat.add_zero, List.getElem?_eq_getElem hk]
 rw [List.getElem?_eq_getElem (by rw [mix_len]; exact hk)] at h
 exact Option.some.inj h
theorem mix_succ {e : ArcsL} {s : TrD} {k : Nat} (hk : k < e.length) : mixA e s (k + 1) = (mixA e s k).set k (e[k].1, compT e[k].2 s) := by
 unfold mixA
 have h1 : ((e.take k).map (fun p => (p.1, compT p.2 s))).length = k := by rw [List.length_map, List.length_take, Nat.min_eq_left (Nat.le_of_lt hk)]
 rw [List.set_append_right _ _ (by omega), h1, Nat.sub_self, List.drop_eq_getElem_cons hk, List.set_cons_zero, List.take_succ_eq_append_getElem hk, List.map_append, List.append_assoc]
 rfl
theorem mix_ok {w n : Nat} {e : ArcsL} {s : TrD} (h8 : w ≤ 8) (h : RowOkA w n e) (hs : TrOk s ∧ s.w = w) (k : Nat) : ∀ p ∈ mixA e s k, TrOk p.2 ∧ p.2.w = w := fun p hp => by
 rcases List.mem_append.1 hp with hp | hp
 ·obtain ⟨q, hq, rfl⟩ := List.mem_map.1 hp
  exact comp_ok h8 (h.trs q (List.mem_of_mem_take hq)) hs
 exact h.trs p (List.mem_of_mem_drop hp)
theorem mix_step {e : ArcsL} {s f : TrD} {k mm : Nat} {L : LA} {x1 x2 x3 : Value} (h : L.map cutA = arcsRow (mixA e s k)) (hk : k < e.length) (hmf : (mm, f) = e[k]) : (L.set k ((L[k]'(by have := congrArg List.length h; rw [List.length_map, arcsRow_len, mix_len] at this; omega)).1, rawT (compT f s), x1, x2, x3)).map cutA = arcsRow (mixA e s (k + 1)) := by
 have hkL : k < L.length := by have := congrArg List.length h; rw [List.length_map, arcsRow_len, mix_len] at this; omega
 have h1 := arcs_at h hkL (by rw [mix_len]; exact hk)
 rw [mix_at hk, ← hmf] at h1
 have h2 : L[k].1 = (mm : Int) := congrArg Prod.fst h1
 have hg : ∀ z : Int, z = (mm : Int) → (L.set k (z, rawT (compT f s), x1, x2, x3)).map cutA = arcsRow (mixA e s (k + 1)) := fun z hz => by
  rw [mix_succ hk, List.map_set, h, ← hmf, hz]
  simp only [arcsRow, List.map_set, cutA]
 exact hg _ h2
set_option maxRecDepth 100000 in
set_option maxHeartbeats 16000000 in
theorem resolve_any (S : WebD) (n base lim0 gB cB gI cI N : Nat) (LB : LS) (RL : RLs) (W : World) (hN : N = S.ins.length) (h : MW W base lim0 (.slice (some ⟨gB, 0, none⟩) N cB) (.slice (some ⟨gI, 0, none⟩) N cI) LB RL S) (hT : TabW W) (hlow : 0 < base) (hn : n < N) :
  Calls Tryd.prog 43 #[.agg #[.int .i64 (S.w : Int), .slice (some ⟨gB, 0, none⟩) N cB, .slice (some ⟨gI, 0, none⟩) N cI], .int .i64 (n : Int)] W (ResPostW (resolveW S n) base (.slice (some ⟨gB, 0, none⟩) N cB) (.slice (some ⟨gI, 0, none⟩) N cI) RL W) := by
 have HS := Lib.hid h
 have HN := Lib.hid hN
 have hw8 := h.ok.w8
 have hn32 : N ≤ 32 := by rw [hN]; exact h.ok.n8
 have HRO := Lib.hid (h.ok.ok.row n)
 have hnR : n < RL.length := by rw [h.len, ← hN]; exact hn
 have hNR : N = RL.length := by rw [h.len, ← hN]
 obtain ⟨⟨L0, v0⟩, hq⟩ : ∃ q : LA × Value, RL[n] = q := ⟨_, rfl⟩
 have HQ := Lib.hid (show ∃ hnR : n < RL.length, RL[n] = (L0, v0) from ⟨hnR, hq⟩)
 have har : ArcsW No W v0 (arcW S n) := by have h9 := h.arcs hnR; rw [hq] at h9; exact h9
 have HOW := Lib.hid (show LOwn kA (HotW (.slice (some ⟨gB, 0, none⟩) N cB) (.slice (some ⟨gI, 0, none⟩) N cI) RL lim0 base) W base v0 L0 from by have h9 := h.x.r _ (List.getElem_mem hnR); rw [hq] at h9; exact h9)
 have HL0 := Lib.hid (show L0.map cutA = arcsRow (arcW S n) from by have h9 := h.rows n hnR; rw [hq] at h9; exact h9)
 have HCI := Lib.hid (show W.cell? ⟨gI, n, none⟩ = some v0 from by have h9 := h.x.cellI hNR hnR; rw [hq] at h9; exact h9)
 have HgI0 := Lib.hid (show v0.ownBlock ≠ some gI from fun e => (h.x.br _ (List.getElem_mem hnR) gI (by rw [hq]; exact e)).2 rfl)
 have hmz : (arcW S n).length ≤ 32 := by have := HRO.out.len; omega
 obtain ⟨a0, cap, hv0⟩ := har.slice
 obtain ⟨m, hm⟩ : ∃ m, m = (arcW S n).length := ⟨_, rfl⟩
 rw [← hm] at hv0 hmz
 have HM := Lib.hid hm
 subst hv0
 have HAR := Lib.hid har
 have hNB : N = LB.length := by rw [h.lenB, ← hN]
 have HNB := Lib.hid hNB
 obtain ⟨ab, cb, hsb⟩ := (h.set (t := n) (by omega)).slice
 have HSB := Lib.hid (show SetAt No W (.slice ab (nw S.w) cb) S.w (rowD S.bnd n) from by have h9 := h.set (t := n) (by omega); rw [hsb] at h9; exact h9)
 have HB1 := Lib.hid (show ∃ hnB : n < LB.length, LB[n] = (setN S.w (rowD S.bnd n), .slice ab (nw S.w) cb) from ⟨by omega, Prod.ext (by
  have h1 := congrArg (fun l => l[n]?) h.bnd
  have ht2 : n < S.bnd.length := by rw [h.ok.ok.lb, ← hN]; exact hn
  simp only [List.getElem?_map, List.getElem?_eq_getElem (show n < LB.length by omega), List.getElem?_eq_getElem ht2, Option.map_some, Option.some.injEq] at h1
  rw [h1, rowD_get ht2]) hsb⟩)
 clear hNB hsb
 have hR0 := RsM.start h.x hT hlow
 have hlh := h.x.lh
 have HNR := Lib.hid hNR
 clear h hT hlow har hq hm hN hNR hnR
 have hnz : (n : Int) < (N : Int) := by omega
 go_enter Tryd.func43, Tryd.ntmps43
 go_upto_region 1 with (fail)
 have hxV : Ext No W (W.alloc (.cells #[.int .i64 (S.w : Int), .slice (some ⟨gB, 0, none⟩) N cB, .slice (some ⟨gI, 0, none⟩) N cI] 37)) := (Ext.refl _ _).alloc _
 have hR1 := Lib.hid ((hR0.stepNo hxV).addBox (alloc_top (w := W) (o := .cells #[.int .i64 (S.w : Int), .slice (some ⟨gB, 0, none⟩) N cB, .slice (some ⟨gI, 0, none⟩) N cI] 37) rfl) hlh)
 have HXV := Lib.hid hxV
 clear hR0 hxV
 generalize (W.alloc (.cells #[.int .i64 (S.w : Int), .slice (some ⟨gB, 0, none⟩) N cB, .slice (some ⟨gI, 0, none⟩) N cI] 37)) = V at *
 obtain ⟨bA, hbA⟩ : ∃ bA, bA = W.heap.size := ⟨_, rfl⟩
 rw [← hbA] at hR1 ⊢
 have HbA := Lib.hid hbA
 clear hbA
 have qA := cellOf (show V.heap[bA]? = some (.cells #[.int .i64 (S.w : Int), .slice (some ⟨gB, 0, none⟩) N cB, .slice (some ⟨gI, 0, none⟩) N cI] 37 (0, 0)) from (hR1.out.bx (bA, #[.int .i64 (S.w : Int), .slice (some ⟨gB, 0, none⟩) N cB, .slice (some ⟨gI, 0, none⟩) N cI], 37) (by simp)).1)
 have qI := HXV.out.keep HCI.out
 go_wp2_with fail
 clear qA qI
 refine (arc_any n S.w _ (arcW S n) _ HRO.out.trs (HAR.out.extNo HXV.out) (by rw [← HM.out]; omega)).mono ?_
 rintro e1 w1 ⟨hh, hx1⟩
 have hR2 := Lib.hid (hR1.out.stepNo hx1)
 have HXW := Lib.hid (HXV.out.transNo hx1)
 clear hR1 HXV hx1
 rcases hh with ⟨h1, rfl⟩ | ⟨h1, rfl⟩
 ·obtain ⟨i, hi⟩ : ∃ i, i = ixA (arcW S n) n := ⟨_, rfl⟩
  have HI := Lib.hid hi
  rw [← hi] at h1 ⊢
  clear hi
  have HI1 := Lib.hid h1
  have him : i < m := by rw [HM.out]; exact h1
  have hiz : (i : Int) < (m : Int) := by omega
  have hi0 : ¬ (i : Int) < 0 := by omega
  have hwi : IntKind.i64.wrap ((i : Int) + 1) = (i : Int) + 1 := by rw [IntKind.wrap_i64]; omega
  have hLm : L0.length = m := by have h9 := congrArg List.length HL0.out; rw [List.length_map, arcsRow_len, ← HM.out] at h9; exact h9
  have HLM := Lib.hid hLm
  obtain ⟨g, cap', hsh⟩ := own_shape HOW.out.own (by omega)
  simp only [Value.slice.injEq] at hsh
  obtain ⟨rfl, -, rfl⟩ := hsh
  clear hLm
  obtain ⟨⟨mm, t⟩, hmf⟩ : ∃ q : Nat × TrD, q = (arcW S n)[i] := ⟨_, rfl⟩
  obtain ⟨b, off, cap', ag', cg', ak', ck', ac', nc', cc', hsl, gt, HT1, htw⟩ := ArcsW.at HRO.out.trs (HAR.out.extNo HXW.out) HI1.out hmf
  rw [← HM.out] at hsl
  simp only [Value.slice.injEq, Option.some.injEq, Addr.mk.injEq, and_true, true_and] at hsl
  obtain ⟨⟨rfl, rfl⟩, rfl⟩ := hsl
  simp only [Nat.zero_add] at gt
  obtain ⟨q0, q1, q2, q3, q4, q5⟩ := gt
  have HMF := Lib.hid (show (mm, t) = (arcW S n)[i]'HI1.out from hmf)
  have hso := star_ok hw8 (show TrOk t ∧ t.w = S.w from by rw [show t = ((arcW S n)[i]'HI1.out).2 from congrArg Prod.snd hmf]; exact HRO.out.trs _ (List.getElem_mem _))
  have HSO := Lib.hid hso
  clear hmf h1 hso
  have qA := cellOf (show w1.heap[bA]? = some (.cells #[.int .i64 (S.w : Int), .slice (some ⟨gB, 0, none⟩) N cB, .slice (some ⟨gI, 0, none⟩) N cI] 37 (0, 0)) from (hR2.out.bx (bA, #[.int .i64 (S.w : Int), .slice (some ⟨gB, 0, none⟩) N cB, .slice (some ⟨gI, 0, none⟩) N cI], 37) (by simp)).1)
  have qI := HXW.out.keep HCI.out
  go_wp2_with fail
  refine (star8M (Lo w1.heap.size) t S.w _ _ _ _ htw.out (fun b e => e) hw8 hR2.out.tab HT1.out).mono ?_
  rintro e0 w2 ⟨d1, e1, d2, e2, d3, n3, e3, rfl, hS, hx2⟩
  have hR3 := Lib.hid (hR2.out.stepNo hx2)
  have HX2 := Lib.hid (HXW.out.transNo hx2)
  have hcl2 : ∀ k, Lo w1.heap.size k → Lo w2.heap.size k := fun k e => Nat.lt_of_lt_of_le e hx2.size
  have HXW1 := HXW
  clear q0 q1 q2 q3 q4 q5 qA qI hR2 HXW hx2
  go_upto_region 7 with (fail)
  have hx3 : Ext No w2 (w2.alloc (.cells #[.int .i64 (S.w : Int), .slice d1 (nw S.w) e1, .int .i64 (S.w : Int), .slice d2 (nw S.w) e2, .slice d3 n3 e3] 30)) := (Ext.refl _ _).alloc _
  have hR4 := Lib.hid ((hR3.out.stepNo hx3).addBox (alloc_top (w := w2) (o := (.cells #[.int .i64 (S.w : Int), .slice d1 (nw S.w) e1, .int .i64 (S.w : Int), .slice d2 (nw S.w) e2, .slice d3 n3 e3] 30)) rfl) (Nat.le_trans hR3.out.x.lh (Nat.le_refl _)))
  have HXU := Lib.hid (HX2.out.transNo hx3)
  have HS2 := Lib.hid (hS.out.extNo hx3)
  have HgL := Lib.hid (show Lo w1.heap.size g ∧ Lo w1.heap.size gI ∧ Lo w1.heap.size gB from by
   obtain ⟨hnR, hq⟩ := HQ.out
   have h1 := HXW1.out.size
   have h2 := HS.out.x.lh
   exact ⟨Nat.lt_of_lt_of_le (HS.out.x.own (.inr (.inr ⟨_, List.getElem_mem hnR, by rw [hq]; rfl⟩))).2 (by omega), Nat.lt_of_lt_of_le (HS.out.x.own (.inr (.inl rfl))).2 (by omega), Nat.lt_of_lt_of_le (HS.out.x.own (.inl rfl)).2 (by omega)⟩)
  clear HXW1
  generalize w1.heap.size = c1 at *
  clear hR3 HX2 hx3 hS hcl2
  generalize (w2.alloc (.cells #[.int .i64 (S.w : Int), .slice d1 (nw S.w) e1, .int .i64 (S.w : Int), .slice d2 (nw S.w) e2, .slice d3 n3 e3] 30)) = U at *
  generalize w2.heap.size = bS at *
  have HBU := Lib.hid (show U.heap[bA]? = some (.cells #[.int .i64 (S.w : Int), .slice (some ⟨gB, 0, none⟩) N cB, .slice (some ⟨gI, 0, none⟩) N cI] 37 (0, 0)) from (hR4.out.bx (bA, #[.int .i64 (S.w : Int), .slice (some ⟨gB, 0, none⟩) N cB, .slice (some ⟨gI, 0, none⟩) N cI], 37) (by simp)).1)
  have HOWU := Lib.hid (HOW.out.extNo HXU.out)
  have HCIU := Lib.hid (HXU.out.keep HCI.out)
  have HgI := Lib.hid (show ¬ At g gI from fun e => HgI0.out (by rw [show gI = g from e]; rfl))
  have HgA := Lib.hid (show ¬ At g bA from fun e => (hR4.out.bx (bA, #[.int .i64 (S.w : Int), .slice (some ⟨gB, 0, none⟩) N cB, .slice (some ⟨gI, 0, none⟩) N cI], 37) (by simp)).2 (by obtain ⟨hnR, hq⟩ := HQ.out; exact .inr (.inr ⟨_, List.getElem_mem hnR, by rw [hq, show bA = g from e]; rfl⟩)))
  obtain ⟨m1, hm1⟩ : ∃ m1, m1 = m - 1 := ⟨_, rfl⟩
  have Hm1 := Lib.hid hm1
  clear hm1
  have HSU := Lib.hid (HSB.out.extNo HXU.out)
  refine wp_region_heldL [13] (fun w' => Ext (At g) U w') (by kernel_rfl) ?_ (fun hHeld => ?_)
  ·exact (Ext.refl _ _).drew
  have HE := Lib.hid (show Ext No U U.drew from (Ext.refl _ _).drew)
  generalize U.drew = v0 at *
  refine hHs [0] (hHl hHeld ?_)
  clear hHeld
  refine hFn ?_ (fun w => ?_) ?_
  rotate_left
  ·go_simp; (try with_reducible rfl)
  simp only [Act.put, nzA, nzB, nzC]
  refine hHe fun hHeld => ?_
  refine hHs [1] (hHl hHeld ?_)
  clear hHeld
  refine hHn ?_ (fun w hSw => ?_) ?_
  rotate_left
  ·(have q0 := cellOf ((show Ext (At g) U _ from hSw).blk HBU.out HgA.out)); go_simp; (try with_reducible rfl)
  simp only [Act.put, nzA, nzB, nzC]
  refine hHe fun hHeld => ?_
  refine hHs [2, 3] (hHl hHeld ?_)
  clear hHeld
  iterate 2
   refine hFn ?_ (fun w => ?_) ?_
   rotate_left
   ·go_simp; (try with_reducible rfl)
   simp only [Act.put, nzA, nzB, nzC]
  refine hHe fun hHeld => ?_
  refine hHs [4] (hHl hHeld ?_)
  clear hHeld
  refine hHn ?_ (fun w hSw => ?_) ?_
  rotate_left
  ·(have q0 := cellOf ((show Ext (At g) U _ from hSw).blk HBU.out HgA.out)); go_simp; (try with_reducible rfl)
  simp only [Act.put, nzA, nzB, nzC]
  refine hHe fun hHeld => ?_
  refine hHs [5, 6] (hHl hHeld ?_)
  clear hHeld
  iterate 2
   refine hFn ?_ (fun w => ?_) ?_
   rotate_left
   ·go_simp; (try with_reducible rfl)
   simp only [Act.put, nzA, nzB, nzC]
  refine hHe fun hHeld => ?_
  refine hHs [7] (hHl hHeld ?_)
  clear hHeld
  refine hHn ?_ (fun w hSw => ?_) ?_
  rotate_left
  ·(have q0 := (show Ext (At g) U _ from hSw).keepM HCIU.out HgI.out); go_simp; (try with_reducible rfl)
  simp only [Act.put, nzA, nzB, nzC]
  refine hHe fun hHeld => ?_
  refine hHs [8, 9, 10] (hHl hHeld ?_)
  clear hHeld
  iterate 3
   refine hFn ?_ (fun w => ?_) ?_
   rotate_left
   ·go_simp; (try with_reducible rfl)
   simp only [Act.put, nzA, nzB, nzC]
  refine hHe fun hHeld => ?_
  refine heldL_next1 (i := 11) (by kernel_rfl) (NextL.mk rfl rfl (fun K hK => ?_))
  go_simp
  go_at_call 45
  refine (delete_any base g m cap i L0 _ (arcs_oneL HOWU.out.ok) (by have h9 := (HOWU.out.extNo HE.out).own; rw [HLM.out] at h9; exact h9) HLM.out.symm him (by omega)).mono ?_
  rintro e1 vd ⟨rfl, hown, hE5⟩
  rw [← Hm1.out] at hown ⊢
  go_simp
  refine hK.out _ _ ?_ ?_
  ·intro _; exact (HE.out.ofNo (M := At g)).trans hE5.out
  clear hK K hHeld
  intro hHeld
  have hI1 : vd.ownsRow base 34 1 (.slice (some ⟨gI, 0, none⟩) RL.length cI) RL.length (RL.map Prod.snd) := row_keep2 (by have h9 := (hR4.out.stepNo HE.out).x.i; rw [HNR.out] at h9; exact h9) hE5.out (fun k hk e => by rw [show k = g from e] at hk; exact HgI.out (Option.some.inj hk))
  have HI1v := Lib.hid hI1
  clear hI1
  try simp only [Act.put, nzA, nzB, nzC]
  refine hHs [12] (hHl hHeld ?_)
  clear hHeld
  refine hFn ?_ (fun w => ?_) ?_
  rotate_left
  ·go_simp; (try with_reducible rfl)
  simp only [Act.put, nzA, nzB, nzC]
  refine hHe fun hHeld => ?_
  refine heldL_next1 (i := 13) (by kernel_rfl) (NextL.mk rfl rfl (fun K hK => ?_))
  ((have q0 := World.ownsRow.cellAt HI1v.out n (by have := HNR.out; omega)); (have f0 := World.ownsRow.frozenAt HI1v.out n); (rw [List.getElem?_eq_getElem (by rw [List.length_map]; have := HNR.out; omega)] at q0); go_simp; (clear q0 f0))
  refine hK.out _ _ ?_ ?_
  ·exact fun h => absurd h (by decide)
  clear hK K hHeld
  intro hHeld
  have hR5 := Lib.hid (show RsM W (vd.setCell ⟨gI, n, none⟩ (.slice (some ⟨g, 0, none⟩) m1 cap)) [(bS, #[.int .i64 (S.w : Int), .slice d1 (nw S.w) e1, .int .i64 (S.w : Int), .slice d2 (nw S.w) e2, .slice d3 n3 e3], 30), (bA, #[.int .i64 (S.w : Int), .slice (some ⟨gB, 0, none⟩) N cB, .slice (some ⟨gI, 0, none⟩) N cI], 37)] base vd.heap.size (.slice (some ⟨gB, 0, none⟩) N cB) (.slice (some ⟨gI, 0, none⟩) N cI) RL LB (RL.set n ((L0.eraseIdx i), (.slice (some ⟨g, 0, none⟩) m1 cap))) from by
   obtain ⟨hnR, hq⟩ := HQ.out
   exact (hR4.out.stepNo HE.out).putRow HNR.out hnR hq (hE5.out.mono (fun k _ e => by rw [show k = g from e]; rfl)) (by
    have h9 := hown.out
    rw [show m1 = (L0.eraseIdx i).length from by rw [List.length_eraseIdx]; have := HLM.out; have := Hm1.out; split <;> omega] at h9
    rw [show m1 = (L0.eraseIdx i).length from by rw [List.length_eraseIdx]; have := HLM.out; have := Hm1.out; split <;> omega]
    exact h9) (fun p hp => kA.mono (kA.ext ((HOWU.out.extNo HE.out).ok p (List.mem_of_mem_eraseIdx hp)) hE5.out (fun k _ e => .inr (by rw [show k = g from e]; rfl))) (fun k hk e => .inl (hot_row (v' := (.slice (some ⟨g, 0, none⟩) m1 cap)) hnR hq rfl hk e))) (.inl rfl))
  have HEU := Lib.hid (show Ext (fun k => k = g ∨ k = gI) U (vd.setCell ⟨gI, n, none⟩ (.slice (some ⟨g, 0, none⟩) m1 cap)) from (HE.out.ofNo.trans (hE5.out.mono (fun k _ e => .inl e))).trans (((Ext.refl (At gI) vd).setAt n (.slice (some ⟨g, 0, none⟩) m1 cap)).mono (fun k _ e => .inr e)))
  replace HS2 := Lib.hid (HS2.out.ext HEU.out (fun k _ e => by rcases e with rfl | rfl; exact HgL.out.1; exact HgL.out.2.1))
  clear hR4 HOWU HCIU HBU HE hE5 hown HI1v HEU HSU
  generalize (vd.setCell ⟨gI, n, none⟩ (.slice (some ⟨g, 0, none⟩) m1 cap)) = U2 at *
  generalize vd.heap.size = lim2 at *
  try simp only [Act.put, nzA, nzB, nzC]
  refine heldL_done (by kernel_rfl) ?_ _
  skip
  go_upto_region 8 with (fail)
  have HSB2 := Lib.hid (show SetAt No U2 (.slice ab (nw S.w) cb) S.w (rowD S.bnd n) from by
   obtain ⟨hnB, hq⟩ := HB1.out
   exact hR5.out.x.setAt13 hnB hq (by omega) (HS.out.ok.ok.bn n))
  have HQB := Lib.hid (show U2.cell? ⟨gB, n * 2, none⟩ = some (.int .i64 (S.w : Int)) ∧ U2.cell? ⟨gB, n * 2 + 1, none⟩ = some (.slice ab (nw S.w) cb) from by
   obtain ⟨hnB, hq⟩ := HB1.out
   have h9 := hR5.out.x.cellB HNB.out hnB
   rw [hq] at h9
   exact h9)
  have HBU := Lib.hid (show U2.heap[bA]? = some (.cells #[.int .i64 (S.w : Int), .slice (some ⟨gB, 0, none⟩) N cB, .slice (some ⟨gI, 0, none⟩) N cI] 37 (0, 0)) from (hR5.out.bx (bA, #[.int .i64 (S.w : Int), .slice (some ⟨gB, 0, none⟩) N cB, .slice (some ⟨gI, 0, none⟩) N cI], 37) (by simp)).1)
  have HBT := Lib.hid (show U2.heap[bS]? = some (.cells #[.int .i64 (S.w : Int), .slice d1 (nw S.w) e1, .int .i64 (S.w : Int), .slice d2 (nw S.w) e2, .slice d3 n3 e3] 30 (0, 0)) from (hR5.out.bx (bS, #[.int .i64 (S.w : Int), .slice d1 (nw S.w) e1, .int .i64 (S.w : Int), .slice d2 (nw S.w) e2, .slice d3 n3 e3], 30) (by simp)).1)
  refine wp_region_heldL [14] (fun w' => Ext No U2 w') (by kernel_rfl) ?_ (fun hHeld => ?_)
  ·exact (Ext.refl _ _).drew
  have HE := Lib.hid (show Ext No U2 U2.drew from (Ext.refl _ _).drew)
  generalize U2.drew = v0 at *
  refine hHs [0] (hHl hHeld ?_)
  clear hHeld
  refine hFn ?_ (fun w => ?_) ?_
  rotate_left
  ·go_simp; (try with_reducible rfl)
  simp only [Act.put, nzA, nzB, nzC]
  refine hHe fun hHeld => ?_
  refine hHs [1] (hHl hHeld ?_)
  clear hHeld
  refine hHn ?_ (fun w hSw => ?_) ?_
  rotate_left
  ·(have q0 := cellOf ((show Ext No U2 _ from hSw).blk HBU.out no_no)); go_simp; (try with_reducible rfl)
  simp only [Act.put, nzA, nzB, nzC]
  refine hHe fun hHeld => ?_
  refine hHs [2] (hHl hHeld ?_)
  clear hHeld
  refine hFn ?_ (fun w => ?_) ?_
  rotate_left
  ·go_simp; (try with_reducible rfl)
  simp only [Act.put, nzA, nzB, nzC]
  refine hHe fun hHeld => ?_
  refine hHs [3] (hHl hHeld ?_)
  clear hHeld
  refine hHn ?_ (fun w hSw => ?_) ?_
  rotate_left
  ·(have q0 := cellOf ((show Ext No U2 _ from hSw).blk HBT.out no_no)); go_simp; (try with_reducible rfl)
  simp only [Act.put, nzA, nzB, nzC]
  refine hHe fun hHeld => ?_
  refine hHs [4] (hHl hHeld ?_)
  clear hHeld
  refine hFn ?_ (fun w => ?_) ?_
  rotate_left
  ·go_simp; (try with_reducible rfl)
  simp only [Act.put, nzA, nzB, nzC]
  refine hHe fun hHeld => ?_
  refine hHs [5] (hHl hHeld ?_)
  clear hHeld
  refine hHn ?_ (fun w hSw => ?_) ?_
  rotate_left
  ·(have q0 := cellOf ((show Ext No U2 _ from hSw).blk HBU.out no_no)); go_simp; (try with_reducible rfl)
  simp only [Act.put, nzA, nzB, nzC]
  refine hHe fun hHeld => ?_
  refine hHs [6, 7] (hHl hHeld ?_)
  clear hHeld
  iterate 2
   refine hFn ?_ (fun w => ?_) ?_
   rotate_left
   ·go_simp; (try with_reducible rfl)
   simp only [Act.put, nzA, nzB, nzC]
  refine hHe fun hHeld => ?_
  refine hHs [8] (hHl hHeld ?_)
  clear hHeld
  refine hHn ?_ (fun w hSw => ?_) ?_
  rotate_left
  ·(obtain ⟨p0, p1⟩ := HQB.out); (have q0 := (show Ext No U2 _ from hSw).keep p0); (have q1 := (show Ext No U2 _ from hSw).keep p1); go_simp; (try with_reducible rfl)
  simp only [Act.put, nzA, nzB, nzC]
  refine hHe fun hHeld => ?_
  refine heldL_next1 (i := 9) (by kernel_rfl) (NextL.mk rfl rfl (fun K hK => ?_))
  (go_simp; (go_at_call 35); (refine (Apply_w (Lo v0.heap.size) (starT t) S.w (rowD S.bnd n) _ _ _ _ _ HSO.out.2 (fun b e => e) (HS2.out.no.extNo HE.out) ((HSB2.out).extNo HE.out)).mono ?_); (rintro e0 va ⟨a6, c6, rfl, hs6, hyA⟩); go_simp)
  refine hK.out _ _ ?_ ?_
  ·intro _; exact HE.out.transNo hyA
  clear hK K hHeld
  intro hHeld
  have hR6 := Lib.hid ((hR5.out.stepNo (HE.out.transNo hyA)).top)
  have hw6 := Lib.hid (hs6.out.words.mono (M' := HotW (.slice (some ⟨gB, 0, none⟩) N cB) (.slice (some ⟨gI, 0, none⟩) N cI) (RL.set n ((L0.eraseIdx i), (.slice (some ⟨g, 0, none⟩) m1 cap))) va.heap.size base) (fun k hk e => (hR5.out.stepNo HE.out).x.clear hk e))
  replace HE := Lib.hid (HE.out.transNo hyA)
  clear hyA
  try simp only [Act.put, nzA, nzB, nzC]
  refine hHs [10, 11, 12, 13] (hHl hHeld ?_)
  clear hHeld
  iterate 4
   refine hFn ?_ (fun w => ?_) ?_
   rotate_left
   ·go_simp; (try with_reducible rfl)
   simp only [Act.put, nzA, nzB, nzC]
  refine hHe fun hHeld => ?_
  refine heldL_next1 (i := 14) (by kernel_rfl) (NextL.mk rfl rfl (fun K hK => ?_))
  ((obtain ⟨q0, q1⟩ := hR6.out.x.cellB HNB.out (t := n) (by have := HNB.out; omega)); (have f0 := hR6.out.x.frzB HNB.out (n * 2)); (have f1 := hR6.out.x.frzB HNB.out (n * 2 + 1)); go_simp; (clear q0 q1 f0 f1))
  refine hK.out _ _ ?_ ?_
  ·exact fun h => absurd h (by decide)
  clear hK K hHeld
  intro hHeld
  have hR7 := Lib.hid (show RsM W ((va.setCell ⟨gB, n * 2, none⟩ (.int .i64 (S.w : Int))).setCell ⟨gB, n * 2 + 1, none⟩ (.slice a6 (nw S.w) c6)) [(bS, #[.int .i64 (S.w : Int), .slice d1 (nw S.w) e1, .int .i64 (S.w : Int), .slice d2 (nw S.w) e2, .slice d3 n3 e3], 30), (bA, #[.int .i64 (S.w : Int), .slice (some ⟨gB, 0, none⟩) N cB, .slice (some ⟨gI, 0, none⟩) N cI], 37)] base va.heap.size (.slice (some ⟨gB, 0, none⟩) N cB) (.slice (some ⟨gI, 0, none⟩) N cI) RL (LB.set n (setN S.w (applyT (starT t) (rowD S.bnd n)), .slice a6 (nw S.w) c6)) (RL.set n ((L0.eraseIdx i), (.slice (some ⟨g, 0, none⟩) m1 cap))) from hR6.out.putB (p := (setN S.w (applyT (starT t) (rowD S.bnd n)), .slice a6 (nw S.w) c6)) HNB.out (by have := HNB.out; omega) hw6.out)
  replace HS2 := Lib.hid ((HS2.out.extNo HE.out).ext (show Ext (At gB) va ((va.setCell ⟨gB, n * 2, none⟩ (.int .i64 (S.w : Int))).setCell ⟨gB, n * 2 + 1, none⟩ (.slice a6 (nw S.w) c6)) from ((Ext.refl _ _).setAt _ _).setAt _ _) (fun k _ e => by rw [show k = gB from e]; exact HgL.out.2.2))
  clear hR5 hR6 hw6 hs6 HSB2 HQB HBU HBT HE
  generalize ((va.setCell ⟨gB, n * 2, none⟩ (.int .i64 (S.w : Int))).setCell ⟨gB, n * 2 + 1, none⟩ (.slice a6 (nw S.w) c6)) = U3 at *
  generalize va.heap.size = lim3 at *
  try simp only [Act.put, nzA, nzB, nzC]
  refine heldL_done (by kernel_rfl) ?_ _
  skip
  go_upto_region 9 with (fail)
  have hm132 : m1 ≤ 32 := by have := Hm1.out; omega
  obtain ⟨LB2, hLB2⟩ : ∃ LB2, LB2 = LB.set n (setN S.w (applyT (starT t) (rowD S.bnd n)), .slice a6 (nw S.w) c6) := ⟨_, rfl⟩
  rw [← hLB2] at hR7
  have HLB2 := Lib.hid hLB2
  clear hLB2
  obtain ⟨E, hE0⟩ : ∃ E, E = (arcW S n).eraseIdx i := ⟨_, rfl⟩
  have hEl : E.length = m1 := by rw [hE0, List.length_eraseIdx, if_pos HI1.out, ← HM.out, Hm1.out]
  have HEL := Lib.hid hEl
  have HEO := Lib.hid (show RowOkA S.w S.ins.length E from by rw [hE0]; exact HRO.out.erase)
  have HE0 := Lib.hid hE0
  clear hEl hE0
  have qA := cellOf (show U3.heap[bA]? = some (.cells #[.int .i64 (S.w : Int), .slice (some ⟨gB, 0, none⟩) N cB, .slice (some ⟨gI, 0, none⟩) N cI] 37 (0, 0)) from (hR7.out.bx (bA, #[.int .i64 (S.w : Int), .slice (some ⟨gB, 0, none⟩) N cB, .slice (some ⟨gI, 0, none⟩) N cI], 37) (by simp)).1)
  have qI : U3.cell? ⟨gI, n, none⟩ = some (.slice (some ⟨g, 0, none⟩) m1 cap) := by
   have h := hR7.out.x.cellI (by rw [List.length_set]; exact HNR.out) (t := n) (by rw [List.length_set]; have := HNR.out; omega)
   rw [List.getElem_set_self] at h
   exact h
  go_wp2_with fail
  clear qA qI
  go_loopw [7, 8, 67] (fun _ _ s67 wr => ∃ (k lim : Nat) (L : LA), s67 = .int .i64 k ∧ k ≤ m1 ∧ Hid (RsM W wr [(bS, #[.int .i64 (S.w : Int), .slice d1 (nw S.w) e1, .int .i64 (S.w : Int), .slice d2 (nw S.w) e2, .slice d3 n3 e3], 30), (bA, #[.int .i64 (S.w : Int), .slice (some ⟨gB, 0, none⟩) N cB, .slice (some ⟨gI, 0, none⟩) N cI], 37)] base lim (.slice (some ⟨gB, 0, none⟩) N cB) (.slice (some ⟨gI, 0, none⟩) N cI) RL LB2 (RL.set n (L, (.slice (some ⟨g, 0, none⟩) m1 cap)))) ∧ Hid (L.length = m1) ∧ Hid (L.map cutA = arcsRow (mixA E (starT t) k)) ∧ Hid (TrAt (Lo c1) wr (.slice d1 (nw S.w) e1) (.slice d2 (nw S.w) e2) (.slice d3 n3 e3) (starT t))) (fun _ _ s67 _ => m1 - (intOf s67).toNat)
  case atStart => exact ⟨0, _, _, rfl, Nat.zero_le _, hR7, Lib.hid (by rw [List.length_eraseIdx, if_pos (by rw [HLM.out]; exact him), HLM.out, Hm1.out]), Lib.hid (by rw [mix_zero, HE0.out, arcsRow, List.eraseIdx_eq_take_drop_succ, List.eraseIdx_eq_take_drop_succ, List.map_append, List.map_append, List.map_take, List.map_drop, HL0.out, arcsRow, List.map_take, List.map_drop]), HS2⟩
  clear hR7 HS2
  obtain ⟨k, lim, L, rfl, hk, hR, HLk, HMk, HS2⟩ := hrel
  rename World => wr
  by_cases hlt : k < m1
  ·have hlz : (k : Int) < (m1 : Int) := by omega
   have HKK : Hid (Value.int .i64 ((k : Int) + 1) = .int .i64 ((k + 1 : Nat) : Int)) := Lib.hid (by rw [show ((k + 1 : Nat) : Int) = (k : Int) + 1 from by omega])
   have HKE := Lib.hid (show k < E.length from by rw [HEL.out]; exact hlt)
   have hkL : k < L.length := by rw [HLk.out]; exact hlt
   obtain ⟨⟨mm, f⟩, hmf⟩ : ∃ q : Nat × TrD, q = E[k]'HKE.out := ⟨_, rfl⟩
   have HMF := Lib.hid (show (mm, f) = E[k]'HKE.out from hmf)
   have hnR2 : n < (RL.set n (L, (.slice (some ⟨g, 0, none⟩) m1 cap))).length := by rw [List.length_set]; have := HNR.out; omega
   have har2 : ArcsW No wr (.slice (some ⟨g, 0, none⟩) m1 cap) (mixA E (starT t) k) := by
    have h9 := hR.out.x.row hnR2
    rw [List.getElem_set_self] at h9
    exact ⟨L, h9, HMk.out⟩
   obtain ⟨b, off, cap', ag2, cg2, ak2, ck2, ac2, nc2, cc2, hsl, gt, HTk, hfw⟩ := ArcsW.at (mix_ok hw8 HEO.out HSO.out k) har2 (k := k) (by rw [mix_len]; exact HKE.out) (hmf.trans (mix_at HKE.out).symm)
   rw [mix_len, HEL.out] at hsl
   simp only [Value.slice.injEq, Option.some.injEq, Addr.mk.injEq, and_true, true_and] at hsl
   obtain ⟨⟨rfl, rfl⟩, rfl⟩ := hsl
   simp only [Nat.zero_add] at gt
   have HQC := Lib.hid gt.2
   have HBU := Lib.hid (show wr.heap[bA]? = some (.cells #[.int .i64 (S.w : Int), .slice (some ⟨gB, 0, none⟩) N cB, .slice (some ⟨gI, 0, none⟩) N cI] 37 (0, 0)) from (hR.out.bx (bA, #[.int .i64 (S.w : Int), .slice (some ⟨gB, 0, none⟩) N cB, .slice (some ⟨gI, 0, none⟩) N cI], 37) (by simp)).1)
   have HBT := Lib.hid (show wr.heap[bS]? = some (.cells #[.int .i64 (S.w : Int), .slice d1 (nw S.w) e1, .int .i64 (S.w : Int), .slice d2 (nw S.w) e2, .slice d3 n3 e3] 30 (0, 0)) from (hR.out.bx (bS, #[.int .i64 (S.w : Int), .slice d1 (nw S.w) e1, .int .i64 (S.w : Int), .slice d2 (nw S.w) e2, .slice d3 n3 e3], 30) (by simp)).1)
   have HCIr := Lib.hid (show wr.cell? ⟨gI, n, none⟩ = some (.slice (some ⟨g, 0, none⟩) m1 cap) from by
    have h := hR.out.x.cellI (by rw [List.length_set]; exact HNR.out) (t := n) hnR2
    rw [List.getElem_set_self] at h
    exact h)
   clear gt hmf har2 hnR2
   go_upto_region 12 with (fail)
   refine wp_region_heldL [22] (fun w' => Ext No wr w') (by kernel_rfl) ?_ (fun hHeld => ?_)
   ·exact (Ext.refl _ _).drew
   have HE := Lib.hid (show Ext No wr wr.drew from (Ext.refl _ _).drew)
   generalize wr.drew = v0 at *
   refine hHs [0] (hHl hHeld ?_)
   clear hHeld
   refine hFn ?_ (fun w => ?_) ?_
   rotate_left
   ·go_simp; (try with_reducible rfl)
   simp only [Act.put, nzA, nzB, nzC]
   refine hHe fun hHeld => ?_
   refine hHs [1] (hHl hHeld ?_)
   clear hHeld
   refine hHn ?_ (fun w hSw => ?_) ?_
   rotate_left
   ·(have q0 := cellOf ((show Ext No wr _ from hSw).blk HBU.out no_no)); go_simp; (try with_reducible rfl)
   simp only [Act.put, nzA, nzB, nzC]
   refine hHe fun hHeld => ?_
   refine hHs [2, 3] (hHl hHeld ?_)
   clear hHeld
   iterate 2
    refine hFn ?_ (fun w => ?_) ?_
    rotate_left
    ·go_simp; (try with_reducible rfl)
    simp only [Act.put, nzA, nzB, nzC]
   refine hHe fun hHeld => ?_
   refine hHs [4] (hHl hHeld ?_)
   clear hHeld
   refine hHn ?_ (fun w hSw => ?_) ?_
   rotate_left
   ·(have q0 := (show Ext No wr _ from hSw).keep HCIr.out); go_simp; (try with_reducible rfl)
   simp only [Act.put, nzA, nzB, nzC]
   refine hHe fun hHeld => ?_
   refine hHs [5, 6] (hHl hHeld ?_)
   clear hHeld
   iterate 2
    refine hFn ?_ (fun w => ?_) ?_
    rotate_left
    ·go_simp; (try with_reducible rfl)
    simp only [Act.put, nzA, nzB, nzC]
   refine hHe fun hHeld => ?_
   refine hHs [7] (hHl hHeld ?_)
   clear hHeld
   refine hHn ?_ (fun w hSw => ?_) ?_
   rotate_left
   ·(have q0 := cellOf ((show Ext No wr _ from hSw).blk HBU.out no_no)); go_simp; (try with_reducible rfl)
   simp only [Act.put, nzA, nzB, nzC]
   refine hHe fun hHeld => ?_
   refine hHs [8, 9] (hHl hHeld ?_)
   clear hHeld
   iterate 2
    refine hFn ?_ (fun w => ?_) ?_
    rotate_left
    ·go_simp; (try with_reducible rfl)
    simp only [Act.put, nzA, nzB, nzC]
   refine hHe fun hHeld => ?_
   refine hHs [10] (hHl hHeld ?_)
   clear hHeld
   refine hHn ?_ (fun w hSw => ?_) ?_
   rotate_left
   ·(have q0 := (show Ext No wr _ from hSw).keep HCIr.out); go_simp; (try with_reducible rfl)
   simp only [Act.put, nzA, nzB, nzC]
   refine hHe fun hHeld => ?_
   refine hHs [11, 12, 13] (hHl hHeld ?_)
   clear hHeld
   iterate 3
    refine hFn ?_ (fun w => ?_) ?_
    rotate_left
    ·go_simp; (try with_reducible rfl)
    simp only [Act.put, nzA, nzB, nzC]
   refine hHe fun hHeld => ?_
   refine hHs [14] (hHl hHeld ?_)
   clear hHeld
   refine hHn ?_ (fun w hSw => ?_) ?_
   rotate_left
   ·(obtain ⟨p1, p2, p3, p4, p5⟩ := HQC.out); (have q0 := (show Ext No wr _ from hSw).keep p1); (have q1 := (show Ext No wr _ from hSw).keep p2); (have q2 := (show Ext No wr _ from hSw).keep p3); (have q3 := (show Ext No wr _ from hSw).keep p4); (have q4 := (show Ext No wr _ from hSw).keep p5); go_simp; (try with_reducible rfl)
   simp only [Act.put, nzA, nzB, nzC]
   refine hHe fun hHeld => ?_
   refine hHs [15] (hHl hHeld ?_)
   clear hHeld
   refine hHn ?_ (fun w hSw => ?_) ?_
   rotate_left
   ·(have q0 := cellOf ((show Ext No wr _ from hSw).blk HBT.out no_no)); go_simp; (try with_reducible rfl)
   simp only [Act.put, nzA, nzB, nzC]
   refine hHe fun hHeld => ?_
   refine heldL_next1 (i := 16) (by kernel_rfl) (NextL.mk rfl rfl (fun K hK => ?_))
   go_simp
   go_at_call 46
   refine (comp8M (Lo v0.heap.size) f (starT t) S.w _ _ _ _ _ _ _ hfw.out HSO.out.2 (fun b e => e) hw8 (hR.out.stepNo HE.out).tab (HTk.out.extNo HE.out) (HS2.out.no.extNo HE.out)).mono ?_
   rintro e0 va ⟨x1, y1, x2, y2, x3, z3, y3, rfl, hs6, hyA⟩
   go_simp
   refine hK.out _ _ ?_ ?_
   ·intro _; exact HE.out.transNo hyA
   clear hK K hHeld
   intro hHeld
   have hR6 := Lib.hid ((hR.out.stepNo (HE.out.transNo hyA)).top)
   have hok6 := Lib.hid (show kA.ok (HotW (.slice (some ⟨gB, 0, none⟩) N cB) (.slice (some ⟨gI, 0, none⟩) N cI) (RL.set n (L, (.slice (some ⟨g, 0, none⟩) m1 cap))) va.heap.size base) va ((L[k].1, rawT (compT f (starT t)), Value.slice x1 (nw S.w) y1, Value.slice x2 (nw S.w) y2, Value.slice x3 z3 y3) : Int × RawT × Value × Value × Value) from hs6.out.raw.mono (fun i hi e => (hR.out.stepNo HE.out).x.clear hi e))
   replace HE := Lib.hid (HE.out.transNo hyA)
   clear hyA
   try simp only [Act.put, nzA, nzB, nzC]
   refine hHs [17, 18, 19, 20, 21] (hHl hHeld ?_)
   clear hHeld
   iterate 5
    refine hFn ?_ (fun w => ?_) ?_
    rotate_left
    ·go_simp; (try with_reducible rfl)
    simp only [Act.put, nzA, nzB, nzC]
   refine hHe fun hHeld => ?_
   refine heldL_next1 (i := 22) (by kernel_rfl) (NextL.mk rfl rfl (fun K hK => ?_))
   ((obtain ⟨⟨u0, u1, u2, u3, u4, u5, q0, q1, q2, q3, q4, q5⟩, f0, f1, f2, f3, f4, f5⟩ := hR6.out.x.cells6 (t := n) (i := k) (L := L) (g := g) (c := cap) (N := m1) (by rw [List.length_set]; have := HNR.out; omega) (by rw [List.getElem_set_self]) HLk.out.symm (by have := HLk.out; omega)); go_simp; (clear q0 q1 q2 q3 q4 q5 f0 f1 f2 f3 f4 f5))
   refine hK.out _ _ ?_ ?_
   ·exact fun h => absurd h (by decide)
   clear hK K hHeld
   intro hHeld
   have hR8 := Lib.hid (show RsM W (((((va.setCell ⟨g, k * 6 + 1, none⟩ (.int .i64 (S.w : Int))).setCell ⟨g, k * 6 + 2, none⟩ (.slice x1 (nw S.w) y1)).setCell ⟨g, k * 6 + 3, none⟩ (.int .i64 (S.w : Int))).setCell ⟨g, k * 6 + 4, none⟩ (.slice x2 (nw S.w) y2)).setCell ⟨g, k * 6 + 5, none⟩ (.slice x3 z3 y3)) [(bS, #[.int .i64 (S.w : Int), .slice d1 (nw S.w) e1, .int .i64 (S.w : Int), .slice d2 (nw S.w) e2, .slice d3 n3 e3], 30), (bA, #[.int .i64 (S.w : Int), .slice (some ⟨gB, 0, none⟩) N cB, .slice (some ⟨gI, 0, none⟩) N cI], 37)] base va.heap.size (.slice (some ⟨gB, 0, none⟩) N cB) (.slice (some ⟨gI, 0, none⟩) N cI) RL LB2 (RL.set n (L.set k ((L[k].1, rawT (compT f (starT t)), Value.slice x1 (nw S.w) y1, Value.slice x2 (nw S.w) y2, Value.slice x3 z3 y3) : Int × RawT × Value × Value × Value), (.slice (some ⟨g, 0, none⟩) m1 cap))) from by
    have h := hR6.out.putArc (p := ((L[k].1, rawT (compT f (starT t)), Value.slice x1 (nw S.w) y1, Value.slice x2 (nw S.w) y2, Value.slice x3 z3 y3) : Int × RawT × Value × Value × Value)) (t := n) (k := k) (g := g) (c := cap) (L := L) (by rw [List.length_set]; exact HNR.out) (by rw [List.length_set]; have := HNR.out; omega) (by rw [List.getElem_set_self, HLk.out]) (by have := HLk.out; omega) rfl hok6.out
    rw [List.set_set, HLk.out] at h
    have hjw : (compT f (starT t)).w = S.w := hfw.out
    simp only [rawT, setN, hjw] at h ⊢
    exact h)
   have HS3 := Lib.hid ((HS2.out.extNo HE.out).ext (show Ext (At g) va (((((va.setCell ⟨g, k * 6 + 1, none⟩ (.int .i64 (S.w : Int))).setCell ⟨g, k * 6 + 2, none⟩ (.slice x1 (nw S.w) y1)).setCell ⟨g, k * 6 + 3, none⟩ (.int .i64 (S.w : Int))).setCell ⟨g, k * 6 + 4, none⟩ (.slice x2 (nw S.w) y2)).setCell ⟨g, k * 6 + 5, none⟩ (.slice x3 z3 y3)) from (((((Ext.refl _ _).setAt _ _).setAt _ _).setAt _ _).setAt _ _).setAt _ _) (fun j _ e => by rw [show j = g from e]; exact HgL.out.1))
   clear hR hR6 hok6 hs6 HS2 HBU HBT HQC HCIr HE HTk
   generalize (((((va.setCell ⟨g, k * 6 + 1, none⟩ (.int .i64 (S.w : Int))).setCell ⟨g, k * 6 + 2, none⟩ (.slice x1 (nw S.w) y1)).setCell ⟨g, k * 6 + 3, none⟩ (.int .i64 (S.w : Int))).setCell ⟨g, k * 6 + 4, none⟩ (.slice x2 (nw S.w) y2)).setCell ⟨g, k * 6 + 5, none⟩ (.slice x3 z3 y3)) = U5 at *
   generalize va.heap.size = lim5 at *
   try simp only [Act.put, nzA, nzB, nzC]
   refine hHs [23] (hHl hHeld ?_)
   clear hHeld
   refine hFn ?_ (fun w => ?_) ?_
   rotate_left
   ·go_simp; (try with_reducible rfl)
   simp only [Act.put, nzA, nzB, nzC]
   refine hHe fun hHeld => ?_
   refine heldL_done (by kernel_rfl) ?_ _
   go_wp2_with fail
   go_roundw
   case rel => exact ⟨k + 1, _, L.set k ((L[k].1, rawT (compT f (starT t)), Value.slice x1 (nw S.w) y1, Value.slice x2 (nw S.w) y2, Value.slice x3 z3 y3) : Int × RawT × Value × Value × Value), HKK.out, by omega, hR8, Lib.hid (by rw [List.length_set]; exact HLk.out), Lib.hid (mix_step HMk.out HKE.out HMF.out), HS3⟩
   case measure => simp [intOf]; omega
  have hge : ¬ (k : Int) < (m1 : Int) := by omega
  have hkm : k = m1 := by omega
  subst hkm
  go_wp2_with fail
  go_ret
  have hnS : n < S.ins.length := by rw [← HN.out]; exact hn
  have hres : resolveW S n = resS S n (starT t) := by
   unfold resolveW
   rw [dif_pos (by rw [← HI.out]; exact HI1.out)]
   simp only [← HI.out, ← HMF.out]
  refine ⟨rfl, lim, LB2, RL.set n (L, .slice (some ⟨g, 0, none⟩) k cap), Lib.hid ⟨hR.out.x, ?_, ?_, ?_, ?_⟩, Lib.hid hR.out.ext, Lib.hid hR.out.own⟩
  ·exact (resolve_ok HS.out.ok hnS).1
  ·rw [hres]
   show LB2.map Prod.fst = (S.bnd.set n (applyT (starT t) (rowD S.bnd n))).map (setN S.w)
   rw [HLB2.out, List.map_set, List.map_set, HS.out.bnd]
  ·rw [hres]
   show (RL.set n _).length = (S.ins.set n _).length
   rw [List.length_set, List.length_set]
   exact HS.out.len
  intro i' h'
  rw [hres]
  have h2 : i' < RL.length := by simpa using h'
  unfold resS
  rw [arcW_set hnS, List.getElem_set]
  by_cases e : n = i'
  ·rw [if_pos e, if_pos e.symm]
   show L.map cutA = _
   rw [HMk.out, ← HEL.out, mix_all, HE0.out, HI.out]
  rw [if_neg e, if_neg (fun h => e h.symm)]
  exact HS.out.rows i' h2
 have H1 := Lib.hid h1
 clear h1
 go_wp2_with fail
 go_ret
 have hres : resolveW S n = S := by
  unfold resolveW
  rw [dif_neg H1.out]
 exact ⟨rfl, lim0, LB, RL, Lib.hid (by rw [hres]; exact ⟨hR2.out.x, HS.out.ok, HS.out.bnd, HS.out.len, HS.out.rows⟩), Lib.hid hR2.out.ext, Lib.hid hR2.out.own⟩

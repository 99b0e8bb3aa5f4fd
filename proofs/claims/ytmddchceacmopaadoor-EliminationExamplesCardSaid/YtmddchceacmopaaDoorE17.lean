
import Derived.Test.YtmddchceacmopaaDoorE16
set_option linter.unusedVariables false
set_option linter.unusedSimpArgs false
namespace Go.Proofs.YtmddchceacmopaaDoor
open Go Go.RowKit
def Tg (_ : Nat) : Prop := True
theorem Row.or {M M' : Nat → Prop} {w : World} {s n : Nat} {sl : Value} {vs : List Value} (h1 : Row M w s sl n vs) (h2 : Row M' w s sl n vs) : Row (fun b => M b ∨ M' b) w s sl n vs := by
 obtain ⟨e1, e2, a, cap, rfl, e4, h1⟩ := h1
 obtain ⟨-, -, a', cap', e5, -, h2⟩ := h2
 simp only [Value.slice.injEq, true_and] at e5
 obtain ⟨rfl, rfl⟩ := e5
 refine ⟨e1, e2, a, cap, rfl, e4, ?_⟩
 rcases h1 with h1 | ⟨b, off, rfl, q1, q2, q3⟩
 ·exact .inl h1
 rcases h2 with h2 | ⟨b', off', e6, -, q4, -⟩
 ·exact .inl h2
 simp only [Option.some.injEq, Addr.mk.injEq, and_true] at e6
 obtain ⟨rfl, rfl⟩ := e6
 exact .inr ⟨b, off, rfl, q1, fun e => e.elim q2 q4, q3⟩
theorem SetAt.or {M M' : Nat → Prop} {w : World} {sl : Value} {x m : Nat} (h1 : SetAt M w sl x m) (h2 : SetAt M' w sl x m) : SetAt (fun b => M b ∨ M' b) w sl x m := ⟨⟨h1.words.row.or h2.words.row, h1.words.lt⟩, h1.hw, h1.hm⟩
theorem ext3E (w : World) (C : Nat) (a b c : Value) : Ext (At C) w (((w.setCell ⟨C, 0, none⟩ a).setCell ⟨C, 1, none⟩ b).setCell ⟨C, 2, none⟩ c) := (((Ext.refl (At C) w).setAt 0 a).setAt 1 b).setAt 2 c
theorem ext2W {V w : World} {D : Nat} {a b c : Value} (h : Ext No V w) (hD : V.heap.size ≤ D) : Ext No V (((w.setCell ⟨D, 0, none⟩ a).setCell ⟨D, 1, none⟩ b).setCell ⟨D, 2, none⟩ c) := h.trans2 (ext3E w D a b c) (fun i hi e => by unfold At at e; omega)
theorem own_of_heap {β : Type} (K : EK β) (zp : β) (z : Value) (hz : z.cells.toList = K.cells zp) (hs : 0 < K.s) {n base g : Nat} (hn : n ≤ maxLen) {w : World} (hg : w.heap[g]? = some (.cells (madeCells z.cells (n * K.s)) K.T (0, 0))) (hb : base ≤ g) : w.ownsRow base K.T K.s (.slice (some ⟨g, 0, none⟩) n n) n ((List.replicate n zp).flatMap K.cells) := by
 refine ⟨by rw [flat_len2]; simp, .inr ⟨g, n, _, rfl, hb, hg, Nat.le_refl _, hn, by simp [madeCells], ?_⟩⟩
 rw [made_flat K zp z hz hs]
 exact List.take_of_length_le (by rw [flat_len2]; simp)
theorem infoLE : (Tryd.prog.info? 34).map (fun i => (i.zero, i.size, i.bytes)) = some (some (.slice none 0 0), 1, 24) := by kernel_rfl
theorem infoCE : (Tryd.prog.info? 27).map (fun i => (i.zero, i.size, i.bytes)) = some (some (.agg #[.int .i64 0, .int .i64 0]), 2, 16) := by kernel_rfl
def zS : RawSet × Value := (⟨0, []⟩, .slice none 0 0)
def zL : LA × Value := ([], .slice none 0 0)
def zAr : Int × RawT × Value × Value × Value := (0, ⟨⟨0, []⟩, ⟨0, []⟩, []⟩, .slice none 0 0, .slice none 0 0, .slice none 0 0)
theorem zS_ok (M : Nat → Prop) (w : World) : kS.ok M w zS := ⟨Row.nil _ _ _ _ _ (by omega), fun n h => by cases h⟩
theorem cl_start {V wx : World} {D gB gI N x : Nat} (hN : N ≤ 256) (hx : Ext No V wx) (hD : wx.heap[D]? = some (.cells #[.int .i64 (x : Int), .slice (some ⟨gB, 0, none⟩) N N, .slice (some ⟨gI, 0, none⟩) N N] 37 (0, 0)))
  (hB : wx.heap[gB]? = some (.cells (madeCells #[.int .i64 0, .slice none 0 0] (N * 2)) 24 (0, 0))) (hI : wx.heap[gI]? = some (.cells (madeCells #[.slice none 0 0] N) 34 (0, 0))) (n1 : gB ≠ gI) (n2 : gB ≠ D) (n3 : gI ≠ D) (w1 : V.heap.size ≤ gB) (w2 : V.heap.size ≤ gI) (w3 : V.heap.size ≤ D) :
  CkM V wx D wx.heap.size x (.slice (some ⟨gB, 0, none⟩) N N) (.slice (some ⟨gI, 0, none⟩) N N) (List.replicate N zS) (List.replicate N zL) := by
 have hm : N ≤ maxLen := by simp only [maxLen]; omega
 have hoB : wx.ownsRow V.heap.size 24 2 (.slice (some ⟨gB, 0, none⟩) N N) N ((List.replicate N zS).flatMap kS.cells) := own_of_heap kS zS (.agg #[.int .i64 0, .slice none 0 0]) rfl (by decide) hm hB w1
 have hoI : wx.ownsRow V.heap.size 34 1 (.slice (some ⟨gI, 0, none⟩) N N) N ((List.replicate N zL).flatMap kL.cells) := own_of_heap kL zL (.slice none 0 0) rfl (by decide) hm (by rw [show N * kL.s = N from Nat.mul_one N]; exact hI) w2
 have hrS : ∀ p ∈ List.replicate N zS, p = zS := fun p hp => List.eq_of_mem_replicate hp
 have hrL : ∀ p ∈ List.replicate N zL, p = zL := fun p hp => List.eq_of_mem_replicate hp
 refine ⟨hx, hD, ⟨hx.size, Nat.le_refl _, ⟨(by rw [List.length_replicate]; exact hoB), (fun p hp => (by rw [hrS p hp]; exact zS_ok _ _))⟩, (by rw [List.length_replicate, ← flat_snd]; exact hoI), (fun p hp => (by rw [hrL p hp]; exact LOwn.nil _ _ _ _)), (fun k hk e => n1 ?_), (fun p hp k hk => (by rw [hrL p hp] at hk; cases hk)), (fun i j hi hj hij k hk => (by rw [List.getElem_replicate] at hk; cases hk)), (fun k hk => ?_), (fun k hk => ?_), (fun p hp k hk => (by rw [hrL p hp] at hk; cases hk))⟩, w3, (fun e => n2 (by simpa [Value.ownBlock] using e)), (fun e => n3 (by simpa [Value.ownBlock] using e)), (fun p hp => (by rw [hrL p hp]; intro e; cases e))⟩
 ·simp only [Value.ownBlock, Option.some.injEq] at hk e
  omega
 ·rw [← Option.some.inj hk]; exact lt_of_block hB
 rw [← Option.some.inj hk]; exact lt_of_block hI
theorem zAr_ok (M : Nat → Prop) (w : World) : kA.ok M w zAr := ⟨⟨Row.nil _ _ _ _ _ (by omega), fun n h => by cases h⟩, ⟨Row.nil _ _ _ _ _ (by omega), fun n h => by cases h⟩, Row.nil _ _ _ _ _ (by omega)⟩
theorem set_part {α β : Type} (f : α → β) (g : Nat → Option β) (l : List α) (n : Nat) (p : α) (h : ∀ t, t < n → (l[t]?).map f = g t) (hn : n < l.length) (hp : some (f p) = g n) : ∀ t, t < n + 1 → ((l.set n p)[t]?).map f = g t := by
 intro t ht
 rw [List.getElem?_set]
 by_cases e : n = t
 ·subst e
  rw [if_pos rfl, if_pos hn]
  exact hp
 rw [if_neg e]
 exact h t (by omega)
theorem part_all {α β : Type} (f : α → β) (l : List α) (l2 : List β) (m : Nat) (h : ∀ t, t < m → (l[t]?).map f = l2[t]?) (h1 : l.length = m) (h2 : l2.length = m) : l.map f = l2 := by
 refine List.ext_getElem? (fun t => ?_)
 rw [List.getElem?_map]
 rcases Nat.lt_or_ge t m with e | e
 ·exact h t e
 rw [List.getElem?_eq_none (by omega), List.getElem?_eq_none (by omega)]
 rfl
theorem flatC_oneE (l : List (Int × Int)) : ∀ u ∈ flatC l, u.oneCell' = true := fun u hu => by
 obtain ⟨p, _, hp⟩ := List.mem_flatMap.1 hu
 simp only [CopyC, List.mem_cons, List.not_mem_nil, or_false] at hp
 rcases hp with rfl | rfl <;> rfl
theorem raw_ofE {M : Nat → Prop} {W : World} {t : TrD} {w : Nat} {sg sk sc : Value} (hw : t.w = w) (hg : SetAt M W sg w t.gen) (hk : SetAt M W sk w t.kill) (hc : CopiesAt M W sc t.copies) : RawTAt M W sg sk sc (rawT t) := by
 subst hw; exact ⟨hg.words, hk.words, hc⟩
theorem MWx.cells6 {w : World} {base lim : Nat} {vb vi : Value} {LB : LS} {RL : RLs} {L : LA} {g c t i N : Nat} (h : MWx w base lim vb vi LB RL) (ht : t < RL.length) (hqt : RL[t] = (L, .slice (some ⟨g, 0, none⟩) N c)) (hN : N = L.length) (hi : i < L.length) :
  (∃ u0 u1 u2 u3 u4 u5, w.cell? ⟨g, i * 6, none⟩ = some u0 ∧ w.cell? ⟨g, i * 6 + 1, none⟩ = some u1 ∧ w.cell? ⟨g, i * 6 + 2, none⟩ = some u2 ∧ w.cell? ⟨g, i * 6 + 3, none⟩ = some u3 ∧ w.cell? ⟨g, i * 6 + 4, none⟩ = some u4 ∧ w.cell? ⟨g, i * 6 + 5, none⟩ = some u5) ∧ w.frozen? ⟨g, i * 6, none⟩ = false ∧ w.frozen? ⟨g, i * 6 + 1, none⟩ = false ∧ w.frozen? ⟨g, i * 6 + 2, none⟩ = false ∧ w.frozen? ⟨g, i * 6 + 3, none⟩ = false ∧ w.frozen? ⟨g, i * 6 + 4, none⟩ = false ∧ w.frozen? ⟨g, i * 6 + 5, none⟩ = false := by
 subst hN
 have hmem := List.getElem_mem ht
 rw [hqt] at hmem
 have hr : LOwn kA (HotW vb vi RL lim base) w base (.slice (some ⟨g, 0, none⟩) L.length c) L := h.r _ hmem
 exact ⟨⟨_, _, _, _, _, _, hr.cellAt (j := 0) hi (by decide) rfl, hr.cellAt (j := 1) hi (by decide) rfl, hr.cellAt (j := 2) hi (by decide) rfl, hr.cellAt (j := 3) hi (by decide) rfl, hr.cellAt (j := 4) hi (by decide) rfl, hr.cellAt (j := 5) hi (by decide) rfl⟩, World.ownsRow.frozenAt hr.own _, World.ownsRow.frozenAt hr.own _, World.ownsRow.frozenAt hr.own _, World.ownsRow.frozenAt hr.own _, World.ownsRow.frozenAt hr.own _, World.ownsRow.frozenAt hr.own _⟩
theorem flatC_lenE : ∀ l : List (Int × Int), (flatC l).length = l.length * 2
 | [] => rfl
 | p :: l => by
  have h := flatC_lenE l
  simp only [flatC, List.flatMap_cons, List.length_append, CopyC, List.length_cons, List.length_nil] at h ⊢
  omega
theorem ext5W {V w : World} {D : Nat} {a b c d e : Value} (h : Ext No V w) (hD : V.heap.size ≤ D) : Ext No V (((((w.setCell ⟨D, 0, none⟩ a).setCell ⟨D, 1, none⟩ b).setCell ⟨D, 2, none⟩ c).setCell ⟨D, 3, none⟩ d).setCell ⟨D, 4, none⟩ e) := h.trans2 ((((((Ext.refl (At D) w).setAt 0 a).setAt 1 b).setAt 2 c).setAt 3 d).setAt 4 e) (fun i hi e => by unfold At at e; omega)
theorem CkM.put6 {V wr : World} {D lim x : Nat} {vb : Value} {LB : LS} {RL : RLs} {g c t i : Nat} {gI cI NI : Nat} {L : LA} {p : Int × RawT × Value × Value × Value} (h : CkM V wr D lim x vb (.slice (some ⟨gI, 0, none⟩) NI cI) LB RL) (hNI : NI = RL.length) (ht : t < RL.length) (hqt : RL[t] = (L, .slice (some ⟨g, 0, none⟩) L.length c)) (hi : i < L.length)
  (hp : kA.ok (HotW vb (.slice (some ⟨gI, 0, none⟩) NI cI) RL lim V.heap.size) wr p) :
  CkM V ((((((wr.setCell ⟨g, i * 6, none⟩ (.int .i64 p.1)).setCell ⟨g, i * 6 + 1, none⟩ (.int .i64 p.2.1.gen.width)).setCell ⟨g, i * 6 + 2, none⟩ p.2.2.1).setCell ⟨g, i * 6 + 3, none⟩ (.int .i64 p.2.1.kill.width)).setCell ⟨g, i * 6 + 4, none⟩ p.2.2.2.1).setCell ⟨g, i * 6 + 5, none⟩ p.2.2.2.2) D lim x vb (.slice (some ⟨gI, 0, none⟩) NI cI) LB (RL.set t (L.set i p, .slice (some ⟨g, 0, none⟩) L.length c)) := by
 have hmem := List.getElem_mem ht
 rw [hqt] at hmem
 have hr : LOwn kA (HotW vb (.slice (some ⟨gI, 0, none⟩) NI cI) RL lim V.heap.size) wr V.heap.size (.slice (some ⟨g, 0, none⟩) L.length c) L := h.x.r _ hmem
 have h1 := hr.putAll hi (p := p) (kA.mono hp (fun j _ e => by
  rcases e with e | e
  ·exact e
  exact .inr (.inr (.inr (.inl ⟨_, hmem, by rw [e]; rfl⟩)))))
 refine h.putSame hNI ht hqt ((((((Ext.refl (At g) wr).setAt _ _).setAt _ _).setAt _ _).setAt _ _).setAt _ _ |>.setAt _ _) h1.own (fun r hr2 => ?_)
 rcases List.mem_or_eq_of_mem_set hr2 with h3 | rfl
 ·exact kA.mono (hr.ok r h3) (fun j _ e => .inl e)
 exact hp
def ClPost (S : WebD) (W : World) (e : Ending) (w' : World) : Prop :=
 ∃ (gB cB gI cI lim : Nat) (LB : LS) (RL : RLs), e = .returned (.agg #[.int .i64 (S.w : Int), .slice (some ⟨gB, 0, none⟩) S.ins.length cB, .slice (some ⟨gI, 0, none⟩) S.ins.length cI]) ∧ Hid (MW w' W.heap.size lim (.slice (some ⟨gB, 0, none⟩) S.ins.length cB) (.slice (some ⟨gI, 0, none⟩) S.ins.length cI) LB RL S) ∧ Ext No W w'
set_option maxRecDepth 100000 in
set_option maxHeartbeats 16000000 in
theorem elclone_any (S : WebD) (vb vi : Value) (W : World) (h8 : WebOk8 S) (h : WbAt No W vb vi S) :
  Calls Tryd.prog 19 #[.agg #[.int .i64 (S.w : Int), vb, vi]] W (ClPost S W) := by
 obtain ⟨iB, hiB, hB0, hB1, hB2⟩ := info_parts infoS
 obtain ⟨iL, hiL, hL0, hL1, hL2⟩ := info_parts infoLE
 obtain ⟨iA, hiA, hA0, hA1, hA2⟩ := info_parts infoAE
 obtain ⟨iC, hiC, hC0, hC1, hC2⟩ := info_parts infoCE
 have H := Lib.hid h
 have H8 := Lib.hid h8
 have hn1 := h8.ok.n1
 have hn2 := h8.n8
 have hw8 := h8.w8
 obtain ⟨ab, cb, ai, ci, rfl, rfl⟩ := h.slices
 clear h h8
 obtain ⟨N, hN⟩ : ∃ N, N = S.ins.length := ⟨_, rfl⟩
 have HN := Lib.hid hN
 have hmkB := mk_any 31 24 iB _ Tryd.underlying31 hiB hB0 2 32 hB1 hB2 N (by omega) (by omega) (by omega)
 have hmkI := mk_any 35 34 iL _ Tryd.underlying35 hiL hL0 1 24 hL1 hL2 N (by omega) (by omega) (by omega)
 rw [← hN] at hn1 hn2 ⊢
 clear hN
 go_enter Tryd.func19, Tryd.ntmps19
 go_upto_region 1 with (fail)
 have hx0 : Ext No W ((W.alloc (.cells #[.int .i64 (S.w : Int), .slice ab N cb, .slice ai N ci] 37)).alloc (.cells #[.int .i64 0, .slice none 0 0, .slice none 0 0] 37)) := ((Ext.refl _ _).alloc _).alloc _
 have HA := Lib.hid (show ((W.alloc (.cells #[.int .i64 (S.w : Int), .slice ab N cb, .slice ai N ci] 37)).alloc (.cells #[.int .i64 0, .slice none 0 0, .slice none 0 0] 37)).heap[W.heap.size]? = some (.cells #[.int .i64 (S.w : Int), .slice ab N cb, .slice ai N ci] 37 (0, 0)) from alloc_under (alloc_top rfl))
 have HC := Lib.hid (show ((W.alloc (.cells #[.int .i64 (S.w : Int), .slice ab N cb, .slice ai N ci] 37)).alloc (.cells #[.int .i64 0, .slice none 0 0, .slice none 0 0] 37)).heap[W.heap.size + 1]? = some (.cells #[.int .i64 0, .slice none 0 0, .slice none 0 0] 37 (0, 0)) from alloc_top (by simp))
 have HX := Lib.hid hx0
 have HVW := Lib.hid (show ((W.alloc (.cells #[.int .i64 (S.w : Int), .slice ab N cb, .slice ai N ci] 37)).alloc (.cells #[.int .i64 0, .slice none 0 0, .slice none 0 0] 37)).heap.size = W.heap.size + 2 from by simp)
 clear hx0
 generalize ((W.alloc (.cells #[.int .i64 (S.w : Int), .slice ab N cb, .slice ai N ci] 37)).alloc (.cells #[.int .i64 0, .slice none 0 0, .slice none 0 0] 37)) = V at *
 go_cut [3] (fun s3 wx => ∃ (D gB gI : Nat), s3 = .pointer (some ⟨D, 0, none⟩) ∧ Hid (Ext No V wx) ∧ Hid (wx.heap[D]? = some (.cells #[.int .i64 (S.w : Int), .slice (some ⟨gB, 0, none⟩) N N, .slice (some ⟨gI, 0, none⟩) N N] 37 (0, 0))) ∧ Hid (wx.heap[gB]? = some (.cells (madeCells #[.int .i64 0, .slice none 0 0] (N * 2)) 24 (0, 0))) ∧ Hid (wx.heap[gI]? = some (.cells (madeCells #[.slice none 0 0] N) 34 (0, 0))) ∧ gB ≠ gI ∧ gB ≠ D ∧ gI ≠ D ∧ V.heap.size ≤ gB ∧ V.heap.size ≤ gI ∧ V.heap.size ≤ D)
 case first =>
  refine wp_region_held_drew (S := (fun w' => Ext No V w')) (by kernel_rfl) ?_ (fun hHeld => ?_)
  ·exact (Ext.refl _ _).drew
  have hE0 := Lib.hid (show Ext No V V.drew from (Ext.refl _ _).drew)
  generalize V.drew = v at *
  refine hHs [0, 1, 2, 3, 4, 6, 7, 8] ?_
  iterate 8
   refine hTn ?_ hHeld (fun w hSw => ?_) ?_
   rotate_left
   ·(have q0 := cellOf ((show Ext No V _ from hSw).blk HA.out no_no)); go_simp; (try with_reducible rfl)
   simp only [Act.put, nzA, nzB, nzC]
  refine hHe ?_
  have hst : Tg 1 := trivial
  iterate 4
   all_goals first
    | ((guard_hyp hst : Tg 1); (clear hst); (refine held_next3 (i := 5) (j := 9) (k := 11) (by kernel_rfl) (NextOp.mk rfl rfl (fun K hK => have hop : Tg 1005 := trivial; have hst : Tg 2 := trivial; ?_)) (NextOp.mk rfl rfl (fun K hK => have hop : Tg 1009 := trivial; have hst : Tg 3 := trivial; ?_)) (NextOp.mk rfl rfl (fun K hK => have hop : Tg 1011 := trivial; have hst : Tg 4 := trivial; ?_))))
    | ((guard_hyp hst : Tg 2); (clear hst); (refine held_next2 (i := 9) (j := 11) (by kernel_rfl) (NextOp.mk rfl rfl (fun K hK => have hop : Tg 1009 := trivial; have hst : Tg 5 := trivial; ?_)) (NextOp.mk rfl rfl (fun K hK => have hop : Tg 1011 := trivial; have hst : Tg 6 := trivial; ?_))))
    | ((guard_hyp hst : Tg 3); (clear hst); (refine held_next2 (i := 5) (j := 11) (by kernel_rfl) (NextOp.mk rfl rfl (fun K hK => have hop : Tg 1005 := trivial; have hst : Tg 5 := trivial; ?_)) (NextOp.mk rfl rfl (fun K hK => have hop : Tg 1011 := trivial; have hst : Tg 7 := trivial; ?_))))
    | ((guard_hyp hst : Tg 4); (clear hst); (refine held_next2 (i := 5) (j := 9) (by kernel_rfl) (NextOp.mk rfl rfl (fun K hK => have hop : Tg 1005 := trivial; have hst : Tg 6 := trivial; ?_)) (NextOp.mk rfl rfl (fun K hK => have hop : Tg 1009 := trivial; have hst : Tg 7 := trivial; ?_))))
    | ((guard_hyp hst : Tg 5); (clear hst); (refine held_next2 (i := 10) (j := 11) (by kernel_rfl) (NextOp.mk rfl rfl (fun K hK => have hop : Tg 1010 := trivial; have hst : Tg 8 := trivial; ?_)) (NextOp.mk rfl rfl (fun K hK => have hop : Tg 1011 := trivial; have hst : Tg 9 := trivial; ?_))))
    | ((guard_hyp hst : Tg 6); (clear hst); (refine held_call (i := 9) rfl (by kernel_rfl) rfl (fun K hK => have hop : Tg 1009 := trivial; have hst : Tg 9 := trivial; ?_)))
    | ((guard_hyp hst : Tg 7); (clear hst); (refine held_call (i := 5) rfl (by kernel_rfl) rfl (fun K hK => have hop : Tg 1005 := trivial; have hst : Tg 9 := trivial; ?_)))
    | ((guard_hyp hst : Tg 8); (clear hst); (refine held_call (i := 11) rfl (by kernel_rfl) rfl (fun K hK => have hop : Tg 1011 := trivial; have hst : Tg 10 := trivial; ?_)))
    | ((guard_hyp hst : Tg 9); (clear hst); (refine held_call (i := 10) rfl (by kernel_rfl) rfl (fun K hK => have hop : Tg 1010 := trivial; have hst : Tg 10 := trivial; ?_)))
   all_goals first
    | ((guard_hyp hop : Tg 1005); (clear hop); ((go_simp)); (refine hK.out _ _ (by exact Ext.alloc (show Ext No V _ from hHeld) _) (fun hNew => ?_)); (clear hK K hHeld); (have hHeld := hNew); (clear hNew); ((have hGV := Lib.hid (show V.heap.size ≤ v.heap.size from (show Ext No V _ from hE0.out).size)); (try have nBI := Lib.hid (show v.heap.size ≠ gI from (Nat.ne_of_lt (lt_of_block hI.out)).symm)); (try have nBD := Lib.hid (show v.heap.size ≠ gD from (Nat.ne_of_lt (lt_of_block hD.out)).symm)); (have hyA := (Ext.refl No v).alloc (.cells (madeCells #[.int .i64 0, .slice none 0 0] (N * 2)) 24)); (try replace hI := Lib.hid (hyA.blk hI.out no_no)); (try replace hD := Lib.hid (hyA.blk hD.out no_no)); (have hB := Lib.hid (alloc_top (w := v) (o := (.cells (madeCells #[.int .i64 0, .slice none 0 0] (N * 2)) 24)) rfl)); (have wB := hGV); (replace hE0 := Lib.hid (hE0.out.transNo hyA)); (clear hGV hyA); (generalize v.heap.size = gB at *); (generalize (v.alloc (.cells (madeCells #[.int .i64 0, .slice none 0 0] (N * 2)) 24)) = v at *)); (try simp only [Act.put, nzA, nzB, nzC]))
    | ((guard_hyp hop : Tg 1009); (clear hop); ((go_simp)); (refine hK.out _ _ (by exact Ext.alloc (show Ext No V _ from hHeld) _) (fun hNew => ?_)); (clear hK K hHeld); (have hHeld := hNew); (clear hNew); ((have hGV := Lib.hid (show V.heap.size ≤ v.heap.size from (show Ext No V _ from hE0.out).size)); (try have nBI := Lib.hid (show gB ≠ v.heap.size from Nat.ne_of_lt (lt_of_block hB.out))); (try have nID := Lib.hid (show v.heap.size ≠ gD from (Nat.ne_of_lt (lt_of_block hD.out)).symm)); (have hyA := (Ext.refl No v).alloc (.cells (madeCells #[.slice none 0 0] N) 34)); (try replace hB := Lib.hid (hyA.blk hB.out no_no)); (try replace hD := Lib.hid (hyA.blk hD.out no_no)); (have hI := Lib.hid (alloc_top (w := v) (o := (.cells (madeCells #[.slice none 0 0] N) 34)) rfl)); (have wI := hGV); (replace hE0 := Lib.hid (hE0.out.transNo hyA)); (clear hGV hyA); (generalize v.heap.size = gI at *); (generalize (v.alloc (.cells (madeCells #[.slice none 0 0] N) 34)) = v at *)); (try simp only [Act.put, nzA, nzB, nzC]))
    | ((guard_hyp hop : Tg 1010); (clear hop); ((go_simp)); (refine hK.out _ _ (by exact hHeld) (fun hNew => ?_)); (clear hK K hHeld); (have hHeld := hNew); (clear hNew); (try simp only [Act.put, nzA, nzB, nzC]))
    | ((guard_hyp hop : Tg 1011); (clear hop); ((go_simp)); (refine hK.out _ _ (by exact Ext.alloc (show Ext No V _ from hHeld) _) (fun hNew => ?_)); (clear hK K hHeld); (have hHeld := hNew); (clear hNew); ((have hGV := Lib.hid (show V.heap.size ≤ v.heap.size from (show Ext No V _ from hE0.out).size)); (try have nBD := Lib.hid (show gB ≠ v.heap.size from Nat.ne_of_lt (lt_of_block hB.out))); (try have nID := Lib.hid (show gI ≠ v.heap.size from Nat.ne_of_lt (lt_of_block hI.out))); (have hyA := (Ext.refl No v).alloc (.cells #[.int .i64 0, .slice none 0 0, .slice none 0 0] 37)); (try replace hB := Lib.hid (hyA.blk hB.out no_no)); (try replace hI := Lib.hid (hyA.blk hI.out no_no)); (have hD := Lib.hid (alloc_top (w := v) (o := (.cells #[.int .i64 0, .slice none 0 0, .slice none 0 0] 37)) rfl)); (have wD := hGV); (replace hE0 := Lib.hid (hE0.out.transNo hyA)); (clear hGV hyA); (generalize v.heap.size = gD at *); (generalize (v.alloc (.cells #[.int .i64 0, .slice none 0 0, .slice none 0 0] 37)) = v at *)); (try simp only [Act.put, nzA, nzB, nzC]))
  all_goals
   clear hst
   refine hHc 12 fun K hK => ?_
   ((have cS := cellOf hD.out); (have fS := freeOf hD.out); go_simp; (clear cS fS))
   refine hK.out _ _ (by exact ext2W (show Ext No V _ from hHeld) wD.out) (fun hNew => ?_)
   clear hK K hHeld
   have hHeld := hNew
   clear hNew
   try simp only [Act.put, nzA, nzB, nzC]
   refine wpAnyH_done (by kernel_rfl) ?_ _
   have hEx : Ext No V _ := hHeld
   go_wp2_with fail
   go_meet
   exact ⟨gD, gB, gI, rfl, Lib.hid hEx, Lib.hid ((set_same (j := 2) (set_same (j := 1) (set_same (j := 0) hD.out))).trans rfl), Lib.hid ((ext3E v gD _ _ _).blk hB.out (fun e => nBD.out e)), Lib.hid ((ext3E v gD _ _ _).blk hI.out (fun e => nID.out e)), nBI.out, nBD.out, nID.out, wB.out, wI.out, wD.out⟩
 case rest =>
  obtain ⟨D, gB, gI, rfl, hx, hD, hB, hI, n1, n2, n3, w1, w2, w3⟩ := hcut
  rename World => wx
  have HM0 := Lib.hid (cl_start (by omega) hx.out hD.out hB.out hI.out n1 n2 n3 w1 w2 w3)
  clear hx hD hB hI n1 n2 n3 w1 w2 w3 hmkB hmkI
  have HAX := Lib.hid (HM0.out.ext.blk HA.out no_no)
  have cA := cellOf HAX.out
  go_wp2_with fail
  clear cA HAX
  go_loopw [4, 5, 6, 7, 8, 23] (fun _ _ _ _ _ s23 wr => ∃ (n lim : Nat) (LB : LS) (RL : RLs), s23 = .int .i64 n ∧ n ≤ N ∧ Hid (CkM V wr D lim S.w (.slice (some ⟨gB, 0, none⟩) N N) (.slice (some ⟨gI, 0, none⟩) N N) LB RL) ∧ Hid (LB.length = N ∧ RL.length = N) ∧ Hid (∀ t, t < n → (LB[t]?).map Prod.fst = some (setN S.w (rowD S.bnd t))) ∧ Hid (∀ t, t < n → (RL[t]?).map (fun p => p.1.map cutA) = some (arcsRow (arcW S t)))) (fun _ _ _ _ _ s23 _ => N - (intOf s23).toNat)
  case atStart => exact ⟨0, _, _, _, rfl, Nat.zero_le _, HM0, Lib.hid ⟨List.length_replicate .., List.length_replicate ..⟩, Lib.hid (fun t h => absurd h (Nat.not_lt_zero _)), Lib.hid (fun t h => absurd h (Nat.not_lt_zero _))⟩
  clear HM0
  obtain ⟨n, lim, LB, RL, rfl, hn, hm, hlen, hLB, hRL⟩ := hrel
  rename World => wr
  by_cases hlt : n < N
  ·have hlz : (n : Int) < (N : Int) := by omega
   have HKK : Hid (Value.int .i64 ((n : Int) + 1) = .int .i64 ((n + 1 : Nat) : Int)) := Lib.hid (by rw [show ((n + 1 : Nat) : Int) = (n : Int) + 1 from by omega])
   obtain ⟨b, off, cap, a, c, hve, hcell, hA⟩ := (H.out.extNo HX.out).arcs (i := n) (by rw [← HN.out]; exact hlt)
   simp only [Value.slice.injEq] at hve
   obtain ⟨rfl, -, rfl⟩ := hve
   obtain ⟨bb, ob, kb, a5, c5, hve, g01, hset⟩ := ((H.out.extNo HX.out).bnd).cells (i := n) (by rw [H.out.ok.lb, ← HN.out]; exact hlt)
   simp only [Value.slice.injEq] at hve
   obtain ⟨rfl, -, rfl⟩ := hve
   obtain ⟨m, hm2⟩ : ∃ m, m = (arcW S n).length := ⟨_, rfl⟩
   have HM := Lib.hid hm2
   rw [← hm2] at hcell hA
   clear hm2
   have hm8 : m ≤ 256 := by have h1 := (H8.out.ok.row n).len; have := HM.out; have := H8.out.ok.n2; omega
   have HQ := Lib.hid g01
   have HCE := Lib.hid hcell
   clear g01 hcell
   have hmkA := mk_any 34 33 iA _ Tryd.underlying34 hiA hA0 6 96 hA1 hA2 m (by omega) (by omega) (by omega)
   have c4 := hm.out.ext.keep HCE.out
   go_upto_region 5 with (fail)
   clear c4
   have HBD := Lib.hid hm.out.box
   have HBA := Lib.hid (hm.out.ext.blk HA.out no_no)
   refine wp_region_heldL [10] (fun w' => Ext No wr w') (by kernel_rfl) ?_ (fun hHeld => ?_)
   ·exact (Ext.refl _ _).drew
   have HE := Lib.hid (show Ext No wr wr.drew from (Ext.refl _ _).drew)
   generalize wr.drew = v0 at *
   refine hHs [0] (hHl hHeld ?_)
   clear hHeld
   refine hFn ?_ (fun w => ?_) ?_
   rotate_left
   ·go_simp; (try with_reducible rfl)
   simp only [Act.put, nzA, nzB, nzC]
   refine hHe fun hHeld => ?_
   refine hHs [1] (hHl hHeld ?_)
   clear hHeld
   refine hHn ?_ (fun w hSw => ?_) ?_
   rotate_left
   ·(have q0 := cellOf ((show Ext No wr _ from hSw).blk HBD.out no_no)); go_simp; (try with_reducible rfl)
   simp only [Act.put, nzA, nzB, nzC]
   refine hHe fun hHeld => ?_
   refine hHs [2, 3] (hHl hHeld ?_)
   clear hHeld
   iterate 2
    refine hFn ?_ (fun w => ?_) ?_
    rotate_left
    ·go_simp; (try with_reducible rfl)
    simp only [Act.put, nzA, nzB, nzC]
   refine hHe fun hHeld => ?_
   refine hHs [4] (hHl hHeld ?_)
   clear hHeld
   refine hHn ?_ (fun w hSw => ?_) ?_
   rotate_left
   ·(have q0 := cellOf ((show Ext No wr _ from hSw).blk HBA.out no_no)); go_simp; (try with_reducible rfl)
   simp only [Act.put, nzA, nzB, nzC]
   refine hHe fun hHeld => ?_
   refine hHs [5, 6] (hHl hHeld ?_)
   clear hHeld
   iterate 2
    refine hFn ?_ (fun w => ?_) ?_
    rotate_left
    ·go_simp; (try with_reducible rfl)
    simp only [Act.put, nzA, nzB, nzC]
   refine hHe fun hHeld => ?_
   refine hHs [7] (hHl hHeld ?_)
   clear hHeld
   refine hHn ?_ (fun w hSw => ?_) ?_
   rotate_left
   ·(obtain ⟨p0, p1⟩ := HQ.out); (have q0 := (show Ext No wr _ from hSw).keep (hm.out.ext.keep p0)); (have q1 := (show Ext No wr _ from hSw).keep (hm.out.ext.keep p1)); go_simp; (try with_reducible rfl)
   simp only [Act.put, nzA, nzB, nzC]
   refine hHe fun hHeld => ?_
   refine heldL_next1 (i := 8) (by kernel_rfl) (NextL.mk rfl rfl (fun K hK => ?_))
   (go_simp; (go_at_call 42); (refine (eset_any (Lo wr.heap.size) S.w (rowD S.bnd n) _ _ (fun b e => Nat.lt_of_lt_of_le e HE.out.size) (hset.out.extNo (hm.out.ext.transNo HE.out))).mono ?_); (rintro e1 vs ⟨d5, cd5, rfl, hs5, hyA⟩); go_simp)
   refine hK.out _ _ ?_ (fun hNew => ?_)
   ·intro _; exact HE.out.transNo hyA
   clear hK K hHeld
   have hHeld := hNew
   clear hNew
   replace HE := Lib.hid (HE.out.transNo hyA)
   clear hyA
   have hm1 := Lib.hid ((hm.out.stepNo HE.out).lift (lim' := vs.heap.size) (Nat.le_trans hm.out.x.lh HE.out.size) (Nat.le_refl _))
   have hw5 := Lib.hid (hs5.out.words.mono (M' := HotW (.slice (some ⟨gB, 0, none⟩) N N) (.slice (some ⟨gI, 0, none⟩) N N) RL vs.heap.size V.heap.size) (fun i hi e => hm.out.x.clear hi e))
   try simp only [Act.put, nzA, nzB, nzC]
   refine hHs [9] (hHl hHeld ?_)
   clear hHeld
   refine hFn ?_ (fun w => ?_) ?_
   rotate_left
   ·go_simp; (try with_reducible rfl)
   simp only [Act.put, nzA, nzB, nzC]
   refine hHe fun hHeld => ?_
   refine heldL_next1 (i := 10) (by kernel_rfl) (NextL.mk rfl rfl (fun K hK => ?_))
   ((obtain ⟨q0, q1⟩ := hm1.out.x.cellB hlen.out.1.symm (t := n) (by have := hlen.out.1; omega)); (have f0 := hm1.out.x.frzB hlen.out.1.symm (n * 2)); (have f1 := hm1.out.x.frzB hlen.out.1.symm (n * 2 + 1)); go_simp; (clear q0 q1 f0 f1))
   refine hK.out _ _ ?_ (fun hNew => ?_)
   ·exact fun h => absurd h (by decide)
   clear hK K hHeld
   have hHeld := hNew
   clear hNew
   have hm2 := Lib.hid (show CkM V ((vs.setCell ⟨gB, n * 2, none⟩ (.int .i64 (S.w : Int))).setCell ⟨gB, n * 2 + 1, none⟩ (.slice d5 (nw S.w) cd5)) D vs.heap.size S.w (.slice (some ⟨gB, 0, none⟩) N N) (.slice (some ⟨gI, 0, none⟩) N N) (LB.set n (setN S.w (rowD S.bnd n), .slice d5 (nw S.w) cd5)) RL from hm1.out.putB (p := (setN S.w (rowD S.bnd n), .slice d5 (nw S.w) cd5)) hlen.out.1.symm (by have := hlen.out.1; omega) hw5.out)
   have hLB2 := Lib.hid (set_part Prod.fst (fun t => some (setN S.w (rowD S.bnd t))) LB n (setN S.w (rowD S.bnd n), .slice d5 (nw S.w) cd5) hLB.out (by have := hlen.out.1; omega) rfl)
   have hlB2 := Lib.hid (show (LB.set n (setN S.w (rowD S.bnd n), .slice d5 (nw S.w) cd5)).length = N from by rw [List.length_set]; exact hlen.out.1)
   have hlR2 := Lib.hid hlen.out.2
   clear hm1 hw5 hs5 hm HE hLB hlen HBD HBA HQ hset
   generalize ((vs.setCell ⟨gB, n * 2, none⟩ (.int .i64 (S.w : Int))).setCell ⟨gB, n * 2 + 1, none⟩ (.slice d5 (nw S.w) cd5)) = wB at *
   generalize vs.heap.size = limB at *
   generalize (LB.set n (setN S.w (rowD S.bnd n), .slice d5 (nw S.w) cd5)) = LB2 at *
   try simp only [Act.put, nzA, nzB, nzC]
   refine heldL_done (by kernel_rfl) ?_ _
   skip
   go_upto_region 6 with (fail)
   have HBD := Lib.hid hm2.out.box
   refine wp_region_heldL [7] (fun w' => Ext No wB w') (by kernel_rfl) ?_ (fun hHeld => ?_)
   ·exact (Ext.refl _ _).drew
   have HE := Lib.hid (show Ext No wB wB.drew from (Ext.refl _ _).drew)
   generalize wB.drew = v0 at *
   refine hHs [0] (hHl hHeld ?_)
   clear hHeld
   refine hFn ?_ (fun w => ?_) ?_
   rotate_left
   ·go_simp; (try with_reducible rfl)
   simp only [Act.put, nzA, nzB, nzC]
   refine hHe fun hHeld => ?_
   refine hHs [1] (hHl hHeld ?_)
   clear hHeld
   refine hHn ?_ (fun w hSw => ?_) ?_
   rotate_left
   ·(have q0 := cellOf ((show Ext No wB _ from hSw).blk HBD.out no_no)); go_simp; (try with_reducible rfl)
   simp only [Act.put, nzA, nzB, nzC]
   refine hHe fun hHeld => ?_
   refine hHs [2, 3, 4] (hHl hHeld ?_)
   clear hHeld
   iterate 3
    refine hFn ?_ (fun w => ?_) ?_
    rotate_left
    ·go_simp; (try with_reducible rfl)
    simp only [Act.put, nzA, nzB, nzC]
   refine hHe fun hHeld => ?_
   refine heldL_next1 (i := 5) (by kernel_rfl) (NextL.mk rfl rfl (fun K hK => ?_))
   go_simp
   refine hK.out _ _ ?_ (fun hNew => ?_)
   ·intro _; exact HE.out.alloc _
   clear hK K hHeld
   have hHeld := hNew
   clear hNew
   have hx1 := (Ext.refl No v0).alloc (.cells (madeCells #[.int .i64 0, .int .i64 0, .slice none 0 0, .int .i64 0, .slice none 0 0, .slice none 0 0] (m * 6)) 33)
   have hrow := Lib.hid (show (v0.alloc (.cells (madeCells #[.int .i64 0, .int .i64 0, .slice none 0 0, .int .i64 0, .slice none 0 0, .slice none 0 0] (m * 6)) 33)).ownsRow v0.heap.size 33 6 (.slice (some ⟨v0.heap.size, 0, none⟩) m m) m ((List.replicate m zAr).flatMap kA.cells) from made_own kA zAr (.agg #[.int .i64 0, .int .i64 0, .slice none 0 0, .int .i64 0, .slice none 0 0, .slice none 0 0]) rfl (by decide) m (by simp only [maxLen]; omega) v0)
   have hgl := Lib.hid HE.out.size
   replace HE := Lib.hid (HE.out.transNo hx1)
   have hm3 := Lib.hid (hm2.out.stepNo HE.out)
   clear hx1
   generalize (v0.alloc (.cells (madeCells #[.int .i64 0, .int .i64 0, .slice none 0 0, .int .i64 0, .slice none 0 0, .slice none 0 0] (m * 6)) 33)) = v1 at *
   generalize v0.heap.size = gA at *
   try simp only [Act.put, nzA, nzB, nzC]
   refine hHs [6] (hHl hHeld ?_)
   clear hHeld
   refine hFn ?_ (fun w => ?_) ?_
   rotate_left
   ·go_simp; (try with_reducible rfl)
   simp only [Act.put, nzA, nzB, nzC]
   refine hHe fun hHeld => ?_
   refine heldL_next1 (i := 7) (by kernel_rfl) (NextL.mk rfl rfl (fun K hK => ?_))
   ((have q0 := hm3.out.x.cellI hlR2.out.symm (t := n) (by have := hlR2.out; omega)); (have f0 := hm3.out.x.frzI hlR2.out.symm n); go_simp; (clear q0 f0))
   refine hK.out _ _ ?_ (fun hNew => ?_)
   ·exact fun h => absurd h (by decide)
   clear hK K hHeld
   have hHeld := hNew
   clear hNew
   have hm4 := Lib.hid (show CkM V (v1.setCell ⟨gI, n, none⟩ (.slice (some ⟨gA, 0, none⟩) m m)) D v1.heap.size S.w (.slice (some ⟨gB, 0, none⟩) N N) (.slice (some ⟨gI, 0, none⟩) N N) LB2 (RL.set n (List.replicate m zAr, (.slice (some ⟨gA, 0, none⟩) m m))) from hm2.out.putRow hlR2.out.symm (by have := hlR2.out; omega) rfl ((Ext.refl _ wB).transNo HE.out) (by rw [List.length_replicate]; exact row_base hrow.out (Nat.le_trans hm2.out.ext.size hgl.out)) (fun p hp => (by rw [List.eq_of_mem_replicate hp]; exact zAr_ok _ _)) (.inr (fun k hk => (by have h1 := hgl.out; simp only [Value.ownBlock, Option.some.injEq] at hk; omega))))
   clear hm2 hm3 hrow hgl HE HBD
   generalize (v1.setCell ⟨gI, n, none⟩ (.slice (some ⟨gA, 0, none⟩) m m)) = wC at *
   generalize v1.heap.size = limC at *
   try simp only [Act.put, nzA, nzB, nzC]
   refine heldL_done (by kernel_rfl) ?_ _
   skip
   clear hmkA
   go_wp2_with fail
   go_loopw [6, 7, 8, 47] (fun _ _ _ s47 wy => ∃ (i lim4 : Nat) (L : LA), s47 = .int .i64 i ∧ i ≤ m ∧ Hid (CkM V wy D lim4 S.w (.slice (some ⟨gB, 0, none⟩) N N) (.slice (some ⟨gI, 0, none⟩) N N) LB2 (RL.set n (L, (.slice (some ⟨gA, 0, none⟩) m m)))) ∧ Hid (L.length = m) ∧ Hid (∀ t, t < i → (L[t]?).map cutA = (arcsRow (arcW S n))[t]?)) (fun _ _ _ s47 _ => m - (intOf s47).toNat)
   case atStart => exact ⟨0, _, _, rfl, Nat.zero_le _, hm4, Lib.hid (List.length_replicate ..), Lib.hid (fun t h => absurd h (Nat.not_lt_zero _))⟩
   clear hm4
   obtain ⟨i, lim4, L, rfl, hi, hk, hL, hLc⟩ := hrel
   rename World => wy
   by_cases hlt2 : i < m
   ·have hiz : (i : Int) < (m : Int) := by omega
    have HII : Hid (Value.int .i64 ((i : Int) + 1) = .int .i64 ((i + 1 : Nat) : Int)) := Lib.hid (by rw [show ((i + 1 : Nat) : Int) = (i : Int) + 1 from by omega])
    have hjd : i < (arcW S n).length := by have := HM.out; omega
    obtain ⟨mm, f, hmf⟩ : ∃ mm f, (mm, f) = (arcW S n)[i] := ⟨_, _, rfl⟩
    have HMF : Hid (∃ hjd : i < (arcW S n).length, (mm, f) = (arcW S n)[i]) := Lib.hid ⟨hjd, hmf⟩
    obtain ⟨ba, oa, ka, ag, cg, ak, ck, ac, nc, cc, hve, gt, HTR, htw⟩ := ArcsW.at (fun p hp => H.out.ok.tr (i := n) hp) (by have h := hA.out.extNo hk.out.ext; rw [HM.out] at h; exact h) hjd hmf
    simp only [Value.slice.injEq] at hve
    obtain ⟨rfl, -, rfl⟩ := hve
    obtain ⟨q0, q1, q2, q3, q4, q5⟩ := gt
    have HNC := Lib.hid (show nc = f.copies.length from by obtain ⟨_, _, h3⟩ := Row.slice HTR.out.copies; simp only [Value.slice.injEq] at h3; exact h3.2.1)
    have HNC2 := Lib.hid (HTR.out.ok.len)
    have hnc : nc ≤ 64 := by have := HNC.out; have := HNC2.out; omega
    clear hmf hjd
    go_upto_region 10 with (fail)
    clear q0 q1 q2 q3 q4 q5
    have hxf : Ext No wy (wy.alloc (.cells #[.int .i64 (mm : Int), .int .i64 (S.w : Int), .slice ag (nw S.w) cg, .int .i64 (S.w : Int), .slice ak (nw S.w) ck, .slice ac nc cc] 33)) := (Ext.refl _ _).alloc _
    have HF := Lib.hid (alloc_top (w := wy) (o := (.cells #[.int .i64 (mm : Int), .int .i64 (S.w : Int), .slice ag (nw S.w) cg, .int .i64 (S.w : Int), .slice ak (nw S.w) ck, .slice ac nc cc] 33)) rfl)
    have hk1 := Lib.hid (hk.out.stepNo hxf)
    replace HTR := Lib.hid (HTR.out.extNo hxf)
    clear hk hxf
    generalize (wy.alloc (.cells #[.int .i64 (mm : Int), .int .i64 (S.w : Int), .slice ag (nw S.w) cg, .int .i64 (S.w : Int), .slice ak (nw S.w) ck, .slice ac nc cc] 33)) = U at *
    generalize wy.heap.size = gF at *
    have hmkC := mk_any 28 27 iC _ Tryd.underlying28 hiC hC0 2 16 hC1 hC2 nc (by omega) (by omega) (by omega)
    go_cut [8] (fun s8 wz => ∃ (gE gC : Nat) (d1 : Option Addr) (cd1 : Nat) (d2 : Option Addr) (cd2 : Nat), s8 = .pointer (some ⟨gE, 0, none⟩) ∧ Hid (Ext No U wz) ∧ Hid (wz.heap[gE]? = some (.cells #[.int .i64 (S.w : Int), .slice d1 (nw S.w) cd1, .int .i64 (S.w : Int), .slice d2 (nw S.w) cd2, .slice (some ⟨gC, 0, none⟩) nc nc] 30 (0, 0))) ∧ Hid (wz.heap[gC]? = some (.cells (madeCells #[.int .i64 0, .int .i64 0] (nc * 2)) 27 (0, 0))) ∧ Hid (SetAt (fun b => Lo U.heap.size b ∨ b = gE ∨ b = gC) wz (.slice d1 (nw S.w) cd1) S.w f.gen) ∧ Hid (SetAt (fun b => Lo U.heap.size b ∨ b = gE ∨ b = gC) wz (.slice d2 (nw S.w) cd2) S.w f.kill) ∧ gC ≠ gE ∧ U.heap.size ≤ gE ∧ U.heap.size ≤ gC)
    case first =>
     refine wp_region_held_drew (S := (fun w' => Ext No U w')) (by kernel_rfl) ?_ (fun hHeld => ?_)
     ·exact (Ext.refl _ _).drew
     have hE0 := Lib.hid (show Ext No U U.drew from (Ext.refl _ _).drew)
     generalize U.drew = v at *
     refine hHs [0, 1, 2, 4, 5, 6, 8, 9, 10, 11] ?_
     iterate 10
      refine hTn ?_ hHeld (fun w hSw => ?_) ?_
      rotate_left
      ·(have q0 := cellOf ((show Ext No U _ from hSw).blk HF.out no_no)); go_simp; (try with_reducible rfl)
      simp only [Act.put, nzA, nzB, nzC]
     refine hHe ?_
     have hst : Tg 1 := trivial
     iterate 5
      all_goals first
       | ((guard_hyp hst : Tg 1); (clear hst); (refine held_next3 (i := 3) (j := 12) (k := 14) (by kernel_rfl) (NextOp.mk rfl rfl (fun K hK => have hop : Tg 1003 := trivial; have hst : Tg 2 := trivial; ?_)) (NextOp.mk rfl rfl (fun K hK => have hop : Tg 1012 := trivial; have hst : Tg 3 := trivial; ?_)) (NextOp.mk rfl rfl (fun K hK => have hop : Tg 1014 := trivial; have hst : Tg 4 := trivial; ?_))))
       | ((guard_hyp hst : Tg 2); (clear hst); (refine held_next3 (i := 7) (j := 12) (k := 14) (by kernel_rfl) (NextOp.mk rfl rfl (fun K hK => have hop : Tg 1007 := trivial; have hst : Tg 5 := trivial; ?_)) (NextOp.mk rfl rfl (fun K hK => have hop : Tg 1012 := trivial; have hst : Tg 6 := trivial; ?_)) (NextOp.mk rfl rfl (fun K hK => have hop : Tg 1014 := trivial; have hst : Tg 7 := trivial; ?_))))
       | ((guard_hyp hst : Tg 3); (clear hst); (refine held_next2 (i := 3) (j := 14) (by kernel_rfl) (NextOp.mk rfl rfl (fun K hK => have hop : Tg 1003 := trivial; have hst : Tg 6 := trivial; ?_)) (NextOp.mk rfl rfl (fun K hK => have hop : Tg 1014 := trivial; have hst : Tg 8 := trivial; ?_))))
       | ((guard_hyp hst : Tg 4); (clear hst); (refine held_next2 (i := 3) (j := 12) (by kernel_rfl) (NextOp.mk rfl rfl (fun K hK => have hop : Tg 1003 := trivial; have hst : Tg 7 := trivial; ?_)) (NextOp.mk rfl rfl (fun K hK => have hop : Tg 1012 := trivial; have hst : Tg 8 := trivial; ?_))))
       | ((guard_hyp hst : Tg 5); (clear hst); (refine held_next2 (i := 12) (j := 14) (by kernel_rfl) (NextOp.mk rfl rfl (fun K hK => have hop : Tg 1012 := trivial; have hst : Tg 9 := trivial; ?_)) (NextOp.mk rfl rfl (fun K hK => have hop : Tg 1014 := trivial; have hst : Tg 10 := trivial; ?_))))
       | ((guard_hyp hst : Tg 6); (clear hst); (refine held_next2 (i := 7) (j := 14) (by kernel_rfl) (NextOp.mk rfl rfl (fun K hK => have hop : Tg 1007 := trivial; have hst : Tg 9 := trivial; ?_)) (NextOp.mk rfl rfl (fun K hK => have hop : Tg 1014 := trivial; have hst : Tg 11 := trivial; ?_))))
       | ((guard_hyp hst : Tg 7); (clear hst); (refine held_next2 (i := 7) (j := 12) (by kernel_rfl) (NextOp.mk rfl rfl (fun K hK => have hop : Tg 1007 := trivial; have hst : Tg 10 := trivial; ?_)) (NextOp.mk rfl rfl (fun K hK => have hop : Tg 1012 := trivial; have hst : Tg 11 := trivial; ?_))))
       | ((guard_hyp hst : Tg 8); (clear hst); (refine held_call (i := 3) rfl (by kernel_rfl) rfl (fun K hK => have hop : Tg 1003 := trivial; have hst : Tg 11 := trivial; ?_)))
       | ((guard_hyp hst : Tg 9); (clear hst); (refine held_next2 (i := 13) (j := 14) (by kernel_rfl) (NextOp.mk rfl rfl (fun K hK => have hop : Tg 1013 := trivial; have hst : Tg 12 := trivial; ?_)) (NextOp.mk rfl rfl (fun K hK => have hop : Tg 1014 := trivial; have hst : Tg 13 := trivial; ?_))))
       | ((guard_hyp hst : Tg 10); (clear hst); (refine held_call (i := 12) rfl (by kernel_rfl) rfl (fun K hK => have hop : Tg 1012 := trivial; have hst : Tg 13 := trivial; ?_)))
       | ((guard_hyp hst : Tg 11); (clear hst); (refine held_call (i := 7) rfl (by kernel_rfl) rfl (fun K hK => have hop : Tg 1007 := trivial; have hst : Tg 13 := trivial; ?_)))
       | ((guard_hyp hst : Tg 12); (clear hst); (refine held_call (i := 14) rfl (by kernel_rfl) rfl (fun K hK => have hop : Tg 1014 := trivial; have hst : Tg 14 := trivial; ?_)))
       | ((guard_hyp hst : Tg 13); (clear hst); (refine held_call (i := 13) rfl (by kernel_rfl) rfl (fun K hK => have hop : Tg 1013 := trivial; have hst : Tg 14 := trivial; ?_)))
      all_goals first
       | ((guard_hyp hop : Tg 1003); (clear hop); ((go_simp); (go_at_call 42); (refine (eset_any (Lo v.heap.size) S.w f.gen _ _ (fun b e => e) (by have h := HTR.out.gen; rw [htw.out] at h; exact h.extNo hE0.out)).mono ?_); (rintro e1 u ⟨d1, cd1, rfl, hS, hyA⟩); (go_simp)); (refine hK.out _ _ (by exact Ext.transNo (show Ext No U _ from hHeld) hyA) (fun hNew => ?_)); (clear hK K hHeld); (have hHeld := hNew); (clear hNew); ((have hSg := Lib.hid (hS.out.mono (M' := Lo U.heap.size) (fun i _ e => Nat.lt_of_lt_of_le e hE0.out.size))); (try have hSgC := Lib.hid (hS.out.mono (M' := At gC) (fun i _ e => by rw [show i = gC from e]; exact lt_of_block hC.out))); (try have hSgE := Lib.hid (hS.out.mono (M' := At gE) (fun i _ e => by rw [show i = gE from e]; exact lt_of_block hE.out))); (try replace hSk := Lib.hid (hSk.out.extNo hyA)); (try replace hSkC := Lib.hid (hSkC.out.extNo hyA)); (try replace hSkE := Lib.hid (hSkE.out.extNo hyA)); (try replace hC := Lib.hid (hyA.blk hC.out no_no)); (try replace hE := Lib.hid (hyA.blk hE.out no_no)); (replace hE0 := Lib.hid (hE0.out.transNo hyA)); (clear hyA hS); (generalize u = v at *)); (try simp only [Act.put, nzA, nzB, nzC]))
       | ((guard_hyp hop : Tg 1007); (clear hop); ((go_simp); (go_at_call 42); (refine (eset_any (Lo v.heap.size) S.w f.kill _ _ (fun b e => e) (by have h := HTR.out.kill; rw [htw.out] at h; exact h.extNo hE0.out)).mono ?_); (rintro e1 u ⟨d2, cd2, rfl, hS, hyA⟩); (go_simp)); (refine hK.out _ _ (by exact Ext.transNo (show Ext No U _ from hHeld) hyA) (fun hNew => ?_)); (clear hK K hHeld); (have hHeld := hNew); (clear hNew); ((have hSk := Lib.hid (hS.out.mono (M' := Lo U.heap.size) (fun i _ e => Nat.lt_of_lt_of_le e hE0.out.size))); (try have hSkC := Lib.hid (hS.out.mono (M' := At gC) (fun i _ e => by rw [show i = gC from e]; exact lt_of_block hC.out))); (try have hSkE := Lib.hid (hS.out.mono (M' := At gE) (fun i _ e => by rw [show i = gE from e]; exact lt_of_block hE.out))); (try replace hSg := Lib.hid (hSg.out.extNo hyA)); (try replace hSgC := Lib.hid (hSgC.out.extNo hyA)); (try replace hSgE := Lib.hid (hSgE.out.extNo hyA)); (try replace hC := Lib.hid (hyA.blk hC.out no_no)); (try replace hE := Lib.hid (hyA.blk hE.out no_no)); (replace hE0 := Lib.hid (hE0.out.transNo hyA)); (clear hyA hS); (generalize u = v at *)); (try simp only [Act.put, nzA, nzB, nzC]))
       | ((guard_hyp hop : Tg 1012); (clear hop); ((go_simp)); (refine hK.out _ _ (by exact Ext.alloc (show Ext No U _ from hHeld) _) (fun hNew => ?_)); (clear hK K hHeld); (have hHeld := hNew); (clear hNew); ((have hSz := Lib.hid (show U.heap.size ≤ v.heap.size from hE0.out.size)); (have hyA := (Ext.refl No v).alloc (.cells (madeCells #[.int .i64 0, .int .i64 0] (nc * 2)) 27)); (try have hSgC := Lib.hid ((hSg.out.mono (M' := At v.heap.size) (fun i hi e => absurd hi (by rw [show i = _ from e]; exact Nat.lt_irrefl _))).extNo hyA)); (try replace hSg := Lib.hid (hSg.out.extNo hyA)); (try replace hSgE := Lib.hid (hSgE.out.extNo hyA)); (try have hSkC := Lib.hid ((hSk.out.mono (M' := At v.heap.size) (fun i hi e => absurd hi (by rw [show i = _ from e]; exact Nat.lt_irrefl _))).extNo hyA)); (try replace hSk := Lib.hid (hSk.out.extNo hyA)); (try replace hSkE := Lib.hid (hSkE.out.extNo hyA)); (try have nEC := Lib.hid (show gE ≠ v.heap.size from Nat.ne_of_lt (lt_of_block hE.out))); (try replace hE := Lib.hid (hyA.blk hE.out no_no)); (have hC := Lib.hid (alloc_top (w := v) (o := (.cells (madeCells #[.int .i64 0, .int .i64 0] (nc * 2)) 27)) rfl)); (have wC := hSz); (replace hE0 := Lib.hid (hE0.out.transNo hyA)); (clear hSz hyA); (generalize v.heap.size = gC at *); (generalize (v.alloc (.cells (madeCells #[.int .i64 0, .int .i64 0] (nc * 2)) 27)) = v at *)); (try simp only [Act.put, nzA, nzB, nzC]))
       | ((guard_hyp hop : Tg 1013); (clear hop); ((go_simp)); (refine hK.out _ _ (by exact hHeld) (fun hNew => ?_)); (clear hK K hHeld); (have hHeld := hNew); (clear hNew); (try simp only [Act.put, nzA, nzB, nzC]))
       | ((guard_hyp hop : Tg 1014); (clear hop); ((go_simp)); (refine hK.out _ _ (by exact Ext.alloc (show Ext No U _ from hHeld) _) (fun hNew => ?_)); (clear hK K hHeld); (have hHeld := hNew); (clear hNew); ((have hSz := Lib.hid (show U.heap.size ≤ v.heap.size from hE0.out.size)); (have hyA := (Ext.refl No v).alloc (.cells #[.int .i64 0, .slice none 0 0, .int .i64 0, .slice none 0 0, .slice none 0 0] 30)); (try have hSgE := Lib.hid ((hSg.out.mono (M' := At v.heap.size) (fun i hi e => absurd hi (by rw [show i = _ from e]; exact Nat.lt_irrefl _))).extNo hyA)); (try replace hSg := Lib.hid (hSg.out.extNo hyA)); (try replace hSgC := Lib.hid (hSgC.out.extNo hyA)); (try have hSkE := Lib.hid ((hSk.out.mono (M' := At v.heap.size) (fun i hi e => absurd hi (by rw [show i = _ from e]; exact Nat.lt_irrefl _))).extNo hyA)); (try replace hSk := Lib.hid (hSk.out.extNo hyA)); (try replace hSkC := Lib.hid (hSkC.out.extNo hyA)); (try have nEC := Lib.hid (show v.heap.size ≠ gC from (Nat.ne_of_lt (lt_of_block hC.out)).symm)); (try replace hC := Lib.hid (hyA.blk hC.out no_no)); (have hE := Lib.hid (alloc_top (w := v) (o := (.cells #[.int .i64 0, .slice none 0 0, .int .i64 0, .slice none 0 0, .slice none 0 0] 30)) rfl)); (have wE := hSz); (replace hE0 := Lib.hid (hE0.out.transNo hyA)); (clear hSz hyA); (generalize v.heap.size = gE at *); (generalize (v.alloc (.cells #[.int .i64 0, .slice none 0 0, .int .i64 0, .slice none 0 0, .slice none 0 0] 30)) = v at *)); (try simp only [Act.put, nzA, nzB, nzC]))
     all_goals
      clear hst
      refine hHc 15 fun K hK => ?_
      ((have cS := cellOf hE.out); (have fS := freeOf hE.out); go_simp; (clear cS fS))
      refine hK.out _ _ (by exact ext5W (show Ext No U _ from hHeld) wE.out) (fun hNew => ?_)
      clear hK K hHeld
      have hHeld := hNew
      clear hNew
      try simp only [Act.put, nzA, nzB, nzC]
      refine wpAnyH_done (by kernel_rfl) ?_ _
      have hEx : Ext No U _ := hHeld
      go_wp2_with fail
      go_meet
      exact ⟨gE, gC, d1, cd1, d2, cd2, rfl, Lib.hid hEx, Lib.hid ((set_same (j := 4) (set_same (j := 3) (set_same (j := 2) (set_same (j := 1) (set_same (j := 0) hE.out))))).trans rfl), Lib.hid (((((((Ext.refl (At gE) v).setAt 0 _).setAt 1 _).setAt 2 _).setAt 3 _).setAt 4 _).blk hC.out (fun e => nEC.out e.symm)), Lib.hid ((hSg.out.or (hSgE.out.or hSgC.out)).ext ((((((Ext.refl (At gE) v).setAt 0 _).setAt 1 _).setAt 2 _).setAt 3 _).setAt 4 _) (fun i _ e => .inr (.inl e))), Lib.hid ((hSk.out.or (hSkE.out.or hSkC.out)).ext ((((((Ext.refl (At gE) v).setAt 0 _).setAt 1 _).setAt 2 _).setAt 3 _).setAt 4 _) (fun i _ e => .inr (.inl e))), (fun e => nEC.out e.symm), wE.out, wC.out⟩
    case rest =>
    obtain ⟨gE, gC, d1, cd1, d2, cd2, rfl, hx, hE, hC, hSg, hSk, hne, wE, wC⟩ := hcut
    rename World => wz
    clear hmkC
    have HFz := Lib.hid (hx.out.blk HF.out no_no)
    have hsr : Row No wz 2 (.slice ac nc cc) nc (flatC f.copies) := by
     have h := Row.extNo HTR.out.copies hx.out
     rw [← HNC.out] at h
     exact h
    obtain ⟨w2, hrun, hC2, hE2⟩ := run_copy_full (P := Tryd.prog) 28 28 3 27 2 Tryd.underlying28 (size_of_info hiC hC1) gC nc nc ac cc _ _ hC.out (by simp [madeCells]) (flatC f.copies) hsr (flatC_oneE _)
    have cE := cellOf hE.out
    have cF := cellOf HFz.out
    go_upto_region 12 with (fail)
    clear cE cF hrun hsr
    have HE2 := Lib.hid (hE2.out.blk hE.out (fun (e : gE = gC) => hne e.symm))
    have HF2 := Lib.hid (hE2.out.blk HFz.out (fun (e : gF = gC) => by have h1 := lt_of_block HF.out; omega))
    have hXU : Ext No U w2 := hx.out.trans2 hE2.out (fun i hi e => by unfold At at e; omega)
    have hk2 := Lib.hid ((hk1.out.stepNo hXU).lift (lim' := w2.heap.size) (Nat.le_trans hk1.out.x.lh hXU.size) (Nat.le_refl _))
    have hok : Hid (kA.ok (HotW (.slice (some ⟨gB, 0, none⟩) N N) (.slice (some ⟨gI, 0, none⟩) N N) (RL.set n (L, (.slice (some ⟨gA, 0, none⟩) m m))) w2.heap.size V.heap.size) w2 ((mm : Int), rawT f, Value.slice d1 (nw S.w) cd1, Value.slice d2 (nw S.w) cd2, Value.slice (some ⟨gC, 0, none⟩) nc nc)) := Lib.hid (raw_ofE htw.out ((hSg.out.ext hE2.out (fun i _ e => .inr (.inr e))).mono (fun i hi e => .inl (hk1.out.x.clear hi e))) ((hSk.out.ext hE2.out (fun i _ e => .inr (.inr e))).mono (fun i hi e => .inl (hk1.out.x.clear hi e))) (by
     have h := Row.block (M := (HotW (.slice (some ⟨gB, 0, none⟩) N N) (.slice (some ⟨gI, 0, none⟩) N N) (RL.set n (L, (.slice (some ⟨gA, 0, none⟩) m m))) w2.heap.size V.heap.size)) (n := nc) (s := 2) hC2.out (by have := flatC_lenE f.copies; have := HNC.out; simp; omega) (fun e => by have h1 := hk1.out.x.clear (lt_of_block hC2.out) e; omega) (by omega)
     rw [HNC.out] at h ⊢
     exact h))
    have HBD := Lib.hid hk2.out.box
    have HCI := Lib.hid (show w2.cell? ⟨gI, n, none⟩ = some (.slice (some ⟨gA, 0, none⟩) m m) from by
     have h := hk2.out.x.cellI (by rw [List.length_set]; exact hlR2.out.symm) (t := n) (by rw [List.length_set]; have := hlR2.out; omega)
     rw [List.getElem_set_self] at h
     exact h)
    clear hx hE hC hSg hSk hE2 hC2 hXU hk1 HF HFz HTR
    refine wp_region_heldL [11] (fun w' => Ext No w2 w') (by kernel_rfl) ?_ (fun hHeld => ?_)
    ·exact (Ext.refl _ _).drew
    have HE := Lib.hid (show Ext No w2 w2.drew from (Ext.refl _ _).drew)
    generalize w2.drew = v0 at *
    refine hHs [0] (hHl hHeld ?_)
    clear hHeld
    refine hFn ?_ (fun w => ?_) ?_
    rotate_left
    ·go_simp; (try with_reducible rfl)
    simp only [Act.put, nzA, nzB, nzC]
    refine hHe fun hHeld => ?_
    refine hHs [1] (hHl hHeld ?_)
    clear hHeld
    refine hHn ?_ (fun w hSw => ?_) ?_
    rotate_left
    ·(have q0 := cellOf ((show Ext No w2 _ from hSw).blk HBD.out no_no)); go_simp; (try with_reducible rfl)
    simp only [Act.put, nzA, nzB, nzC]
    refine hHe fun hHeld => ?_
    refine hHs [2, 3] (hHl hHeld ?_)
    clear hHeld
    iterate 2
     refine hFn ?_ (fun w => ?_) ?_
     rotate_left
     ·go_simp; (try with_reducible rfl)
     simp only [Act.put, nzA, nzB, nzC]
    refine hHe fun hHeld => ?_
    refine hHs [4] (hHl hHeld ?_)
    clear hHeld
    refine hHn ?_ (fun w hSw => ?_) ?_
    rotate_left
    ·(have q0 := (show Ext No w2 _ from hSw).keep HCI.out); go_simp; (try with_reducible rfl)
    simp only [Act.put, nzA, nzB, nzC]
    refine hHe fun hHeld => ?_
    refine hHs [5, 6] (hHl hHeld ?_)
    clear hHeld
    iterate 2
     refine hFn ?_ (fun w => ?_) ?_
     rotate_left
     ·go_simp; (try with_reducible rfl)
     simp only [Act.put, nzA, nzB, nzC]
    refine hHe fun hHeld => ?_
    refine hHs [7] (hHl hHeld ?_)
    clear hHeld
    refine hHn ?_ (fun w hSw => ?_) ?_
    rotate_left
    ·(have q0 := cellOf ((show Ext No w2 _ from hSw).blk HF2.out no_no)); go_simp; (try with_reducible rfl)
    simp only [Act.put, nzA, nzB, nzC]
    refine hHe fun hHeld => ?_
    refine hHs [8] (hHl hHeld ?_)
    clear hHeld
    refine hHn ?_ (fun w hSw => ?_) ?_
    rotate_left
    ·(have q0 := cellOf ((show Ext No w2 _ from hSw).blk HE2.out no_no)); go_simp; (try with_reducible rfl)
    simp only [Act.put, nzA, nzB, nzC]
    refine hHe fun hHeld => ?_
    refine hHs [9, 10] (hHl hHeld ?_)
    clear hHeld
    iterate 2
     refine hFn ?_ (fun w => ?_) ?_
     rotate_left
     ·go_simp; (try with_reducible rfl)
     simp only [Act.put, nzA, nzB, nzC]
    refine hHe fun hHeld => ?_
    refine heldL_next1 (i := 11) (by kernel_rfl) (NextL.mk rfl rfl (fun K hK => ?_))
    ((obtain ⟨⟨u0, u1, u2, u3, u4, u5, q0, q1, q2, q3, q4, q5⟩, f0, f1, f2, f3, f4, f5⟩ := (hk2.out.stepNo HE.out).x.cells6 (t := n) (i := i) (L := L) (g := gA) (c := m) (N := m) (by rw [List.length_set]; have := hlR2.out; omega) (by rw [List.getElem_set_self]) hL.out.symm (by have := hL.out; omega)); go_simp; (clear q0 q1 q2 q3 q4 q5 f0 f1 f2 f3 f4 f5))
    refine hK.out _ _ ?_ (fun hNew => ?_)
    ·exact fun h => absurd h (by decide)
    clear hK K hHeld
    have hHeld := hNew
    clear hNew
    have hk3 := Lib.hid (show CkM V ((((((v0.setCell ⟨gA, i * 6, none⟩ (.int .i64 (mm : Int))).setCell ⟨gA, i * 6 + 1, none⟩ (.int .i64 (S.w : Int))).setCell ⟨gA, i * 6 + 2, none⟩ (.slice d1 (nw S.w) cd1)).setCell ⟨gA, i * 6 + 3, none⟩ (.int .i64 (S.w : Int))).setCell ⟨gA, i * 6 + 4, none⟩ (.slice d2 (nw S.w) cd2)).setCell ⟨gA, i * 6 + 5, none⟩ (.slice (some ⟨gC, 0, none⟩) nc nc)) D w2.heap.size S.w (.slice (some ⟨gB, 0, none⟩) N N) (.slice (some ⟨gI, 0, none⟩) N N) LB2 (RL.set n (L.set i ((mm : Int), rawT f, Value.slice d1 (nw S.w) cd1, Value.slice d2 (nw S.w) cd2, Value.slice (some ⟨gC, 0, none⟩) nc nc), (.slice (some ⟨gA, 0, none⟩) m m))) from by
     have h := (hk2.out.stepNo HE.out).put6 (i := i) (p := ((mm : Int), rawT f, Value.slice d1 (nw S.w) cd1, Value.slice d2 (nw S.w) cd2, Value.slice (some ⟨gC, 0, none⟩) nc nc)) (c := m) (g := gA) (t := n) (L := L) (by rw [List.length_set]; exact hlR2.out.symm) (by rw [List.length_set]; have := hlR2.out; omega) (by rw [List.getElem_set_self, hL.out]) (by have := hL.out; omega) (kA.ext hok.out HE.out (fun i _ e => e.elim))
     rw [List.set_set, hL.out] at h
     simp only [rawT, setN, htw.out] at h ⊢
     exact h)
    generalize ((((((v0.setCell ⟨gA, i * 6, none⟩ (.int .i64 (mm : Int))).setCell ⟨gA, i * 6 + 1, none⟩ (.int .i64 (S.w : Int))).setCell ⟨gA, i * 6 + 2, none⟩ (.slice d1 (nw S.w) cd1)).setCell ⟨gA, i * 6 + 3, none⟩ (.int .i64 (S.w : Int))).setCell ⟨gA, i * 6 + 4, none⟩ (.slice d2 (nw S.w) cd2)).setCell ⟨gA, i * 6 + 5, none⟩ (.slice (some ⟨gC, 0, none⟩) nc nc)) = wF at *
    try simp only [Act.put, nzA, nzB, nzC]
    refine heldL_done (by kernel_rfl) ?_ _
    go_wp2_with fail
    go_roundw
    case rel => exact ⟨i + 1, _, L.set i ((mm : Int), rawT f, Value.slice d1 (nw S.w) cd1, Value.slice d2 (nw S.w) cd2, Value.slice (some ⟨gC, 0, none⟩) nc nc), HII.out, by omega, hk3, Lib.hid (by rw [List.length_set]; exact hL.out), Lib.hid (set_part cutA (fun t => (arcsRow (arcW S n))[t]?) L i ((mm : Int), rawT f, Value.slice d1 (nw S.w) cd1, Value.slice d2 (nw S.w) cd2, Value.slice (some ⟨gC, 0, none⟩) nc nc) hLc.out (by have := hL.out; omega) (HMF.out.elim fun h1 h2 => (by simp [arcsRow, h1, ← h2, cutA])))⟩
    case measure => simp [intOf]; omega
   have hge : ¬ (i : Int) < (m : Int) := by omega
   have him : i = m := by omega
   subst him
   go_wp2_with fail
   go_roundw
   case rel => exact ⟨n + 1, _, LB2, RL.set n (L, .slice (some ⟨gA, 0, none⟩) i i), HKK.out, by omega, hk, Lib.hid ⟨hlB2.out, by rw [List.length_set]; exact hlR2.out⟩, hLB2, Lib.hid (set_part (fun p => p.1.map cutA) (fun t => some (arcsRow (arcW S t))) RL n _ hRL.out (by have := hlR2.out; omega) (congrArg some (part_all cutA L _ i hLc.out hL.out (by have := HM.out; simp [arcsRow]; omega))))⟩
   case measure => simp [intOf]; omega
  have hge : ¬ (n : Int) < (N : Int) := by omega
  have hnN : n = N := by omega
  subst hnN
  have cD := cellOf hm.out.box
  have HCw := Lib.hid (hm.out.ext.blk HC.out no_no)
  have cC := cellOf HCw.out
  have fC := freeOf HCw.out
  go_wp2_with fail
  have hE3 : Ext (At (W.heap.size + 1)) wr (((wr.setCell ⟨W.heap.size + 1, 0, none⟩ (.int .i64 (S.w : Int))).setCell ⟨W.heap.size + 1, 1, none⟩ (.slice (some ⟨gB, 0, none⟩) n n)).setCell ⟨W.heap.size + 1, 2, none⟩ (.slice (some ⟨gI, 0, none⟩) n n)) := ext3E _ _ _ _ _
  have hbF := (set_same (j := 2) (u := .slice (some ⟨gI, 0, none⟩) n n) (set_same (j := 1) (u := .slice (some ⟨gB, 0, none⟩) n n) (set_same (j := 0) (u := .int .i64 (S.w : Int)) HCw.out))).trans rfl
  generalize (((wr.setCell ⟨W.heap.size + 1, 0, none⟩ (.int .i64 (S.w : Int))).setCell ⟨W.heap.size + 1, 1, none⟩ (.slice (some ⟨gB, 0, none⟩) n n)).setCell ⟨W.heap.size + 1, 2, none⟩ (.slice (some ⟨gI, 0, none⟩) n n)) = WF at *
  have cF := cellOf hbF
  refine ret_ex rfl ?_
  simp [results, Tryd.results19, go_sem, cF]
  have hVW := HVW.out
  have hS := HN.out
  subst hS
  have h1 := hm.out.x.stepLow hE3 (fun i _ e => by unfold At at e; omega)
  exact ⟨gB, _, gI, _, lim, LB, RL, rfl, Lib.hid ⟨h1.lower (by omega), H8.out, part_all Prod.fst LB _ _ (fun t ht => (by have h9 : t < S.bnd.length := (by rw [H8.out.ok.lb]; exact ht); rw [hLB.out t ht, List.getElem?_map, List.getElem?_eq_getElem h9, Option.map_some, rowD_get h9])) hlen.out.1 (by rw [List.length_map]; exact H8.out.ok.lb), hlen.out.2, fun i h => (by have h9 := hRL.out i (by rw [← hlen.out.2]; exact h); rw [List.getElem?_eq_getElem h] at h9; exact Option.some.inj h9)⟩, (HX.out.transNo hm.out.ext).trans2 hE3 (fun i hi e => by unfold At at e; omega)⟩


import Derived.Test.YtmddchceacmopaaDoorE17
import Derived.Test.YtmddchceacmopaaDoorE18
set_option linter.unusedVariables false
set_option linter.unusedSimpArgs false
namespace Go.Proofs.YtmddchceacmopaaDoor
open Go Go.RowKit
theorem arcs_oneL {M : Nat → Prop} {w : World} {L : LA} (h : ∀ r ∈ L, kA.ok M w r) : ∀ u ∈ L.flatMap kA.cells, u.oneCell' = true := fun u hu => by
 obtain ⟨r, hr, hu⟩ := List.mem_flatMap.1 hu
 obtain ⟨h1, h2, h3⟩ : RawTAt M w r.2.2.1 r.2.2.2.1 r.2.2.2.2 r.2.1 := h r hr
 obtain ⟨_, _, e1⟩ := h1.row.slice
 obtain ⟨_, _, e2⟩ := h2.row.slice
 obtain ⟨_, _, e3⟩ := Row.slice h3
 simp only [kA, e1, e2, e3, List.mem_cons, List.not_mem_nil, or_false] at hu
 rcases hu with rfl | rfl | rfl | rfl | rfl | rfl <;> rfl
def JoinPostA (A : Nat → Prop) (base : Nat) (v : Value) (l' : ArcsL) (W : World) (e : Ending) (w' : World) : Prop :=
 ∃ (v' : Value) (L' : LA), e = .returned (.tuple #[v', .int .i64 0]) ∧ Hid (LOwn kA (fun b => A b ∧ b < W.heap.size) w' base v' L') ∧ Hid (L'.map cutA = arcsRow l') ∧ Hid (Ext (fun k => v.ownBlock = some k) W w') ∧ (v'.ownBlock = v.ownBlock ∨ ∀ k, v'.ownBlock = some k → W.heap.size ≤ k)
theorem ok_after {A : Nat → Prop} {W w' : World} {v v' : Value} {r : Int × RawT × Value × Value × Value} (h : kA.ok (fun b => A b ∨ v.ownBlock = some b) W r) (hx : Ext (fun k => v.ownBlock = some k) W w') (hv : v'.ownBlock = v.ownBlock ∨ ∀ k, v'.ownBlock = some k → W.heap.size ≤ k) :
  kA.ok (fun b => (A b ∧ b < W.heap.size) ∨ v'.ownBlock = some b) w' r := by
 have h1 : kA.ok (fun b => (A b ∨ v.ownBlock = some b) ∨ W.heap.size ≤ b) W r := kA.mono h (fun i hi e => e.elim id (fun e => absurd hi (by omega)))
 refine kA.mono (kA.ext h1 hx (fun i _ e => .inl (.inr e))) (fun i _ e => ?_)
 rcases e with ⟨e, _⟩ | e
 ·exact .inl (.inl e)
 rcases hv with hv | hv
 ·exact .inl (.inr (by rw [← hv]; exact e))
 exact .inr (hv i e)
theorem LOwn.cells6 {A : Nat → Prop} {w : World} {base g c i N : Nat} {L : LA} (hr : LOwn kA A w base (.slice (some ⟨g, 0, none⟩) N c) L) (hN : N = L.length) (hi : i < L.length) :
  (∃ u0 u1 u2 u3 u4 u5, w.cell? ⟨g, i * 6, none⟩ = some u0 ∧ w.cell? ⟨g, i * 6 + 1, none⟩ = some u1 ∧ w.cell? ⟨g, i * 6 + 2, none⟩ = some u2 ∧ w.cell? ⟨g, i * 6 + 3, none⟩ = some u3 ∧ w.cell? ⟨g, i * 6 + 4, none⟩ = some u4 ∧ w.cell? ⟨g, i * 6 + 5, none⟩ = some u5) ∧ w.frozen? ⟨g, i * 6, none⟩ = false ∧ w.frozen? ⟨g, i * 6 + 1, none⟩ = false ∧ w.frozen? ⟨g, i * 6 + 2, none⟩ = false ∧ w.frozen? ⟨g, i * 6 + 3, none⟩ = false ∧ w.frozen? ⟨g, i * 6 + 4, none⟩ = false ∧ w.frozen? ⟨g, i * 6 + 5, none⟩ = false := by
 subst hN
 exact ⟨⟨_, _, _, _, _, _, hr.cellAt (j := 0) hi (by decide) rfl, hr.cellAt (j := 1) hi (by decide) rfl, hr.cellAt (j := 2) hi (by decide) rfl, hr.cellAt (j := 3) hi (by decide) rfl, hr.cellAt (j := 4) hi (by decide) rfl, hr.cellAt (j := 5) hi (by decide) rfl⟩, World.ownsRow.frozenAt hr.own _, World.ownsRow.frozenAt hr.own _, World.ownsRow.frozenAt hr.own _, World.ownsRow.frozenAt hr.own _, World.ownsRow.frozenAt hr.own _, World.ownsRow.frozenAt hr.own _⟩
theorem arcs_at {L : LA} {l : ArcsL} (h : L.map cutA = arcsRow l) {i : Nat} (hi : i < L.length) (hi2 : i < l.length) : cutA L[i] = ((l[i].1 : Int), rawT l[i].2) := by
 have := congrArg (fun x => x[i]?) h
 simpa only [List.getElem?_map, arcsRow, List.getElem?_eq_getElem hi, List.getElem?_eq_getElem hi2, Option.map_some, Option.some.injEq] using this
theorem arcsRow_ins (l : ArcsL) (a : Nat × TrD) : arcsRow (insA l a) = (arcsRow l).take (posA l a.1) ++ ((a.1 : Int), rawT a.2) :: (arcsRow l).drop (posA l a.1) := by
 rw [insA_pos]
 simp [arcsRow, List.map_take, List.map_drop]
theorem arcsRow_len (l : ArcsL) : (arcsRow l).length = l.length := by simp [arcsRow]
set_option maxRecDepth 100000 in
set_option maxHeartbeats 8000000 in
theorem ejoin_any (A : Nat → Prop) (base n w m nc : Nat) (v : Value) (ag ak ac : Option Addr) (cg ck cc : Nat) (L : LA) (l : ArcsL) (f : TrD) (W : World) (hT : TabW W) (hb : base ≤ W.heap.size) (h8 : w ≤ 8) (hn : n ≤ 256) (hl : RowOkA w n l) (hL : L.map cutA = arcsRow l) (h : LOwn kA A W base v L) (hf : TrOk f ∧ f.w = w)
  (ha : TrAt (fun b => A b ∨ v.ownBlock = some b) W (.slice ag (nw w) cg) (.slice ak (nw w) ck) (.slice ac nc cc) f) :
  Calls Tryd.prog 47 #[v, .agg #[.int .i64 (m : Int), .int .i64 (w : Int), .slice ag (nw w) cg, .int .i64 (w : Int), .slice ak (nw w) ck, .slice ac nc cc]] W (JoinPostA A base v (putA l (m, f)) W) := by
 have HL := Lib.hid hl
 have HM := Lib.hid hL
 have HO := Lib.hid h
 have HA := Lib.hid ha
 have HT := Lib.hid hT
 have hfw := Lib.hid hf.2
 have hlen : L.length = l.length := by have := congrArg List.length hL; simpa [arcsRow] using this
 have hll : l.length ≤ 256 := by have := hl.len; omega
 have HLN := Lib.hid hlen
 have HAR : ∀ w', Ext No W w' → ArcsW No w' v l := fun w' hx => ⟨L, (HO.out.list2 (fun _ _ x => x) (fun _ x => x.elim)).extNo hx, HM.out⟩
 have HAR := Lib.hid HAR
 obtain ⟨a0, cap, hv⟩ : ∃ a0 cap, v = .slice a0 l.length cap := (HAR.out W (Ext.refl _ _)).slice
 subst hv
 obtain ⟨N, hN⟩ : ∃ N, N = l.length := ⟨_, rfl⟩
 have HN := Lib.hid hN
 rw [← hN] at HO HA HAR hll ⊢
 clear h ha hl hL hT hf hlen hN
 go_enter Tryd.func47, Tryd.ntmps47
 go_wp2_with fail
 have hx0 : Ext No W (W.alloc (.cells #[.int .i64 (m : Int), .int .i64 (w : Int), .slice ag (nw w) cg, .int .i64 (w : Int), .slice ak (nw w) ck, .slice ac nc cc] 33)) := (Ext.refl _ _).alloc _
 have HB0 := Lib.hid (alloc_top (w := W) (o := (.cells #[.int .i64 (m : Int), .int .i64 (w : Int), .slice ag (nw w) cg, .int .i64 (w : Int), .slice ak (nw w) ck, .slice ac nc cc] 33)) rfl)
 refine (arc_any m w _ l _ HL.out.trs (HAR.out _ hx0) (by rw [← HN.out]; exact Nat.le_trans hll (by omega))).mono ?_
 rintro e1 V ⟨hh, hx1⟩
 have HX := Lib.hid (hx0.transNo hx1)
 have HB := Lib.hid (hx1.blk HB0.out no_no)
 have hbx := lt_of_block HB0.out
 clear hx0 hx1 HB0
 rcases hh with ⟨h1, rfl⟩ | ⟨h1, rfl⟩
 ·obtain ⟨i, hi⟩ : ∃ i, i = ixA l m := ⟨_, rfl⟩
  have HI := Lib.hid hi
  rw [← hi] at h1 ⊢
  clear hi
  have HI1 := Lib.hid h1
  have hiN : i < N := by rw [HN.out]; exact h1
  have hiz : (i : Int) < (N : Int) := by omega
  have hi0 : ¬ (i : Int) < 0 := by omega
  have hown0 : W.ownsRow base 33 6 (.slice a0 N cap) N (L.flatMap kA.cells) := by
   have h9 := HO.out.own
   rw [HLN.out, ← HN.out] at h9
   exact h9
  obtain ⟨g, cap', hsh⟩ := own_shape hown0 (by omega)
  simp only [Value.slice.injEq, true_and] at hsh
  obtain ⟨rfl, rfl⟩ := hsh
  clear hown0
  obtain ⟨⟨mm, t⟩, hmf⟩ : ∃ q : Nat × TrD, q = l[i] := ⟨_, rfl⟩
  obtain ⟨b, off, cap', ag', cg', ak', ck', ac', nc', cc', hsl, gt, HT1, htw⟩ := ArcsW.at HL.out.trs (HAR.out V HX.out) HI1.out hmf
  rw [← HN.out] at hsl
  simp only [Value.slice.injEq, Option.some.injEq, Addr.mk.injEq, and_true, true_and] at hsl
  obtain ⟨⟨rfl, rfl⟩, rfl⟩ := hsl
  simp only [Nat.zero_add] at gt
  obtain ⟨q0, q1, q2, q3, q4, q5⟩ := gt
  have HQ := Lib.hid (And.intro q1 (And.intro q2 (And.intro q3 (And.intro q4 q5))))
  have HMF := Lib.hid (show (mm, t) = l[i]'HI1.out from hmf)
  clear q0 q1 q2 q3 q4 q5 hmf h1
  have HF1 := Lib.hid ((HA.out.mono (M' := No) (fun _ _ x => x.elim)).extNo HX.out)
  have hTV := Lib.hid (HT.out.ext HX.out)
  have hjw : (joinT t f).w = w := htw.out
  have HJW := Lib.hid hjw
  clear hjw
  go_upto_region 5 with (fail)
  go_cut [9, 10] (fun s9 s10 wx => ∃ (gE : Nat) (d1 : Option Addr) (e1 : Nat) (d2 : Option Addr) (e2 : Nat) (d3 : Option Addr) (n3 e3 : Nat), s9 = .pointer (some ⟨gE, 0, none⟩) ∧ s10 = .int .i64 0 ∧ Hid (Ext No V wx) ∧ Hid (wx.heap[gE]? = some (.cells #[.int .i64 (w : Int), .slice d1 (nw w) e1, .int .i64 (w : Int), .slice d2 (nw w) e2, .slice d3 n3 e3] 30 (0, 0))) ∧ Hid (TrAt (Lo V.heap.size) wx (.slice d1 (nw w) e1) (.slice d2 (nw w) e2) (.slice d3 n3 e3) (joinT t f)) ∧ V.heap.size ≤ gE)
  case first =>
   refine wp_region_held_drew (S := (fun w' => Ext No V w')) (by kernel_rfl) ?_ (fun hHeld => ?_)
   ·exact (Ext.refl _ _).drew
   generalize V.drew = v0 at *
   refine hHs [0, 1, 2, 3, 4, 5] ?_
   iterate 6
    refine hTn ?_ hHeld (fun w hSw => ?_) ?_
    rotate_left
    ·(obtain ⟨p1, p2, p3, p4, p5⟩ := HQ.out); (have q0 := (show Ext No V _ from hSw).keep p1); (have q1 := (show Ext No V _ from hSw).keep p2); (have q2 := (show Ext No V _ from hSw).keep p3); (have q3 := (show Ext No V _ from hSw).keep p4); (have q4 := (show Ext No V _ from hSw).keep p5); go_simp; (try with_reducible rfl)
    simp only [Act.put, nzA, nzB, nzC]
   refine hHe ?_
   refine hTk 6 ?_ hHeld (fun w hSw => ?_) ?_
   rotate_left
   ·(have x0 := cellOf ((show Ext No V _ from hSw).blk HB.out no_no)); go_simp; (try with_reducible rfl)
   simp only [Act.put, nzA, nzB, nzC]
   refine held_next2 (i := 7) (j := 11) (by kernel_rfl) (NextOp.mk rfl rfl (fun K hK => ?_)) (NextOp.mk rfl rfl (fun K hK => ?_))
   ·(go_simp; (go_at_call 77); (have hSz := Lib.hid (show Ext No V _ from hHeld)); (refine (join8M (Lo v0.heap.size) t f w _ _ _ _ _ _ _ htw.out hfw.out (fun b e => e) h8 (hTV.out.ext (show Ext No V _ from hHeld)) (HT1.out.extNo (show Ext No V _ from hHeld)) (HF1.out.extNo (show Ext No V _ from hHeld))).mono ?_); (rintro e0 v1 ⟨d1, e1, d2, e2, d3, n3, e3, rfl, hS, hyA⟩); go_simp)
    refine hK.out _ _ ?_ ?_
    ·exact Ext.transNo (show Ext No V _ from hHeld) hyA
    clear hK K hHeld
    intro hHeld
    have hSV := hSz.out.size
    replace hS := Lib.hid (hS.out.mono (M' := Lo V.heap.size) (fun i _ e => Nat.lt_of_lt_of_le e hSV))
    clear hyA hSz hSV
    try simp only [Act.put, nzA, nzB, nzC]
    refine hHs [8, 9, 10] ?_
    iterate 3
     refine hTn ?_ hHeld (fun w hSw => ?_) ?_
     rotate_left
     ·go_simp; (try with_reducible rfl)
     simp only [Act.put, nzA, nzB, nzC]
    refine hHe ?_
    refine hHc 11 fun K hK => ?_
    ((have wE := Lib.hid (show Ext No V _ from hHeld).size); go_simp)
    refine hK.out _ _ ?_ ?_
    ·exact Ext.alloc (show Ext No V _ from hHeld) _
    clear hK K hHeld
    intro hHeld
    have hE := Lib.hid (alloc_top (w := v1) (o := (.cells #[.int .i64 0, .slice none 0 0, .int .i64 0, .slice none 0 0, .slice none 0 0] 30)) rfl)
    replace hS := Lib.hid ((hS.out.mono (M' := fun b => Lo V.heap.size b ∨ b = v1.heap.size) (fun i hi e => e.elim id (fun e => absurd hi (by rw [e]; exact Nat.lt_irrefl _)))).extNo ((Ext.refl No v1).alloc (.cells #[.int .i64 0, .slice none 0 0, .int .i64 0, .slice none 0 0, .slice none 0 0] 30)))
    generalize (v1.alloc (.cells #[.int .i64 0, .slice none 0 0, .int .i64 0, .slice none 0 0, .slice none 0 0] 30)) = v2 at *
    generalize v1.heap.size = gE at *
    try simp only [Act.put, nzA, nzB, nzC]
    refine hHc 12 fun K hK => ?_
    ((have cS := cellOf hE.out); (have fS := freeOf hE.out); go_simp; (clear cS fS))
    refine hK.out _ _ ?_ ?_
    ·exact ext5W (show Ext No V _ from hHeld) wE.out
    clear hK K hHeld
    intro hHeld
    try simp only [Act.put, nzA, nzB, nzC]
    refine hTk 13 ?_ hHeld (fun w hSw => ?_) ?_
    rotate_left
    ·go_simp; (try with_reducible rfl)
    simp only [Act.put, nzA, nzB, nzC]
    refine wpAnyH_done (by kernel_rfl) ?_ _
    have hEx : Ext No V _ := hHeld
    go_wp2_with fail
    go_meet
    exact ⟨gE, d1, e1, d2, e2, d3, n3, e3, rfl, rfl, Lib.hid hEx, Lib.hid ((set_same (j := 4) (set_same (j := 3) (set_same (j := 2) (set_same (j := 1) (set_same (j := 0) hE.out))))).trans rfl), Lib.hid ((hS.out.ext ((((((Ext.refl (At gE) v2).setAt 0 _).setAt 1 _).setAt 2 _).setAt 3 _).setAt 4 _) (fun i _ e => .inr e)).mono (fun i _ e => .inl e)), wE.out⟩
   ((have wE := Lib.hid (show Ext No V _ from hHeld).size); go_simp)
   refine hK.out _ _ ?_ ?_
   ·exact Ext.alloc (show Ext No V _ from hHeld) _
   clear hK K hHeld
   intro hHeld
   have hE := Lib.hid (alloc_top (w := v0) (o := (.cells #[.int .i64 0, .slice none 0 0, .int .i64 0, .slice none 0 0, .slice none 0 0] 30)) rfl)
   generalize (v0.alloc (.cells #[.int .i64 0, .slice none 0 0, .int .i64 0, .slice none 0 0, .slice none 0 0] 30)) = v1 at *
   generalize v0.heap.size = gE at *
   try simp only [Act.put, nzA, nzB, nzC]
   refine hHc 7 fun K hK => ?_
   (go_simp; (go_at_call 77); (have hSz := Lib.hid (show Ext No V _ from hHeld)); (refine (join8M (Lo v1.heap.size) t f w _ _ _ _ _ _ _ htw.out hfw.out (fun b e => e) h8 (hTV.out.ext (show Ext No V _ from hHeld)) (HT1.out.extNo (show Ext No V _ from hHeld)) (HF1.out.extNo (show Ext No V _ from hHeld))).mono ?_); (rintro e0 v2 ⟨d1, e1, d2, e2, d3, n3, e3, rfl, hS, hyA⟩); go_simp)
   refine hK.out _ _ ?_ ?_
   ·exact Ext.transNo (show Ext No V _ from hHeld) hyA
   clear hK K hHeld
   intro hHeld
   have hSV := hSz.out.size
   replace hS := Lib.hid (hS.out.mono (M' := fun b => Lo V.heap.size b ∨ b = gE) (fun i _ e => e.elim (fun e => Nat.lt_of_lt_of_le e hSV) (fun e => (by rw [e]; exact lt_of_block hE.out))))
   replace hE := Lib.hid (hyA.blk hE.out no_no)
   clear hyA hSz hSV
   try simp only [Act.put, nzA, nzB, nzC]
   refine hHs [8, 9, 10] ?_
   iterate 3
    refine hTn ?_ hHeld (fun w hSw => ?_) ?_
    rotate_left
    ·go_simp; (try with_reducible rfl)
    simp only [Act.put, nzA, nzB, nzC]
   refine hHe ?_
   refine hHc 12 fun K hK => ?_
   ((have cS := cellOf hE.out); (have fS := freeOf hE.out); go_simp; (clear cS fS))
   refine hK.out _ _ ?_ ?_
   ·exact ext5W (show Ext No V _ from hHeld) wE.out
   clear hK K hHeld
   intro hHeld
   try simp only [Act.put, nzA, nzB, nzC]
   refine hTk 13 ?_ hHeld (fun w hSw => ?_) ?_
   rotate_left
   ·go_simp; (try with_reducible rfl)
   simp only [Act.put, nzA, nzB, nzC]
   refine wpAnyH_done (by kernel_rfl) ?_ _
   have hEx : Ext No V _ := hHeld
   go_wp2_with fail
   go_meet
   exact ⟨gE, d1, e1, d2, e2, d3, n3, e3, rfl, rfl, Lib.hid hEx, Lib.hid ((set_same (j := 4) (set_same (j := 3) (set_same (j := 2) (set_same (j := 1) (set_same (j := 0) hE.out))))).trans rfl), Lib.hid ((hS.out.ext ((((((Ext.refl (At gE) v2).setAt 0 _).setAt 1 _).setAt 2 _).setAt 3 _).setAt 4 _) (fun i _ e => .inr e)).mono (fun i _ e => .inl e)), wE.out⟩
  case rest =>
  obtain ⟨gE, d1, e1, d2, e2, d3, n3, e3, rfl, rfl, hx, hE, hS, wE⟩ := hcut
  rename World => wx
  have HXx := Lib.hid (HX.out.transNo hx.out)
  have HOx := Lib.hid (HO.out.extNo HXx.out)
  have hiL : i < L.length := by have := HLN.out; have := HN.out; omega
  have HIL := Lib.hid hiL
  obtain ⟨⟨u0, u1, u2, u3, u4, u5, q0, q1, q2, q3, q4, q5⟩, f0, f1, f2, f3, f4, f5⟩ := HOx.out.cells6 (by rw [HN.out, HLN.out]) hiL
  have cE := cellOf hE.out
  clear hiL
  go_wp2_with fail
  refine ret_ex rfl ?_
  simp [results, Tryd.results47, go_sem]
  clear q0 q1 q2 q3 q4 q5 f0 f1 f2 f3 f4 f5 cE
  have hiL := HIL.out
  have hLi := arcs_at HM.out hiL HI1.out
  have hmf := HMF.out
  have hm1 : mm = m := by have h9 := ixA_from (l := l) (n := m) (by rw [← HI.out]; exact HI1.out); simp only [← HI.out, ← hmf] at h9; exact h9
  have hE5 : Ext (At g) wx (((((wx.setCell ⟨g, i * 6 + 1, none⟩ (.int .i64 (w : Int))).setCell ⟨g, i * 6 + 2, none⟩ (.slice d1 (nw w) e1)).setCell ⟨g, i * 6 + 3, none⟩ (.int .i64 (w : Int))).setCell ⟨g, i * 6 + 4, none⟩ (.slice d2 (nw w) e2)).setCell ⟨g, i * 6 + 5, none⟩ (.slice d3 n3 e3)) := (((((Ext.refl (At g) wx).setAt _ _).setAt _ _).setAt _ _).setAt _ _).setAt _ _
  have hown : ((((((wx.setCell ⟨g, i * 6 + 1, none⟩ (.int .i64 (w : Int))).setCell ⟨g, i * 6 + 2, none⟩ (.slice d1 (nw w) e1)).setCell ⟨g, i * 6 + 3, none⟩ (.int .i64 (w : Int))).setCell ⟨g, i * 6 + 4, none⟩ (.slice d2 (nw w) e2)).setCell ⟨g, i * 6 + 5, none⟩ (.slice d3 n3 e3))).ownsRow base 33 6 (.slice (some ⟨g, 0, none⟩) N cap) (L.set i (L[i].1, rawT (joinT t f), Value.slice d1 (nw w) e1, Value.slice d2 (nw w) e2, Value.slice d3 n3 e3)).length ((L.set i (L[i].1, rawT (joinT t f), Value.slice d1 (nw w) e1, Value.slice d2 (nw w) e2, Value.slice d3 n3 e3)).flatMap kA.cells) := by
   have h9 := put5_own (w := wx) (base := base) (g := g) (c := cap) (N := N) (k := i) (L := L) (p := (L[i].1, rawT (joinT t f), Value.slice d1 (nw w) e1, Value.slice d2 (nw w) e2, Value.slice d3 n3 e3)) (by rw [HN.out, HLN.out]) (by have h8 := HOx.out.own; rw [HLN.out, ← HN.out] at h8; exact h8) hiL rfl
   simp only [rawT, setN, HJW.out] at h9 ⊢
   exact h9
  generalize (((((wx.setCell ⟨g, i * 6 + 1, none⟩ (.int .i64 (w : Int))).setCell ⟨g, i * 6 + 2, none⟩ (.slice d1 (nw w) e1)).setCell ⟨g, i * 6 + 3, none⟩ (.int .i64 (w : Int))).setCell ⟨g, i * 6 + 4, none⟩ (.slice d2 (nw w) e2)).setCell ⟨g, i * 6 + 5, none⟩ (.slice d3 n3 e3)) = WF at *
  have hEx : Ext (fun k => Value.ownBlock (.slice (some ⟨g, 0, none⟩) N cap) = some k) W WF := HXx.out.ofNo.trans (hE5.mono (fun k _ e => by rw [show k = g from e]; rfl))
  have hgW : g < W.heap.size := (HO.out.lt g rfl).2
  have hWV := HX.out.size
  refine ⟨_, L.set i (L[i].1, rawT (joinT t f), Value.slice d1 (nw w) e1, Value.slice d2 (nw w) e2, Value.slice d3 n3 e3), rfl, Lib.hid ⟨hown, fun r hr => ?_⟩, Lib.hid ?_, Lib.hid hEx, .inl rfl⟩
  ·rcases List.mem_or_eq_of_mem_set hr with h9 | rfl
   ·exact ok_after (HO.out.ok r h9) hEx (.inl rfl)
   have h9 : kA.ok (fun b => Lo V.heap.size b) wx (L[i].1, rawT (joinT t f), Value.slice d1 (nw w) e1, Value.slice d2 (nw w) e2, Value.slice d3 n3 e3) := ⟨hS.out.gen.words, hS.out.kill.words, hS.out.copies⟩
   refine kA.mono (kA.ext h9 hE5 (fun k _ e => by rw [show k = g from e]; exact Nat.lt_of_lt_of_le hgW hWV)) (fun k _ e => ?_)
   rcases e with ⟨_, e⟩ | e
   ·exact Nat.lt_of_lt_of_le e hWV
   rw [← show g = k from Option.some.inj e]; exact Nat.lt_of_lt_of_le hgW hWV
  have hput : putA l (m, f) = l.set i (m, joinT t f) := by
   unfold putA
   rw [dif_pos (by rw [← HI.out]; exact HI1.out)]
   simp only [← HI.out, ← hmf]
  rw [hput, List.map_set, HM.out]
  simp only [arcsRow, List.map_set]
  congr 1
  simp only [cutA] at hLi ⊢
  rw [(Prod.ext_iff.1 hLi).1, ← hmf, hm1]
 have H1 := Lib.hid h1
 clear h1
 obtain ⟨p, hp⟩ : ∃ p, p = posA l m := ⟨_, rfl⟩
 have HP := Lib.hid hp
 have hpN : p ≤ N := by rw [hp, HN.out]; exact posA_le l m
 clear hp
 have cB := cellOf HB.out
 go_wp2_with fail
 clear cB
 refine (bsearch_any m w _ l _ HL.out.asc HL.out.trs (HAR.out V HX.out) (by rw [← HN.out]; exact Nat.le_trans hll (by omega))).mono ?_
 rintro e2 w2 ⟨bb, rfl, hx2⟩
 rw [← HP.out]
 have cB := cellOf (hx2.blk HB.out no_no)
 have HX2 := Lib.hid (HX.out.transNo hx2)
 clear hx2
 go_wp2_with fail
 clear cB
 have HXU := Lib.hid (HX2.out.transNo ((Ext.refl No w2).alloc (.cells #[.int .i64 (m : Int), .int .i64 (w : Int), .slice ag (nw w) cg, .int .i64 (w : Int), .slice ak (nw w) ck, .slice ac nc cc] 33)))
 have HU := Lib.hid (alloc_top (w := w2) (o := (.cells #[.int .i64 (m : Int), .int .i64 (w : Int), .slice ag (nw w) cg, .int .i64 (w : Int), .slice ak (nw w) ck, .slice ac nc cc] 33)) rfl)
 have hsz2 := HX2.out.size
 have hne : Value.ownBlock (.slice a0 N cap) ≠ some w2.heap.size := fun e => by have := (HO.out.lt _ e).2; omega
 have HOU := Lib.hid (HO.out.extNo HXU.out)
 generalize (w2.alloc (.cells #[.int .i64 (m : Int), .int .i64 (w : Int), .slice ag (nw w) cg, .int .i64 (w : Int), .slice ak (nw w) ck, .slice ac nc cc] 33)) = U at *
 generalize w2.heap.size = vb at *
 refine (inArc_any base N p vb _ (L.flatMap kA.cells) [.int .i64 (m : Int), .int .i64 (w : Int), .slice ag (nw w) cg, .int .i64 (w : Int), .slice ak (nw w) ck, .slice ac nc cc] U (by have h9 := HOU.out.own; rw [HLN.out, ← HN.out] at h9; exact h9) (Nat.le_trans hb HXU.out.size) hpN (by omega) (arcs_oneL HOU.out.ok) HU.out rfl (by simp [Value.oneCell']) hne).mono ?_
 rintro e3 w3 ⟨g', c', rfl, hown, hE, hv⟩
 go_wp2_with fail
 refine ret_ex rfl ?_
 simp [results, Tryd.results47, go_sem]
 have hEx : Ext (fun k => Value.ownBlock (.slice a0 N cap) = some k) W w3 := HXU.out.ofNo.trans hE.out
 have hWU := HXU.out.size
 have hv2 : Value.ownBlock (.slice (some ⟨g', 0, none⟩) (N + 1) c') = Value.ownBlock (.slice a0 N cap) ∨ ∀ k, Value.ownBlock (.slice (some ⟨g', 0, none⟩) (N + 1) c') = some k → W.heap.size ≤ k := hv.imp (fun e => e.symm) (fun e k hk => by rw [← show g' = k from Option.some.inj hk]; omega)
 have hpa : kA.ok (fun b => A b ∨ Value.ownBlock (.slice a0 N cap) = some b) W ((m : Int), rawT f, Value.slice ag (nw w) cg, Value.slice ak (nw w) ck, Value.slice ac nc cc) := HA.out.raw
 have hce : kA.cells ((m : Int), rawT f, Value.slice ag (nw w) cg, Value.slice ak (nw w) ck, Value.slice ac nc cc) = [.int .i64 (m : Int), .int .i64 (w : Int), .slice ag (nw w) cg, .int .i64 (w : Int), .slice ak (nw w) ck, .slice ac nc cc] := by
  simp only [kA, rawT, setN, hfw.out]
 obtain ⟨pa, hpe⟩ : ∃ pa : Int × RawT × Value × Value × Value, pa = ((m : Int), rawT f, Value.slice ag (nw w) cg, Value.slice ak (nw w) ck, Value.slice ac nc cc) := ⟨_, rfl⟩
 rw [← hpe] at hpa hce
 have hfl : (L.take p ++ pa :: L.drop p).flatMap kA.cells = (L.flatMap kA.cells).take (p * 6) ++ [.int .i64 (m : Int), .int .i64 (w : Int), .slice ag (nw w) cg, .int .i64 (w : Int), .slice ak (nw w) ck, .slice ac nc cc] ++ (L.flatMap kA.cells).drop (p * 6) := by
  rw [List.flatMap_append, List.flatMap_cons, hce, show p * 6 = p * kA.s from rfl, take_flat kA L p, drop_flat kA L p, List.append_assoc]
 refine ⟨_, L.take p ++ pa :: L.drop p, rfl, Lib.hid ⟨?_, fun r hr => ?_⟩, Lib.hid ?_, Lib.hid hEx, hv2⟩
 ·rw [hfl]
  have h9 : (L.take p ++ pa :: L.drop p).length = N + 1 := by
   have := HLN.out
   have := HN.out
   simp only [List.length_append, List.length_take, List.length_cons, List.length_drop]
   omega
  rw [h9]
  exact hown.out
 ·rcases List.mem_append.1 hr with h9 | h9
  ·exact ok_after (HO.out.ok r (List.mem_of_mem_take h9)) hEx hv2
  rcases List.mem_cons.1 h9 with rfl | h9
  ·exact ok_after hpa hEx hv2
  exact ok_after (HO.out.ok r (List.mem_of_mem_drop h9)) hEx hv2
 have hput : putA l (m, f) = insA l (m, f) := by
  unfold putA
  rw [dif_neg H1.out]
 rw [hput, arcsRow_ins, List.map_append, List.map_cons, List.map_take, List.map_drop, HM.out, ← HP.out, hpe]
 rfl

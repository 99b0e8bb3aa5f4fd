
import Derived.Test.YtmddchceacmopaaDoorI11
import Derived.Test.YtmddchceacmopaaDoorE25
set_option linter.unusedVariables false
set_option linter.unusedSimpArgs false
namespace Go.Proofs.YtmddchceacmopaaDoor
open Go Go.RowKit
theorem wset3 (w : World) (C : Nat) (a b c : Value) : Ext (At C) w (((w.setCell ⟨C, 0, none⟩ (a)).setCell ⟨C, 1, none⟩ (b)).setCell ⟨C, 2, none⟩ (c)) := (((Ext.refl (At C) w).setAt 0 a).setAt 1 b).setAt 2 c
theorem wfin3 {w : World} {C : Nat} {T : TypeId} {x0 x1 x2 : Value} (h : w.heap[C]? = some (.cells #[x0, x1, x2] T (0, 0))) (a b c : Value) : (((w.setCell ⟨C, 0, none⟩ (a)).setCell ⟨C, 1, none⟩ (b)).setCell ⟨C, 2, none⟩ (c)).heap[C]? = some (.cells #[a, b, c] T (0, 0)) :=
 (set_same (j := 2) (set_same (j := 1) (set_same (j := 0) h))).trans rfl
end Go.Proofs.YtmddchceacmopaaDoor

namespace Go.Proofs.YtmddchceacmopaaDoor
open Go Go.RowKit
def OutW (base : Nat) (W : World) : Nat → Prop := fun b => b < base ∨ W.heap.size ≤ b
structure RO (base : Nat) (W wr : World) (O : Nat) (vB vI : Value) (LI : RLs) : Prop where
 r : ∀ p ∈ LI, wr.ownsRow (W.heap.size + 2) 33 6 p.2 p.1.length (p.1.flatMap kA.cells) ∧ ∀ q ∈ p.1, kA.ok (OutW base W) wr q
 br : ∀ p ∈ LI, ∀ k, p.2.ownBlock = some k → vB.ownBlock ≠ some k ∧ vI.ownBlock ≠ some k ∧ k ≠ O
 dis : ∀ i j (hi : i < LI.length) (hj : j < LI.length), i ≠ j → ∀ k, LI[i].2.ownBlock = some k → LI[j].2.ownBlock ≠ some k
section
variable {base O : Nat} {W wr w' : World} {vB vI v' : Value} {LI : RLs} {L : LA} {v : Value}
theorem RO.nil : RO base W wr O vB vI [] := ⟨fun p hp => (List.not_mem_nil hp).elim, fun p hp => (List.not_mem_nil hp).elim, fun i j hi => absurd hi (Nat.not_lt_zero _)⟩
theorem RO.step {M : Nat → Prop} (h : RO base W wr O vB vI LI) (hx : Ext M wr w') (h1 : ∀ i, i < wr.heap.size → M i → W.heap.size ≤ i) (h2 : ∀ p ∈ LI, ∀ k, p.2.ownBlock = some k → ¬ M k) : RO base W w' O vB vI LI :=
 ⟨fun p hp => ⟨row_keep2 (h.r p hp).1 hx (h2 p hp), fun q hq => kA.ext ((h.r p hp).2 q hq) hx (fun i hi e => .inr (h1 i hi e))⟩, h.br, h.dis⟩
theorem RO.stepNo (h : RO base W wr O vB vI LI) (hx : Ext No wr w') : RO base W w' O vB vI LI := h.step hx (fun _ _ e => e.elim) (fun _ _ _ _ e => e)
theorem RO.app (h : RO base W wr O vB vI LI) (hl : W.heap.size + 2 ≤ wr.heap.size) (hw : W.heap.size < O) (hO : O < wr.heap.size) (hvB : ∀ k, vB.ownBlock = some k → k < wr.heap.size) (hvI : ∀ k, vI.ownBlock = some k → k < wr.heap.size) (hx : Ext No wr w') (hown : w'.ownsRow wr.heap.size 33 6 v L.length (L.flatMap kA.cells)) (hok : ∀ q ∈ L, kA.ok (OutW base W) w' q) : RO base W w' O vB vI (LI ++ [(L, v)]) := by
 have h0 := h.stepNo hx
 have hlt : ∀ p ∈ LI, ∀ k, p.2.ownBlock = some k → k < wr.heap.size := fun p hp k hk => (World.ownsRow.lt (h.r p hp).1 k hk).2
 have hge : ∀ k, v.ownBlock = some k → wr.heap.size ≤ k := fun k hk => (World.ownsRow.lt hown k hk).1
 refine ⟨fun p hp => ?_, fun p hp k hk => ?_, fun i j hi hj hij k hk => ?_⟩
 ·rcases List.mem_append.1 hp with hp | hp
  ·exact h0.r p hp
  rw [List.mem_singleton.1 hp]
  exact ⟨row_base hown hl, hok⟩
 ·rcases List.mem_append.1 hp with hp | hp
  ·exact h.br p hp k hk
  rw [List.mem_singleton.1 hp] at hk
  have h3 := hge k hk
  exact ⟨fun e => by have := hvB k e; omega, fun e => by have := hvI k e; omega, by omega⟩
 rw [List.length_append, List.length_singleton] at hi hj
 rw [List.getElem_append] at hk ⊢
 by_cases e1 : i < LI.length
 ·rw [dif_pos e1] at hk
  by_cases e2 : j < LI.length
  ·rw [dif_pos e2]; exact h.dis i j e1 e2 hij k hk
  rw [dif_neg e2]
  simp only [List.getElem_singleton]
  exact fun e => by have := hge k e; have := hlt _ (List.getElem_mem e1) k hk; omega
 rw [dif_neg e1] at hk
 simp only [List.getElem_singleton] at hk
 have h3 := hge k hk
 by_cases e2 : j < LI.length
 ·rw [dif_pos e2]; exact fun e => by have := hlt _ (List.getElem_mem e2) k e; omega
 omega
theorem RO.grow (h : RO base W wr O vB vI LI) (hl : W.heap.size + 2 ≤ wr.heap.size) (hlI : ∀ k, vI.ownBlock = some k → W.heap.size ≤ k) (hg : wr.grownBy w' vI.ownBlock) (hv : v'.ownBlock = vI.ownBlock ∨ v'.ownBlock = some wr.heap.size) : RO base W w' O vB v' LI := by
 have hx : Ext (fun k => vI.ownBlock = some k) wr w' := (Ext.refl _ wr).grown hg (fun k hk _ => hk)
 have h0 := h.step hx (fun i _ e => hlI i e) (fun p hp k hk e => (h.br p hp k hk).2.1 e)
 refine ⟨h0.r, fun p hp k hk => ⟨(h.br p hp k hk).1, fun e => ?_, (h.br p hp k hk).2.2⟩, h0.dis⟩
 rcases hv with hv | hv
 ·rw [hv] at e; exact (h.br p hp k hk).2.1 e
 rw [hv] at e; simp only [Option.some.injEq] at e; have := (World.ownsRow.lt (h.r p hp).1 k hk).2; omega
end
def WebPostO (base : Nat) (S : SysD) (W : World) (e : Ending) (w' : World) : Prop :=
 ∃ (vB vI : Value) (LB : LS) (RL : RLs), e = .returned (.tuple #[.agg #[.int .i64 (S.w : Int), vB, vI], .int .i64 0]) ∧ Hid (MWx w' base w'.heap.size vB vI LB RL) ∧ Hid (LB.map Prod.fst = S.bnd.map (setN S.w)) ∧ Hid (RL.length = S.deps.length) ∧ Hid (∀ i (h : i < RL.length), RL[i].1.map cutA = arcsR S i) ∧ Ext No W w'
theorem mwx_of {base O : Nat} {S : SysD} {W wr w' : World} {vd vt vb vB vI : Value} {cO : Array Value} {LB : LS} {LI : RLs} (h : WrM W wr O S vd vt vb vB vI cO LB LI) (hR : RO base W wr O vB vI LI) (hB : ∀ p ∈ LB, kS.ok (OutW base W) wr p) (hb : base ≤ W.heap.size) (hx : Ext (At (W.heap.size + 1)) wr w') : MWx w' base w'.heap.size vB vI LB LI := by
 have hs := hx.size
 have hs0 := h.ext.size
 have hlow := h.low
 have hlB : ∀ k, vB.ownBlock = some k → W.heap.size + 2 ≤ k ∧ k < wr.heap.size := fun k hk => h.two.b.lt k hk
 have hlI : ∀ k, vI.ownBlock = some k → W.heap.size + 2 ≤ k ∧ k < wr.heap.size := fun k hk => h.two.c.lt k hk
 have hlR : ∀ p ∈ LI, ∀ k, p.2.ownBlock = some k → W.heap.size + 2 ≤ k ∧ k < wr.heap.size := fun p hp k hk => World.ownsRow.lt (hR.r p hp).1 k hk
 have hout : ∀ i, i < w'.heap.size → (HotW vB vI LI w'.heap.size base i ∨ False) → OutW base W i := fun i hi e => by
  rcases e with (e | e | e | ⟨p, hp, e⟩ | e) | e
  ·exact .inl e
  ·exact .inr (by have := (hlB i e).1; omega)
  ·exact .inr (by have := (hlI i e).1; omega)
  ·exact .inr (by have := (hlR p hp i e).1; omega)
  ·omega
  exact e.elim
 have hno : ∀ k, W.heap.size + 2 ≤ k → ¬ At (W.heap.size + 1) k := fun k h1 e => by unfold At at e; omega
 refine ⟨by omega, Nat.le_refl _, ⟨row_base (row_keep2 h.two.b.own hx (fun k hk => hno k (hlB k hk).1)) (by omega), fun p hp => ?_⟩, ?_, fun p hp => ⟨row_base (row_keep2 (hR.r p hp).1 hx (fun k hk => hno k (hlR p hp k hk).1)) (by omega), fun q hq => ?_⟩, h.two.bc, fun p hp k hk => ⟨(hR.br p hp k hk).1, (hR.br p hp k hk).2.1⟩, hR.dis, fun k hk => by have := (hlB k hk).2; omega, fun k hk => by have := (hlI k hk).2; omega, fun p hp k hk => by have := (hlR p hp k hk).2; omega⟩
 ·refine kS.mono (kS.ext (hB p hp) hx (fun i _ e => .inr (by unfold At at e; omega))) (fun i hi e => ?_)
  rcases e with e | e
  ·exact hout i hi (.inl e)
  exact .inr (by have := (hlB i e).1; omega)
 ·have h1 := row_base (row_keep2 h.two.c.own hx (fun k hk => hno k (hlI k hk).1)) (show base ≤ W.heap.size + 2 by omega)
  rw [flat_snd] at h1
  exact h1
 refine kA.mono (kA.ext ((hR.r p hp).2 q hq) hx (fun i _ e => .inr (by unfold At at e; omega))) (fun i hi e => ?_)
 rcases e with e | e
 ·exact hout i hi (.inl e)
 exact .inr (by have := (hlR p hp i e).1; omega)
set_option maxRecDepth 100000 in
set_option maxHeartbeats 16000000 in
theorem rWebO_any (base : Nat) (S : SysD) (vd vt vb : Value) (W : World) (hb : base ≤ W.heap.size) (hB : SysAt (Lo base) W vd vt vb S) :
  Calls Tryd.prog 29 #[.agg #[.int .i64 (S.w : Int), vd, vt, vb]] W (WebPostO base S W) := by
 have h := hB.no
 have HBB := Lib.hid hB
 obtain ⟨iS, hiS, hS0, hS1, hS2⟩ := info_parts infoS
 obtain ⟨iA, hiA, hA0, hA1, hA2⟩ := info_parts infoA8
 obtain ⟨iL, hiL, hL0, hL1, hL2⟩ := info_parts infoL8
 have H := Lib.hid h
 have hok := h.ok
 have HOK := Lib.hid hok
 have HBW := Lib.hid hb
 clear hb
 have hnn := hok.n2
 have hn1 := hok.n1
 have hww := hok.w
 obtain ⟨Ld0, Lt0, Lb, hY, -, -, hbm⟩ := hB.ex
 have hbl : Lb.length = S.deps.length := by have := congrArg List.length hbm; simp only [List.length_map] at this; rw [this, hok.lb]
 have HBL := Lib.hid hbl
 have HBM := Lib.hid hbm
 obtain ⟨ad, cd, at1, ct, ab, cb, rfl, rfl, rfl⟩ := h.slices
 have HYB := Lib.hid hY.b.no
 have HYO := Lib.hid (show ∀ p ∈ Lb, kS.ok (OutW base W) W p from fun p hp => kS.mono (hY.b.ok p hp) (fun i hi e => e.elim id (fun e => absurd hi (by omega))))
 clear h hB hok hY hbm hbl
 go_enter Tryd.func29, Tryd.ntmps29
 go_wp2_with fail
 have hx0 : Ext No W ((W.alloc (.cells #[.int .i64 (S.w : Int), .slice ad S.deps.length cd, .slice at1 S.deps.length ct, .slice ab S.deps.length cb] 72)).alloc (.cells #[.int .i64 0, .slice none 0 0, .slice none 0 0] 37)) := ((Ext.refl _ _).alloc _).alloc _
 have HA0 := Lib.hid (show ((W.alloc (.cells #[.int .i64 (S.w : Int), .slice ad S.deps.length cd, .slice at1 S.deps.length ct, .slice ab S.deps.length cb] 72)).alloc (.cells #[.int .i64 0, .slice none 0 0, .slice none 0 0] 37)).heap[W.heap.size]? = some (.cells #[.int .i64 (S.w : Int), .slice ad S.deps.length cd, .slice at1 S.deps.length ct, .slice ab S.deps.length cb] 72 (0, 0)) from alloc_under (alloc_top rfl))
 have HC0 := Lib.hid (show ((W.alloc (.cells #[.int .i64 (S.w : Int), .slice ad S.deps.length cd, .slice at1 S.deps.length ct, .slice ab S.deps.length cb] 72)).alloc (.cells #[.int .i64 0, .slice none 0 0, .slice none 0 0] 37)).heap[W.heap.size + 1]? = some (.cells #[.int .i64 0, .slice none 0 0, .slice none 0 0] 37 (0, 0)) from alloc_top (by simp))
 generalize ((W.alloc (.cells #[.int .i64 (S.w : Int), .slice ad S.deps.length cd, .slice at1 S.deps.length ct, .slice ab S.deps.length cb] 72)).alloc (.cells #[.int .i64 0, .slice none 0 0, .slice none 0 0] 37)) = w2 at *
 refine (rvalidSys_yes S _ _ _ _ (H.out.extNo hx0)).mono ?_
 rintro e1 V ⟨rfl, hx1⟩
 have HX := Lib.hid (hx0.transNo hx1)
 have HA := Lib.hid (hx1.blk HA0.out no_no)
 have HC := Lib.hid (hx1.blk HC0.out no_no)
 have hlV := lt_of_block HC.out
 clear hx0 hx1 HA0 HC0
 go_upto_region 3 with (fail)
 go_cut [4] (fun s4 wx => ∃ (O : Nat) (aB : Option Addr) (cB : Nat), s4 = .pointer (some ⟨O, 0, none⟩) ∧ Hid (WrM W wx O S (.slice ad S.deps.length cd) (.slice at1 S.deps.length ct) (.slice ab S.deps.length cb) (.slice aB S.deps.length cB) (.slice none 0 0) #[.int .i64 (S.w : Int), .slice aB S.deps.length cB, .slice none 0 0] Lb []))
 case first =>
  refine wp_region_held_drew (S := (fun w' => Ext No V w')) (by kernel_rfl) ?_ (fun hHeld => ?_)
  ·exact (Ext.refl _ _).drew
  have HE := Lib.hid (show Ext No V V.drew from (Ext.refl _ _).drew)
  generalize V.drew = v0 at *
  refine hHs [0, 1, 3, 4] ?_
  iterate 4
   refine hTn ?_ hHeld (fun w hSw => ?_) ?_
   rotate_left
   ·(have q0 := cellOf ((show Ext No V _ from hSw).blk HA.out no_no)); go_simp; (try with_reducible rfl)
   simp only [Act.put, nzA, nzB, nzC]
  refine hHe ?_
  refine held_next2 (i := 2) (j := 7) (by kernel_rfl) (NextOp.mk rfl rfl (fun K hK => ?_)) (NextOp.mk rfl rfl (fun K hK => ?_))
  ·go_simp
   refine hK.out _ _ ?_ ?_
   ·exact HE.out.alloc _
   clear hK K hHeld
   intro hHeld
   have hy := (Ext.refl No v0).alloc (.cells #[] 24)
   replace HE := Lib.hid (HE.out.transNo hy)
   clear hy
   generalize (v0.alloc (.cells #[] 24)) = v1 at *
   generalize v0.heap.size = EB at *
   try simp only [Act.put, nzA, nzB, nzC]
   refine held_next2 (i := 5) (j := 7) (by kernel_rfl) (NextOp.mk rfl rfl (fun K hK => ?_)) (NextOp.mk rfl rfl (fun K hK => ?_))
   ·((refine wp_app_ful2 _ (.tmp 14) (.tmp 16) 31 rfl 24 iS _ 2 32 Tryd.underlying31 hiS hS0 hS1 hS2 rfl (by omega) No ⟨EB, 0, none⟩ 0 [] rfl (Row.nil _ _ _ _ _ (Nat.zero_le _)) No ab S.deps.length cb (Lb.flatMap kS.cells) rfl (by have h := (HYB.out.extNo (HX.out.transNo HE.out)).row; rw [HBL.out] at h; exact h) (by omega) (by omega) (by omega) ?_); (intro v9 w9 hown1 hg1); (have hy : Ext No v1 w9 := (Ext.refl _ _).grown hg1 (fun k hk _ => by cases hk)); (simp only [Nat.zero_add, List.nil_append] at hown1); (obtain ⟨aB, cB, hs9⟩ := (Row.ofOwns (M := No) hown1 (fun _ _ x => x)).slice); (subst hs9); (clear hg1))
    refine hK.out _ _ ?_ ?_
    ·exact HE.out.transNo hy
    clear hK K hHeld
    intro hHeld
    have hBV : V.heap.size ≤ v1.heap.size := HE.out.size
    replace HE := Lib.hid (HE.out.transNo hy)
    have hBo := Lib.hid (row_base hown1 hBV)
    clear hown1 hy hBV
    generalize w9 = v2 at *
    try simp only [Act.put, nzA, nzB, nzC]
    refine hTk 6 ?_ hHeld (fun w hSw => ?_) ?_
    rotate_left
    ·go_simp; (try with_reducible rfl)
    simp only [Act.put, nzA, nzB, nzC]
    refine hHc 7 fun K hK => ?_
    go_simp
    refine hK.out _ _ ?_ ?_
    ·exact HE.out.alloc _
    clear hK K hHeld
    intro hHeld
    have hy := (Ext.refl No v2).alloc (.cells #[.int .i64 0, .slice none 0 0, .slice none 0 0] 37)
    have hVO : V.heap.size ≤ v2.heap.size := HE.out.size
    have hBO := Lib.hid (show ∀ k, Value.ownBlock (.slice aB S.deps.length cB) = some k → k ≠ v2.heap.size from fun k hk e => by have := (World.ownsRow.lt hBo.out k hk).2; omega)
    replace hBo := Lib.hid (row_keep hBo.out hy (fun _ _ x => x))
    replace HE := Lib.hid (HE.out.transNo hy)
    clear hy
    have hOb := Lib.hid (alloc_top (w := v2) (o := (.cells #[.int .i64 0, .slice none 0 0, .slice none 0 0] 37)) rfl)
    generalize (v2.alloc (.cells #[.int .i64 0, .slice none 0 0, .slice none 0 0] 37)) = v3 at *
    generalize v2.heap.size = O at *
    try simp only [Act.put, nzA, nzB, nzC]
    refine hHc 8 fun K hK => ?_
    ((have cS := cellOf hOb.out); (have fS := freeOf hOb.out); go_simp; (clear cS fS))
    refine hK.out _ _ ?_ ?_
    ·exact ((((show Ext No V _ from hHeld).own hVO _).own hVO _).own hVO _)
    clear hK K hHeld
    intro hHeld
    try simp only [Act.put, nzA, nzB, nzC]
    refine wpAnyH_done (by kernel_rfl) ?_ _
    have hEx : Ext No V _ := hHeld
    go_wp2_with fail
    go_meet
    have hE3 := wset3 v3 O (.int .i64 (S.w : Int)) (.slice aB S.deps.length cB) (.slice none 0 0)
    have hF3 := wfin3 hOb.out (.int .i64 (S.w : Int)) (.slice aB S.deps.length cB) (.slice none 0 0)
    have hbl2 := HBL.out
    have hxW := HX.out.transNo HE.out
    have hown : LOwn kS (HP (PW W O) (.slice aB S.deps.length cB) (.slice none 0 0)) v3 (W.heap.size + 2) (.slice aB S.deps.length cB) Lb := ⟨by rw [hbl2]; exact row_base hBo.out (by omega), fun p hp => kS.ext (kS.mono (M' := fun b => HP (PW W O) (.slice aB S.deps.length cB) (.slice none 0 0) b ∨ Value.ownBlock (.slice aB S.deps.length cB) = some b) (HYB.out.ok p hp) (fun i hi e => by
     exfalso
     have h9 := hBo.out
     rcases e with (e | e | e) | e
     ·rcases e with e | e <;> omega
     ·have := (World.ownsRow.lt h9 i e).1; omega
     ·cases e
     have := (World.ownsRow.lt h9 i e).1; omega)) hxW (fun _ _ x => x.elim)⟩
    exact ⟨O, aB, cB, rfl, Lib.hid ⟨HX.out.transNo hEx, hEx.blk HA.out no_no, hEx.blk HC.out no_no, hF3, ⟨hown.ext2 hE3 (fun i hi e => hBO.out i hi e) (fun i _ e => .inl (.inr e)), LOwn.nil _ _ _ _, fun k hk e => by cases e⟩, (fun k hk => by
     rcases hk with hk | hk
     ·exact hBO.out k hk
     cases hk), by omega⟩⟩
   go_simp
   refine hK.out _ _ ?_ ?_
   ·exact HE.out.alloc _
   clear hK K hHeld
   intro hHeld
   have hy := (Ext.refl No v1).alloc (.cells #[.int .i64 0, .slice none 0 0, .slice none 0 0] 37)
   have hVO : V.heap.size ≤ v1.heap.size := HE.out.size
   replace HE := Lib.hid (HE.out.transNo hy)
   clear hy
   have hOb := Lib.hid (alloc_top (w := v1) (o := (.cells #[.int .i64 0, .slice none 0 0, .slice none 0 0] 37)) rfl)
   generalize (v1.alloc (.cells #[.int .i64 0, .slice none 0 0, .slice none 0 0] 37)) = v2 at *
   generalize v1.heap.size = O at *
   try simp only [Act.put, nzA, nzB, nzC]
   refine hHc 5 fun K hK => ?_
   ((refine wp_app_ful2 _ (.tmp 14) (.tmp 16) 31 rfl 24 iS _ 2 32 Tryd.underlying31 hiS hS0 hS1 hS2 rfl (by omega) No ⟨EB, 0, none⟩ 0 [] rfl (Row.nil _ _ _ _ _ (Nat.zero_le _)) No ab S.deps.length cb (Lb.flatMap kS.cells) rfl (by have h := (HYB.out.extNo (HX.out.transNo HE.out)).row; rw [HBL.out] at h; exact h) (by omega) (by omega) (by omega) ?_); (intro v9 w9 hown1 hg1); (have hy : Ext No v2 w9 := (Ext.refl _ _).grown hg1 (fun k hk _ => by cases hk)); (simp only [Nat.zero_add, List.nil_append] at hown1); (obtain ⟨aB, cB, hs9⟩ := (Row.ofOwns (M := No) hown1 (fun _ _ x => x)).slice); (subst hs9); (clear hg1))
   refine hK.out _ _ ?_ ?_
   ·exact HE.out.transNo hy
   clear hK K hHeld
   intro hHeld
   have hBV : V.heap.size ≤ v2.heap.size := HE.out.size
   have hBO := Lib.hid (show ∀ k, Value.ownBlock (.slice aB S.deps.length cB) = some k → k ≠ O from fun k hk e => by have h1 := (World.ownsRow.lt hown1 k hk).1; have h2 := lt_of_block hOb.out; omega)
   replace hOb := Lib.hid (hy.blk hOb.out no_no)
   replace HE := Lib.hid (HE.out.transNo hy)
   have hBo := Lib.hid (row_base hown1 hBV)
   clear hown1 hy hBV
   generalize w9 = v3 at *
   try simp only [Act.put, nzA, nzB, nzC]
   refine hTk 6 ?_ hHeld (fun w hSw => ?_) ?_
   rotate_left
   ·go_simp; (try with_reducible rfl)
   simp only [Act.put, nzA, nzB, nzC]
   refine hHc 8 fun K hK => ?_
   ((have cS := cellOf hOb.out); (have fS := freeOf hOb.out); go_simp; (clear cS fS))
   refine hK.out _ _ ?_ ?_
   ·exact ((((show Ext No V _ from hHeld).own hVO _).own hVO _).own hVO _)
   clear hK K hHeld
   intro hHeld
   try simp only [Act.put, nzA, nzB, nzC]
   refine wpAnyH_done (by kernel_rfl) ?_ _
   have hEx : Ext No V _ := hHeld
   go_wp2_with fail
   go_meet
   have hE3 := wset3 v3 O (.int .i64 (S.w : Int)) (.slice aB S.deps.length cB) (.slice none 0 0)
   have hF3 := wfin3 hOb.out (.int .i64 (S.w : Int)) (.slice aB S.deps.length cB) (.slice none 0 0)
   have hbl2 := HBL.out
   have hxW := HX.out.transNo HE.out
   have hown : LOwn kS (HP (PW W O) (.slice aB S.deps.length cB) (.slice none 0 0)) v3 (W.heap.size + 2) (.slice aB S.deps.length cB) Lb := ⟨by rw [hbl2]; exact row_base hBo.out (by omega), fun p hp => kS.ext (kS.mono (M' := fun b => HP (PW W O) (.slice aB S.deps.length cB) (.slice none 0 0) b ∨ Value.ownBlock (.slice aB S.deps.length cB) = some b) (HYB.out.ok p hp) (fun i hi e => by
    exfalso
    have h9 := hBo.out
    rcases e with (e | e | e) | e
    ·rcases e with e | e <;> omega
    ·have := (World.ownsRow.lt h9 i e).1; omega
    ·cases e
    have := (World.ownsRow.lt h9 i e).1; omega)) hxW (fun _ _ x => x.elim)⟩
   exact ⟨O, aB, cB, rfl, Lib.hid ⟨HX.out.transNo hEx, hEx.blk HA.out no_no, hEx.blk HC.out no_no, hF3, ⟨hown.ext2 hE3 (fun i hi e => hBO.out i hi e) (fun i _ e => .inl (.inr e)), LOwn.nil _ _ _ _, fun k hk e => by cases e⟩, (fun k hk => by
    rcases hk with hk | hk
    ·exact hBO.out k hk
    cases hk), by omega⟩⟩
  go_simp
  refine hK.out _ _ ?_ ?_
  ·exact HE.out.alloc _
  clear hK K hHeld
  intro hHeld
  have hy := (Ext.refl No v0).alloc (.cells #[.int .i64 0, .slice none 0 0, .slice none 0 0] 37)
  have hVO : V.heap.size ≤ v0.heap.size := HE.out.size
  replace HE := Lib.hid (HE.out.transNo hy)
  clear hy
  have hOb := Lib.hid (alloc_top (w := v0) (o := (.cells #[.int .i64 0, .slice none 0 0, .slice none 0 0] 37)) rfl)
  generalize (v0.alloc (.cells #[.int .i64 0, .slice none 0 0, .slice none 0 0] 37)) = v1 at *
  generalize v0.heap.size = O at *
  try simp only [Act.put, nzA, nzB, nzC]
  refine hHc 2 fun K hK => ?_
  go_simp
  refine hK.out _ _ ?_ ?_
  ·exact HE.out.alloc _
  clear hK K hHeld
  intro hHeld
  have hy := (Ext.refl No v1).alloc (.cells #[] 24)
  replace hOb := Lib.hid (hy.blk hOb.out no_no)
  replace HE := Lib.hid (HE.out.transNo hy)
  clear hy
  generalize (v1.alloc (.cells #[] 24)) = v2 at *
  generalize v1.heap.size = EB at *
  try simp only [Act.put, nzA, nzB, nzC]
  refine hHc 5 fun K hK => ?_
  ((refine wp_app_ful2 _ (.tmp 14) (.tmp 16) 31 rfl 24 iS _ 2 32 Tryd.underlying31 hiS hS0 hS1 hS2 rfl (by omega) No ⟨EB, 0, none⟩ 0 [] rfl (Row.nil _ _ _ _ _ (Nat.zero_le _)) No ab S.deps.length cb (Lb.flatMap kS.cells) rfl (by have h := (HYB.out.extNo (HX.out.transNo HE.out)).row; rw [HBL.out] at h; exact h) (by omega) (by omega) (by omega) ?_); (intro v9 w9 hown1 hg1); (have hy : Ext No v2 w9 := (Ext.refl _ _).grown hg1 (fun k hk _ => by cases hk)); (simp only [Nat.zero_add, List.nil_append] at hown1); (obtain ⟨aB, cB, hs9⟩ := (Row.ofOwns (M := No) hown1 (fun _ _ x => x)).slice); (subst hs9); (clear hg1))
  refine hK.out _ _ ?_ ?_
  ·exact HE.out.transNo hy
  clear hK K hHeld
  intro hHeld
  have hBV : V.heap.size ≤ v2.heap.size := HE.out.size
  have hBO := Lib.hid (show ∀ k, Value.ownBlock (.slice aB S.deps.length cB) = some k → k ≠ O from fun k hk e => by have h1 := (World.ownsRow.lt hown1 k hk).1; have h2 := lt_of_block hOb.out; omega)
  replace hOb := Lib.hid (hy.blk hOb.out no_no)
  replace HE := Lib.hid (HE.out.transNo hy)
  have hBo := Lib.hid (row_base hown1 hBV)
  clear hown1 hy hBV
  generalize w9 = v3 at *
  try simp only [Act.put, nzA, nzB, nzC]
  refine hTk 6 ?_ hHeld (fun w hSw => ?_) ?_
  rotate_left
  ·go_simp; (try with_reducible rfl)
  simp only [Act.put, nzA, nzB, nzC]
  refine hHc 8 fun K hK => ?_
  ((have cS := cellOf hOb.out); (have fS := freeOf hOb.out); go_simp; (clear cS fS))
  refine hK.out _ _ ?_ ?_
  ·exact ((((show Ext No V _ from hHeld).own hVO _).own hVO _).own hVO _)
  clear hK K hHeld
  intro hHeld
  try simp only [Act.put, nzA, nzB, nzC]
  refine wpAnyH_done (by kernel_rfl) ?_ _
  have hEx : Ext No V _ := hHeld
  go_wp2_with fail
  go_meet
  have hE3 := wset3 v3 O (.int .i64 (S.w : Int)) (.slice aB S.deps.length cB) (.slice none 0 0)
  have hF3 := wfin3 hOb.out (.int .i64 (S.w : Int)) (.slice aB S.deps.length cB) (.slice none 0 0)
  have hbl2 := HBL.out
  have hxW := HX.out.transNo HE.out
  have hown : LOwn kS (HP (PW W O) (.slice aB S.deps.length cB) (.slice none 0 0)) v3 (W.heap.size + 2) (.slice aB S.deps.length cB) Lb := ⟨by rw [hbl2]; exact row_base hBo.out (by omega), fun p hp => kS.ext (kS.mono (M' := fun b => HP (PW W O) (.slice aB S.deps.length cB) (.slice none 0 0) b ∨ Value.ownBlock (.slice aB S.deps.length cB) = some b) (HYB.out.ok p hp) (fun i hi e => by
   exfalso
   have h9 := hBo.out
   rcases e with (e | e | e) | e
   ·rcases e with e | e <;> omega
   ·have := (World.ownsRow.lt h9 i e).1; omega
   ·cases e
   have := (World.ownsRow.lt h9 i e).1; omega)) hxW (fun _ _ x => x.elim)⟩
  exact ⟨O, aB, cB, rfl, Lib.hid ⟨HX.out.transNo hEx, hEx.blk HA.out no_no, hEx.blk HC.out no_no, hF3, ⟨hown.ext2 hE3 (fun i hi e => hBO.out i hi e) (fun i _ e => .inl (.inr e)), LOwn.nil _ _ _ _, fun k hk e => by cases e⟩, (fun k hk => by
   rcases hk with hk | hk
   ·exact hBO.out k hk
   cases hk), by omega⟩⟩
 case rest =>
  obtain ⟨O, aB, cB, rfl, hm⟩ := hcut
  rename World => wq
  clear HX HA HC hlV
  go_wp2_with fail
  go_loopw [5, 6, 7] (fun s5 _ _ wr => ∃ (k : Nat) (vI : Value) (LI : List (LA × Value)), s5 = .int .i64 k ∧ k ≤ S.deps.length ∧ Hid (WrM W wr O S (.slice ad S.deps.length cd) (.slice at1 S.deps.length ct) (.slice ab S.deps.length cb) (.slice aB S.deps.length cB) (vI) #[.int .i64 (S.w : Int), .slice aB S.deps.length cB, vI] Lb LI) ∧ Hid (LI.length = k) ∧ Hid (∀ i (h : i < LI.length), LI[i].1.map cutA = arcsR S i) ∧ Hid (RO base W wr O (.slice aB S.deps.length cB) vI LI)) (fun s5 _ _ _ => S.deps.length - (intOf s5).toNat)
  case atStart => exact ⟨0, _, [], rfl, Nat.zero_le _, hm, Lib.hid rfl, Lib.hid (fun i h => absurd h (Nat.not_lt_zero _)), Lib.hid RO.nil⟩
  clear hm
  obtain ⟨k, vI, LI, rfl, hk, hm, hLI, hIN, HRO⟩ := hrel
  rename World => wr
  obtain ⟨a2, c2, e2⟩ := hm.out.two.c.slice
  rw [hLI.out] at e2
  subst e2
  have cA := cellOf hm.out.boxS
  by_cases hlt : k < S.deps.length
  ·have hlz : (k : Int) < (S.deps.length : Int) := by omega
   have HKK : Hid (Value.int .i64 ((k : Int) + 1) = .int .i64 ((k + 1 : Nat) : Int)) := Lib.hid (by rw [show ((k + 1 : Nat) : Int) = (k : Int) + 1 from by omega])
   obtain ⟨bd, od, kd, ae, ce, hve, gd, hints⟩ := (H.out.extNo hm.out.ext).dep hlt
   simp only [Value.slice.injEq] at hve
   obtain ⟨rfl, -, rfl⟩ := hve
   obtain ⟨n, hn⟩ : ∃ n, n = (depD S k).length := ⟨_, rfl⟩
   have HN := Lib.hid hn
   rw [← hn] at hints gd
   have HGD := Lib.hid gd
   clear hn gd
   have hn8 : n ≤ 256 := by
    have h1 := HN.out
    have h2 : (natsZ (depD S k)).length = n := by rw [h1]; simp [natsZ]
    rcases Nat.eq_zero_or_pos n with h0 | h0
    ·omega
    have h3 := asc_len (asc_dep HOK.out hlt) (by rw [h2]; exact h0)
    rw [h2] at h3
    omega
   go_wp2_with fail
   clear cA
   go_loopw [6, 7] (fun s6 s7 wx => ∃ (j : Nat) (L : LA), s7 = .int .i64 j ∧ j ≤ n ∧ Hid (LOwn kA (HP (PW W O) (.slice aB S.deps.length cB) (.slice a2 k c2)) wx wr.heap.size s6 L) ∧ Hid (L.map cutA = (arcsR S k).take j) ∧ Hid (Ext No wr wx) ∧ Hid (∀ q ∈ L, kA.ok (OutW base W) wx q)) (fun _ s7 _ => n - (intOf s7).toNat)
   case atStart => exact ⟨0, [], rfl, Nat.zero_le _, Lib.hid (LOwn.nil _ _ _ _), Lib.hid rfl, Lib.hid (Ext.refl _ _), Lib.hid (fun q hq => (List.not_mem_nil hq).elim)⟩
   obtain ⟨j, L, rfl, hj, hown, hLM, hx, HQK⟩ := hrel
   rename World => wx
   have hlA : Hid (L.length = j) := Lib.hid (by have := congrArg List.length hLM.out; have h2 := HN.out; rw [List.length_map, List.length_take] at this; simp only [arcsR, List.length_map] at this; omega)
   obtain ⟨s1, t1, hs7⟩ := hown.out.slice
   rw [hlA.out] at hs7
   subst hs7
   have cA := cellOf (hx.out.blk hm.out.boxS no_no)
   have gd := hx.out.keep HGD.out
   by_cases hlt2 : j < n
   ·have hjz : (j : Int) < (n : Int) := by omega
    have HJJ : Hid (Value.int .i64 ((j : Int) + 1) = .int .i64 ((j + 1 : Nat) : Int)) := Lib.hid (by rw [show ((j + 1 : Nat) : Int) = (j : Int) + 1 from by omega])
    have hjd : j < (depD S k).length := by have := HN.out; omega
    obtain ⟨m, hmj⟩ : ∃ m, m = (depD S k)[j] := ⟨_, rfl⟩
    have hmd : m < S.deps.length := HOK.out.dep (i := k) (by rw [hmj]; exact List.getElem_mem hjd)
    have hmz : (m : Int) < (S.deps.length : Int) := by omega
    have HMJ : Hid (∃ hjd : j < (depD S k).length, m = (depD S k)[j]) := Lib.hid ⟨hjd, hmj⟩
    have hjn2 : j < (natsZ (depD S k)).length := by simp [natsZ, hjd]
    obtain ⟨be, oe, ke, hve, hb1, -, hce⟩ := Ints.at (Row.extNo hints.out hx.out) hjn2
    simp only [Value.slice.injEq] at hve
    obtain ⟨rfl, -, rfl⟩ := hve
    have qe := hce j hjn2
    rw [show (natsZ (depD S k))[j] = (m : Int) from by simp [natsZ, hmj]] at qe
    obtain ⟨bt, ot, kt, ag, cg, ak, ck, ac, nc, cc, hve, gt, HTR, htw⟩ := H.out.tr hmd
    simp only [Value.slice.injEq] at hve
    obtain ⟨rfl, -, rfl⟩ := hve
    obtain ⟨q0, q1, q2, q3, q4⟩ := gt
    have hxx := hm.out.ext.transNo hx.out
    have HTC := Lib.hid (And.intro (hxx.keep q0) (And.intro (hxx.keep q1) (And.intro (hxx.keep q2) (And.intro (hxx.keep q3) (hxx.keep q4)))))
    have HQE := Lib.hid qe
    have HG2 := Lib.hid gd
    have HBX := Lib.hid (hx.out.blk hm.out.boxS no_no)
    have HRW := Lib.hid (show RawTAt (fun b => HP (PW W O) (.slice aB S.deps.length cB) (.slice a2 k c2) b ∨ Value.ownBlock (.slice s1 j t1) = some b) wx (.slice ag (nw S.w) cg) (.slice ak (nw S.w) ck) (.slice ac nc cc) (rawT (trD S m)) from by
     have h := HTR.out
     have h1 := raw_of htw.out (by have h := h.gen; rw [htw.out] at h; exact h) (by have h := h.kill; rw [htw.out] at h; exact h) h.copies
     refine (h1.mono (M' := fun b => HP (PW W O) (.slice aB S.deps.length cB) (.slice a2 k c2) b ∨ Value.ownBlock (.slice s1 j t1) = some b) (fun i hi e => ?_)).extNo hxx
     exfalso
     have hlo := hm.out.low
     rcases e with (e | e | e) | e
     ·rcases e with e | e <;> omega
     ·have := (hm.out.two.b.lt i e).1; omega
     ·have := (hm.out.two.c.lt i e).1; omega
     have := (hown.out.lt i e).1; have := hm.out.ext.size; omega)
    have HRB := Lib.hid (show RawTAt (OutW base W) wx (.slice ag (nw S.w) cg) (.slice ak (nw S.w) ck) (.slice ac nc cc) (rawT (trD S m)) from by
     obtain ⟨bt2, ot2, kt2, ag2, cg2, ak2, ck2, ac2, nc2, cc2, hve2, gt2, HTR2, htw2⟩ := HBB.out.tr hmd
     simp only [Value.slice.injEq, Option.some.injEq, Addr.mk.injEq, and_true, true_and] at hve2
     obtain ⟨⟨rfl, rfl⟩, rfl⟩ := hve2
     obtain ⟨r0, r1, r2, r3, r4⟩ := gt2
     have e1 := r1.symm.trans q1
     have e3 := r3.symm.trans q3
     have e4 := r4.symm.trans q4
     simp only [Option.some.injEq, Value.slice.injEq] at e1 e3 e4
     obtain ⟨rfl, -, rfl⟩ := e1
     obtain ⟨rfl, -, rfl⟩ := e3
     obtain ⟨rfl, rfl, rfl⟩ := e4
     have h := HTR2.out
     have h1 := raw_of htw.out (by have h := h.gen; rw [htw.out] at h; exact h) (by have h := h.kill; rw [htw.out] at h; exact h) h.copies
     exact (h1.mono (M' := OutW base W) (fun i hi e => e.elim id (fun e => absurd hi (by omega)))).extNo hxx)
    clear hmj hjd hce hjn2 hb1 q0 q1 q2 q3 q4 hxx HTR
    go_upto_region 11 with (fail)
    clear qe cA gd
    refine wp_region_heldL [23] (fun w' => Ext No wx w') (by kernel_rfl) ?_ (fun hHeld => ?_)
    ·exact (Ext.refl _ _).drew
    have HE := Lib.hid (show Ext No wx wx.drew from (Ext.refl _ _).drew)
    generalize wx.drew = v0 at *
    refine hHs [0, 1] (hHl hHeld ?_)
    clear hHeld
    iterate 2
     refine hFn ?_ (fun w => ?_) ?_
     rotate_left
     ·go_simp; (try with_reducible rfl)
     simp only [Act.put, nzA, nzB, nzC]
    refine hHe fun hHeld => ?_
    refine hHs [2] (hHl hHeld ?_)
    clear hHeld
    refine hHn ?_ (fun w hSw => ?_) ?_
    rotate_left
    ·(have q0 := cellOf ((show Ext No wx _ from hSw).blk HBX.out no_no)); go_simp; (try with_reducible rfl)
    simp only [Act.put, nzA, nzB, nzC]
    refine hHe fun hHeld => ?_
    refine hHs [3, 4] (hHl hHeld ?_)
    clear hHeld
    iterate 2
     refine hFn ?_ (fun w => ?_) ?_
     rotate_left
     ·go_simp; (try with_reducible rfl)
     simp only [Act.put, nzA, nzB, nzC]
    refine hHe fun hHeld => ?_
    refine hHs [5] (hHl hHeld ?_)
    clear hHeld
    refine hHn ?_ (fun w hSw => ?_) ?_
    rotate_left
    ·(have q0 := (show Ext No wx _ from hSw).keep HG2.out); go_simp; (try with_reducible rfl)
    simp only [Act.put, nzA, nzB, nzC]
    refine hHe fun hHeld => ?_
    refine hHs [6, 7] (hHl hHeld ?_)
    clear hHeld
    iterate 2
     refine hFn ?_ (fun w => ?_) ?_
     rotate_left
     ·go_simp; (try with_reducible rfl)
     simp only [Act.put, nzA, nzB, nzC]
    refine hHe fun hHeld => ?_
    refine hHs [8] (hHl hHeld ?_)
    clear hHeld
    refine hHn ?_ (fun w hSw => ?_) ?_
    rotate_left
    ·(have q0 := (show Ext No wx _ from hSw).keep HQE.out); go_simp; (try with_reducible rfl)
    simp only [Act.put, nzA, nzB, nzC]
    refine hHe fun hHeld => ?_
    refine hHs [9] (hHl hHeld ?_)
    clear hHeld
    refine hFn ?_ (fun w => ?_) ?_
    rotate_left
    ·go_simp; (try with_reducible rfl)
    simp only [Act.put, nzA, nzB, nzC]
    refine hHe fun hHeld => ?_
    refine hHs [10] (hHl hHeld ?_)
    clear hHeld
    refine hHn ?_ (fun w hSw => ?_) ?_
    rotate_left
    ·(have q0 := cellOf ((show Ext No wx _ from hSw).blk HBX.out no_no)); go_simp; (try with_reducible rfl)
    simp only [Act.put, nzA, nzB, nzC]
    refine hHe fun hHeld => ?_
    refine hHs [11] (hHl hHeld ?_)
    clear hHeld
    refine hFn ?_ (fun w => ?_) ?_
    rotate_left
    ·go_simp; (try with_reducible rfl)
    simp only [Act.put, nzA, nzB, nzC]
    refine hHe fun hHeld => ?_
    refine hHs [12] (hHl hHeld ?_)
    clear hHeld
    refine hHn ?_ (fun w hSw => ?_) ?_
    rotate_left
    ·(have q0 := cellOf ((show Ext No wx _ from hSw).blk HBX.out no_no)); go_simp; (try with_reducible rfl)
    simp only [Act.put, nzA, nzB, nzC]
    refine hHe fun hHeld => ?_
    refine hHs [13, 14] (hHl hHeld ?_)
    clear hHeld
    iterate 2
     refine hFn ?_ (fun w => ?_) ?_
     rotate_left
     ·go_simp; (try with_reducible rfl)
     simp only [Act.put, nzA, nzB, nzC]
    refine hHe fun hHeld => ?_
    refine hHs [15] (hHl hHeld ?_)
    clear hHeld
    refine hHn ?_ (fun w hSw => ?_) ?_
    rotate_left
    ·(have q0 := (show Ext No wx _ from hSw).keep HG2.out); go_simp; (try with_reducible rfl)
    simp only [Act.put, nzA, nzB, nzC]
    refine hHe fun hHeld => ?_
    refine hHs [16, 17] (hHl hHeld ?_)
    clear hHeld
    iterate 2
     refine hFn ?_ (fun w => ?_) ?_
     rotate_left
     ·go_simp; (try with_reducible rfl)
     simp only [Act.put, nzA, nzB, nzC]
    refine hHe fun hHeld => ?_
    refine hHs [18] (hHl hHeld ?_)
    clear hHeld
    refine hHn ?_ (fun w hSw => ?_) ?_
    rotate_left
    ·(have q0 := (show Ext No wx _ from hSw).keep HQE.out); go_simp; (try with_reducible rfl)
    simp only [Act.put, nzA, nzB, nzC]
    refine hHe fun hHeld => ?_
    refine hHs [19] (hHl hHeld ?_)
    clear hHeld
    refine hFn ?_ (fun w => ?_) ?_
    rotate_left
    ·go_simp; (try with_reducible rfl)
    simp only [Act.put, nzA, nzB, nzC]
    refine hHe fun hHeld => ?_
    refine hHs [20] (hHl hHeld ?_)
    clear hHeld
    refine hHn ?_ (fun w hSw => ?_) ?_
    rotate_left
    ·(obtain ⟨p0, p1, p2, p3, p4⟩ := HTC.out); (have q0 := (show Ext No wx _ from hSw).keep p0); (have q1 := (show Ext No wx _ from hSw).keep p1); (have q2 := (show Ext No wx _ from hSw).keep p2); (have q3 := (show Ext No wx _ from hSw).keep p3); (have q4 := (show Ext No wx _ from hSw).keep p4); go_simp; (try with_reducible rfl)
    simp only [Act.put, nzA, nzB, nzC]
    refine hHe fun hHeld => ?_
    refine hHs [21] (hHl hHeld ?_)
    clear hHeld
    refine hFn ?_ (fun w => ?_) ?_
    rotate_left
    ·go_simp; (try with_reducible rfl)
    simp only [Act.put, nzA, nzB, nzC]
    refine hHe fun hHeld => ?_
    refine heldL_next1 (i := 22) (by kernel_rfl) (NextL.mk rfl rfl (fun K hK => ?_))
    go_simp
    refine hK.out _ _ ?_ ?_
    ·intro _; exact HE.out.alloc _
    clear hK K hHeld
    intro hHeld
    have hx8 := (Ext.refl No v0).alloc (.cells #[.int .i64 (m : Int), .int .i64 (S.w : Int), .slice ag (nw S.w) cg, .int .i64 (S.w : Int), .slice ak (nw S.w) ck, .slice ac nc cc] 33)
    have hLb := Lib.hid (alloc_top (w := v0) (o := (.cells #[.int .i64 (m : Int), .int .i64 (S.w : Int), .slice ag (nw S.w) cg, .int .i64 (S.w : Int), .slice ak (nw S.w) ck, .slice ac nc cc] 33)) rfl)
    replace HE := Lib.hid (HE.out.transNo hx8)
    clear hx8
    generalize (v0.alloc (.cells #[.int .i64 (m : Int), .int .i64 (S.w : Int), .slice ag (nw S.w) cg, .int .i64 (S.w : Int), .slice ak (nw S.w) ck, .slice ac nc cc] 33)) = v1 at *
    generalize v0.heap.size = BL at *
    try simp only [Act.put, nzA, nzB, nzC]
    refine heldL_next1 (i := 23) (by kernel_rfl) (NextL.mk rfl rfl (fun K hK => ?_))
    ((have hb8 := hx.out.size); (have hb9 := HE.out.size); (refine wp_app _ (.tmp 36) (.tmp 58) 34 rfl wr.heap.size 33 iA _ 6 96 Tryd.underlying34 hiA hA0 hA1 hA2 rfl (by omega) (.slice s1 j t1) j (L.flatMap kA.cells) rfl (by have h := (hown.out.extNo HE.out).own; rw [hlA.out] at h; exact h) No (some ⟨BL, 0, none⟩) 1 1 [.int .i64 (m : Int), .int .i64 (S.w : Int), .slice ag (nw S.w) cg, .int .i64 (S.w : Int), .slice ak (nw S.w) ck, .slice ac nc cc] rfl (Row.block hLb.out rfl no_no (by omega)) (by simp [Value.oneCell']) (by omega) (by omega) (by omega) ?_); (intro v9 w9 hown1 hg1 hv1))
    refine hK.out _ _ ?_ ?_
    ·exact fun h => absurd h (by decide)
    clear hK K hHeld
    intro hHeld
    have hE9 : Ext (fun bq => Value.ownBlock (.slice s1 j t1) = some bq) v1 w9 := (Ext.refl _ _).grown hg1 (fun bq hk _ => hk)
    have hce : kA.cells ((m : Int), rawT (trD S m), Value.slice ag (nw S.w) cg, Value.slice ak (nw S.w) ck, Value.slice ac nc cc) = [.int .i64 (m : Int), .int .i64 (S.w : Int), .slice ag (nw S.w) cg, .int .i64 (S.w : Int), .slice ak (nw S.w) ck, .slice ac nc cc] := by
     show [Value.int .i64 (m : Int), .int .i64 ((trD S m).w : Int), _, .int .i64 ((trD S m).w : Int), _, _] = _
     rw [htw.out]
    have hO9 := Lib.hid ((hown.out.extNo HE.out).app (p := ((m : Int), rawT (trD S m), Value.slice ag (nw S.w) cg, Value.slice ak (nw S.w) ck, Value.slice ac nc cc)) (HRW.out.extNo HE.out) (by rw [hlA.out, hce]; exact hown1) hE9 (fun _ e => e) (hv1.imp id (fun hv k hk => by rw [hv] at hk; simp only [Option.some.injEq] at hk; omega)))
    have hX9 := Lib.hid ((hx.out.transNo HE.out).trans2 hE9 (fun i hi e => by have := (hown.out.lt i e).1; omega))
    have hQ9 := Lib.hid (show ∀ q ∈ L ++ [((m : Int), rawT (trD S m), Value.slice ag (nw S.w) cg, Value.slice ak (nw S.w) ck, Value.slice ac nc cc)], kA.ok (OutW base W) w9 q from fun q hq => by
     have hbs := hm.out.ext.size
     refine kA.ext (M := OutW base W) ?_ (HE.out.ofNo.trans hE9) (fun i hi e => .inr (by have := (hown.out.lt i e).1; omega))
     rcases List.mem_append.1 hq with hq | hq
     ·exact HQK.out q hq
     rw [List.mem_singleton.1 hq]; exact HRB.out)
    clear hE9 hown1 hg1 hv1 hLb hce HE
    generalize w9 = v2 at *
    try simp only [Act.put, nzA, nzB, nzC]
    refine hHs [24] (hHl hHeld ?_)
    clear hHeld
    refine hFn ?_ (fun w => ?_) ?_
    rotate_left
    ·go_simp; (try with_reducible rfl)
    simp only [Act.put, nzA, nzB, nzC]
    refine hHe fun hHeld => ?_
    refine heldL_done (by kernel_rfl) ?_ _
    go_wp2_with fail
    go_roundw
    case rel => exact ⟨j + 1, L ++ [((m : Int), rawT (trD S m), Value.slice ag (nw S.w) cg, Value.slice ak (nw S.w) ck, Value.slice ac nc cc)], HJJ.out, by omega, hO9, Lib.hid (HMJ.out.elim fun h1 h2 => arcs_succ hLM.out h1 h2 rfl), hX9, hQ9⟩
    case measure => simp [intOf]; omega
   have hge : ¬ (j : Int) < (n : Int) := by omega
   have hjn : j = n := by omega
   subst hjn
   have HLM := Lib.hid (show L.map cutA = arcsR S k from by rw [hLM.out, List.take_of_length_le (by have := HN.out; simp [arcsR]; omega)])
   have HLA := Lib.hid (show LAt kA (HP (PW W O) (.slice aB S.deps.length cB) (.slice a2 k c2)) wx (.slice s1 j t1) L from hown.out.list2 (fun b hb e => by have h1 := (hown.out.lt b hb).1; have h2 := hm.out.hot b e; omega) (fun _ e => e))
   have hmA := Lib.hid (hm.out.stepNo hx.out)
   have HRA := Lib.hid (show RO base W wx O (.slice aB S.deps.length cB) (.slice a2 k c2) (LI ++ [(L, .slice s1 j t1)]) from HRO.out.app (by have h1 := lt_of_block hm.out.boxR; omega) (by have := hm.out.low; omega) (lt_of_block hm.out.boxO) (fun k hk => (hm.out.two.b.lt k hk).2) (fun k hk => (hm.out.two.c.lt k hk).2) hx.out (by have h9 := hown.out.own; exact h9) HQK.out)
   clear hown hLM hm HRO HQK
   have cX := cellOf hmA.out.boxO
   go_wp2_with (at_builtin; (refine wpList_app _ rfl (.tmp 61) (.tmp 63) 35 rfl (W.heap.size + 2) 34 iL _ 1 24 Tryd.underlying35 hiL hL0 hL1 hL2 rfl (by omega) (.slice a2 k c2) k (LI.flatMap kL.cells) rfl (by have h := (hmA.out.stepNo ((Ext.refl No wx).alloc (.cells #[.slice s1 j t1] 34))).two.c.own; rw [hLI.out] at h; exact h) No (some ⟨wx.heap.size, 0, none⟩) 1 1 [.slice s1 j t1] rfl (Row.block (alloc_top rfl) rfl no_no (by omega)) (by simp [Value.oneCell']) (by omega) (by omega) (by have h1 := lt_of_block hmA.out.boxR; have h2 := lt_of_block hmA.out.boxO; have h3 := hmA.out.low; simp; omega) ?_); (intro v9 w9 hown1 hg1 hv1); (have hmB := Lib.hid ((hmA.out.stepNo ((Ext.refl No wx).alloc (.cells #[.slice s1 j t1] 34))).appI (q := (L, .slice s1 j t1)) (HLA.out.extNo ((Ext.refl No wx).alloc (.cells #[.slice s1 j t1] 34))) (by rw [hLI.out]; exact hown1) hg1 hv1)); (have HRN := Lib.hid ((HRA.out.stepNo ((Ext.refl No wx).alloc (.cells #[.slice s1 j t1] 34))).grow (by have h1 := lt_of_block hmA.out.boxR; simp; omega) (fun k hk => by have := (hmA.out.two.c.lt k hk).1; omega) hg1 hv1)); (obtain ⟨xI, yI, hs98⟩ := hmB.out.two.c.slice); (rw [List.length_append, hLI.out] at hs98); (subst hs98); (clear cX hown1 hg1 hv1); (have cX := cellOf hmB.out.boxO); (have fX := freeOf hmB.out.boxO))
   go_roundw
   case rel => exact ⟨k + 1, _, _, HKK.out, by omega, Lib.hid (hmB.out.putO 2 _), Lib.hid (by rw [List.length_append, hLI.out]; rfl), Lib.hid (arcs_all hIN.out hLI.out HLM.out), Lib.hid (HRN.out.step (show Ext (At O) _ _ from (Ext.refl (At O) _).setAt _ _) (fun i _ e => by have := hmB.out.low; unfold At at e; omega) (fun p hp k hk e => (HRN.out.br p hp k hk).2.2 e))⟩
   case measure => simp [intOf]; omega
  have hge : ¬ (k : Int) < (S.deps.length : Int) := by omega
  have hkn : k = S.deps.length := by omega
  subst hkn
  have cO := cellOf hm.out.boxO
  have cR := cellOf hm.out.boxR
  have fR := freeOf hm.out.boxR
  have hE2 := wset3 wr (W.heap.size + 1) (.int .i64 (S.w : Int)) (.slice aB S.deps.length cB) (.slice a2 S.deps.length c2)
  have hbF := wfin3 hm.out.boxR (.int .i64 (S.w : Int)) (.slice aB S.deps.length cB) (.slice a2 S.deps.length c2)
  go_wp2_with fail
  generalize (((wr.setCell ⟨W.heap.size + 1, 0, none⟩ (.int .i64 (S.w : Int))).setCell ⟨W.heap.size + 1, 1, none⟩ (.slice aB S.deps.length cB)).setCell ⟨W.heap.size + 1, 2, none⟩ (.slice a2 S.deps.length c2)) = WF at *
  have cF := cellOf hbF
  refine ret_ex rfl ?_
  simp [results, Tryd.results29, go_sem, cF]
  exact ⟨_, _, Lb, LI, rfl, Lib.hid (mwx_of hm.out HRO.out (fun p hp => kS.ext (HYO.out p hp) hm.out.ext (fun _ _ e => e.elim)) HBW.out hE2), HBM, hLI, hIN, hm.out.ext.trans2 hE2 (fun i hi e => by unfold At at e; omega)⟩

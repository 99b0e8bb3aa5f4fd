/- The walk of Web of the reference. -/
import Derived.Test.YtkdjdhflhlbelaaI11
import Derived.Test.YtkdjdhflhlbelaaI16
set_option linter.unusedVariables false
set_option linter.unusedSimpArgs false
namespace Go.Proofs.Ytkdjdhflhlbelaa
open Go Go.RowKit
theorem wset3 (w : World) (C : Nat) (a b c : Value) : Ext (At C) w (((w.setCell ⟨C, 0, none⟩ (a)).setCell ⟨C, 1, none⟩ (b)).setCell ⟨C, 2, none⟩ (c)) := (((Ext.refl (At C) w).setAt 0 a).setAt 1 b).setAt 2 c
theorem wfin3 {w : World} {C : Nat} {T : TypeId} {x0 x1 x2 : Value} (h : w.heap[C]? = some (.cells #[x0, x1, x2] T (0, 0))) (a b c : Value) : (((w.setCell ⟨C, 0, none⟩ (a)).setCell ⟨C, 1, none⟩ (b)).setCell ⟨C, 2, none⟩ (c)).heap[C]? = some (.cells #[a, b, c] T (0, 0)) :=
 (set_same (j := 2) (set_same (j := 1) (set_same (j := 0) h))).trans rfl
set_option maxRecDepth 100000 in
set_option maxHeartbeats 2000000 in
theorem rWeb_inv (x : Int) (vd vt vb : Value) (Ld : LD) (Lt : LT) (Lb : LS) (W : World) (h : YAt No W vd vt vb Ld Lt Lb) (hn : ¬ VS x Ld Lt Lb) :
  Calls Try.prog 54 #[.agg #[.int .i64 x, vd, vt, vb]] W (ErrPost (.agg #[.int .i64 0, .slice none 0 0, .slice none 0 0]) 1 W) := by
 have H := Lib.hid h
 obtain ⟨ad, cd, rfl⟩ := h.d.slice
 obtain ⟨at1, ct, rfl⟩ := h.t.slice
 obtain ⟨ab, cb, rfl⟩ := h.b.slice
 clear h
 go_enter Try.func54, Try.ntmps54
 go_wp2_with fail
 have hx0 : Ext No W ((W.alloc (.cells #[.int .i64 x, .slice ad Ld.length cd, .slice at1 Lt.length ct, .slice ab Lb.length cb] 29)).alloc (.cells #[.int .i64 0, .slice none 0 0, .slice none 0 0] 56)) := ((Ext.refl _ _).alloc _).alloc _
 have HC := Lib.hid (show ((W.alloc (.cells #[.int .i64 x, .slice ad Ld.length cd, .slice at1 Lt.length ct, .slice ab Lb.length cb] 29)).alloc (.cells #[.int .i64 0, .slice none 0 0, .slice none 0 0] 56)).heap[W.heap.size + 1]? = some (.cells #[.int .i64 0, .slice none 0 0, .slice none 0 0] 56 (0, 0)) from alloc_top (by simp))
 generalize ((W.alloc (.cells #[.int .i64 x, .slice ad Ld.length cd, .slice at1 Lt.length ct, .slice ab Lb.length cb] 29)).alloc (.cells #[.int .i64 0, .slice none 0 0, .slice none 0 0] 56)) = w2 at *
 refine (rvalidSys_any x _ _ _ Ld Lt Lb _ (H.out.extNo hx0)).mono ?_
 rintro e1 w1 ⟨b1, rfl, hb1, hx1⟩
 obtain rfl := tells_f hb1 hn
 have hx := hx0.transNo hx1
 have hC := hx1.blk HC.out no_no
 have cC := cellOf hC
 have fC := freeOf hC
 have hE2 := wset3 w1 (W.heap.size + 1) (.int .i64 0) (.slice none 0 0) (.slice none 0 0)
 have hbF := wfin3 hC (.int .i64 0) (.slice none 0 0) (.slice none 0 0)
 clear hb1 hx0 hx1
 go_wp2_with fail
 generalize (((w1.setCell ⟨W.heap.size + 1, 0, none⟩ (.int .i64 0)).setCell ⟨W.heap.size + 1, 1, none⟩ (.slice none 0 0)).setCell ⟨W.heap.size + 1, 2, none⟩ (.slice none 0 0)) = WF at *
 have cF := cellOf hbF
 refine ret_ex rfl ?_
 simp [results, Try.results54, go_sem, cF]
 exact ⟨rfl, hx.trans2 hE2 (fun i hi e => by unfold At at e; omega)⟩
set_option maxRecDepth 100000 in
set_option maxHeartbeats 16000000 in
theorem rWeb_any (S : SysD) (vd vt vb : Value) (W : World) (h : SysAt No W vd vt vb S) :
  Calls Try.prog 54 #[.agg #[.int .i64 (S.w : Int), vd, vt, vb]] W (WebPost S W) := by
 obtain ⟨iS, hiS, hS0, hS1, hS2⟩ := info_parts infoS
 obtain ⟨iA, hiA, hA0, hA1, hA2⟩ := info_parts infoA8
 obtain ⟨iL, hiL, hL0, hL1, hL2⟩ := info_parts infoL8
 have H := Lib.hid h
 have hok := h.ok
 have HOK := Lib.hid hok
 have hnn := hok.n2
 have hn1 := hok.n1
 have hww := hok.w
 obtain ⟨Ld0, Lt0, Lb, hY, -, -, hbm⟩ := h.ex
 have hbl : Lb.length = S.deps.length := by have := congrArg List.length hbm; simp only [List.length_map] at this; rw [this, hok.lb]
 have HBL := Lib.hid hbl
 have HBM := Lib.hid hbm
 obtain ⟨ad, cd, at1, ct, ab, cb, rfl, rfl, rfl⟩ := h.slices
 have HYB := Lib.hid hY.b
 clear h hok hY hbm hbl
 go_enter Try.func54, Try.ntmps54
 go_wp2_with fail
 have hx0 : Ext No W ((W.alloc (.cells #[.int .i64 (S.w : Int), .slice ad S.deps.length cd, .slice at1 S.deps.length ct, .slice ab S.deps.length cb] 29)).alloc (.cells #[.int .i64 0, .slice none 0 0, .slice none 0 0] 56)) := ((Ext.refl _ _).alloc _).alloc _
 have HA0 := Lib.hid (show ((W.alloc (.cells #[.int .i64 (S.w : Int), .slice ad S.deps.length cd, .slice at1 S.deps.length ct, .slice ab S.deps.length cb] 29)).alloc (.cells #[.int .i64 0, .slice none 0 0, .slice none 0 0] 56)).heap[W.heap.size]? = some (.cells #[.int .i64 (S.w : Int), .slice ad S.deps.length cd, .slice at1 S.deps.length ct, .slice ab S.deps.length cb] 29 (0, 0)) from alloc_under (alloc_top rfl))
 have HC0 := Lib.hid (show ((W.alloc (.cells #[.int .i64 (S.w : Int), .slice ad S.deps.length cd, .slice at1 S.deps.length ct, .slice ab S.deps.length cb] 29)).alloc (.cells #[.int .i64 0, .slice none 0 0, .slice none 0 0] 56)).heap[W.heap.size + 1]? = some (.cells #[.int .i64 0, .slice none 0 0, .slice none 0 0] 56 (0, 0)) from alloc_top (by simp))
 generalize ((W.alloc (.cells #[.int .i64 (S.w : Int), .slice ad S.deps.length cd, .slice at1 S.deps.length ct, .slice ab S.deps.length cb] 29)).alloc (.cells #[.int .i64 0, .slice none 0 0, .slice none 0 0] 56)) = w2 at *
 refine (rvalidSys_yes S _ _ _ _ (H.out.extNo hx0)).mono ?_
 rintro e1 V ⟨rfl, hx1⟩
 have HX := Lib.hid (hx0.transNo hx1)
 have HA := Lib.hid (hx1.blk HA0.out no_no)
 have HC := Lib.hid (hx1.blk HC0.out no_no)
 have hlV := lt_of_block HC.out
 clear hx0 hx1 HA0 HC0
 go_upto_region 3 with (fail)
 go_cut [4] (fun s4 wx => ∃ (O : Nat) (aB : Option Addr) (cB : Nat), s4 = .pointer (some ⟨O, 0, none⟩) ∧ Hid (WrM W wx O S (.slice ad S.deps.length cd) (.slice at1 S.deps.length ct) (.slice ab S.deps.length cb) (.slice aB S.deps.length cB) (.slice none 0 0) #[.int .i64 (S.w : Int), .slice aB S.deps.length cB, .slice none 0 0] Lb []))
 case first =>
  refine wp_region_held_drew (S := (fun w' => Ext No V w')) (by kernel_rfl) ?_ (fun hHeld => ?_)
  ·exact (Ext.refl _ _).drew
  have HE := Lib.hid (show Ext No V V.drew from (Ext.refl _ _).drew)
  generalize V.drew = v0 at *
  refine hTk (i := 0) (v := ?_) rfl (by kernel_rfl) (fun _ _ _ h => h) rfl (fun w hSw => ?_) hHeld ?_
  rotate_left
  ·go_simp; (try with_reducible rfl)
  try simp only [Act.put, nzA, nzB, nzC]
  refine hTk (i := 1) (v := ?_) rfl (by kernel_rfl) (fun _ _ _ h => h) rfl (fun w hSw => ?_) hHeld ?_
  rotate_left
  ·(have x0 := cellOf ((show Ext No V _ from hSw).blk HA.out no_no)); go_simp; (try with_reducible rfl)
  try simp only [Act.put, nzA, nzB, nzC]
  refine hTk (i := 3) (v := ?_) rfl (by kernel_rfl) (fun _ _ _ h => h) rfl (fun w hSw => ?_) hHeld ?_
  rotate_left
  ·go_simp; (try with_reducible rfl)
  try simp only [Act.put, nzA, nzB, nzC]
  refine hTk (i := 4) (v := ?_) rfl (by kernel_rfl) (fun _ _ _ h => h) rfl (fun w hSw => ?_) hHeld ?_
  rotate_left
  ·(have x0 := cellOf ((show Ext No V _ from hSw).blk HA.out no_no)); go_simp; (try with_reducible rfl)
  try simp only [Act.put, nzA, nzB, nzC]
  refine held_next2 (i := 2) (j := 7) (by kernel_rfl) (NextOp.mk rfl rfl (fun K hK => ?_)) (NextOp.mk rfl rfl (fun K hK => ?_))
  ·go_simp
   refine hK.out _ _ ?_ (fun hNew => ?_)
   ·exact HE.out.alloc _
   clear hK K hHeld
   have hHeld := hNew
   clear hNew
   have hy := (Ext.refl No v0).alloc (.cells #[] 33)
   replace HE := Lib.hid (HE.out.transNo hy)
   clear hy
   generalize (v0.alloc (.cells #[] 33)) = v1 at *
   generalize v0.heap.size = EB at *
   try simp only [Act.put, nzA, nzB, nzC]
   refine held_next2 (i := 5) (j := 7) (by kernel_rfl) (NextOp.mk rfl rfl (fun K hK => ?_)) (NextOp.mk rfl rfl (fun K hK => ?_))
   ·((refine wp_app_ful2 _ (.tmp 14) (.tmp 16) 27 rfl 33 iS _ 2 32 Try.underlying27 hiS hS0 hS1 hS2 rfl (by omega) No ⟨EB, 0, none⟩ 0 [] rfl (Row.nil _ _ _ _ _ (Nat.zero_le _)) No ab S.deps.length cb (Lb.flatMap kS.cells) rfl (by have h := (HYB.out.extNo (HX.out.transNo HE.out)).row; rw [HBL.out] at h; exact h) (by omega) (by omega) (by omega) ?_); (intro v9 w9 hown1 hg1); (have hy : Ext No v1 w9 := (Ext.refl _ _).grown hg1 (fun k hk _ => by cases hk)); (simp only [Nat.zero_add, List.nil_append] at hown1); (obtain ⟨aB, cB, hs9⟩ := (Row.ofOwns (M := No) hown1 (fun _ _ x => x)).slice); (subst hs9); (clear hg1))
    refine hK.out _ _ ?_ (fun hNew => ?_)
    ·exact HE.out.transNo hy
    clear hK K hHeld
    have hHeld := hNew
    clear hNew
    have hBV : V.heap.size ≤ v1.heap.size := HE.out.size
    replace HE := Lib.hid (HE.out.transNo hy)
    have hBo := Lib.hid (row_base hown1 hBV)
    clear hown1 hy hBV
    generalize w9 = v2 at *
    try simp only [Act.put, nzA, nzB, nzC]
    refine hTk (i := 6) (v := ?_) rfl (by kernel_rfl) (fun _ _ _ h => h) rfl (fun w hSw => ?_) hHeld ?_
    rotate_left
    ·go_simp; (try with_reducible rfl)
    try simp only [Act.put, nzA, nzB, nzC]
    refine held_call (i := 7) rfl (by kernel_rfl) rfl (fun K hK => ?_)
    go_simp
    refine hK.out _ _ ?_ (fun hNew => ?_)
    ·exact HE.out.alloc _
    clear hK K hHeld
    have hHeld := hNew
    clear hNew
    have hy := (Ext.refl No v2).alloc (.cells #[.int .i64 0, .slice none 0 0, .slice none 0 0] 56)
    have hVO : V.heap.size ≤ v2.heap.size := HE.out.size
    have hBO := Lib.hid (show ∀ k, Value.ownBlock (.slice aB S.deps.length cB) = some k → k ≠ v2.heap.size from fun k hk e => by have := (World.ownsRow.lt hBo.out k hk).2; omega)
    replace hBo := Lib.hid (row_keep hBo.out hy (fun _ _ x => x))
    replace HE := Lib.hid (HE.out.transNo hy)
    clear hy
    have hOb := Lib.hid (alloc_top (w := v2) (o := (.cells #[.int .i64 0, .slice none 0 0, .slice none 0 0] 56)) rfl)
    generalize (v2.alloc (.cells #[.int .i64 0, .slice none 0 0, .slice none 0 0] 56)) = v3 at *
    generalize v2.heap.size = O at *
    try simp only [Act.put, nzA, nzB, nzC]
    refine held_call (i := 8) rfl (by kernel_rfl) rfl (fun K hK => ?_)
    ((have cS := cellOf hOb.out); (have fS := freeOf hOb.out); go_simp; (clear cS fS))
    refine hK.out _ _ ?_ (fun hNew => ?_)
    ·exact ((((show Ext No V _ from hHeld).own hVO _).own hVO _).own hVO _)
    clear hK K hHeld
    have hHeld := hNew
    clear hNew
    try simp only [Act.put, nzA, nzB, nzC]
    refine wpAnyH_done (by kernel_rfl) ?_ _
    have hEx : Ext No V _ := hHeld
    go_wp2_with fail
    go_meet
    have hE3 := wset3 v3 O (.int .i64 (S.w : Int)) (.slice aB S.deps.length cB) (.slice none 0 0)
    have hF3 := wfin3 hOb.out (.int .i64 (S.w : Int)) (.slice aB S.deps.length cB) (.slice none 0 0)
    have hbl2 := HBL.out
    have hxW := HX.out.transNo HE.out
    have hown : LOwn kS (HP (PW W O) (.slice aB S.deps.length cB) (.slice none 0 0)) v3 (W.heap.size + 2) (.slice aB S.deps.length cB) Lb := ⟨by rw [hbl2]; exact row_base hBo.out (by omega), fun p hp => kS.ext (kS.mono (M' := fun b => HP (PW W O) (.slice aB S.deps.length cB) (.slice none 0 0) b ∨ Value.ownBlock (.slice aB S.deps.length cB) = some b) (HYB.out.ok p hp) (fun i hi e => by
     exfalso
     have h9 := hBo.out
     rcases e with (e | e | e) | e
     ·rcases e with e | e <;> omega
     ·have := (World.ownsRow.lt h9 i e).1; omega
     ·cases e
     ·have := (World.ownsRow.lt h9 i e).1; omega)) hxW (fun _ _ x => x.elim)⟩
    exact ⟨O, aB, cB, rfl, Lib.hid ⟨HX.out.transNo hEx, hEx.blk HA.out no_no, hEx.blk HC.out no_no, hF3, ⟨hown.ext2 hE3 (fun i hi e => hBO.out i hi e) (fun i _ e => .inl (.inr e)), LOwn.nil _ _ _ _, fun k hk e => by cases e⟩, (fun k hk => by
     rcases hk with hk | hk
     ·exact hBO.out k hk
     ·cases hk), by omega⟩⟩
   ·go_simp
    refine hK.out _ _ ?_ (fun hNew => ?_)
    ·exact HE.out.alloc _
    clear hK K hHeld
    have hHeld := hNew
    clear hNew
    have hy := (Ext.refl No v1).alloc (.cells #[.int .i64 0, .slice none 0 0, .slice none 0 0] 56)
    have hVO : V.heap.size ≤ v1.heap.size := HE.out.size
    replace HE := Lib.hid (HE.out.transNo hy)
    clear hy
    have hOb := Lib.hid (alloc_top (w := v1) (o := (.cells #[.int .i64 0, .slice none 0 0, .slice none 0 0] 56)) rfl)
    generalize (v1.alloc (.cells #[.int .i64 0, .slice none 0 0, .slice none 0 0] 56)) = v2 at *
    generalize v1.heap.size = O at *
    try simp only [Act.put, nzA, nzB, nzC]
    refine held_call (i := 5) rfl (by kernel_rfl) rfl (fun K hK => ?_)
    ((refine wp_app_ful2 _ (.tmp 14) (.tmp 16) 27 rfl 33 iS _ 2 32 Try.underlying27 hiS hS0 hS1 hS2 rfl (by omega) No ⟨EB, 0, none⟩ 0 [] rfl (Row.nil _ _ _ _ _ (Nat.zero_le _)) No ab S.deps.length cb (Lb.flatMap kS.cells) rfl (by have h := (HYB.out.extNo (HX.out.transNo HE.out)).row; rw [HBL.out] at h; exact h) (by omega) (by omega) (by omega) ?_); (intro v9 w9 hown1 hg1); (have hy : Ext No v2 w9 := (Ext.refl _ _).grown hg1 (fun k hk _ => by cases hk)); (simp only [Nat.zero_add, List.nil_append] at hown1); (obtain ⟨aB, cB, hs9⟩ := (Row.ofOwns (M := No) hown1 (fun _ _ x => x)).slice); (subst hs9); (clear hg1))
    refine hK.out _ _ ?_ (fun hNew => ?_)
    ·exact HE.out.transNo hy
    clear hK K hHeld
    have hHeld := hNew
    clear hNew
    have hBV : V.heap.size ≤ v2.heap.size := HE.out.size
    have hBO := Lib.hid (show ∀ k, Value.ownBlock (.slice aB S.deps.length cB) = some k → k ≠ O from fun k hk e => by have h1 := (World.ownsRow.lt hown1 k hk).1; have h2 := lt_of_block hOb.out; omega)
    replace hOb := Lib.hid (hy.blk hOb.out no_no)
    replace HE := Lib.hid (HE.out.transNo hy)
    have hBo := Lib.hid (row_base hown1 hBV)
    clear hown1 hy hBV
    generalize w9 = v3 at *
    try simp only [Act.put, nzA, nzB, nzC]
    refine hTk (i := 6) (v := ?_) rfl (by kernel_rfl) (fun _ _ _ h => h) rfl (fun w hSw => ?_) hHeld ?_
    rotate_left
    ·go_simp; (try with_reducible rfl)
    try simp only [Act.put, nzA, nzB, nzC]
    refine held_call (i := 8) rfl (by kernel_rfl) rfl (fun K hK => ?_)
    ((have cS := cellOf hOb.out); (have fS := freeOf hOb.out); go_simp; (clear cS fS))
    refine hK.out _ _ ?_ (fun hNew => ?_)
    ·exact ((((show Ext No V _ from hHeld).own hVO _).own hVO _).own hVO _)
    clear hK K hHeld
    have hHeld := hNew
    clear hNew
    try simp only [Act.put, nzA, nzB, nzC]
    refine wpAnyH_done (by kernel_rfl) ?_ _
    have hEx : Ext No V _ := hHeld
    go_wp2_with fail
    go_meet
    have hE3 := wset3 v3 O (.int .i64 (S.w : Int)) (.slice aB S.deps.length cB) (.slice none 0 0)
    have hF3 := wfin3 hOb.out (.int .i64 (S.w : Int)) (.slice aB S.deps.length cB) (.slice none 0 0)
    have hbl2 := HBL.out
    have hxW := HX.out.transNo HE.out
    have hown : LOwn kS (HP (PW W O) (.slice aB S.deps.length cB) (.slice none 0 0)) v3 (W.heap.size + 2) (.slice aB S.deps.length cB) Lb := ⟨by rw [hbl2]; exact row_base hBo.out (by omega), fun p hp => kS.ext (kS.mono (M' := fun b => HP (PW W O) (.slice aB S.deps.length cB) (.slice none 0 0) b ∨ Value.ownBlock (.slice aB S.deps.length cB) = some b) (HYB.out.ok p hp) (fun i hi e => by
     exfalso
     have h9 := hBo.out
     rcases e with (e | e | e) | e
     ·rcases e with e | e <;> omega
     ·have := (World.ownsRow.lt h9 i e).1; omega
     ·cases e
     ·have := (World.ownsRow.lt h9 i e).1; omega)) hxW (fun _ _ x => x.elim)⟩
    exact ⟨O, aB, cB, rfl, Lib.hid ⟨HX.out.transNo hEx, hEx.blk HA.out no_no, hEx.blk HC.out no_no, hF3, ⟨hown.ext2 hE3 (fun i hi e => hBO.out i hi e) (fun i _ e => .inl (.inr e)), LOwn.nil _ _ _ _, fun k hk e => by cases e⟩, (fun k hk => by
     rcases hk with hk | hk
     ·exact hBO.out k hk
     ·cases hk), by omega⟩⟩
  ·go_simp
   refine hK.out _ _ ?_ (fun hNew => ?_)
   ·exact HE.out.alloc _
   clear hK K hHeld
   have hHeld := hNew
   clear hNew
   have hy := (Ext.refl No v0).alloc (.cells #[.int .i64 0, .slice none 0 0, .slice none 0 0] 56)
   have hVO : V.heap.size ≤ v0.heap.size := HE.out.size
   replace HE := Lib.hid (HE.out.transNo hy)
   clear hy
   have hOb := Lib.hid (alloc_top (w := v0) (o := (.cells #[.int .i64 0, .slice none 0 0, .slice none 0 0] 56)) rfl)
   generalize (v0.alloc (.cells #[.int .i64 0, .slice none 0 0, .slice none 0 0] 56)) = v1 at *
   generalize v0.heap.size = O at *
   try simp only [Act.put, nzA, nzB, nzC]
   refine held_call (i := 2) rfl (by kernel_rfl) rfl (fun K hK => ?_)
   go_simp
   refine hK.out _ _ ?_ (fun hNew => ?_)
   ·exact HE.out.alloc _
   clear hK K hHeld
   have hHeld := hNew
   clear hNew
   have hy := (Ext.refl No v1).alloc (.cells #[] 33)
   replace hOb := Lib.hid (hy.blk hOb.out no_no)
   replace HE := Lib.hid (HE.out.transNo hy)
   clear hy
   generalize (v1.alloc (.cells #[] 33)) = v2 at *
   generalize v1.heap.size = EB at *
   try simp only [Act.put, nzA, nzB, nzC]
   refine held_call (i := 5) rfl (by kernel_rfl) rfl (fun K hK => ?_)
   ((refine wp_app_ful2 _ (.tmp 14) (.tmp 16) 27 rfl 33 iS _ 2 32 Try.underlying27 hiS hS0 hS1 hS2 rfl (by omega) No ⟨EB, 0, none⟩ 0 [] rfl (Row.nil _ _ _ _ _ (Nat.zero_le _)) No ab S.deps.length cb (Lb.flatMap kS.cells) rfl (by have h := (HYB.out.extNo (HX.out.transNo HE.out)).row; rw [HBL.out] at h; exact h) (by omega) (by omega) (by omega) ?_); (intro v9 w9 hown1 hg1); (have hy : Ext No v2 w9 := (Ext.refl _ _).grown hg1 (fun k hk _ => by cases hk)); (simp only [Nat.zero_add, List.nil_append] at hown1); (obtain ⟨aB, cB, hs9⟩ := (Row.ofOwns (M := No) hown1 (fun _ _ x => x)).slice); (subst hs9); (clear hg1))
   refine hK.out _ _ ?_ (fun hNew => ?_)
   ·exact HE.out.transNo hy
   clear hK K hHeld
   have hHeld := hNew
   clear hNew
   have hBV : V.heap.size ≤ v2.heap.size := HE.out.size
   have hBO := Lib.hid (show ∀ k, Value.ownBlock (.slice aB S.deps.length cB) = some k → k ≠ O from fun k hk e => by have h1 := (World.ownsRow.lt hown1 k hk).1; have h2 := lt_of_block hOb.out; omega)
   replace hOb := Lib.hid (hy.blk hOb.out no_no)
   replace HE := Lib.hid (HE.out.transNo hy)
   have hBo := Lib.hid (row_base hown1 hBV)
   clear hown1 hy hBV
   generalize w9 = v3 at *
   try simp only [Act.put, nzA, nzB, nzC]
   refine hTk (i := 6) (v := ?_) rfl (by kernel_rfl) (fun _ _ _ h => h) rfl (fun w hSw => ?_) hHeld ?_
   rotate_left
   ·go_simp; (try with_reducible rfl)
   try simp only [Act.put, nzA, nzB, nzC]
   refine held_call (i := 8) rfl (by kernel_rfl) rfl (fun K hK => ?_)
   ((have cS := cellOf hOb.out); (have fS := freeOf hOb.out); go_simp; (clear cS fS))
   refine hK.out _ _ ?_ (fun hNew => ?_)
   ·exact ((((show Ext No V _ from hHeld).own hVO _).own hVO _).own hVO _)
   clear hK K hHeld
   have hHeld := hNew
   clear hNew
   try simp only [Act.put, nzA, nzB, nzC]
   refine wpAnyH_done (by kernel_rfl) ?_ _
   have hEx : Ext No V _ := hHeld
   go_wp2_with fail
   go_meet
   have hE3 := wset3 v3 O (.int .i64 (S.w : Int)) (.slice aB S.deps.length cB) (.slice none 0 0)
   have hF3 := wfin3 hOb.out (.int .i64 (S.w : Int)) (.slice aB S.deps.length cB) (.slice none 0 0)
   have hbl2 := HBL.out
   have hxW := HX.out.transNo HE.out
   have hown : LOwn kS (HP (PW W O) (.slice aB S.deps.length cB) (.slice none 0 0)) v3 (W.heap.size + 2) (.slice aB S.deps.length cB) Lb := ⟨by rw [hbl2]; exact row_base hBo.out (by omega), fun p hp => kS.ext (kS.mono (M' := fun b => HP (PW W O) (.slice aB S.deps.length cB) (.slice none 0 0) b ∨ Value.ownBlock (.slice aB S.deps.length cB) = some b) (HYB.out.ok p hp) (fun i hi e => by
    exfalso
    have h9 := hBo.out
    rcases e with (e | e | e) | e
    ·rcases e with e | e <;> omega
    ·have := (World.ownsRow.lt h9 i e).1; omega
    ·cases e
    ·have := (World.ownsRow.lt h9 i e).1; omega)) hxW (fun _ _ x => x.elim)⟩
   exact ⟨O, aB, cB, rfl, Lib.hid ⟨HX.out.transNo hEx, hEx.blk HA.out no_no, hEx.blk HC.out no_no, hF3, ⟨hown.ext2 hE3 (fun i hi e => hBO.out i hi e) (fun i _ e => .inl (.inr e)), LOwn.nil _ _ _ _, fun k hk e => by cases e⟩, (fun k hk => by
    rcases hk with hk | hk
    ·exact hBO.out k hk
    ·cases hk), by omega⟩⟩
 case rest =>
  obtain ⟨O, aB, cB, rfl, hm⟩ := hcut
  rename World => wq
  clear HX HA HC hlV
  go_wp2_with fail
  go_loopw [5, 6, 7] (fun s5 _ _ wr => ∃ (k : Nat) (vI : Value) (LI : List (LA × Value)), s5 = .int .i64 k ∧ k ≤ S.deps.length ∧ Hid (WrM W wr O S (.slice ad S.deps.length cd) (.slice at1 S.deps.length ct) (.slice ab S.deps.length cb) (.slice aB S.deps.length cB) (vI) #[.int .i64 (S.w : Int), .slice aB S.deps.length cB, vI] Lb LI) ∧ Hid (LI.length = k) ∧ Hid (∀ i (h : i < LI.length), LI[i].1.map cutA = arcsR S i)) (fun s5 _ _ _ => S.deps.length - (intOf s5).toNat)
  case atStart => exact ⟨0, _, [], rfl, Nat.zero_le _, hm, Lib.hid rfl, Lib.hid (fun i h => absurd h (Nat.not_lt_zero _))⟩
  case round =>
   clear hm
   obtain ⟨k, vI, LI, rfl, hk, hm, hLI, hIN⟩ := hrel
   rename World => wr
   obtain ⟨a2, c2, e2⟩ := hm.out.two.c.slice
   rw [hLI.out] at e2
   subst e2
   have cA := cellOf hm.out.boxS
   by_cases hlt : k < S.deps.length
   ·have hlz : (k : Int) < (S.deps.length : Int) := by omega
    have HKK : Hid (Value.int .i64 ((k : Int) + 1) = .int .i64 ((k + 1 : Nat) : Int)) := Lib.hid (by rw [show ((k + 1 : Nat) : Int) = (k : Int) + 1 from by omega])
    obtain ⟨bd, od, kd, ae, ce, hve, gd, hints⟩ := (H.out.extNo hm.out.ext).dep hlt
    simp only [Value.slice.injEq] at hve
    obtain ⟨rfl, -, rfl⟩ := hve
    obtain ⟨n, hn⟩ : ∃ n, n = (depD S k).length := ⟨_, rfl⟩
    have HN := Lib.hid hn
    rw [← hn] at hints gd
    have HGD := Lib.hid gd
    clear hn gd
    have hn8 : n ≤ 256 := by
     have h1 := HN.out
     have h2 : (natsZ (depD S k)).length = n := by rw [h1]; simp [natsZ]
     rcases Nat.eq_zero_or_pos n with h0 | h0
     ·omega
     ·have h3 := asc_len (asc_dep HOK.out hlt) (by rw [h2]; exact h0)
      rw [h2] at h3
      omega
    go_wp2_with fail
    clear cA
    go_loopw [6, 7] (fun s6 s7 wx => ∃ (j : Nat) (L : LA), s7 = .int .i64 j ∧ j ≤ n ∧ Hid (LOwn kA (HP (PW W O) (.slice aB S.deps.length cB) (.slice a2 k c2)) wx wr.heap.size s6 L) ∧ Hid (L.map cutA = (arcsR S k).take j) ∧ Hid (Ext No wr wx)) (fun _ s7 _ => n - (intOf s7).toNat)
    case atStart => exact ⟨0, [], rfl, Nat.zero_le _, Lib.hid (LOwn.nil _ _ _ _), Lib.hid rfl, Lib.hid (Ext.refl _ _)⟩
    case round =>
     obtain ⟨j, L, rfl, hj, hown, hLM, hx⟩ := hrel
     rename World => wx
     have hlA : Hid (L.length = j) := Lib.hid (by have := congrArg List.length hLM.out; have h2 := HN.out; rw [List.length_map, List.length_take] at this; simp only [arcsR, List.length_map] at this; omega)
     obtain ⟨s1, t1, hs7⟩ := hown.out.slice
     rw [hlA.out] at hs7
     subst hs7
     have cA := cellOf (hx.out.blk hm.out.boxS no_no)
     have gd := hx.out.keep HGD.out
     by_cases hlt2 : j < n
     ·have hjz : (j : Int) < (n : Int) := by omega
      have HJJ : Hid (Value.int .i64 ((j : Int) + 1) = .int .i64 ((j + 1 : Nat) : Int)) := Lib.hid (by rw [show ((j + 1 : Nat) : Int) = (j : Int) + 1 from by omega])
      have hjd : j < (depD S k).length := by have := HN.out; omega
      obtain ⟨m, hmj⟩ : ∃ m, m = (depD S k)[j] := ⟨_, rfl⟩
      have hmd : m < S.deps.length := HOK.out.dep (i := k) (by rw [hmj]; exact List.getElem_mem hjd)
      have hmz : (m : Int) < (S.deps.length : Int) := by omega
      have HMJ : Hid (∃ hjd : j < (depD S k).length, m = (depD S k)[j]) := Lib.hid ⟨hjd, hmj⟩
      have hjn2 : j < (natsZ (depD S k)).length := by simp [natsZ, hjd]
      obtain ⟨be, oe, ke, hve, hb1, -, hce⟩ := Ints.at (Row.extNo hints.out hx.out) hjn2
      simp only [Value.slice.injEq] at hve
      obtain ⟨rfl, -, rfl⟩ := hve
      have qe := hce j hjn2
      rw [show (natsZ (depD S k))[j] = (m : Int) from by simp [natsZ, hmj]] at qe
      obtain ⟨bt, ot, kt, ag, cg, ak, ck, ac, nc, cc, hve, gt, HTR, htw⟩ := H.out.tr hmd
      simp only [Value.slice.injEq] at hve
      obtain ⟨rfl, -, rfl⟩ := hve
      obtain ⟨q0, q1, q2, q3, q4⟩ := gt
      have hxx := hm.out.ext.transNo hx.out
      have HTC := Lib.hid (And.intro (hxx.keep q0) (And.intro (hxx.keep q1) (And.intro (hxx.keep q2) (And.intro (hxx.keep q3) (hxx.keep q4)))))
      have HQE := Lib.hid qe
      have HG2 := Lib.hid gd
      have HBX := Lib.hid (hx.out.blk hm.out.boxS no_no)
      have HRW := Lib.hid (show RawTAt (fun b => HP (PW W O) (.slice aB S.deps.length cB) (.slice a2 k c2) b ∨ Value.ownBlock (.slice s1 j t1) = some b) wx (.slice ag (nw S.w) cg) (.slice ak (nw S.w) ck) (.slice ac nc cc) (rawT (trD S m)) from by
       have h := HTR.out
       have h1 := raw_of htw.out (by have h := h.gen; rw [htw.out] at h; exact h) (by have h := h.kill; rw [htw.out] at h; exact h) h.copies
       refine (h1.mono (M' := fun b => HP (PW W O) (.slice aB S.deps.length cB) (.slice a2 k c2) b ∨ Value.ownBlock (.slice s1 j t1) = some b) (fun i hi e => ?_)).extNo hxx
       exfalso
       have hlo := hm.out.low
       rcases e with (e | e | e) | e
       ·rcases e with e | e <;> omega
       ·have := (hm.out.two.b.lt i e).1; omega
       ·have := (hm.out.two.c.lt i e).1; omega
       ·have := (hown.out.lt i e).1; have := hm.out.ext.size; omega)
      clear hmj hjd hce hjn2 hb1 q0 q1 q2 q3 q4 hxx HTR
      go_upto_region 11 with (fail)
      clear qe cA gd
      refine wp_region_heldL [23] (fun w' => Ext No wx w') (by kernel_rfl) ?_ (fun hHeld => ?_)
      ·exact (Ext.refl _ _).drew
      have HE := Lib.hid (show Ext No wx wx.drew from (Ext.refl _ _).drew)
      generalize wx.drew = v0 at *
      refine heldL_free (i := 0) (v := ?_) rfl (by kernel_rfl) (by kernel_rfl) (by kernel_rfl) (by kernel_rfl) (by kernel_rfl) (fun _ _ _ h => h) rfl (fun w => ?_) hHeld ?_
      rotate_left
      ·go_simp; (try with_reducible rfl)
      try simp only [Act.put, nzA, nzB, nzC]
      replace hHeld := (ST_set (T := [23]) (i := 0) (by kernel_rfl) _ _).2 hHeld
      refine heldL_free (i := 1) (v := ?_) rfl (by kernel_rfl) (by kernel_rfl) (by kernel_rfl) (by kernel_rfl) (by kernel_rfl) (fun _ _ _ h => h) rfl (fun w => ?_) hHeld ?_
      rotate_left
      ·go_simp; (try with_reducible rfl)
      try simp only [Act.put, nzA, nzB, nzC]
      replace hHeld := (ST_set (T := [23]) (i := 1) (by kernel_rfl) _ _).2 hHeld
      refine heldL_take (i := 2) (v := ?_) rfl (by kernel_rfl) (by kernel_rfl) (by kernel_rfl) (by kernel_rfl) (by kernel_rfl) (fun _ _ _ h => h) rfl (fun w hSw => ?_) hHeld ?_
      rotate_left
      ·(have x0 := cellOf ((show Ext No wx _ from hSw).blk HBX.out no_no)); go_simp; (try with_reducible rfl)
      try simp only [Act.put, nzA, nzB, nzC]
      replace hHeld := (ST_set (T := [23]) (i := 2) (by kernel_rfl) _ _).2 hHeld
      refine heldL_free (i := 3) (v := ?_) rfl (by kernel_rfl) (by kernel_rfl) (by kernel_rfl) (by kernel_rfl) (by kernel_rfl) (fun _ _ _ h => h) rfl (fun w => ?_) hHeld ?_
      rotate_left
      ·go_simp; (try with_reducible rfl)
      try simp only [Act.put, nzA, nzB, nzC]
      replace hHeld := (ST_set (T := [23]) (i := 3) (by kernel_rfl) _ _).2 hHeld
      refine heldL_free (i := 4) (v := ?_) rfl (by kernel_rfl) (by kernel_rfl) (by kernel_rfl) (by kernel_rfl) (by kernel_rfl) (fun _ _ _ h => h) rfl (fun w => ?_) hHeld ?_
      rotate_left
      ·go_simp; (try with_reducible rfl)
      try simp only [Act.put, nzA, nzB, nzC]
      replace hHeld := (ST_set (T := [23]) (i := 4) (by kernel_rfl) _ _).2 hHeld
      refine heldL_take (i := 5) (v := ?_) rfl (by kernel_rfl) (by kernel_rfl) (by kernel_rfl) (by kernel_rfl) (by kernel_rfl) (fun _ _ _ h => h) rfl (fun w hSw => ?_) hHeld ?_
      rotate_left
      ·(have x0 := (show Ext No wx _ from hSw).keep HG2.out); go_simp; (try with_reducible rfl)
      try simp only [Act.put, nzA, nzB, nzC]
      replace hHeld := (ST_set (T := [23]) (i := 5) (by kernel_rfl) _ _).2 hHeld
      refine heldL_free (i := 6) (v := ?_) rfl (by kernel_rfl) (by kernel_rfl) (by kernel_rfl) (by kernel_rfl) (by kernel_rfl) (fun _ _ _ h => h) rfl (fun w => ?_) hHeld ?_
      rotate_left
      ·go_simp; (try with_reducible rfl)
      try simp only [Act.put, nzA, nzB, nzC]
      replace hHeld := (ST_set (T := [23]) (i := 6) (by kernel_rfl) _ _).2 hHeld
      refine heldL_free (i := 7) (v := ?_) rfl (by kernel_rfl) (by kernel_rfl) (by kernel_rfl) (by kernel_rfl) (by kernel_rfl) (fun _ _ _ h => h) rfl (fun w => ?_) hHeld ?_
      rotate_left
      ·go_simp; (try with_reducible rfl)
      try simp only [Act.put, nzA, nzB, nzC]
      replace hHeld := (ST_set (T := [23]) (i := 7) (by kernel_rfl) _ _).2 hHeld
      refine heldL_take (i := 8) (v := ?_) rfl (by kernel_rfl) (by kernel_rfl) (by kernel_rfl) (by kernel_rfl) (by kernel_rfl) (fun _ _ _ h => h) rfl (fun w hSw => ?_) hHeld ?_
      rotate_left
      ·(have x0 := (show Ext No wx _ from hSw).keep HQE.out); go_simp; (try with_reducible rfl)
      try simp only [Act.put, nzA, nzB, nzC]
      replace hHeld := (ST_set (T := [23]) (i := 8) (by kernel_rfl) _ _).2 hHeld
      refine heldL_free (i := 9) (v := ?_) rfl (by kernel_rfl) (by kernel_rfl) (by kernel_rfl) (by kernel_rfl) (by kernel_rfl) (fun _ _ _ h => h) rfl (fun w => ?_) hHeld ?_
      rotate_left
      ·go_simp; (try with_reducible rfl)
      try simp only [Act.put, nzA, nzB, nzC]
      replace hHeld := (ST_set (T := [23]) (i := 9) (by kernel_rfl) _ _).2 hHeld
      refine heldL_take (i := 10) (v := ?_) rfl (by kernel_rfl) (by kernel_rfl) (by kernel_rfl) (by kernel_rfl) (by kernel_rfl) (fun _ _ _ h => h) rfl (fun w hSw => ?_) hHeld ?_
      rotate_left
      ·(have x0 := cellOf ((show Ext No wx _ from hSw).blk HBX.out no_no)); go_simp; (try with_reducible rfl)
      try simp only [Act.put, nzA, nzB, nzC]
      replace hHeld := (ST_set (T := [23]) (i := 10) (by kernel_rfl) _ _).2 hHeld
      refine heldL_free (i := 11) (v := ?_) rfl (by kernel_rfl) (by kernel_rfl) (by kernel_rfl) (by kernel_rfl) (by kernel_rfl) (fun _ _ _ h => h) rfl (fun w => ?_) hHeld ?_
      rotate_left
      ·go_simp; (try with_reducible rfl)
      try simp only [Act.put, nzA, nzB, nzC]
      replace hHeld := (ST_set (T := [23]) (i := 11) (by kernel_rfl) _ _).2 hHeld
      refine heldL_take (i := 12) (v := ?_) rfl (by kernel_rfl) (by kernel_rfl) (by kernel_rfl) (by kernel_rfl) (by kernel_rfl) (fun _ _ _ h => h) rfl (fun w hSw => ?_) hHeld ?_
      rotate_left
      ·(have x0 := cellOf ((show Ext No wx _ from hSw).blk HBX.out no_no)); go_simp; (try with_reducible rfl)
      try simp only [Act.put, nzA, nzB, nzC]
      replace hHeld := (ST_set (T := [23]) (i := 12) (by kernel_rfl) _ _).2 hHeld
      refine heldL_free (i := 13) (v := ?_) rfl (by kernel_rfl) (by kernel_rfl) (by kernel_rfl) (by kernel_rfl) (by kernel_rfl) (fun _ _ _ h => h) rfl (fun w => ?_) hHeld ?_
      rotate_left
      ·go_simp; (try with_reducible rfl)
      try simp only [Act.put, nzA, nzB, nzC]
      replace hHeld := (ST_set (T := [23]) (i := 13) (by kernel_rfl) _ _).2 hHeld
      refine heldL_free (i := 14) (v := ?_) rfl (by kernel_rfl) (by kernel_rfl) (by kernel_rfl) (by kernel_rfl) (by kernel_rfl) (fun _ _ _ h => h) rfl (fun w => ?_) hHeld ?_
      rotate_left
      ·go_simp; (try with_reducible rfl)
      try simp only [Act.put, nzA, nzB, nzC]
      replace hHeld := (ST_set (T := [23]) (i := 14) (by kernel_rfl) _ _).2 hHeld
      refine heldL_take (i := 15) (v := ?_) rfl (by kernel_rfl) (by kernel_rfl) (by kernel_rfl) (by kernel_rfl) (by kernel_rfl) (fun _ _ _ h => h) rfl (fun w hSw => ?_) hHeld ?_
      rotate_left
      ·(have x0 := (show Ext No wx _ from hSw).keep HG2.out); go_simp; (try with_reducible rfl)
      try simp only [Act.put, nzA, nzB, nzC]
      replace hHeld := (ST_set (T := [23]) (i := 15) (by kernel_rfl) _ _).2 hHeld
      refine heldL_free (i := 16) (v := ?_) rfl (by kernel_rfl) (by kernel_rfl) (by kernel_rfl) (by kernel_rfl) (by kernel_rfl) (fun _ _ _ h => h) rfl (fun w => ?_) hHeld ?_
      rotate_left
      ·go_simp; (try with_reducible rfl)
      try simp only [Act.put, nzA, nzB, nzC]
      replace hHeld := (ST_set (T := [23]) (i := 16) (by kernel_rfl) _ _).2 hHeld
      refine heldL_free (i := 17) (v := ?_) rfl (by kernel_rfl) (by kernel_rfl) (by kernel_rfl) (by kernel_rfl) (by kernel_rfl) (fun _ _ _ h => h) rfl (fun w => ?_) hHeld ?_
      rotate_left
      ·go_simp; (try with_reducible rfl)
      try simp only [Act.put, nzA, nzB, nzC]
      replace hHeld := (ST_set (T := [23]) (i := 17) (by kernel_rfl) _ _).2 hHeld
      refine heldL_take (i := 18) (v := ?_) rfl (by kernel_rfl) (by kernel_rfl) (by kernel_rfl) (by kernel_rfl) (by kernel_rfl) (fun _ _ _ h => h) rfl (fun w hSw => ?_) hHeld ?_
      rotate_left
      ·(have x0 := (show Ext No wx _ from hSw).keep HQE.out); go_simp; (try with_reducible rfl)
      try simp only [Act.put, nzA, nzB, nzC]
      replace hHeld := (ST_set (T := [23]) (i := 18) (by kernel_rfl) _ _).2 hHeld
      refine heldL_free (i := 19) (v := ?_) rfl (by kernel_rfl) (by kernel_rfl) (by kernel_rfl) (by kernel_rfl) (by kernel_rfl) (fun _ _ _ h => h) rfl (fun w => ?_) hHeld ?_
      rotate_left
      ·go_simp; (try with_reducible rfl)
      try simp only [Act.put, nzA, nzB, nzC]
      replace hHeld := (ST_set (T := [23]) (i := 19) (by kernel_rfl) _ _).2 hHeld
      refine heldL_take (i := 20) (v := ?_) rfl (by kernel_rfl) (by kernel_rfl) (by kernel_rfl) (by kernel_rfl) (by kernel_rfl) (fun _ _ _ h => h) rfl (fun w hSw => ?_) hHeld ?_
      rotate_left
      ·(obtain ⟨p0, p1, p2, p3, p4⟩ := HTC.out); (have x0 := (show Ext No wx _ from hSw).keep p0); (have x1 := (show Ext No wx _ from hSw).keep p1); (have x2 := (show Ext No wx _ from hSw).keep p2); (have x3 := (show Ext No wx _ from hSw).keep p3); (have x4 := (show Ext No wx _ from hSw).keep p4); go_simp; (try with_reducible rfl)
      try simp only [Act.put, nzA, nzB, nzC]
      replace hHeld := (ST_set (T := [23]) (i := 20) (by kernel_rfl) _ _).2 hHeld
      refine heldL_free (i := 21) (v := ?_) rfl (by kernel_rfl) (by kernel_rfl) (by kernel_rfl) (by kernel_rfl) (by kernel_rfl) (fun _ _ _ h => h) rfl (fun w => ?_) hHeld ?_
      rotate_left
      ·go_simp; (try with_reducible rfl)
      try simp only [Act.put, nzA, nzB, nzC]
      replace hHeld := (ST_set (T := [23]) (i := 21) (by kernel_rfl) _ _).2 hHeld
      refine heldL_next1 (i := 22) (by kernel_rfl) (NextL.mk rfl rfl (fun K hK => ?_))
      go_simp
      refine hK.out _ _ ?_ (fun hNew => ?_)
      ·intro _; exact HE.out.alloc _
      clear hK K hHeld
      have hHeld := hNew
      clear hNew
      have hx8 := (Ext.refl No v0).alloc (.cells #[.int .i64 (m : Int), .int .i64 (S.w : Int), .slice ag (nw S.w) cg, .int .i64 (S.w : Int), .slice ak (nw S.w) ck, .slice ac nc cc] 92)
      have hLb := Lib.hid (alloc_top (w := v0) (o := (.cells #[.int .i64 (m : Int), .int .i64 (S.w : Int), .slice ag (nw S.w) cg, .int .i64 (S.w : Int), .slice ak (nw S.w) ck, .slice ac nc cc] 92)) rfl)
      replace HE := Lib.hid (HE.out.transNo hx8)
      clear hx8
      generalize (v0.alloc (.cells #[.int .i64 (m : Int), .int .i64 (S.w : Int), .slice ag (nw S.w) cg, .int .i64 (S.w : Int), .slice ak (nw S.w) ck, .slice ac nc cc] 92)) = v1 at *
      generalize v0.heap.size = BL at *
      try simp only [Act.put, nzA, nzB, nzC]
      refine heldL_next1 (i := 23) (by kernel_rfl) (NextL.mk rfl rfl (fun K hK => ?_))
      ((have hb8 := hx.out.size); (have hb9 := HE.out.size); (refine wp_app _ (.tmp 36) (.tmp 58) 87 rfl wr.heap.size 92 iA _ 6 96 Try.underlying87 hiA hA0 hA1 hA2 rfl (by omega) (.slice s1 j t1) j (L.flatMap kA.cells) rfl (by have h := (hown.out.extNo HE.out).own; rw [hlA.out] at h; exact h) No (some ⟨BL, 0, none⟩) 1 1 [.int .i64 (m : Int), .int .i64 (S.w : Int), .slice ag (nw S.w) cg, .int .i64 (S.w : Int), .slice ak (nw S.w) ck, .slice ac nc cc] rfl (Row.block hLb.out rfl no_no (by omega)) (by simp [Value.oneCell']) (by omega) (by omega) (by omega) ?_); (intro v9 w9 hown1 hg1 hv1))
      refine hK.out _ _ ?_ (fun hNew => ?_)
      ·exact fun h => absurd h (by decide)
      clear hK K hHeld
      have hHeld := hNew
      clear hNew
      have hE9 : Ext (fun bq => Value.ownBlock (.slice s1 j t1) = some bq) v1 w9 := (Ext.refl _ _).grown hg1 (fun bq hk _ => hk)
      have hce : kA.cells ((m : Int), rawT (trD S m), Value.slice ag (nw S.w) cg, Value.slice ak (nw S.w) ck, Value.slice ac nc cc) = [.int .i64 (m : Int), .int .i64 (S.w : Int), .slice ag (nw S.w) cg, .int .i64 (S.w : Int), .slice ak (nw S.w) ck, .slice ac nc cc] := by
       show [Value.int .i64 (m : Int), .int .i64 ((trD S m).w : Int), _, .int .i64 ((trD S m).w : Int), _, _] = _
       rw [htw.out]
      have hO9 := Lib.hid ((hown.out.extNo HE.out).app (p := ((m : Int), rawT (trD S m), Value.slice ag (nw S.w) cg, Value.slice ak (nw S.w) ck, Value.slice ac nc cc)) (HRW.out.extNo HE.out) (by rw [hlA.out, hce]; exact hown1) hE9 (fun _ e => e) (hv1.imp id (fun hv k hk => by rw [hv] at hk; simp only [Option.some.injEq] at hk; omega)))
      have hX9 := Lib.hid ((hx.out.transNo HE.out).trans2 hE9 (fun i hi e => by have := (hown.out.lt i e).1; omega))
      clear hE9 hown1 hg1 hv1 hLb hce HE
      generalize w9 = v2 at *
      try simp only [Act.put, nzA, nzB, nzC]
      refine heldL_free (i := 24) (v := ?_) rfl (by kernel_rfl) (by kernel_rfl) (by kernel_rfl) (by kernel_rfl) (by kernel_rfl) (fun _ _ _ h => h) rfl (fun w => ?_) hHeld ?_
      rotate_left
      ·go_simp; (try with_reducible rfl)
      try simp only [Act.put, nzA, nzB, nzC]
      replace hHeld := (ST_set (T := [23]) (i := 24) (by kernel_rfl) _ _).2 hHeld
      refine heldL_done (by kernel_rfl) ?_ _
      go_wp2_with fail
      go_roundw
      case rel => exact ⟨j + 1, L ++ [((m : Int), rawT (trD S m), Value.slice ag (nw S.w) cg, Value.slice ak (nw S.w) ck, Value.slice ac nc cc)], HJJ.out, by omega, hO9, Lib.hid (HMJ.out.elim fun h1 h2 => arcs_succ hLM.out h1 h2 rfl), hX9⟩
      case measure => simp [intOf]; omega
     ·have hge : ¬ (j : Int) < (n : Int) := by omega
      have hjn : j = n := by omega
      subst hjn
      have HLM := Lib.hid (show L.map cutA = arcsR S k from by rw [hLM.out, List.take_of_length_le (by have := HN.out; simp [arcsR]; omega)])
      have HLA := Lib.hid (show LAt kA (HP (PW W O) (.slice aB S.deps.length cB) (.slice a2 k c2)) wx (.slice s1 j t1) L from hown.out.list2 (fun b hb e => by have h1 := (hown.out.lt b hb).1; have h2 := hm.out.hot b e; omega) (fun _ e => e))
      have hmA := Lib.hid (hm.out.stepNo hx.out)
      clear hown hLM hm
      have cX := cellOf hmA.out.boxO
      go_wp2_with (at_builtin; (refine wpList_app _ rfl (.tmp 61) (.tmp 63) 54 rfl (W.heap.size + 2) 87 iL _ 1 24 Try.underlying54 hiL hL0 hL1 hL2 rfl (by omega) (.slice a2 k c2) k (LI.flatMap kL.cells) rfl (by have h := (hmA.out.stepNo ((Ext.refl No wx).alloc (.cells #[.slice s1 j t1] 87))).two.c.own; rw [hLI.out] at h; exact h) No (some ⟨wx.heap.size, 0, none⟩) 1 1 [.slice s1 j t1] rfl (Row.block (alloc_top rfl) rfl no_no (by omega)) (by simp [Value.oneCell']) (by omega) (by omega) (by have h1 := lt_of_block hmA.out.boxR; have h2 := lt_of_block hmA.out.boxO; have h3 := hmA.out.low; simp; omega) ?_); (intro v9 w9 hown1 hg1 hv1); (have hmB := Lib.hid ((hmA.out.stepNo ((Ext.refl No wx).alloc (.cells #[.slice s1 j t1] 87))).appI (q := (L, .slice s1 j t1)) (HLA.out.extNo ((Ext.refl No wx).alloc (.cells #[.slice s1 j t1] 87))) (by rw [hLI.out]; exact hown1) hg1 hv1)); (obtain ⟨xI, yI, hs98⟩ := hmB.out.two.c.slice); (rw [List.length_append, hLI.out] at hs98); (subst hs98); (clear cX hown1 hg1 hv1); (have cX := cellOf hmB.out.boxO); (have fX := freeOf hmB.out.boxO))
      go_roundw
      case rel => exact ⟨k + 1, _, _, HKK.out, by omega, Lib.hid (hmB.out.putO 2 _), Lib.hid (by rw [List.length_append, hLI.out]; rfl), Lib.hid (arcs_all hIN.out hLI.out HLM.out)⟩
      case measure => simp [intOf]; omega
   ·have hge : ¬ (k : Int) < (S.deps.length : Int) := by omega
    have hkn : k = S.deps.length := by omega
    subst hkn
    have cO := cellOf hm.out.boxO
    have cR := cellOf hm.out.boxR
    have fR := freeOf hm.out.boxR
    have hE2 := wset3 wr (W.heap.size + 1) (.int .i64 (S.w : Int)) (.slice aB S.deps.length cB) (.slice a2 S.deps.length c2)
    have hbF := wfin3 hm.out.boxR (.int .i64 (S.w : Int)) (.slice aB S.deps.length cB) (.slice a2 S.deps.length c2)
    go_wp2_with fail
    generalize (((wr.setCell ⟨W.heap.size + 1, 0, none⟩ (.int .i64 (S.w : Int))).setCell ⟨W.heap.size + 1, 1, none⟩ (.slice aB S.deps.length cB)).setCell ⟨W.heap.size + 1, 2, none⟩ (.slice a2 S.deps.length c2)) = WF at *
    have cF := cellOf hbF
    refine ret_ex rfl ?_
    simp [results, Try.results54, go_sem, cF]
    exact ⟨aB, a2, cB, c2, rfl, Lib.hid (hm.out.web hE2 HOK.out HBM.out hLI.out hIN.out), hm.out.ext.trans2 hE2 (fun i hi e => by unfold At at e; omega)⟩
end Go.Proofs.Ytkdjdhflhlbelaa

/- Merged: I4 K4 -/
import Derived.Test.YtkdjdhflhlbelaaI1
import Derived.Test.YtkdjdhflhlbelaaI0
import Derived.Test.YtkdjdhflhlbelaaI3
import Derived.Test.YtkdjdhflhlbelaaK3
import Derived.Test.YtkdjdhflhlbelaaH10
import Derived.Test.YtkdjdhflhlbelaaFS
set_option linter.unusedVariables false
set_option linter.unusedSimpArgs false
/- I4 -/
namespace Go.Proofs.Ytkdjdhflhlbelaa
open Go Go.RowKit
/-- an answer with an error and a zero value -/
def ErrPost (z : Value) (E : Int) (W : World) (e : Ending) (w' : World) : Prop := e = .returned (.tuple #[z, .int .i64 E]) ∧ Ext No W w'
theorem rvalidSys_yes (S : SysD) (vd vt vb : Value) (W : World) (h : SysAt No W vd vt vb S) :
  Calls Try.prog 58 #[.agg #[.int .i64 (S.w : Int), vd, vt, vb]] W (BoolPost true W) := by
 obtain ⟨Ld, Lt, Lb, h1, h2⟩ := h.vs
 refine (rvalidSys_any _ _ _ _ Ld Lt Lb W h1).mono ?_
 rintro e w' ⟨b, rfl, hb, hx⟩
 exact ⟨by rw [tells_t hb h2], hx⟩
end Go.Proofs.Ytkdjdhflhlbelaa

/- K4 -/
namespace Go.Proofs.Ytkdjdhflhlbelaa
open Go Go.RowKit Tj
/-- a list of ints, the least of each one's component -/
def OfPost (S : SysD) (W : World) (e : Ending) (w' : World) : Prop :=
 ∃ (bo : Nat) (f : Nat → Int), e = .returned (.tuple #[.slice (some ⟨bo, 0, none⟩) S.deps.length S.deps.length, .int .i64 0]) ∧ W.heap.size ≤ bo ∧ Hid (BlkF w' bo 3 S.deps.length (fun i => .int .i64 (f i))) ∧ Hid (∀ x, x < S.deps.length → Comp (depD S) x (f x)) ∧ Ext No W w'
set_option maxRecDepth 100000 in
set_option maxHeartbeats 2000000 in
theorem cof_inv (x : Int) (vd vt vb : Value) (Ld : LD) (Lt : LT) (Lb : LS) (W : World) (h : YAt No W vd vt vb Ld Lt Lb) (hn : ¬ VS x Ld Lt Lb) :
  Calls Try.prog 74 #[.agg #[.int .i64 x, vd, vt, vb]] W (ErrPost (.slice none 0 0) 1 W) := by
 have H := Lib.hid h
 obtain ⟨ad, cd, rfl⟩ := h.d.slice
 obtain ⟨at1, ct, rfl⟩ := h.t.slice
 obtain ⟨ab, cb, rfl⟩ := h.b.slice
 clear h
 go_enter Try.func74, Try.ntmps74
 go_wp2_with fail
 have hx0 : Ext No W (W.alloc (.cells #[.int .i64 x, .slice ad Ld.length cd, .slice at1 Lt.length ct, .slice ab Lb.length cb] 29)) := (Ext.refl _ _).alloc _
 refine (sysValid_any x _ _ _ Ld Lt Lb _ (H.out.extNo hx0)).mono ?_
 rintro e1 w1 ⟨b1, rfl, hb1, hx1⟩
 cases b1 with
 | true => exact absurd (tells_yes hb1) hn
 | false =>
 have hx := hx0.transNo hx1
 clear hb1 hx0 hx1
 go_wp2_with fail
 refine ret_ex rfl ?_
 simp [results, Try.results74, go_sem]
 exact ⟨rfl, hx⟩
set_option maxRecDepth 100000 in
set_option maxHeartbeats 8000000 in
theorem cof_any (S : SysD) (vd vt vb : Value) (W : World) (h : SysAt No W vd vt vb S) :
  Calls Try.prog 74 #[.agg #[.int .i64 (S.w : Int), vd, vt, vb]] W (OfPost S W) := by
 have H := Lib.hid h
 have hok := h.ok
 have HOK := Lib.hid hok
 have hnn := hok.n2
 have hn1 := hok.n1
 obtain ⟨Ld1, Lt1, Lb1, hY, hVS⟩ := h.vs
 obtain ⟨ad, cd, at1, ct, ab, cb, rfl, rfl, rfl⟩ := h.slices
 have HYV := Lib.hid (And.intro hY hVS)
 have hmk := mk_ints S.deps.length (by omega)
 clear h hok hY hVS
 go_enter Try.func74, Try.ntmps74
 go_wp2_with fail
 have hx0 : Ext No W (W.alloc (.cells #[.int .i64 (S.w : Int), .slice ad S.deps.length cd, .slice at1 S.deps.length ct, .slice ab S.deps.length cb] 29)) := (Ext.refl _ _).alloc _
 refine (sysValid_any (S.w : Int) _ _ _ Ld1 Lt1 Lb1 _ (HYV.out.1.extNo hx0)).mono ?_
 rintro e1 V ⟨b1, rfl, hb1, hx1⟩
 cases b1 with
 | false => exact absurd HYV.out.2 (tells_no hb1)
 | true =>
 have HA := Lib.hid (hx1.blk (alloc_top (w := W) (o := (.cells #[.int .i64 (S.w : Int), .slice ad S.deps.length cd, .slice at1 S.deps.length ct, .slice ab S.deps.length cb] 29)) rfl) no_no)
 have HX := Lib.hid (hx0.transNo hx1)
 clear hb1 hx0 hx1
 have cA := cellOf HA.out
 go_upto_region 4 with (fail)
 clear cA
 go_cut [5] (fun s5 wx => ∃ (X P bi bl bo : Nat), s5 = .pointer (some ⟨X, 0, none⟩) ∧ Hid (SvM S.deps.length V.heap.size P X bi bl bo S.deps.length S.deps.length S.deps.length (.slice ad S.deps.length cd) V wx (.slice none 0 0) (Tj.init)))
 case first =>
  refine wp_region_held_drew (S := (fun w' => Ext No V w')) (by kernel_rfl) ?_ (fun hHeld => ?_)
  ·exact (Ext.refl _ _).drew
  have HE := Lib.hid (show Ext No V V.drew from (Ext.refl _ _).drew)
  generalize V.drew = v0 at *
  refine hTk (i := 0) (v := ?_) hHeld (fun w hSw => ?_) ?_
  rotate_left
  ·go_simp; (try with_reducible rfl)
  try simp only [Act.put, nzA, nzB, nzC]
  refine hTk (i := 1) (v := ?_) hHeld (fun w hSw => ?_) ?_
  rotate_left
  ·(have x0 := cellOf ((show Ext No V _ from hSw).blk HA.out no_no)); go_simp; (try with_reducible rfl)
  try simp only [Act.put, nzA, nzB, nzC]
  refine hTk (i := 2) (v := ?_) hHeld (fun w hSw => ?_) ?_
  rotate_left
  ·go_simp; (try with_reducible rfl)
  try simp only [Act.put, nzA, nzB, nzC]
  refine hTk (i := 4) (v := ?_) hHeld (fun w hSw => ?_) ?_
  rotate_left
  ·go_simp; (try with_reducible rfl)
  try simp only [Act.put, nzA, nzB, nzC]
  refine hTk (i := 7) (v := ?_) hHeld (fun w hSw => ?_) ?_
  rotate_left
  ·go_simp; (try with_reducible rfl)
  try simp only [Act.put, nzA, nzB, nzC]
  refine held_next3 (i := 3) (j := 5) (k := 6) (by kernel_rfl) (NextOp.mk rfl rfl (fun K hK => ?_)) (NextOp.mk rfl rfl (fun K hK => ?_)) (NextOp.mk rfl rfl (fun K hK => ?_))
  ·go_simp
   refine hK.out _ _ ?_ ?_
   ·exact HE.out.alloc _
   clear hK K hHeld
   intro hHeld
   have hy := (Ext.refl No v0).alloc (.cells (rowF S.deps.length (fun _ => .int .i64 0)) 3)
   have hsz1 := HE.out.size
   have HI := Lib.hid (blk_made (w := v0) (n := S.deps.length) (f := fun _ => .int .i64 0) (T := 3))
   replace HE := Lib.hid (HE.out.transNo hy)
   clear hy
   generalize (v0.alloc (.cells (rowF S.deps.length (fun _ => .int .i64 0)) 3)) = v1 at *
   generalize v0.heap.size = bi at *
   try simp only [Act.put, nzA, nzB, nzC]
   refine held_next2 (i := 5) (j := 6) (by kernel_rfl) (NextOp.mk rfl rfl (fun K hK => ?_)) (NextOp.mk rfl rfl (fun K hK => ?_))
   ·go_simp
    refine hK.out _ _ ?_ ?_
    ·exact HE.out.alloc _
    clear hK K hHeld
    intro hHeld
    have hy := (Ext.refl No v1).alloc (.cells (rowF S.deps.length (fun _ => .int .i64 0)) 3)
    have hsz2 := HE.out.size
    have lbi2 := lt_of_block HI.out
    replace HI := Lib.hid (HI.out.ext hy no_no)
    have HL := Lib.hid (blk_made (w := v1) (n := S.deps.length) (f := fun _ => .int .i64 0) (T := 3))
    replace HE := Lib.hid (HE.out.transNo hy)
    clear hy
    generalize (v1.alloc (.cells (rowF S.deps.length (fun _ => .int .i64 0)) 3)) = v2 at *
    generalize v1.heap.size = bl at *
    try simp only [Act.put, nzA, nzB, nzC]
    refine held_call (i := 6) rfl (by kernel_rfl) rfl (fun K hK => ?_)
    go_simp
    refine hK.out _ _ ?_ ?_
    ·exact HE.out.alloc _
    clear hK K hHeld
    intro hHeld
    have hy := (Ext.refl No v2).alloc (.cells #[.int .i64 (-1)] 3)
    have hsz3 := HE.out.size
    have lbi3 := lt_of_block HI.out
    have lbl3 := lt_of_block HL.out
    replace HI := Lib.hid (HI.out.ext hy no_no)
    replace HL := Lib.hid (HL.out.ext hy no_no)
    have HM := Lib.hid (alloc_top (w := v2) (o := (.cells #[.int .i64 (-1)] 3)) rfl)
    replace HE := Lib.hid (HE.out.transNo hy)
    clear hy
    generalize (v2.alloc (.cells #[.int .i64 (-1)] 3)) = v3 at *
    generalize v2.heap.size = bm at *
    try simp only [Act.put, nzA, nzB, nzC]
    refine held_call (i := 8) rfl (by kernel_rfl) rfl (fun K hK => ?_)
    (go_simp; (go_at_call 118); (refine (repeat_any S.deps.length bm (-1) _ hn1 hnn HM.out).mono ?_); (rintro e9 v4 ⟨bo, rfl, hbo, hrb, hyA⟩); go_simp)
    refine hK.out _ _ ?_ ?_
    ·exact HE.out.transNo hyA
    clear hK K hHeld
    intro hHeld
    have lbi4 := lt_of_block HI.out
    have lbl4 := lt_of_block HL.out
    have lbm4 := lt_of_block HM.out
    replace HI := Lib.hid (HI.out.ext hyA no_no)
    replace HL := Lib.hid (HL.out.ext hyA no_no)
    replace HM := Lib.hid (hyA.blk HM.out no_no)
    have HR := Lib.hid hrb.out
    replace HE := Lib.hid (HE.out.transNo hyA)
    clear hyA hrb
    try simp only [Act.put, nzA, nzB, nzC]
    refine hTk (i := 9) (v := ?_) hHeld (fun w hSw => ?_) ?_
    rotate_left
    ·go_simp; (try with_reducible rfl)
    try simp only [Act.put, nzA, nzB, nzC]
    refine held_call (i := 10) rfl (by kernel_rfl) rfl (fun K hK => ?_)
    go_simp
    refine hK.out _ _ ?_ ?_
    ·exact HE.out.alloc _
    clear hK K hHeld
    intro hHeld
    have hy := (Ext.refl No v4).alloc (.cells #[.slice ad S.deps.length cd, .slice (some ⟨bi, 0, none⟩) S.deps.length S.deps.length, .slice (some ⟨bl, 0, none⟩) S.deps.length S.deps.length, .slice none 0 0, .slice (some ⟨bo, 0, none⟩) S.deps.length S.deps.length, .int .i64 0] 123)
    have hsz5 := HE.out.size
    have lbi5 := lt_of_block HI.out
    have lbl5 := lt_of_block HL.out
    have lbm5 := lt_of_block HM.out
    have lbo5 := lt_of_block HR.out
    replace HI := Lib.hid (HI.out.ext hy no_no)
    replace HL := Lib.hid (HL.out.ext hy no_no)
    replace HM := Lib.hid (hy.blk HM.out no_no)
    replace HR := Lib.hid (HR.out.ext hy no_no)
    have HBX := Lib.hid (alloc_top (w := v4) (o := (.cells #[.slice ad S.deps.length cd, .slice (some ⟨bi, 0, none⟩) S.deps.length S.deps.length, .slice (some ⟨bl, 0, none⟩) S.deps.length S.deps.length, .slice none 0 0, .slice (some ⟨bo, 0, none⟩) S.deps.length S.deps.length, .int .i64 0] 123)) rfl)
    replace HE := Lib.hid (HE.out.transNo hy)
    clear hy
    generalize (v4.alloc (.cells #[.slice ad S.deps.length cd, .slice (some ⟨bi, 0, none⟩) S.deps.length S.deps.length, .slice (some ⟨bl, 0, none⟩) S.deps.length S.deps.length, .slice none 0 0, .slice (some ⟨bo, 0, none⟩) S.deps.length S.deps.length, .int .i64 0] 123)) = v5 at *
    generalize v4.heap.size = X at *
    try simp only [Act.put, nzA, nzB, nzC]
    refine hTk (i := 11) (v := ?_) hHeld (fun w hSw => ?_) ?_
    rotate_left
    ·go_simp; (try with_reducible rfl)
    try simp only [Act.put, nzA, nzB, nzC]
    refine wpAnyH_done (by kernel_rfl) ?_ _
    go_wp2_with fail
    go_meet
    have hlX := lt_of_block HBX.out
    exact ⟨X, v5.heap.size, bi, bl, bo, rfl, Lib.hid ⟨HE.out.trans2 (Ext.refl No _) (fun _ _ e => e.elim) |>.trans2 (Ext.refl No _) (fun _ _ e => e.elim) |> fun h => (Ext.refl (fun b => V.heap.size ≤ b) V).trans2 h (fun _ _ e => e.elim), HBX.out, HI.out, HL.out, HR.out, World.ownsRow_nil _ _ _ _, ⟨⟨by omega, by omega, by omega, by omega⟩, hlX, by omega, by omega, by omega⟩, ⟨⟨by omega, by omega, by omega⟩, by omega, by omega, by omega⟩, Nat.le_refl _⟩⟩
   ·go_simp
    refine hK.out _ _ ?_ ?_
    ·exact HE.out.alloc _
    clear hK K hHeld
    intro hHeld
    have hy := (Ext.refl No v1).alloc (.cells #[.int .i64 (-1)] 3)
    have hsz2 := HE.out.size
    have lbi2 := lt_of_block HI.out
    replace HI := Lib.hid (HI.out.ext hy no_no)
    have HM := Lib.hid (alloc_top (w := v1) (o := (.cells #[.int .i64 (-1)] 3)) rfl)
    replace HE := Lib.hid (HE.out.transNo hy)
    clear hy
    generalize (v1.alloc (.cells #[.int .i64 (-1)] 3)) = v2 at *
    generalize v1.heap.size = bm at *
    try simp only [Act.put, nzA, nzB, nzC]
    refine held_next2 (i := 5) (j := 8) (by kernel_rfl) (NextOp.mk rfl rfl (fun K hK => ?_)) (NextOp.mk rfl rfl (fun K hK => ?_))
    ·go_simp
     refine hK.out _ _ ?_ ?_
     ·exact HE.out.alloc _
     clear hK K hHeld
     intro hHeld
     have hy := (Ext.refl No v2).alloc (.cells (rowF S.deps.length (fun _ => .int .i64 0)) 3)
     have hsz3 := HE.out.size
     have lbi3 := lt_of_block HI.out
     have lbm3 := lt_of_block HM.out
     replace HI := Lib.hid (HI.out.ext hy no_no)
     replace HM := Lib.hid (hy.blk HM.out no_no)
     have HL := Lib.hid (blk_made (w := v2) (n := S.deps.length) (f := fun _ => .int .i64 0) (T := 3))
     replace HE := Lib.hid (HE.out.transNo hy)
     clear hy
     generalize (v2.alloc (.cells (rowF S.deps.length (fun _ => .int .i64 0)) 3)) = v3 at *
     generalize v2.heap.size = bl at *
     try simp only [Act.put, nzA, nzB, nzC]
     refine held_call (i := 8) rfl (by kernel_rfl) rfl (fun K hK => ?_)
     (go_simp; (go_at_call 118); (refine (repeat_any S.deps.length bm (-1) _ hn1 hnn HM.out).mono ?_); (rintro e9 v4 ⟨bo, rfl, hbo, hrb, hyA⟩); go_simp)
     refine hK.out _ _ ?_ ?_
     ·exact HE.out.transNo hyA
     clear hK K hHeld
     intro hHeld
     have lbi4 := lt_of_block HI.out
     have lbm4 := lt_of_block HM.out
     have lbl4 := lt_of_block HL.out
     replace HI := Lib.hid (HI.out.ext hyA no_no)
     replace HM := Lib.hid (hyA.blk HM.out no_no)
     replace HL := Lib.hid (HL.out.ext hyA no_no)
     have HR := Lib.hid hrb.out
     replace HE := Lib.hid (HE.out.transNo hyA)
     clear hyA hrb
     try simp only [Act.put, nzA, nzB, nzC]
     refine hTk (i := 9) (v := ?_) hHeld (fun w hSw => ?_) ?_
     rotate_left
     ·go_simp; (try with_reducible rfl)
     try simp only [Act.put, nzA, nzB, nzC]
     refine held_call (i := 10) rfl (by kernel_rfl) rfl (fun K hK => ?_)
     go_simp
     refine hK.out _ _ ?_ ?_
     ·exact HE.out.alloc _
     clear hK K hHeld
     intro hHeld
     have hy := (Ext.refl No v4).alloc (.cells #[.slice ad S.deps.length cd, .slice (some ⟨bi, 0, none⟩) S.deps.length S.deps.length, .slice (some ⟨bl, 0, none⟩) S.deps.length S.deps.length, .slice none 0 0, .slice (some ⟨bo, 0, none⟩) S.deps.length S.deps.length, .int .i64 0] 123)
     have hsz5 := HE.out.size
     have lbi5 := lt_of_block HI.out
     have lbm5 := lt_of_block HM.out
     have lbl5 := lt_of_block HL.out
     have lbo5 := lt_of_block HR.out
     replace HI := Lib.hid (HI.out.ext hy no_no)
     replace HM := Lib.hid (hy.blk HM.out no_no)
     replace HL := Lib.hid (HL.out.ext hy no_no)
     replace HR := Lib.hid (HR.out.ext hy no_no)
     have HBX := Lib.hid (alloc_top (w := v4) (o := (.cells #[.slice ad S.deps.length cd, .slice (some ⟨bi, 0, none⟩) S.deps.length S.deps.length, .slice (some ⟨bl, 0, none⟩) S.deps.length S.deps.length, .slice none 0 0, .slice (some ⟨bo, 0, none⟩) S.deps.length S.deps.length, .int .i64 0] 123)) rfl)
     replace HE := Lib.hid (HE.out.transNo hy)
     clear hy
     generalize (v4.alloc (.cells #[.slice ad S.deps.length cd, .slice (some ⟨bi, 0, none⟩) S.deps.length S.deps.length, .slice (some ⟨bl, 0, none⟩) S.deps.length S.deps.length, .slice none 0 0, .slice (some ⟨bo, 0, none⟩) S.deps.length S.deps.length, .int .i64 0] 123)) = v5 at *
     generalize v4.heap.size = X at *
     try simp only [Act.put, nzA, nzB, nzC]
     refine hTk (i := 11) (v := ?_) hHeld (fun w hSw => ?_) ?_
     rotate_left
     ·go_simp; (try with_reducible rfl)
     try simp only [Act.put, nzA, nzB, nzC]
     refine wpAnyH_done (by kernel_rfl) ?_ _
     go_wp2_with fail
     go_meet
     have hlX := lt_of_block HBX.out
     exact ⟨X, v5.heap.size, bi, bl, bo, rfl, Lib.hid ⟨HE.out.trans2 (Ext.refl No _) (fun _ _ e => e.elim) |>.trans2 (Ext.refl No _) (fun _ _ e => e.elim) |> fun h => (Ext.refl (fun b => V.heap.size ≤ b) V).trans2 h (fun _ _ e => e.elim), HBX.out, HI.out, HL.out, HR.out, World.ownsRow_nil _ _ _ _, ⟨⟨by omega, by omega, by omega, by omega⟩, hlX, by omega, by omega, by omega⟩, ⟨⟨by omega, by omega, by omega⟩, by omega, by omega, by omega⟩, Nat.le_refl _⟩⟩
    ·(go_simp; (go_at_call 118); (refine (repeat_any S.deps.length bm (-1) _ hn1 hnn HM.out).mono ?_); (rintro e9 v3 ⟨bo, rfl, hbo, hrb, hyA⟩); go_simp)
     refine hK.out _ _ ?_ ?_
     ·exact HE.out.transNo hyA
     clear hK K hHeld
     intro hHeld
     have lbi3 := lt_of_block HI.out
     have lbm3 := lt_of_block HM.out
     replace HI := Lib.hid (HI.out.ext hyA no_no)
     replace HM := Lib.hid (hyA.blk HM.out no_no)
     have HR := Lib.hid hrb.out
     replace HE := Lib.hid (HE.out.transNo hyA)
     clear hyA hrb
     try simp only [Act.put, nzA, nzB, nzC]
     refine held_call (i := 5) rfl (by kernel_rfl) rfl (fun K hK => ?_)
     go_simp
     refine hK.out _ _ ?_ ?_
     ·exact HE.out.alloc _
     clear hK K hHeld
     intro hHeld
     have hy := (Ext.refl No v3).alloc (.cells (rowF S.deps.length (fun _ => .int .i64 0)) 3)
     have hsz4 := HE.out.size
     have lbi4 := lt_of_block HI.out
     have lbm4 := lt_of_block HM.out
     have lbo4 := lt_of_block HR.out
     replace HI := Lib.hid (HI.out.ext hy no_no)
     replace HM := Lib.hid (hy.blk HM.out no_no)
     replace HR := Lib.hid (HR.out.ext hy no_no)
     have HL := Lib.hid (blk_made (w := v3) (n := S.deps.length) (f := fun _ => .int .i64 0) (T := 3))
     replace HE := Lib.hid (HE.out.transNo hy)
     clear hy
     generalize (v3.alloc (.cells (rowF S.deps.length (fun _ => .int .i64 0)) 3)) = v4 at *
     generalize v3.heap.size = bl at *
     try simp only [Act.put, nzA, nzB, nzC]
     refine hTk (i := 9) (v := ?_) hHeld (fun w hSw => ?_) ?_
     rotate_left
     ·go_simp; (try with_reducible rfl)
     try simp only [Act.put, nzA, nzB, nzC]
     refine held_call (i := 10) rfl (by kernel_rfl) rfl (fun K hK => ?_)
     go_simp
     refine hK.out _ _ ?_ ?_
     ·exact HE.out.alloc _
     clear hK K hHeld
     intro hHeld
     have hy := (Ext.refl No v4).alloc (.cells #[.slice ad S.deps.length cd, .slice (some ⟨bi, 0, none⟩) S.deps.length S.deps.length, .slice (some ⟨bl, 0, none⟩) S.deps.length S.deps.length, .slice none 0 0, .slice (some ⟨bo, 0, none⟩) S.deps.length S.deps.length, .int .i64 0] 123)
     have hsz5 := HE.out.size
     have lbi5 := lt_of_block HI.out
     have lbm5 := lt_of_block HM.out
     have lbo5 := lt_of_block HR.out
     have lbl5 := lt_of_block HL.out
     replace HI := Lib.hid (HI.out.ext hy no_no)
     replace HM := Lib.hid (hy.blk HM.out no_no)
     replace HR := Lib.hid (HR.out.ext hy no_no)
     replace HL := Lib.hid (HL.out.ext hy no_no)
     have HBX := Lib.hid (alloc_top (w := v4) (o := (.cells #[.slice ad S.deps.length cd, .slice (some ⟨bi, 0, none⟩) S.deps.length S.deps.length, .slice (some ⟨bl, 0, none⟩) S.deps.length S.deps.length, .slice none 0 0, .slice (some ⟨bo, 0, none⟩) S.deps.length S.deps.length, .int .i64 0] 123)) rfl)
     replace HE := Lib.hid (HE.out.transNo hy)
     clear hy
     generalize (v4.alloc (.cells #[.slice ad S.deps.length cd, .slice (some ⟨bi, 0, none⟩) S.deps.length S.deps.length, .slice (some ⟨bl, 0, none⟩) S.deps.length S.deps.length, .slice none 0 0, .slice (some ⟨bo, 0, none⟩) S.deps.length S.deps.length, .int .i64 0] 123)) = v5 at *
     generalize v4.heap.size = X at *
     try simp only [Act.put, nzA, nzB, nzC]
     refine hTk (i := 11) (v := ?_) hHeld (fun w hSw => ?_) ?_
     rotate_left
     ·go_simp; (try with_reducible rfl)
     try simp only [Act.put, nzA, nzB, nzC]
     refine wpAnyH_done (by kernel_rfl) ?_ _
     go_wp2_with fail
     go_meet
     have hlX := lt_of_block HBX.out
     exact ⟨X, v5.heap.size, bi, bl, bo, rfl, Lib.hid ⟨HE.out.trans2 (Ext.refl No _) (fun _ _ e => e.elim) |>.trans2 (Ext.refl No _) (fun _ _ e => e.elim) |> fun h => (Ext.refl (fun b => V.heap.size ≤ b) V).trans2 h (fun _ _ e => e.elim), HBX.out, HI.out, HL.out, HR.out, World.ownsRow_nil _ _ _ _, ⟨⟨by omega, by omega, by omega, by omega⟩, hlX, by omega, by omega, by omega⟩, ⟨⟨by omega, by omega, by omega⟩, by omega, by omega, by omega⟩, Nat.le_refl _⟩⟩
  ·go_simp
   refine hK.out _ _ ?_ ?_
   ·exact HE.out.alloc _
   clear hK K hHeld
   intro hHeld
   have hy := (Ext.refl No v0).alloc (.cells (rowF S.deps.length (fun _ => .int .i64 0)) 3)
   have hsz1 := HE.out.size
   have HL := Lib.hid (blk_made (w := v0) (n := S.deps.length) (f := fun _ => .int .i64 0) (T := 3))
   replace HE := Lib.hid (HE.out.transNo hy)
   clear hy
   generalize (v0.alloc (.cells (rowF S.deps.length (fun _ => .int .i64 0)) 3)) = v1 at *
   generalize v0.heap.size = bl at *
   try simp only [Act.put, nzA, nzB, nzC]
   refine held_next2 (i := 3) (j := 6) (by kernel_rfl) (NextOp.mk rfl rfl (fun K hK => ?_)) (NextOp.mk rfl rfl (fun K hK => ?_))
   ·go_simp
    refine hK.out _ _ ?_ ?_
    ·exact HE.out.alloc _
    clear hK K hHeld
    intro hHeld
    have hy := (Ext.refl No v1).alloc (.cells (rowF S.deps.length (fun _ => .int .i64 0)) 3)
    have hsz2 := HE.out.size
    have lbl2 := lt_of_block HL.out
    replace HL := Lib.hid (HL.out.ext hy no_no)
    have HI := Lib.hid (blk_made (w := v1) (n := S.deps.length) (f := fun _ => .int .i64 0) (T := 3))
    replace HE := Lib.hid (HE.out.transNo hy)
    clear hy
    generalize (v1.alloc (.cells (rowF S.deps.length (fun _ => .int .i64 0)) 3)) = v2 at *
    generalize v1.heap.size = bi at *
    try simp only [Act.put, nzA, nzB, nzC]
    refine held_call (i := 6) rfl (by kernel_rfl) rfl (fun K hK => ?_)
    go_simp
    refine hK.out _ _ ?_ ?_
    ·exact HE.out.alloc _
    clear hK K hHeld
    intro hHeld
    have hy := (Ext.refl No v2).alloc (.cells #[.int .i64 (-1)] 3)
    have hsz3 := HE.out.size
    have lbl3 := lt_of_block HL.out
    have lbi3 := lt_of_block HI.out
    replace HL := Lib.hid (HL.out.ext hy no_no)
    replace HI := Lib.hid (HI.out.ext hy no_no)
    have HM := Lib.hid (alloc_top (w := v2) (o := (.cells #[.int .i64 (-1)] 3)) rfl)
    replace HE := Lib.hid (HE.out.transNo hy)
    clear hy
    generalize (v2.alloc (.cells #[.int .i64 (-1)] 3)) = v3 at *
    generalize v2.heap.size = bm at *
    try simp only [Act.put, nzA, nzB, nzC]
    refine held_call (i := 8) rfl (by kernel_rfl) rfl (fun K hK => ?_)
    (go_simp; (go_at_call 118); (refine (repeat_any S.deps.length bm (-1) _ hn1 hnn HM.out).mono ?_); (rintro e9 v4 ⟨bo, rfl, hbo, hrb, hyA⟩); go_simp)
    refine hK.out _ _ ?_ ?_
    ·exact HE.out.transNo hyA
    clear hK K hHeld
    intro hHeld
    have lbl4 := lt_of_block HL.out
    have lbi4 := lt_of_block HI.out
    have lbm4 := lt_of_block HM.out
    replace HL := Lib.hid (HL.out.ext hyA no_no)
    replace HI := Lib.hid (HI.out.ext hyA no_no)
    replace HM := Lib.hid (hyA.blk HM.out no_no)
    have HR := Lib.hid hrb.out
    replace HE := Lib.hid (HE.out.transNo hyA)
    clear hyA hrb
    try simp only [Act.put, nzA, nzB, nzC]
    refine hTk (i := 9) (v := ?_) hHeld (fun w hSw => ?_) ?_
    rotate_left
    ·go_simp; (try with_reducible rfl)
    try simp only [Act.put, nzA, nzB, nzC]
    refine held_call (i := 10) rfl (by kernel_rfl) rfl (fun K hK => ?_)
    go_simp
    refine hK.out _ _ ?_ ?_
    ·exact HE.out.alloc _
    clear hK K hHeld
    intro hHeld
    have hy := (Ext.refl No v4).alloc (.cells #[.slice ad S.deps.length cd, .slice (some ⟨bi, 0, none⟩) S.deps.length S.deps.length, .slice (some ⟨bl, 0, none⟩) S.deps.length S.deps.length, .slice none 0 0, .slice (some ⟨bo, 0, none⟩) S.deps.length S.deps.length, .int .i64 0] 123)
    have hsz5 := HE.out.size
    have lbl5 := lt_of_block HL.out
    have lbi5 := lt_of_block HI.out
    have lbm5 := lt_of_block HM.out
    have lbo5 := lt_of_block HR.out
    replace HL := Lib.hid (HL.out.ext hy no_no)
    replace HI := Lib.hid (HI.out.ext hy no_no)
    replace HM := Lib.hid (hy.blk HM.out no_no)
    replace HR := Lib.hid (HR.out.ext hy no_no)
    have HBX := Lib.hid (alloc_top (w := v4) (o := (.cells #[.slice ad S.deps.length cd, .slice (some ⟨bi, 0, none⟩) S.deps.length S.deps.length, .slice (some ⟨bl, 0, none⟩) S.deps.length S.deps.length, .slice none 0 0, .slice (some ⟨bo, 0, none⟩) S.deps.length S.deps.length, .int .i64 0] 123)) rfl)
    replace HE := Lib.hid (HE.out.transNo hy)
    clear hy
    generalize (v4.alloc (.cells #[.slice ad S.deps.length cd, .slice (some ⟨bi, 0, none⟩) S.deps.length S.deps.length, .slice (some ⟨bl, 0, none⟩) S.deps.length S.deps.length, .slice none 0 0, .slice (some ⟨bo, 0, none⟩) S.deps.length S.deps.length, .int .i64 0] 123)) = v5 at *
    generalize v4.heap.size = X at *
    try simp only [Act.put, nzA, nzB, nzC]
    refine hTk (i := 11) (v := ?_) hHeld (fun w hSw => ?_) ?_
    rotate_left
    ·go_simp; (try with_reducible rfl)
    try simp only [Act.put, nzA, nzB, nzC]
    refine wpAnyH_done (by kernel_rfl) ?_ _
    go_wp2_with fail
    go_meet
    have hlX := lt_of_block HBX.out
    exact ⟨X, v5.heap.size, bi, bl, bo, rfl, Lib.hid ⟨HE.out.trans2 (Ext.refl No _) (fun _ _ e => e.elim) |>.trans2 (Ext.refl No _) (fun _ _ e => e.elim) |> fun h => (Ext.refl (fun b => V.heap.size ≤ b) V).trans2 h (fun _ _ e => e.elim), HBX.out, HI.out, HL.out, HR.out, World.ownsRow_nil _ _ _ _, ⟨⟨by omega, by omega, by omega, by omega⟩, hlX, by omega, by omega, by omega⟩, ⟨⟨by omega, by omega, by omega⟩, by omega, by omega, by omega⟩, Nat.le_refl _⟩⟩
   ·go_simp
    refine hK.out _ _ ?_ ?_
    ·exact HE.out.alloc _
    clear hK K hHeld
    intro hHeld
    have hy := (Ext.refl No v1).alloc (.cells #[.int .i64 (-1)] 3)
    have hsz2 := HE.out.size
    have lbl2 := lt_of_block HL.out
    replace HL := Lib.hid (HL.out.ext hy no_no)
    have HM := Lib.hid (alloc_top (w := v1) (o := (.cells #[.int .i64 (-1)] 3)) rfl)
    replace HE := Lib.hid (HE.out.transNo hy)
    clear hy
    generalize (v1.alloc (.cells #[.int .i64 (-1)] 3)) = v2 at *
    generalize v1.heap.size = bm at *
    try simp only [Act.put, nzA, nzB, nzC]
    refine held_next2 (i := 3) (j := 8) (by kernel_rfl) (NextOp.mk rfl rfl (fun K hK => ?_)) (NextOp.mk rfl rfl (fun K hK => ?_))
    ·go_simp
     refine hK.out _ _ ?_ ?_
     ·exact HE.out.alloc _
     clear hK K hHeld
     intro hHeld
     have hy := (Ext.refl No v2).alloc (.cells (rowF S.deps.length (fun _ => .int .i64 0)) 3)
     have hsz3 := HE.out.size
     have lbl3 := lt_of_block HL.out
     have lbm3 := lt_of_block HM.out
     replace HL := Lib.hid (HL.out.ext hy no_no)
     replace HM := Lib.hid (hy.blk HM.out no_no)
     have HI := Lib.hid (blk_made (w := v2) (n := S.deps.length) (f := fun _ => .int .i64 0) (T := 3))
     replace HE := Lib.hid (HE.out.transNo hy)
     clear hy
     generalize (v2.alloc (.cells (rowF S.deps.length (fun _ => .int .i64 0)) 3)) = v3 at *
     generalize v2.heap.size = bi at *
     try simp only [Act.put, nzA, nzB, nzC]
     refine held_call (i := 8) rfl (by kernel_rfl) rfl (fun K hK => ?_)
     (go_simp; (go_at_call 118); (refine (repeat_any S.deps.length bm (-1) _ hn1 hnn HM.out).mono ?_); (rintro e9 v4 ⟨bo, rfl, hbo, hrb, hyA⟩); go_simp)
     refine hK.out _ _ ?_ ?_
     ·exact HE.out.transNo hyA
     clear hK K hHeld
     intro hHeld
     have lbl4 := lt_of_block HL.out
     have lbm4 := lt_of_block HM.out
     have lbi4 := lt_of_block HI.out
     replace HL := Lib.hid (HL.out.ext hyA no_no)
     replace HM := Lib.hid (hyA.blk HM.out no_no)
     replace HI := Lib.hid (HI.out.ext hyA no_no)
     have HR := Lib.hid hrb.out
     replace HE := Lib.hid (HE.out.transNo hyA)
     clear hyA hrb
     try simp only [Act.put, nzA, nzB, nzC]
     refine hTk (i := 9) (v := ?_) hHeld (fun w hSw => ?_) ?_
     rotate_left
     ·go_simp; (try with_reducible rfl)
     try simp only [Act.put, nzA, nzB, nzC]
     refine held_call (i := 10) rfl (by kernel_rfl) rfl (fun K hK => ?_)
     go_simp
     refine hK.out _ _ ?_ ?_
     ·exact HE.out.alloc _
     clear hK K hHeld
     intro hHeld
     have hy := (Ext.refl No v4).alloc (.cells #[.slice ad S.deps.length cd, .slice (some ⟨bi, 0, none⟩) S.deps.length S.deps.length, .slice (some ⟨bl, 0, none⟩) S.deps.length S.deps.length, .slice none 0 0, .slice (some ⟨bo, 0, none⟩) S.deps.length S.deps.length, .int .i64 0] 123)
     have hsz5 := HE.out.size
     have lbl5 := lt_of_block HL.out
     have lbm5 := lt_of_block HM.out
     have lbi5 := lt_of_block HI.out
     have lbo5 := lt_of_block HR.out
     replace HL := Lib.hid (HL.out.ext hy no_no)
     replace HM := Lib.hid (hy.blk HM.out no_no)
     replace HI := Lib.hid (HI.out.ext hy no_no)
     replace HR := Lib.hid (HR.out.ext hy no_no)
     have HBX := Lib.hid (alloc_top (w := v4) (o := (.cells #[.slice ad S.deps.length cd, .slice (some ⟨bi, 0, none⟩) S.deps.length S.deps.length, .slice (some ⟨bl, 0, none⟩) S.deps.length S.deps.length, .slice none 0 0, .slice (some ⟨bo, 0, none⟩) S.deps.length S.deps.length, .int .i64 0] 123)) rfl)
     replace HE := Lib.hid (HE.out.transNo hy)
     clear hy
     generalize (v4.alloc (.cells #[.slice ad S.deps.length cd, .slice (some ⟨bi, 0, none⟩) S.deps.length S.deps.length, .slice (some ⟨bl, 0, none⟩) S.deps.length S.deps.length, .slice none 0 0, .slice (some ⟨bo, 0, none⟩) S.deps.length S.deps.length, .int .i64 0] 123)) = v5 at *
     generalize v4.heap.size = X at *
     try simp only [Act.put, nzA, nzB, nzC]
     refine hTk (i := 11) (v := ?_) hHeld (fun w hSw => ?_) ?_
     rotate_left
     ·go_simp; (try with_reducible rfl)
     try simp only [Act.put, nzA, nzB, nzC]
     refine wpAnyH_done (by kernel_rfl) ?_ _
     go_wp2_with fail
     go_meet
     have hlX := lt_of_block HBX.out
     exact ⟨X, v5.heap.size, bi, bl, bo, rfl, Lib.hid ⟨HE.out.trans2 (Ext.refl No _) (fun _ _ e => e.elim) |>.trans2 (Ext.refl No _) (fun _ _ e => e.elim) |> fun h => (Ext.refl (fun b => V.heap.size ≤ b) V).trans2 h (fun _ _ e => e.elim), HBX.out, HI.out, HL.out, HR.out, World.ownsRow_nil _ _ _ _, ⟨⟨by omega, by omega, by omega, by omega⟩, hlX, by omega, by omega, by omega⟩, ⟨⟨by omega, by omega, by omega⟩, by omega, by omega, by omega⟩, Nat.le_refl _⟩⟩
    ·(go_simp; (go_at_call 118); (refine (repeat_any S.deps.length bm (-1) _ hn1 hnn HM.out).mono ?_); (rintro e9 v3 ⟨bo, rfl, hbo, hrb, hyA⟩); go_simp)
     refine hK.out _ _ ?_ ?_
     ·exact HE.out.transNo hyA
     clear hK K hHeld
     intro hHeld
     have lbl3 := lt_of_block HL.out
     have lbm3 := lt_of_block HM.out
     replace HL := Lib.hid (HL.out.ext hyA no_no)
     replace HM := Lib.hid (hyA.blk HM.out no_no)
     have HR := Lib.hid hrb.out
     replace HE := Lib.hid (HE.out.transNo hyA)
     clear hyA hrb
     try simp only [Act.put, nzA, nzB, nzC]
     refine held_call (i := 3) rfl (by kernel_rfl) rfl (fun K hK => ?_)
     go_simp
     refine hK.out _ _ ?_ ?_
     ·exact HE.out.alloc _
     clear hK K hHeld
     intro hHeld
     have hy := (Ext.refl No v3).alloc (.cells (rowF S.deps.length (fun _ => .int .i64 0)) 3)
     have hsz4 := HE.out.size
     have lbl4 := lt_of_block HL.out
     have lbm4 := lt_of_block HM.out
     have lbo4 := lt_of_block HR.out
     replace HL := Lib.hid (HL.out.ext hy no_no)
     replace HM := Lib.hid (hy.blk HM.out no_no)
     replace HR := Lib.hid (HR.out.ext hy no_no)
     have HI := Lib.hid (blk_made (w := v3) (n := S.deps.length) (f := fun _ => .int .i64 0) (T := 3))
     replace HE := Lib.hid (HE.out.transNo hy)
     clear hy
     generalize (v3.alloc (.cells (rowF S.deps.length (fun _ => .int .i64 0)) 3)) = v4 at *
     generalize v3.heap.size = bi at *
     try simp only [Act.put, nzA, nzB, nzC]
     refine hTk (i := 9) (v := ?_) hHeld (fun w hSw => ?_) ?_
     rotate_left
     ·go_simp; (try with_reducible rfl)
     try simp only [Act.put, nzA, nzB, nzC]
     refine held_call (i := 10) rfl (by kernel_rfl) rfl (fun K hK => ?_)
     go_simp
     refine hK.out _ _ ?_ ?_
     ·exact HE.out.alloc _
     clear hK K hHeld
     intro hHeld
     have hy := (Ext.refl No v4).alloc (.cells #[.slice ad S.deps.length cd, .slice (some ⟨bi, 0, none⟩) S.deps.length S.deps.length, .slice (some ⟨bl, 0, none⟩) S.deps.length S.deps.length, .slice none 0 0, .slice (some ⟨bo, 0, none⟩) S.deps.length S.deps.length, .int .i64 0] 123)
     have hsz5 := HE.out.size
     have lbl5 := lt_of_block HL.out
     have lbm5 := lt_of_block HM.out
     have lbo5 := lt_of_block HR.out
     have lbi5 := lt_of_block HI.out
     replace HL := Lib.hid (HL.out.ext hy no_no)
     replace HM := Lib.hid (hy.blk HM.out no_no)
     replace HR := Lib.hid (HR.out.ext hy no_no)
     replace HI := Lib.hid (HI.out.ext hy no_no)
     have HBX := Lib.hid (alloc_top (w := v4) (o := (.cells #[.slice ad S.deps.length cd, .slice (some ⟨bi, 0, none⟩) S.deps.length S.deps.length, .slice (some ⟨bl, 0, none⟩) S.deps.length S.deps.length, .slice none 0 0, .slice (some ⟨bo, 0, none⟩) S.deps.length S.deps.length, .int .i64 0] 123)) rfl)
     replace HE := Lib.hid (HE.out.transNo hy)
     clear hy
     generalize (v4.alloc (.cells #[.slice ad S.deps.length cd, .slice (some ⟨bi, 0, none⟩) S.deps.length S.deps.length, .slice (some ⟨bl, 0, none⟩) S.deps.length S.deps.length, .slice none 0 0, .slice (some ⟨bo, 0, none⟩) S.deps.length S.deps.length, .int .i64 0] 123)) = v5 at *
     generalize v4.heap.size = X at *
     try simp only [Act.put, nzA, nzB, nzC]
     refine hTk (i := 11) (v := ?_) hHeld (fun w hSw => ?_) ?_
     rotate_left
     ·go_simp; (try with_reducible rfl)
     try simp only [Act.put, nzA, nzB, nzC]
     refine wpAnyH_done (by kernel_rfl) ?_ _
     go_wp2_with fail
     go_meet
     have hlX := lt_of_block HBX.out
     exact ⟨X, v5.heap.size, bi, bl, bo, rfl, Lib.hid ⟨HE.out.trans2 (Ext.refl No _) (fun _ _ e => e.elim) |>.trans2 (Ext.refl No _) (fun _ _ e => e.elim) |> fun h => (Ext.refl (fun b => V.heap.size ≤ b) V).trans2 h (fun _ _ e => e.elim), HBX.out, HI.out, HL.out, HR.out, World.ownsRow_nil _ _ _ _, ⟨⟨by omega, by omega, by omega, by omega⟩, hlX, by omega, by omega, by omega⟩, ⟨⟨by omega, by omega, by omega⟩, by omega, by omega, by omega⟩, Nat.le_refl _⟩⟩
  ·go_simp
   refine hK.out _ _ ?_ ?_
   ·exact HE.out.alloc _
   clear hK K hHeld
   intro hHeld
   have hy := (Ext.refl No v0).alloc (.cells #[.int .i64 (-1)] 3)
   have hsz1 := HE.out.size
   have HM := Lib.hid (alloc_top (w := v0) (o := (.cells #[.int .i64 (-1)] 3)) rfl)
   replace HE := Lib.hid (HE.out.transNo hy)
   clear hy
   generalize (v0.alloc (.cells #[.int .i64 (-1)] 3)) = v1 at *
   generalize v0.heap.size = bm at *
   try simp only [Act.put, nzA, nzB, nzC]
   refine held_next3 (i := 3) (j := 5) (k := 8) (by kernel_rfl) (NextOp.mk rfl rfl (fun K hK => ?_)) (NextOp.mk rfl rfl (fun K hK => ?_)) (NextOp.mk rfl rfl (fun K hK => ?_))
   ·go_simp
    refine hK.out _ _ ?_ ?_
    ·exact HE.out.alloc _
    clear hK K hHeld
    intro hHeld
    have hy := (Ext.refl No v1).alloc (.cells (rowF S.deps.length (fun _ => .int .i64 0)) 3)
    have hsz2 := HE.out.size
    have lbm2 := lt_of_block HM.out
    replace HM := Lib.hid (hy.blk HM.out no_no)
    have HI := Lib.hid (blk_made (w := v1) (n := S.deps.length) (f := fun _ => .int .i64 0) (T := 3))
    replace HE := Lib.hid (HE.out.transNo hy)
    clear hy
    generalize (v1.alloc (.cells (rowF S.deps.length (fun _ => .int .i64 0)) 3)) = v2 at *
    generalize v1.heap.size = bi at *
    try simp only [Act.put, nzA, nzB, nzC]
    refine held_next2 (i := 5) (j := 8) (by kernel_rfl) (NextOp.mk rfl rfl (fun K hK => ?_)) (NextOp.mk rfl rfl (fun K hK => ?_))
    ·go_simp
     refine hK.out _ _ ?_ ?_
     ·exact HE.out.alloc _
     clear hK K hHeld
     intro hHeld
     have hy := (Ext.refl No v2).alloc (.cells (rowF S.deps.length (fun _ => .int .i64 0)) 3)
     have hsz3 := HE.out.size
     have lbm3 := lt_of_block HM.out
     have lbi3 := lt_of_block HI.out
     replace HM := Lib.hid (hy.blk HM.out no_no)
     replace HI := Lib.hid (HI.out.ext hy no_no)
     have HL := Lib.hid (blk_made (w := v2) (n := S.deps.length) (f := fun _ => .int .i64 0) (T := 3))
     replace HE := Lib.hid (HE.out.transNo hy)
     clear hy
     generalize (v2.alloc (.cells (rowF S.deps.length (fun _ => .int .i64 0)) 3)) = v3 at *
     generalize v2.heap.size = bl at *
     try simp only [Act.put, nzA, nzB, nzC]
     refine held_call (i := 8) rfl (by kernel_rfl) rfl (fun K hK => ?_)
     (go_simp; (go_at_call 118); (refine (repeat_any S.deps.length bm (-1) _ hn1 hnn HM.out).mono ?_); (rintro e9 v4 ⟨bo, rfl, hbo, hrb, hyA⟩); go_simp)
     refine hK.out _ _ ?_ ?_
     ·exact HE.out.transNo hyA
     clear hK K hHeld
     intro hHeld
     have lbm4 := lt_of_block HM.out
     have lbi4 := lt_of_block HI.out
     have lbl4 := lt_of_block HL.out
     replace HM := Lib.hid (hyA.blk HM.out no_no)
     replace HI := Lib.hid (HI.out.ext hyA no_no)
     replace HL := Lib.hid (HL.out.ext hyA no_no)
     have HR := Lib.hid hrb.out
     replace HE := Lib.hid (HE.out.transNo hyA)
     clear hyA hrb
     try simp only [Act.put, nzA, nzB, nzC]
     refine hTk (i := 9) (v := ?_) hHeld (fun w hSw => ?_) ?_
     rotate_left
     ·go_simp; (try with_reducible rfl)
     try simp only [Act.put, nzA, nzB, nzC]
     refine held_call (i := 10) rfl (by kernel_rfl) rfl (fun K hK => ?_)
     go_simp
     refine hK.out _ _ ?_ ?_
     ·exact HE.out.alloc _
     clear hK K hHeld
     intro hHeld
     have hy := (Ext.refl No v4).alloc (.cells #[.slice ad S.deps.length cd, .slice (some ⟨bi, 0, none⟩) S.deps.length S.deps.length, .slice (some ⟨bl, 0, none⟩) S.deps.length S.deps.length, .slice none 0 0, .slice (some ⟨bo, 0, none⟩) S.deps.length S.deps.length, .int .i64 0] 123)
     have hsz5 := HE.out.size
     have lbm5 := lt_of_block HM.out
     have lbi5 := lt_of_block HI.out
     have lbl5 := lt_of_block HL.out
     have lbo5 := lt_of_block HR.out
     replace HM := Lib.hid (hy.blk HM.out no_no)
     replace HI := Lib.hid (HI.out.ext hy no_no)
     replace HL := Lib.hid (HL.out.ext hy no_no)
     replace HR := Lib.hid (HR.out.ext hy no_no)
     have HBX := Lib.hid (alloc_top (w := v4) (o := (.cells #[.slice ad S.deps.length cd, .slice (some ⟨bi, 0, none⟩) S.deps.length S.deps.length, .slice (some ⟨bl, 0, none⟩) S.deps.length S.deps.length, .slice none 0 0, .slice (some ⟨bo, 0, none⟩) S.deps.length S.deps.length, .int .i64 0] 123)) rfl)
     replace HE := Lib.hid (HE.out.transNo hy)
     clear hy
     generalize (v4.alloc (.cells #[.slice ad S.deps.length cd, .slice (some ⟨bi, 0, none⟩) S.deps.length S.deps.length, .slice (some ⟨bl, 0, none⟩) S.deps.length S.deps.length, .slice none 0 0, .slice (some ⟨bo, 0, none⟩) S.deps.length S.deps.length, .int .i64 0] 123)) = v5 at *
     generalize v4.heap.size = X at *
     try simp only [Act.put, nzA, nzB, nzC]
     refine hTk (i := 11) (v := ?_) hHeld (fun w hSw => ?_) ?_
     rotate_left
     ·go_simp; (try with_reducible rfl)
     try simp only [Act.put, nzA, nzB, nzC]
     refine wpAnyH_done (by kernel_rfl) ?_ _
     go_wp2_with fail
     go_meet
     have hlX := lt_of_block HBX.out
     exact ⟨X, v5.heap.size, bi, bl, bo, rfl, Lib.hid ⟨HE.out.trans2 (Ext.refl No _) (fun _ _ e => e.elim) |>.trans2 (Ext.refl No _) (fun _ _ e => e.elim) |> fun h => (Ext.refl (fun b => V.heap.size ≤ b) V).trans2 h (fun _ _ e => e.elim), HBX.out, HI.out, HL.out, HR.out, World.ownsRow_nil _ _ _ _, ⟨⟨by omega, by omega, by omega, by omega⟩, hlX, by omega, by omega, by omega⟩, ⟨⟨by omega, by omega, by omega⟩, by omega, by omega, by omega⟩, Nat.le_refl _⟩⟩
    ·(go_simp; (go_at_call 118); (refine (repeat_any S.deps.length bm (-1) _ hn1 hnn HM.out).mono ?_); (rintro e9 v3 ⟨bo, rfl, hbo, hrb, hyA⟩); go_simp)
     refine hK.out _ _ ?_ ?_
     ·exact HE.out.transNo hyA
     clear hK K hHeld
     intro hHeld
     have lbm3 := lt_of_block HM.out
     have lbi3 := lt_of_block HI.out
     replace HM := Lib.hid (hyA.blk HM.out no_no)
     replace HI := Lib.hid (HI.out.ext hyA no_no)
     have HR := Lib.hid hrb.out
     replace HE := Lib.hid (HE.out.transNo hyA)
     clear hyA hrb
     try simp only [Act.put, nzA, nzB, nzC]
     refine held_call (i := 5) rfl (by kernel_rfl) rfl (fun K hK => ?_)
     go_simp
     refine hK.out _ _ ?_ ?_
     ·exact HE.out.alloc _
     clear hK K hHeld
     intro hHeld
     have hy := (Ext.refl No v3).alloc (.cells (rowF S.deps.length (fun _ => .int .i64 0)) 3)
     have hsz4 := HE.out.size
     have lbm4 := lt_of_block HM.out
     have lbi4 := lt_of_block HI.out
     have lbo4 := lt_of_block HR.out
     replace HM := Lib.hid (hy.blk HM.out no_no)
     replace HI := Lib.hid (HI.out.ext hy no_no)
     replace HR := Lib.hid (HR.out.ext hy no_no)
     have HL := Lib.hid (blk_made (w := v3) (n := S.deps.length) (f := fun _ => .int .i64 0) (T := 3))
     replace HE := Lib.hid (HE.out.transNo hy)
     clear hy
     generalize (v3.alloc (.cells (rowF S.deps.length (fun _ => .int .i64 0)) 3)) = v4 at *
     generalize v3.heap.size = bl at *
     try simp only [Act.put, nzA, nzB, nzC]
     refine hTk (i := 9) (v := ?_) hHeld (fun w hSw => ?_) ?_
     rotate_left
     ·go_simp; (try with_reducible rfl)
     try simp only [Act.put, nzA, nzB, nzC]
     refine held_call (i := 10) rfl (by kernel_rfl) rfl (fun K hK => ?_)
     go_simp
     refine hK.out _ _ ?_ ?_
     ·exact HE.out.alloc _
     clear hK K hHeld
     intro hHeld
     have hy := (Ext.refl No v4).alloc (.cells #[.slice ad S.deps.length cd, .slice (some ⟨bi, 0, none⟩) S.deps.length S.deps.length, .slice (some ⟨bl, 0, none⟩) S.deps.length S.deps.length, .slice none 0 0, .slice (some ⟨bo, 0, none⟩) S.deps.length S.deps.length, .int .i64 0] 123)
     have hsz5 := HE.out.size
     have lbm5 := lt_of_block HM.out
     have lbi5 := lt_of_block HI.out
     have lbo5 := lt_of_block HR.out
     have lbl5 := lt_of_block HL.out
     replace HM := Lib.hid (hy.blk HM.out no_no)
     replace HI := Lib.hid (HI.out.ext hy no_no)
     replace HR := Lib.hid (HR.out.ext hy no_no)
     replace HL := Lib.hid (HL.out.ext hy no_no)
     have HBX := Lib.hid (alloc_top (w := v4) (o := (.cells #[.slice ad S.deps.length cd, .slice (some ⟨bi, 0, none⟩) S.deps.length S.deps.length, .slice (some ⟨bl, 0, none⟩) S.deps.length S.deps.length, .slice none 0 0, .slice (some ⟨bo, 0, none⟩) S.deps.length S.deps.length, .int .i64 0] 123)) rfl)
     replace HE := Lib.hid (HE.out.transNo hy)
     clear hy
     generalize (v4.alloc (.cells #[.slice ad S.deps.length cd, .slice (some ⟨bi, 0, none⟩) S.deps.length S.deps.length, .slice (some ⟨bl, 0, none⟩) S.deps.length S.deps.length, .slice none 0 0, .slice (some ⟨bo, 0, none⟩) S.deps.length S.deps.length, .int .i64 0] 123)) = v5 at *
     generalize v4.heap.size = X at *
     try simp only [Act.put, nzA, nzB, nzC]
     refine hTk (i := 11) (v := ?_) hHeld (fun w hSw => ?_) ?_
     rotate_left
     ·go_simp; (try with_reducible rfl)
     try simp only [Act.put, nzA, nzB, nzC]
     refine wpAnyH_done (by kernel_rfl) ?_ _
     go_wp2_with fail
     go_meet
     have hlX := lt_of_block HBX.out
     exact ⟨X, v5.heap.size, bi, bl, bo, rfl, Lib.hid ⟨HE.out.trans2 (Ext.refl No _) (fun _ _ e => e.elim) |>.trans2 (Ext.refl No _) (fun _ _ e => e.elim) |> fun h => (Ext.refl (fun b => V.heap.size ≤ b) V).trans2 h (fun _ _ e => e.elim), HBX.out, HI.out, HL.out, HR.out, World.ownsRow_nil _ _ _ _, ⟨⟨by omega, by omega, by omega, by omega⟩, hlX, by omega, by omega, by omega⟩, ⟨⟨by omega, by omega, by omega⟩, by omega, by omega, by omega⟩, Nat.le_refl _⟩⟩
   ·go_simp
    refine hK.out _ _ ?_ ?_
    ·exact HE.out.alloc _
    clear hK K hHeld
    intro hHeld
    have hy := (Ext.refl No v1).alloc (.cells (rowF S.deps.length (fun _ => .int .i64 0)) 3)
    have hsz2 := HE.out.size
    have lbm2 := lt_of_block HM.out
    replace HM := Lib.hid (hy.blk HM.out no_no)
    have HL := Lib.hid (blk_made (w := v1) (n := S.deps.length) (f := fun _ => .int .i64 0) (T := 3))
    replace HE := Lib.hid (HE.out.transNo hy)
    clear hy
    generalize (v1.alloc (.cells (rowF S.deps.length (fun _ => .int .i64 0)) 3)) = v2 at *
    generalize v1.heap.size = bl at *
    try simp only [Act.put, nzA, nzB, nzC]
    refine held_next2 (i := 3) (j := 8) (by kernel_rfl) (NextOp.mk rfl rfl (fun K hK => ?_)) (NextOp.mk rfl rfl (fun K hK => ?_))
    ·go_simp
     refine hK.out _ _ ?_ ?_
     ·exact HE.out.alloc _
     clear hK K hHeld
     intro hHeld
     have hy := (Ext.refl No v2).alloc (.cells (rowF S.deps.length (fun _ => .int .i64 0)) 3)
     have hsz3 := HE.out.size
     have lbm3 := lt_of_block HM.out
     have lbl3 := lt_of_block HL.out
     replace HM := Lib.hid (hy.blk HM.out no_no)
     replace HL := Lib.hid (HL.out.ext hy no_no)
     have HI := Lib.hid (blk_made (w := v2) (n := S.deps.length) (f := fun _ => .int .i64 0) (T := 3))
     replace HE := Lib.hid (HE.out.transNo hy)
     clear hy
     generalize (v2.alloc (.cells (rowF S.deps.length (fun _ => .int .i64 0)) 3)) = v3 at *
     generalize v2.heap.size = bi at *
     try simp only [Act.put, nzA, nzB, nzC]
     refine held_call (i := 8) rfl (by kernel_rfl) rfl (fun K hK => ?_)
     (go_simp; (go_at_call 118); (refine (repeat_any S.deps.length bm (-1) _ hn1 hnn HM.out).mono ?_); (rintro e9 v4 ⟨bo, rfl, hbo, hrb, hyA⟩); go_simp)
     refine hK.out _ _ ?_ ?_
     ·exact HE.out.transNo hyA
     clear hK K hHeld
     intro hHeld
     have lbm4 := lt_of_block HM.out
     have lbl4 := lt_of_block HL.out
     have lbi4 := lt_of_block HI.out
     replace HM := Lib.hid (hyA.blk HM.out no_no)
     replace HL := Lib.hid (HL.out.ext hyA no_no)
     replace HI := Lib.hid (HI.out.ext hyA no_no)
     have HR := Lib.hid hrb.out
     replace HE := Lib.hid (HE.out.transNo hyA)
     clear hyA hrb
     try simp only [Act.put, nzA, nzB, nzC]
     refine hTk (i := 9) (v := ?_) hHeld (fun w hSw => ?_) ?_
     rotate_left
     ·go_simp; (try with_reducible rfl)
     try simp only [Act.put, nzA, nzB, nzC]
     refine held_call (i := 10) rfl (by kernel_rfl) rfl (fun K hK => ?_)
     go_simp
     refine hK.out _ _ ?_ ?_
     ·exact HE.out.alloc _
     clear hK K hHeld
     intro hHeld
     have hy := (Ext.refl No v4).alloc (.cells #[.slice ad S.deps.length cd, .slice (some ⟨bi, 0, none⟩) S.deps.length S.deps.length, .slice (some ⟨bl, 0, none⟩) S.deps.length S.deps.length, .slice none 0 0, .slice (some ⟨bo, 0, none⟩) S.deps.length S.deps.length, .int .i64 0] 123)
     have hsz5 := HE.out.size
     have lbm5 := lt_of_block HM.out
     have lbl5 := lt_of_block HL.out
     have lbi5 := lt_of_block HI.out
     have lbo5 := lt_of_block HR.out
     replace HM := Lib.hid (hy.blk HM.out no_no)
     replace HL := Lib.hid (HL.out.ext hy no_no)
     replace HI := Lib.hid (HI.out.ext hy no_no)
     replace HR := Lib.hid (HR.out.ext hy no_no)
     have HBX := Lib.hid (alloc_top (w := v4) (o := (.cells #[.slice ad S.deps.length cd, .slice (some ⟨bi, 0, none⟩) S.deps.length S.deps.length, .slice (some ⟨bl, 0, none⟩) S.deps.length S.deps.length, .slice none 0 0, .slice (some ⟨bo, 0, none⟩) S.deps.length S.deps.length, .int .i64 0] 123)) rfl)
     replace HE := Lib.hid (HE.out.transNo hy)
     clear hy
     generalize (v4.alloc (.cells #[.slice ad S.deps.length cd, .slice (some ⟨bi, 0, none⟩) S.deps.length S.deps.length, .slice (some ⟨bl, 0, none⟩) S.deps.length S.deps.length, .slice none 0 0, .slice (some ⟨bo, 0, none⟩) S.deps.length S.deps.length, .int .i64 0] 123)) = v5 at *
     generalize v4.heap.size = X at *
     try simp only [Act.put, nzA, nzB, nzC]
     refine hTk (i := 11) (v := ?_) hHeld (fun w hSw => ?_) ?_
     rotate_left
     ·go_simp; (try with_reducible rfl)
     try simp only [Act.put, nzA, nzB, nzC]
     refine wpAnyH_done (by kernel_rfl) ?_ _
     go_wp2_with fail
     go_meet
     have hlX := lt_of_block HBX.out
     exact ⟨X, v5.heap.size, bi, bl, bo, rfl, Lib.hid ⟨HE.out.trans2 (Ext.refl No _) (fun _ _ e => e.elim) |>.trans2 (Ext.refl No _) (fun _ _ e => e.elim) |> fun h => (Ext.refl (fun b => V.heap.size ≤ b) V).trans2 h (fun _ _ e => e.elim), HBX.out, HI.out, HL.out, HR.out, World.ownsRow_nil _ _ _ _, ⟨⟨by omega, by omega, by omega, by omega⟩, hlX, by omega, by omega, by omega⟩, ⟨⟨by omega, by omega, by omega⟩, by omega, by omega, by omega⟩, Nat.le_refl _⟩⟩
    ·(go_simp; (go_at_call 118); (refine (repeat_any S.deps.length bm (-1) _ hn1 hnn HM.out).mono ?_); (rintro e9 v3 ⟨bo, rfl, hbo, hrb, hyA⟩); go_simp)
     refine hK.out _ _ ?_ ?_
     ·exact HE.out.transNo hyA
     clear hK K hHeld
     intro hHeld
     have lbm3 := lt_of_block HM.out
     have lbl3 := lt_of_block HL.out
     replace HM := Lib.hid (hyA.blk HM.out no_no)
     replace HL := Lib.hid (HL.out.ext hyA no_no)
     have HR := Lib.hid hrb.out
     replace HE := Lib.hid (HE.out.transNo hyA)
     clear hyA hrb
     try simp only [Act.put, nzA, nzB, nzC]
     refine held_call (i := 3) rfl (by kernel_rfl) rfl (fun K hK => ?_)
     go_simp
     refine hK.out _ _ ?_ ?_
     ·exact HE.out.alloc _
     clear hK K hHeld
     intro hHeld
     have hy := (Ext.refl No v3).alloc (.cells (rowF S.deps.length (fun _ => .int .i64 0)) 3)
     have hsz4 := HE.out.size
     have lbm4 := lt_of_block HM.out
     have lbl4 := lt_of_block HL.out
     have lbo4 := lt_of_block HR.out
     replace HM := Lib.hid (hy.blk HM.out no_no)
     replace HL := Lib.hid (HL.out.ext hy no_no)
     replace HR := Lib.hid (HR.out.ext hy no_no)
     have HI := Lib.hid (blk_made (w := v3) (n := S.deps.length) (f := fun _ => .int .i64 0) (T := 3))
     replace HE := Lib.hid (HE.out.transNo hy)
     clear hy
     generalize (v3.alloc (.cells (rowF S.deps.length (fun _ => .int .i64 0)) 3)) = v4 at *
     generalize v3.heap.size = bi at *
     try simp only [Act.put, nzA, nzB, nzC]
     refine hTk (i := 9) (v := ?_) hHeld (fun w hSw => ?_) ?_
     rotate_left
     ·go_simp; (try with_reducible rfl)
     try simp only [Act.put, nzA, nzB, nzC]
     refine held_call (i := 10) rfl (by kernel_rfl) rfl (fun K hK => ?_)
     go_simp
     refine hK.out _ _ ?_ ?_
     ·exact HE.out.alloc _
     clear hK K hHeld
     intro hHeld
     have hy := (Ext.refl No v4).alloc (.cells #[.slice ad S.deps.length cd, .slice (some ⟨bi, 0, none⟩) S.deps.length S.deps.length, .slice (some ⟨bl, 0, none⟩) S.deps.length S.deps.length, .slice none 0 0, .slice (some ⟨bo, 0, none⟩) S.deps.length S.deps.length, .int .i64 0] 123)
     have hsz5 := HE.out.size
     have lbm5 := lt_of_block HM.out
     have lbl5 := lt_of_block HL.out
     have lbo5 := lt_of_block HR.out
     have lbi5 := lt_of_block HI.out
     replace HM := Lib.hid (hy.blk HM.out no_no)
     replace HL := Lib.hid (HL.out.ext hy no_no)
     replace HR := Lib.hid (HR.out.ext hy no_no)
     replace HI := Lib.hid (HI.out.ext hy no_no)
     have HBX := Lib.hid (alloc_top (w := v4) (o := (.cells #[.slice ad S.deps.length cd, .slice (some ⟨bi, 0, none⟩) S.deps.length S.deps.length, .slice (some ⟨bl, 0, none⟩) S.deps.length S.deps.length, .slice none 0 0, .slice (some ⟨bo, 0, none⟩) S.deps.length S.deps.length, .int .i64 0] 123)) rfl)
     replace HE := Lib.hid (HE.out.transNo hy)
     clear hy
     generalize (v4.alloc (.cells #[.slice ad S.deps.length cd, .slice (some ⟨bi, 0, none⟩) S.deps.length S.deps.length, .slice (some ⟨bl, 0, none⟩) S.deps.length S.deps.length, .slice none 0 0, .slice (some ⟨bo, 0, none⟩) S.deps.length S.deps.length, .int .i64 0] 123)) = v5 at *
     generalize v4.heap.size = X at *
     try simp only [Act.put, nzA, nzB, nzC]
     refine hTk (i := 11) (v := ?_) hHeld (fun w hSw => ?_) ?_
     rotate_left
     ·go_simp; (try with_reducible rfl)
     try simp only [Act.put, nzA, nzB, nzC]
     refine wpAnyH_done (by kernel_rfl) ?_ _
     go_wp2_with fail
     go_meet
     have hlX := lt_of_block HBX.out
     exact ⟨X, v5.heap.size, bi, bl, bo, rfl, Lib.hid ⟨HE.out.trans2 (Ext.refl No _) (fun _ _ e => e.elim) |>.trans2 (Ext.refl No _) (fun _ _ e => e.elim) |> fun h => (Ext.refl (fun b => V.heap.size ≤ b) V).trans2 h (fun _ _ e => e.elim), HBX.out, HI.out, HL.out, HR.out, World.ownsRow_nil _ _ _ _, ⟨⟨by omega, by omega, by omega, by omega⟩, hlX, by omega, by omega, by omega⟩, ⟨⟨by omega, by omega, by omega⟩, by omega, by omega, by omega⟩, Nat.le_refl _⟩⟩
   ·(go_simp; (go_at_call 118); (refine (repeat_any S.deps.length bm (-1) _ hn1 hnn HM.out).mono ?_); (rintro e9 v2 ⟨bo, rfl, hbo, hrb, hyA⟩); go_simp)
    refine hK.out _ _ ?_ ?_
    ·exact HE.out.transNo hyA
    clear hK K hHeld
    intro hHeld
    have lbm2 := lt_of_block HM.out
    replace HM := Lib.hid (hyA.blk HM.out no_no)
    have HR := Lib.hid hrb.out
    replace HE := Lib.hid (HE.out.transNo hyA)
    clear hyA hrb
    try simp only [Act.put, nzA, nzB, nzC]
    refine held_next2 (i := 3) (j := 5) (by kernel_rfl) (NextOp.mk rfl rfl (fun K hK => ?_)) (NextOp.mk rfl rfl (fun K hK => ?_))
    ·go_simp
     refine hK.out _ _ ?_ ?_
     ·exact HE.out.alloc _
     clear hK K hHeld
     intro hHeld
     have hy := (Ext.refl No v2).alloc (.cells (rowF S.deps.length (fun _ => .int .i64 0)) 3)
     have hsz3 := HE.out.size
     have lbm3 := lt_of_block HM.out
     have lbo3 := lt_of_block HR.out
     replace HM := Lib.hid (hy.blk HM.out no_no)
     replace HR := Lib.hid (HR.out.ext hy no_no)
     have HI := Lib.hid (blk_made (w := v2) (n := S.deps.length) (f := fun _ => .int .i64 0) (T := 3))
     replace HE := Lib.hid (HE.out.transNo hy)
     clear hy
     generalize (v2.alloc (.cells (rowF S.deps.length (fun _ => .int .i64 0)) 3)) = v3 at *
     generalize v2.heap.size = bi at *
     try simp only [Act.put, nzA, nzB, nzC]
     refine held_call (i := 5) rfl (by kernel_rfl) rfl (fun K hK => ?_)
     go_simp
     refine hK.out _ _ ?_ ?_
     ·exact HE.out.alloc _
     clear hK K hHeld
     intro hHeld
     have hy := (Ext.refl No v3).alloc (.cells (rowF S.deps.length (fun _ => .int .i64 0)) 3)
     have hsz4 := HE.out.size
     have lbm4 := lt_of_block HM.out
     have lbo4 := lt_of_block HR.out
     have lbi4 := lt_of_block HI.out
     replace HM := Lib.hid (hy.blk HM.out no_no)
     replace HR := Lib.hid (HR.out.ext hy no_no)
     replace HI := Lib.hid (HI.out.ext hy no_no)
     have HL := Lib.hid (blk_made (w := v3) (n := S.deps.length) (f := fun _ => .int .i64 0) (T := 3))
     replace HE := Lib.hid (HE.out.transNo hy)
     clear hy
     generalize (v3.alloc (.cells (rowF S.deps.length (fun _ => .int .i64 0)) 3)) = v4 at *
     generalize v3.heap.size = bl at *
     try simp only [Act.put, nzA, nzB, nzC]
     refine hTk (i := 9) (v := ?_) hHeld (fun w hSw => ?_) ?_
     rotate_left
     ·go_simp; (try with_reducible rfl)
     try simp only [Act.put, nzA, nzB, nzC]
     refine held_call (i := 10) rfl (by kernel_rfl) rfl (fun K hK => ?_)
     go_simp
     refine hK.out _ _ ?_ ?_
     ·exact HE.out.alloc _
     clear hK K hHeld
     intro hHeld
     have hy := (Ext.refl No v4).alloc (.cells #[.slice ad S.deps.length cd, .slice (some ⟨bi, 0, none⟩) S.deps.length S.deps.length, .slice (some ⟨bl, 0, none⟩) S.deps.length S.deps.length, .slice none 0 0, .slice (some ⟨bo, 0, none⟩) S.deps.length S.deps.length, .int .i64 0] 123)
     have hsz5 := HE.out.size
     have lbm5 := lt_of_block HM.out
     have lbo5 := lt_of_block HR.out
     have lbi5 := lt_of_block HI.out
     have lbl5 := lt_of_block HL.out
     replace HM := Lib.hid (hy.blk HM.out no_no)
     replace HR := Lib.hid (HR.out.ext hy no_no)
     replace HI := Lib.hid (HI.out.ext hy no_no)
     replace HL := Lib.hid (HL.out.ext hy no_no)
     have HBX := Lib.hid (alloc_top (w := v4) (o := (.cells #[.slice ad S.deps.length cd, .slice (some ⟨bi, 0, none⟩) S.deps.length S.deps.length, .slice (some ⟨bl, 0, none⟩) S.deps.length S.deps.length, .slice none 0 0, .slice (some ⟨bo, 0, none⟩) S.deps.length S.deps.length, .int .i64 0] 123)) rfl)
     replace HE := Lib.hid (HE.out.transNo hy)
     clear hy
     generalize (v4.alloc (.cells #[.slice ad S.deps.length cd, .slice (some ⟨bi, 0, none⟩) S.deps.length S.deps.length, .slice (some ⟨bl, 0, none⟩) S.deps.length S.deps.length, .slice none 0 0, .slice (some ⟨bo, 0, none⟩) S.deps.length S.deps.length, .int .i64 0] 123)) = v5 at *
     generalize v4.heap.size = X at *
     try simp only [Act.put, nzA, nzB, nzC]
     refine hTk (i := 11) (v := ?_) hHeld (fun w hSw => ?_) ?_
     rotate_left
     ·go_simp; (try with_reducible rfl)
     try simp only [Act.put, nzA, nzB, nzC]
     refine wpAnyH_done (by kernel_rfl) ?_ _
     go_wp2_with fail
     go_meet
     have hlX := lt_of_block HBX.out
     exact ⟨X, v5.heap.size, bi, bl, bo, rfl, Lib.hid ⟨HE.out.trans2 (Ext.refl No _) (fun _ _ e => e.elim) |>.trans2 (Ext.refl No _) (fun _ _ e => e.elim) |> fun h => (Ext.refl (fun b => V.heap.size ≤ b) V).trans2 h (fun _ _ e => e.elim), HBX.out, HI.out, HL.out, HR.out, World.ownsRow_nil _ _ _ _, ⟨⟨by omega, by omega, by omega, by omega⟩, hlX, by omega, by omega, by omega⟩, ⟨⟨by omega, by omega, by omega⟩, by omega, by omega, by omega⟩, Nat.le_refl _⟩⟩
    ·go_simp
     refine hK.out _ _ ?_ ?_
     ·exact HE.out.alloc _
     clear hK K hHeld
     intro hHeld
     have hy := (Ext.refl No v2).alloc (.cells (rowF S.deps.length (fun _ => .int .i64 0)) 3)
     have hsz3 := HE.out.size
     have lbm3 := lt_of_block HM.out
     have lbo3 := lt_of_block HR.out
     replace HM := Lib.hid (hy.blk HM.out no_no)
     replace HR := Lib.hid (HR.out.ext hy no_no)
     have HL := Lib.hid (blk_made (w := v2) (n := S.deps.length) (f := fun _ => .int .i64 0) (T := 3))
     replace HE := Lib.hid (HE.out.transNo hy)
     clear hy
     generalize (v2.alloc (.cells (rowF S.deps.length (fun _ => .int .i64 0)) 3)) = v3 at *
     generalize v2.heap.size = bl at *
     try simp only [Act.put, nzA, nzB, nzC]
     refine held_call (i := 3) rfl (by kernel_rfl) rfl (fun K hK => ?_)
     go_simp
     refine hK.out _ _ ?_ ?_
     ·exact HE.out.alloc _
     clear hK K hHeld
     intro hHeld
     have hy := (Ext.refl No v3).alloc (.cells (rowF S.deps.length (fun _ => .int .i64 0)) 3)
     have hsz4 := HE.out.size
     have lbm4 := lt_of_block HM.out
     have lbo4 := lt_of_block HR.out
     have lbl4 := lt_of_block HL.out
     replace HM := Lib.hid (hy.blk HM.out no_no)
     replace HR := Lib.hid (HR.out.ext hy no_no)
     replace HL := Lib.hid (HL.out.ext hy no_no)
     have HI := Lib.hid (blk_made (w := v3) (n := S.deps.length) (f := fun _ => .int .i64 0) (T := 3))
     replace HE := Lib.hid (HE.out.transNo hy)
     clear hy
     generalize (v3.alloc (.cells (rowF S.deps.length (fun _ => .int .i64 0)) 3)) = v4 at *
     generalize v3.heap.size = bi at *
     try simp only [Act.put, nzA, nzB, nzC]
     refine hTk (i := 9) (v := ?_) hHeld (fun w hSw => ?_) ?_
     rotate_left
     ·go_simp; (try with_reducible rfl)
     try simp only [Act.put, nzA, nzB, nzC]
     refine held_call (i := 10) rfl (by kernel_rfl) rfl (fun K hK => ?_)
     go_simp
     refine hK.out _ _ ?_ ?_
     ·exact HE.out.alloc _
     clear hK K hHeld
     intro hHeld
     have hy := (Ext.refl No v4).alloc (.cells #[.slice ad S.deps.length cd, .slice (some ⟨bi, 0, none⟩) S.deps.length S.deps.length, .slice (some ⟨bl, 0, none⟩) S.deps.length S.deps.length, .slice none 0 0, .slice (some ⟨bo, 0, none⟩) S.deps.length S.deps.length, .int .i64 0] 123)
     have hsz5 := HE.out.size
     have lbm5 := lt_of_block HM.out
     have lbo5 := lt_of_block HR.out
     have lbl5 := lt_of_block HL.out
     have lbi5 := lt_of_block HI.out
     replace HM := Lib.hid (hy.blk HM.out no_no)
     replace HR := Lib.hid (HR.out.ext hy no_no)
     replace HL := Lib.hid (HL.out.ext hy no_no)
     replace HI := Lib.hid (HI.out.ext hy no_no)
     have HBX := Lib.hid (alloc_top (w := v4) (o := (.cells #[.slice ad S.deps.length cd, .slice (some ⟨bi, 0, none⟩) S.deps.length S.deps.length, .slice (some ⟨bl, 0, none⟩) S.deps.length S.deps.length, .slice none 0 0, .slice (some ⟨bo, 0, none⟩) S.deps.length S.deps.length, .int .i64 0] 123)) rfl)
     replace HE := Lib.hid (HE.out.transNo hy)
     clear hy
     generalize (v4.alloc (.cells #[.slice ad S.deps.length cd, .slice (some ⟨bi, 0, none⟩) S.deps.length S.deps.length, .slice (some ⟨bl, 0, none⟩) S.deps.length S.deps.length, .slice none 0 0, .slice (some ⟨bo, 0, none⟩) S.deps.length S.deps.length, .int .i64 0] 123)) = v5 at *
     generalize v4.heap.size = X at *
     try simp only [Act.put, nzA, nzB, nzC]
     refine hTk (i := 11) (v := ?_) hHeld (fun w hSw => ?_) ?_
     rotate_left
     ·go_simp; (try with_reducible rfl)
     try simp only [Act.put, nzA, nzB, nzC]
     refine wpAnyH_done (by kernel_rfl) ?_ _
     go_wp2_with fail
     go_meet
     have hlX := lt_of_block HBX.out
     exact ⟨X, v5.heap.size, bi, bl, bo, rfl, Lib.hid ⟨HE.out.trans2 (Ext.refl No _) (fun _ _ e => e.elim) |>.trans2 (Ext.refl No _) (fun _ _ e => e.elim) |> fun h => (Ext.refl (fun b => V.heap.size ≤ b) V).trans2 h (fun _ _ e => e.elim), HBX.out, HI.out, HL.out, HR.out, World.ownsRow_nil _ _ _ _, ⟨⟨by omega, by omega, by omega, by omega⟩, hlX, by omega, by omega, by omega⟩, ⟨⟨by omega, by omega, by omega⟩, by omega, by omega, by omega⟩, Nat.le_refl _⟩⟩
 case rest =>
  obtain ⟨X, P, bi, bl, bo, rfl, hm0⟩ := hcut
  rename World => wq
  clear HA hmk
  have HSV := Lib.hid (show SysAt No V _ _ _ S from H.out.extNo HX.out)
  go_wp2_with fail
  go_loopw [6, 25] (fun _ i wr => ∃ (k : Nat) (s : TS) (vp : Value), i = .int .i64 k ∧ k ≤ S.deps.length ∧ Hid (TInv S.deps.length (depD S) (fun _ => False) s) ∧ Hid (SvM S.deps.length V.heap.size P X bi bl bo S.deps.length S.deps.length S.deps.length (.slice ad S.deps.length cd) V wr (vp) (s)) ∧ Hid (∀ x, x < k → s.idx x ≠ 0)) (fun _ i _ => S.deps.length - (intOf i).toNat)
  case atStart => exact ⟨0, Tj.init, _, rfl, Nat.zero_le _, Lib.hid (init_inv (whites_init _)), hm0, Lib.hid (fun x hx => absurd hx (Nat.not_lt_zero _))⟩
  case round =>
   clear hm0
   obtain ⟨k, s, vp, rfl, hk, hinv, hm, hvis⟩ := hrel
   rename World => wr
   have hX0 := cellOf hm.out.box
   by_cases hlt : k < S.deps.length
   ·have hlz : (k : Int) < (S.deps.length : Int) := by omega
    have hlz0 : (0 : Int) ≤ (k : Int) := by omega
    have HKK : Hid (Value.int .i64 ((k : Int) + 1) = .int .i64 ((k + 1 : Nat) : Int)) := Lib.hid (by rw [show ((k + 1 : Nat) : Int) = (k : Int) + 1 from by omega])
    have hi1 := hm.out.rI.cell hlt
    by_cases hw : s.idx k = 0
    ·have HW := Lib.hid hw
     rw [hw] at hi1
     clear hw
     go_wp2_with fail
     clear hX0 hi1
     refine (visit_any S V.heap.size P X bi bl bo S.deps.length S.deps.length S.deps.length _ _ _ V (Nat.le_refl _) HSV.out _ s k (fun _ => False) vp wr (Nat.le_refl _) ⟨hinv.out, HW.out, hlt, fun _ e => e.elim⟩ hm.out).mono ?_
     rintro e6 w6 ⟨v6, t6, vp6, rfl, hpost, hm6⟩
     have hv6 := Lib.hid (show ∀ x, x < k + 1 → t6.idx x ≠ 0 from fun x hx => by
      by_cases e : x = k
      ·subst e; exact hpost.out.seen
      ·have := hvis.out x (by omega)
       rw [hpost.out.idx x this]; exact this)
     have hi6 := Lib.hid hpost.out.inv
     clear hm hvis hinv hpost
     go_wp2_with fail
     go_roundw
     case rel => exact ⟨k + 1, t6, vp6, HKK.out, by omega, hi6, hm6, hv6⟩
     case measure => simp [intOf]; omega
    ·have hi2 : ((s.idx k : Int) == 0) = false := by simp [hw]
     have hi3 : ¬ ((s.idx k : Int) = 0) := by omega
     have HW := Lib.hid hw
     clear hw
     go_wp2_with fail
     clear hX0 hi1
     go_roundw
     case rel => exact ⟨k + 1, s, vp, HKK.out, by omega, hinv, hm, Lib.hid (fun x hx => by
      by_cases e : x = k
      ·subst e; exact HW.out
      ·exact hvis.out x (by omega))⟩
     case measure => simp [intOf]; omega
   ·have hge : ¬ (k : Int) < (S.deps.length : Int) := by omega
    go_wp2_with fail
    refine ret_ex rfl ?_
    simp [results, Try.results74, go_sem]
    have hall := hinv.out.all (fun x hx => hvis.out x (by omega))
    have hlo := hm.out.lo
    have hsz := HX.out.size
    exact ⟨bo, s.out, rfl, by omega, Lib.hid hm.out.rO, Lib.hid hall.2, HX.out.trans2 hm.out.ext (fun i hi e => by omega)⟩
end Go.Proofs.Ytkdjdhflhlbelaa

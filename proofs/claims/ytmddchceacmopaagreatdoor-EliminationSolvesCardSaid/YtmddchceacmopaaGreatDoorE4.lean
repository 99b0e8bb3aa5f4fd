
import Derived.Test.YtmddchceacmopaaGreatDoorH1
import Derived.Test.YtmddchceacmopaaGreatDoorHeldL
import Derived.Test.YtmddchceacmopaaGreatDoorE2
set_option linter.unusedVariables false
set_option linter.unusedSimpArgs false
namespace Go.Proofs.YtmddchceacmopaaGreatDoor
open Go Go.RowKit
set_option maxRecDepth 100000 in
set_option maxHeartbeats 2000000 in
theorem eclone_any (w m : Nat) (sl : Value) (W : World) (h : SetAt No W sl w m) : Calls Tryz.prog 58 #[.agg #[.int .i64 (w : Int), sl]] W (SetPost (Lo W.heap.size) w m W) := by
 have H := Lib.hid h
 obtain ⟨a, c, rfl⟩ := h.slice
 clear h
 go_enter Tryz.func58, Tryz.ntmps58
 go_wp2_with fail
 have hx0 : Ext No W ((W.alloc (.cells #[.int .i64 (w : Int), .slice a (nw w) c] 44)).alloc (.cells #[.int .i64 0, .slice none 0 0] 44)) := ((Ext.refl _ _).alloc _).alloc _
 have HA := Lib.hid (show ((W.alloc (.cells #[.int .i64 (w : Int), .slice a (nw w) c] 44)).alloc (.cells #[.int .i64 0, .slice none 0 0] 44)).heap[W.heap.size]? = some (.cells #[.int .i64 (w : Int), .slice a (nw w) c] 44 (0, 0)) from alloc_under (alloc_top rfl))
 have HC := Lib.hid (show ((W.alloc (.cells #[.int .i64 (w : Int), .slice a (nw w) c] 44)).alloc (.cells #[.int .i64 0, .slice none 0 0] 44)).heap[W.heap.size + 1]? = some (.cells #[.int .i64 0, .slice none 0 0] 44 (0, 0)) from alloc_top (by simp))
 have hs0 := Lib.hid (H.out.extNo hx0)
 have HX := Lib.hid hx0
 clear hx0
 generalize ((W.alloc (.cells #[.int .i64 (w : Int), .slice a (nw w) c] 44)).alloc (.cells #[.int .i64 0, .slice none 0 0] 44)) = V at *
 have hVs := lt_of_block HC.out
 refine wp_region_heldL [6] (fun w' => Ext No V w') (by kernel_rfl) ?_ (fun hHeld => ?_)
 ·exact (Ext.refl _ _).drew
 have HE := Lib.hid (show Ext No V V.drew from (Ext.refl _ _).drew)
 generalize V.drew = v0 at *
 refine hHs [0] (hHl hHeld ?_)
 clear hHeld
 refine hFn ?_ (fun w => ?_) ?_
 rotate_left
 ·go_simp; (try with_reducible rfl)
 simp only [Act.put, nzA, nzB, nzC]
 refine hHe fun hHeld => ?_
 refine hHs [1] (hHl hHeld ?_)
 clear hHeld
 refine hHn ?_ (fun w hSw => ?_) ?_
 rotate_left
 ·(have q0 := cellOf ((show Ext No V _ from hSw).blk HA.out no_no)); go_simp; (try with_reducible rfl)
 simp only [Act.put, nzA, nzB, nzC]
 refine hHe fun hHeld => ?_
 refine hHs [2] (hHl hHeld ?_)
 clear hHeld
 refine hFn ?_ (fun w => ?_) ?_
 rotate_left
 ·go_simp; (try with_reducible rfl)
 simp only [Act.put, nzA, nzB, nzC]
 refine hHe fun hHeld => ?_
 refine hHs [3] (hHl hHeld ?_)
 clear hHeld
 refine hHn ?_ (fun w hSw => ?_) ?_
 rotate_left
 ·(have q0 := cellOf ((show Ext No V _ from hSw).blk HA.out no_no)); go_simp; (try with_reducible rfl)
 simp only [Act.put, nzA, nzB, nzC]
 refine hHe fun hHeld => ?_
 refine heldL_next1 (i := 4) (by kernel_rfl) (NextL.mk rfl rfl (fun K hK => ?_))
 (go_simp; (go_at_call 94); (refine (clone_set w m _ _ (hs0.out.extNo HE.out)).mono ?_); (rintro e1 v1 ⟨a1, c1, rfl, hs1, hyA⟩); go_simp)
 refine hK.out _ _ ?_ ?_
 ·intro _; exact HE.out.transNo hyA
 clear hK K hHeld
 intro hHeld
 have hsz1 := HE.out.size
 replace HE := Lib.hid (HE.out.transNo hyA)
 clear hyA
 try simp only [Act.put, nzA, nzB, nzC]
 refine hHs [5] (hHl hHeld ?_)
 clear hHeld
 refine hFn ?_ (fun w => ?_) ?_
 rotate_left
 ·go_simp; (try with_reducible rfl)
 simp only [Act.put, nzA, nzB, nzC]
 refine hHe fun hHeld => ?_
 refine heldL_next1 (i := 6) (by kernel_rfl) (NextL.mk rfl rfl (fun K hK => ?_))
 ((have hC2 := HE.out.blk HC.out no_no); (have cC := cellOf hC2); (have fC := freeOf hC2); go_simp; (clear cC fC hC2))
 refine hK.out _ _ ?_ ?_
 ·exact fun h => absurd h (by decide)
 clear hK K hHeld
 intro hHeld
 try simp only [Act.put, nzA, nzB, nzC]
 refine heldL_done (by kernel_rfl) ?_ _
 have hC2 := HE.out.blk HC.out no_no
 have hbF := (set_same (j := 1) (u := .slice a1 (nw w) c1) (set_same (j := 0) (u := .int .i64 (w : Int)) hC2)).trans rfl
 have hE2 : Ext (At (W.heap.size + 1)) v1 ((v1.setCell ⟨W.heap.size + 1, 0, none⟩ (.int .i64 (w : Int))).setCell ⟨W.heap.size + 1, 1, none⟩ (.slice a1 (nw w) c1)) := ext_two (Ext.refl No v1) (W.heap.size + 1)
 go_wp2_with fail
 generalize ((v1.setCell ⟨W.heap.size + 1, 0, none⟩ (.int .i64 (w : Int))).setCell ⟨W.heap.size + 1, 1, none⟩ (.slice a1 (nw w) c1)) = WF at *
 have cF := cellOf hbF
 refine ret_ex rfl ?_
 simp [results, Tryz.results58, go_sem, cF]
 have hxf := (HX.out.transNo HE.out).trans2 hE2 (fun i hi e => by unfold At at e; omega)
 exact ⟨a1, c1, rfl, Lib.hid ((((hs1.out.mono (M' := fun b => Lo W.heap.size b ∨ b = W.heap.size + 1) (fun i hi e => by unfold Lo at e ⊢; omega))).ext hE2 (fun i _ e => .inr e)).mono (fun i _ e => .inl e)), hxf⟩
end Go.Proofs.YtmddchceacmopaaGreatDoor

namespace Go.Proofs.YtmddchceacmopaaGreatDoor
open Go Go.RowKit
def ArcsAt (M : Nat → Prop) (W : World) (sl : Value) (S : SysD) (i : Nat) : Prop := ∃ L : LA, LAt kA M W sl L ∧ L.map cutA = arcsR S i
section
variable {M M' : Nat → Prop} {W W' : World} {vb vi sl : Value} {S : SysD} {i : Nat}
theorem ArcsAt.ext (h : ArcsAt M W sl S i) (hx : Ext M' W W') (hm : ∀ i, i < W.heap.size → M' i → M i) : ArcsAt M W' sl S i := by
 obtain ⟨L, h1, h2⟩ := h; exact ⟨L, h1.ext hx hm, h2⟩
theorem ArcsAt.extNo (h : ArcsAt M W sl S i) (hx : Ext No W W') : ArcsAt M W' sl S i := h.ext hx (fun _ _ x => x.elim)
theorem ArcsAt.slice (h : ArcsAt M W sl S i) : ∃ a c, sl = .slice a (depD S i).length c := by
 obtain ⟨L, h1, h2⟩ := h
 obtain ⟨a, c, e⟩ := h1.slice
 have e2 := congrArg List.length h2
 simp only [List.length_map, arcsR] at e2
 exact ⟨a, c, by rw [e, e2]⟩
theorem WebAt.slices (h : WebAt M W vb vi S) : ∃ ab cb ai ci, vb = .slice ab S.deps.length cb ∧ vi = .slice ai S.deps.length ci := by
 obtain ⟨ab, cb, e1⟩ := h.bnd.slice
 obtain ⟨Li, h1, h2, _⟩ := h.ex
 obtain ⟨ai, ci, e2⟩ := h1.slice
 exact ⟨ab, cb, ai, ci, by rw [e1, h.ok.lb], by rw [e2, h2]⟩
theorem WebAt.arcs (h : WebAt M W vb vi S) (hi : i < S.deps.length) : ∃ b off cap a c, vi = .slice (some ⟨b, off, none⟩) S.deps.length cap ∧ W.cell? ⟨b, off + i, none⟩ = some (.slice a (depD S i).length c) ∧ Hid (ArcsAt M W (.slice a (depD S i).length c) S i) := by
 obtain ⟨Li, h1, h2, h3⟩ := h.ex
 have hi2 : i < Li.length := by omega
 obtain ⟨b, off, cap, g1, _, _, g4⟩ := h1.atL hi2
 have g5 : ArcsAt M W Li[i].2 S i := ⟨Li[i].1, h1.ok _ (List.getElem_mem hi2), h3 i hi2⟩
 obtain ⟨a, c, g6⟩ := g5.slice
 exact ⟨b, off, cap, a, c, by rw [g1, h2], by rw [g4 i hi2, g6], Lib.hid (g6 ▸ g5)⟩
theorem ArcsAt.at (hS : SysOk S) (h : ArcsAt M W sl S i) {k m : Nat} (hk : k < (depD S i).length) (hm : m = (depD S i)[k]) : ∃ b off cap ag cg ak ck ac n cc, sl = .slice (some ⟨b, off, none⟩) (depD S i).length cap ∧
  (W.cell? ⟨b, off + k * 6, none⟩ = some (.int .i64 (m : Int)) ∧ W.cell? ⟨b, off + k * 6 + 1, none⟩ = some (.int .i64 (S.w : Int)) ∧ W.cell? ⟨b, off + k * 6 + 2, none⟩ = some (.slice ag (nw S.w) cg) ∧ W.cell? ⟨b, off + k * 6 + 3, none⟩ = some (.int .i64 (S.w : Int)) ∧ W.cell? ⟨b, off + k * 6 + 4, none⟩ = some (.slice ak (nw S.w) ck) ∧ W.cell? ⟨b, off + k * 6 + 5, none⟩ = some (.slice ac n cc)) ∧
  Hid (TrAt M W (.slice ag (nw S.w) cg) (.slice ak (nw S.w) ck) (.slice ac n cc) (trD S m)) ∧ Hid ((trD S m).w = S.w) := by
 obtain ⟨L, h1, h2⟩ := h
 have e2 := congrArg List.length h2
 simp only [List.length_map, arcsR] at e2
 have hk2 : k < L.length := by omega
 have hmd : m < S.deps.length := hS.dep (i := i) (by rw [hm]; exact List.getElem_mem hk)
 obtain ⟨b, off, cap, g1, _, _, g4⟩ := h1.atA hk2
 have g5 : RawTAt M W L[k].2.2.1 L[k].2.2.2.1 L[k].2.2.2.2 L[k].2.1 := h1.ok _ (List.getElem_mem hk2)
 have g6 : cutA L[k] = ((m : Int), rawT (trD S m)) := by
  have := congrArg (fun l => l[k]?) h2
  simp only [List.getElem?_map, List.getElem?_eq_getElem hk2, arcsR, List.getElem?_eq_getElem hk, Option.map_some, Option.some.injEq] at this
  rw [this, ← hm]
 have g6a : L[k].1 = (m : Int) := congrArg Prod.fst g6
 have g6b : L[k].2.1 = rawT (trD S m) := congrArg Prod.snd g6
 obtain ⟨g7, g8⟩ := hS.tr hmd
 rw [g6b] at g5
 have g9 := g5.tr g7
 obtain ⟨ag, cg, k1⟩ := g9.gen.slice
 obtain ⟨ak, ck, k2⟩ := g9.kill.slice
 obtain ⟨ac, cc, k3⟩ := Row.slice g9.copies
 rw [k1, k2, k3] at g9
 rw [g8] at g9 k1 k2
 obtain ⟨cz, c0, c1, c2, c3, c4⟩ := g4 k hk2
 refine ⟨b, off, cap, ag, cg, ak, ck, ac, _, cc, by rw [g1, e2], ⟨by rw [cz, g6a], ?_, ?_, ?_, ?_, ?_⟩, Lib.hid g9, Lib.hid g8⟩
 ·rw [c0, g6b]; show some (Value.int .i64 ((trD S m).w : Int)) = _; rw [g8]
 ·rw [c1, k1]
 ·rw [c2, g6b]; show some (Value.int .i64 ((trD S m).w : Int)) = _; rw [g8]
 ·rw [c3, k2]
 rw [c4, k3]
end
end Go.Proofs.YtmddchceacmopaaGreatDoor

namespace Go.Proofs.YtmddchceacmopaaGreatDoor
open Go Go.RowKit
def arcsRow (l : List (Nat × TrD)) : List (Int × RawT) := l.map fun p => ((p.1 : Int), rawT p.2)
def ArcsW (M : Nat → Prop) (W : World) (sl : Value) (l : List (Nat × TrD)) : Prop := ∃ L : LA, LAt kA M W sl L ∧ L.map cutA = arcsRow l
structure WbAt (M : Nat → Prop) (W : World) (vb vi : Value) (S : WebD) : Prop where
 ok : WebOk S
 bnd : SetsV M W vb S.w S.bnd
 ex : ∃ Li : List (LA × Value), LAt kL M W vi Li ∧ Li.length = S.ins.length ∧ ∀ i (h : i < Li.length), Li[i].1.map cutA = arcsRow (arcW S i)
section
variable {M M' : Nat → Prop} {W W' : World} {vb vi sl : Value} {S : WebD} {i : Nat} {l : List (Nat × TrD)}
theorem ArcsW.ext (h : ArcsW M W sl l) (hx : Ext M' W W') (hm : ∀ i, i < W.heap.size → M' i → M i) : ArcsW M W' sl l := by
 obtain ⟨L, h1, h2⟩ := h; exact ⟨L, h1.ext hx hm, h2⟩
theorem ArcsW.extNo (h : ArcsW M W sl l) (hx : Ext No W W') : ArcsW M W' sl l := h.ext hx (fun _ _ x => x.elim)
theorem ArcsW.mono (h : ArcsW M W sl l) (hm : ∀ i, i < W.heap.size → M' i → M i) : ArcsW M' W sl l := by
 obtain ⟨L, h1, h2⟩ := h; exact ⟨L, h1.mono hm, h2⟩
theorem ArcsW.no (h : ArcsW M W sl l) : ArcsW No W sl l := h.mono (fun _ _ x => x.elim)
theorem ArcsW.slice (h : ArcsW M W sl l) : ∃ a c, sl = .slice a l.length c := by
 obtain ⟨L, h1, h2⟩ := h
 obtain ⟨a, c, e⟩ := h1.slice
 have e2 := congrArg List.length h2
 simp only [List.length_map, arcsRow] at e2
 exact ⟨a, c, by rw [e, e2]⟩
theorem WbAt.ext (h : WbAt M W vb vi S) (hx : Ext M' W W') (hm : ∀ i, i < W.heap.size → M' i → M i) : WbAt M W' vb vi S := by
 obtain ⟨Li, h1, h2⟩ := h.ex; exact ⟨h.ok, h.bnd.ext hx hm, Li, h1.ext hx hm, h2⟩
theorem WbAt.extNo (h : WbAt M W vb vi S) (hx : Ext No W W') : WbAt M W' vb vi S := h.ext hx (fun _ _ x => x.elim)
theorem WbAt.mono (h : WbAt M W vb vi S) (hm : ∀ i, i < W.heap.size → M' i → M i) : WbAt M' W vb vi S := by
 obtain ⟨Li, h1, h2⟩ := h.ex; exact ⟨h.ok, h.bnd.mono hm, Li, h1.mono hm, h2⟩
theorem WbAt.no (h : WbAt M W vb vi S) : WbAt No W vb vi S := h.mono (fun _ _ x => x.elim)
theorem WbAt.slices (h : WbAt M W vb vi S) : ∃ ab cb ai ci, vb = .slice ab S.ins.length cb ∧ vi = .slice ai S.ins.length ci := by
 obtain ⟨ab, cb, e1⟩ := h.bnd.slice
 obtain ⟨Li, h1, h2, _⟩ := h.ex
 obtain ⟨ai, ci, e2⟩ := h1.slice
 exact ⟨ab, cb, ai, ci, by rw [e1, h.ok.lb], by rw [e2, h2]⟩
theorem WbAt.arcs (h : WbAt M W vb vi S) (hi : i < S.ins.length) : ∃ b off cap a c, vi = .slice (some ⟨b, off, none⟩) S.ins.length cap ∧ W.cell? ⟨b, off + i, none⟩ = some (.slice a (arcW S i).length c) ∧ Hid (ArcsW M W (.slice a (arcW S i).length c) (arcW S i)) := by
 obtain ⟨Li, h1, h2, h3⟩ := h.ex
 have hi2 : i < Li.length := by omega
 obtain ⟨b, off, cap, g1, _, _, g4⟩ := h1.atL hi2
 have g5 : ArcsW M W Li[i].2 (arcW S i) := ⟨Li[i].1, h1.ok _ (List.getElem_mem hi2), h3 i hi2⟩
 obtain ⟨a, c, g6⟩ := g5.slice
 exact ⟨b, off, cap, a, c, by rw [g1, h2], by rw [g4 i hi2, g6], Lib.hid (g6 ▸ g5)⟩
theorem ArcsW.at {w : Nat} (hr : ∀ p ∈ l, TrOk p.2 ∧ p.2.w = w) (h : ArcsW M W sl l) {k m : Nat} {f : TrD} (hk : k < l.length) (hm : (m, f) = l[k]) : ∃ b off cap ag cg ak ck ac n cc, sl = .slice (some ⟨b, off, none⟩) l.length cap ∧
  (W.cell? ⟨b, off + k * 6, none⟩ = some (.int .i64 (m : Int)) ∧ W.cell? ⟨b, off + k * 6 + 1, none⟩ = some (.int .i64 (w : Int)) ∧ W.cell? ⟨b, off + k * 6 + 2, none⟩ = some (.slice ag (nw w) cg) ∧ W.cell? ⟨b, off + k * 6 + 3, none⟩ = some (.int .i64 (w : Int)) ∧ W.cell? ⟨b, off + k * 6 + 4, none⟩ = some (.slice ak (nw w) ck) ∧ W.cell? ⟨b, off + k * 6 + 5, none⟩ = some (.slice ac n cc)) ∧
  Hid (TrAt M W (.slice ag (nw w) cg) (.slice ak (nw w) ck) (.slice ac n cc) f) ∧ Hid (f.w = w) := by
 obtain ⟨L, h1, h2⟩ := h
 have e2 := congrArg List.length h2
 simp only [List.length_map, arcsRow] at e2
 have hk2 : k < L.length := by omega
 obtain ⟨b, off, cap, g1, _, _, g4⟩ := h1.atA hk2
 have g5 : RawTAt M W L[k].2.2.1 L[k].2.2.2.1 L[k].2.2.2.2 L[k].2.1 := h1.ok _ (List.getElem_mem hk2)
 have g6 : cutA L[k] = ((m : Int), rawT f) := by
  have := congrArg (fun l => l[k]?) h2
  simp only [List.getElem?_map, List.getElem?_eq_getElem hk2, arcsRow, List.getElem?_eq_getElem hk, Option.map_some, Option.some.injEq] at this
  rw [this, ← hm]
 have g6a : L[k].1 = (m : Int) := congrArg Prod.fst g6
 have g6b : L[k].2.1 = rawT f := congrArg Prod.snd g6
 obtain ⟨g7, g8⟩ := hr _ (List.getElem_mem hk)
 rw [← hm] at g7 g8
 simp only at g7 g8
 rw [g6b] at g5
 have g9 := g5.tr g7
 obtain ⟨ag, cg, k1⟩ := g9.gen.slice
 obtain ⟨ak, ck, k2⟩ := g9.kill.slice
 obtain ⟨ac, cc, k3⟩ := Row.slice g9.copies
 rw [k1, k2, k3] at g9
 rw [g8] at g9 k1 k2
 obtain ⟨cz, c0, c1, c2, c3, c4⟩ := g4 k hk2
 refine ⟨b, off, cap, ag, cg, ak, ck, ac, _, cc, by rw [g1, e2], ⟨by rw [cz, g6a], ?_, ?_, ?_, ?_, ?_⟩, Lib.hid g9, Lib.hid g8⟩
 ·rw [c0, g6b]; show some (Value.int .i64 ((f.w : Nat) : Int)) = _; rw [g8]
 ·rw [c1, k1]
 ·rw [c2, g6b]; show some (Value.int .i64 ((f.w : Nat) : Int)) = _; rw [g8]
 ·rw [c3, k2]
 rw [c4, k3]
end

/- Boxes that keep clear of a block; contracts for the laws' walks. -/
import Derived.Test.YtgakojgkkdmabaaDoorTr45
import Derived.Test.YtgakojgkkdmabaaDoorREq
import Derived.Test.YtgakojgkkdmabaaDoorTr17
set_option linter.unusedVariables false
set_option linter.unusedSimpArgs false
namespace Go.Proofs.YtgakojgkkdmabaaDoor
open Go Go.RowKit

structure TrBoxM (M : Nat → Prop) (D : Nat) (w n : Nat) (t : TrD) (ag : Option Addr) (cg : Nat) (ak : Option Addr) (ck : Nat) (ac : Option Addr) (cc : Nat) (wr : World) : Prop where
  box : wr.heap[D]? = some (.cells #[.int .i64 (w : Int), .slice ag (nw w) cg, .int .i64 (w : Int), .slice ak (nw w) ck, .slice ac n cc] 28 (0, 0))
  tr : TrAt M wr (.slice ag (nw w) cg) (.slice ak (nw w) ck) (.slice ac n cc) t
structure SetBoxM (M : Nat → Prop) (D : Nat) (w m : Nat) (a : Option Addr) (c : Nat) (wr : World) : Prop where
  box : wr.heap[D]? = some (.cells #[.int .i64 (w : Int), .slice a (nw w) c] 25 (0, 0))
  set : SetAt M wr (.slice a (nw w) c) w m
section
variable {M M' : Nat → Prop} {D w n m : Nat} {t : TrD} {ag ak ac a : Option Addr} {cg ck cc c : Nat} {wr w' : World}
theorem TrBoxM.ext (h : TrBoxM M D w n t ag cg ak ck ac cc wr) (hx : Ext No wr w') : TrBoxM M D w n t ag cg ak ck ac cc w' := ⟨hx.blk h.box no_no, h.tr.extNo hx⟩
theorem SetBoxM.ext (h : SetBoxM M D w m a c wr) (hx : Ext No wr w') : SetBoxM M D w m a c w' := ⟨hx.blk h.box no_no, h.set.extNo hx⟩
theorem TrBoxM.extM (h : TrBoxM M D w n t ag cg ak ck ac cc wr) (hx : Ext M wr w') (hD : ¬ M D) : TrBoxM M D w n t ag cg ak ck ac cc w' := ⟨hx.blk h.box hD, h.tr.ext hx (fun _ _ e => e)⟩
theorem SetBoxM.extM (h : SetBoxM M D w m a c wr) (hx : Ext M wr w') (hD : ¬ M D) : SetBoxM M D w m a c w' := ⟨hx.blk h.box hD, h.set.ext hx (fun _ _ e => e)⟩
theorem SetBoxM.put {a' : Option Addr} {c' m' : Nat} (h : SetBoxM (At D) D w m a c wr) (hs : SetAt (At D) wr (.slice a' (nw w) c') w m') : SetBoxM (At D) D w m' a' c' ((wr.setCell ⟨D, 0, none⟩ (.int .i64 (w : Int))).setCell ⟨D, 1, none⟩ (.slice a' (nw w) c')) :=
  ⟨(set_same (j := 1) (set_same (j := 0) h.box)).trans rfl, hs.ext (((Ext.refl (At D) _).setAt _ _).setAt _ _) (fun _ _ e => e)⟩
theorem TrAt.early (h : TrAt M wr (.slice ag (nw w) cg) (.slice ak (nw w) ck) (.slice ac n cc) t) (hM : ∀ i, M' i → wr.heap.size ≤ i) : TrAt M' wr (.slice ag (nw w) cg) (.slice ak (nw w) ck) (.slice ac n cc) t := h.mono (fun i hi e => absurd hi (Nat.not_lt.2 (hM i e)))
theorem SetAt.earlyM {sl : Value} (h : SetAt M wr sl w m) (hM : ∀ i, M' i → wr.heap.size ≤ i) : SetAt M' wr sl w m := h.mono (fun i hi e => absurd hi (Nat.not_lt.2 (hM i e)))
end
def TrWM (M : Nat → Prop) (w : Nat) (t' : TrD) (W : World) (e : Ending) (w' : World) : Prop :=
  ∃ ag cg ak ck ac n cc, e = .returned (.tuple #[.agg #[.int .i64 (w : Int), .slice ag (nw w) cg, .int .i64 (w : Int), .slice ak (nw w) ck, .slice ac n cc], .int .i64 0]) ∧
    Hid (TrAt M w' (.slice ag (nw w) cg) (.slice ak (nw w) ck) (.slice ac n cc) t') ∧ Ext No W w'
theorem ClosePost.smallM {M : Nat → Prop} {w gen : Nat} {rs : List Nat} {W w' : World} {e : Ending} (h : ClosePost M w gen rs W e w') (h8 : w ≤ 8) : TrWM M w (closeT w gen rs) W e w' := by
  obtain ⟨ag, cg, ak, ck, ac, cc, h1, h2, h3⟩ := h.1 (small_len h8)
  exact ⟨ag, cg, ak, ck, ac, _, cc, h1, h2, h3⟩
theorem star8M (M : Nat → Prop) (t : TrD) (w : Nat) (g1 k1 c1 : Value) (W : World) (hw : t.w = w) (hM : ∀ b, M b → b < W.heap.size) (h8 : w ≤ 8) (hT : TabW W) (h1 : TrAt No W g1 k1 c1 t) :
    Calls Tryd.prog 27 #[.agg #[.int .i64 (w : Int), g1, .int .i64 (w : Int), k1, c1]] W (TrWM M w (starT t) W) := by
  subst hw
  exact (star_any M t _ _ _ _ hM hT h1).mono (fun _ _ h => h.smallM h8)
theorem canon8M (M : Nat → Prop) (t : TrD) (w : Nat) (g1 k1 c1 : Value) (W : World) (hw : t.w = w) (hM : ∀ b, M b → b < W.heap.size) (h8 : w ≤ 8) (hT : TabW W) (h1 : TrAt No W g1 k1 c1 t) :
    Calls Tryd.prog 25 #[.agg #[.int .i64 (w : Int), g1, .int .i64 (w : Int), k1, c1]] W (TrWM M w (canonT t) W) := by
  subst hw
  exact (canon_any M t _ _ _ _ hM hT h1).mono (fun _ _ h => h.smallM h8)
theorem join8M (M : Nat → Prop) (t u : TrD) (w : Nat) (g1 k1 c1 g2 k2 c2 : Value) (W : World) (hw : t.w = w) (hu : u.w = w) (hM : ∀ b, M b → b < W.heap.size) (h8 : w ≤ 8) (hT : TabW W) (h1 : TrAt No W g1 k1 c1 t) (h2 : TrAt No W g2 k2 c2 u) :
    Calls Tryd.prog 24 #[.agg #[.int .i64 (w : Int), g1, .int .i64 (w : Int), k1, c1], .agg #[.int .i64 (w : Int), g2, .int .i64 (w : Int), k2, c2]] W (TrWM M w (joinT t u) W) := by
  subst hw
  exact (join_any M t u _ _ _ _ _ _ _ hM hT h1 h2 hu).mono (fun _ _ h => h.smallM h8)
theorem comp8M (M : Nat → Prop) (t u : TrD) (w : Nat) (g1 k1 c1 g2 k2 c2 : Value) (W : World) (hw : t.w = w) (hu : u.w = w) (hM : ∀ b, M b → b < W.heap.size) (h8 : w ≤ 8) (hT : TabW W) (h1 : TrAt No W g1 k1 c1 t) (h2 : TrAt No W g2 k2 c2 u) :
    Calls Tryd.prog 23 #[.agg #[.int .i64 (w : Int), g1, .int .i64 (w : Int), k1, c1], .agg #[.int .i64 (w : Int), g2, .int .i64 (w : Int), k2, c2]] W (TrWM M w (compT t u) W) := by
  subst hw
  exact (compose_any M t u _ _ _ _ _ _ _ hM hT h1 h2 hu).mono (fun _ _ h => h.smallM h8)
theorem lapplyM (M : Nat → Prop) (t : TrD) (w s : Nat) (sg sk sc ss : Value) (W : World) (hw : t.w = w) (hM : ∀ b, M b → b < W.heap.size) (h : TrAt No W sg sk sc t) (hs : SetAt No W ss w s) :
    Calls Tryd.prog 31 #[.agg #[.int .i64 (w : Int), sg, .int .i64 (w : Int), sk, sc], .agg #[.int .i64 (w : Int), ss]] W (SetPost M w (applyT t s) W) := by
  subst hw
  exact lapply_any M t s _ _ _ _ W hM h hs
def eqD (t u : TrD) : Bool := eqT (rawT t) (rawT u)
theorem eqD_iff {t u : TrD} (ht : TrOk t) (hu : TrOk u) : eqD t u = true ↔ t = u := by
  constructor
  · intro h
    simp only [eqD, eqT, sameB, Bool.and_eq_true, decide_eq_true_eq] at h
    obtain ⟨⟨h1, h2⟩, ⟨_, h3⟩, h4⟩ := h
    obtain ⟨tw, tg, tk, tc⟩ := t
    obtain ⟨uw, ug, uk, uc⟩ := u
    simp only [rawT, setN] at h1 h2 h3 h4
    have e : tw = uw := by omega
    subst e
    obtain rfl : tg = ug := wordsN_inj ht.gen hu.gen h2
    obtain rfl : tk = uk := wordsN_inj ht.kill hu.kill h3
    rw [h4]
  · rintro rfl
    simp [eqD, eqT, sameB]
theorem requals_w (t u : TrD) (w : Nat) (g1 k1 c1 g2 k2 c2 : Value) (W : World) (hw : t.w = w) (hu : u.w = w) (h1 : TrAt No W g1 k1 c1 t) (h2 : TrAt No W g2 k2 c2 u) :
    Calls Tryd.prog 26 #[.agg #[.int .i64 (w : Int), g1, .int .i64 (w : Int), k1, c1], .agg #[.int .i64 (w : Int), g2, .int .i64 (w : Int), k2, c2]] W (BoolPost (eqD t u) W) := by
  subst hw
  have := requals_any (rawT t) (rawT u) g1 k1 c1 g2 k2 c2 W h1.raw h2.raw
  have e : ((rawT u).gen.width, (rawT u).kill.width) = (((t.w : Nat) : Int), ((t.w : Nat) : Int)) := by rw [← hu]; rfl
  rw [show (rawT u).gen.width = ((t.w : Nat) : Int) from congrArg Prod.fst e, show (rawT u).kill.width = ((t.w : Nat) : Int) from congrArg Prod.snd e] at this
  exact this
theorem requals_true (t u : TrD) (w : Nat) (g1 k1 c1 g2 k2 c2 : Value) (W : World) (hw : t.w = w) (hu : u.w = w) (e : u = t) (h1 : TrAt No W g1 k1 c1 t) (h2 : TrAt No W g2 k2 c2 u) :
    Calls Tryd.prog 26 #[.agg #[.int .i64 (w : Int), g1, .int .i64 (w : Int), k1, c1], .agg #[.int .i64 (w : Int), g2, .int .i64 (w : Int), k2, c2]] W (BoolPost true W) := by
  have := requals_w t u w g1 k1 c1 g2 k2 c2 W hw hu h1 h2
  rw [(eqD_iff h1.ok h2.ok).2 e.symm] at this
  exact this
theorem bvalid_true (w m : Nat) (ss : Value) (W : World) (hs : SetAt No W ss w m) : Calls Tryd.prog 39 #[.agg #[.int .i64 (w : Int), ss]] W (BoolPost true W) := by
  have := valid_any _ _ W hs.raw
  rw [validB_set hs.hw hs.hm] at this
  exact this
end Go.Proofs.YtgakojgkkdmabaaDoor

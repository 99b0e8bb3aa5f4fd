/- Merged: St1 St2 -/
import Derived.Test.YtgakojgkkdmabaaDoorTr28
import Derived.Test.YtgakojgkkdmabaaDoorTrB
import Derived.Test.YtgakojgkkdmabaaDoorRefF
import Derived.Test.YtgakojgkkdmabaaDoorRefM
import Derived.Test.YtgakojgkkdmabaaDoorTr33
import Derived.Test.YtgakojgkkdmabaaDoorTr30
set_option linter.unusedVariables false
set_option linter.unusedSimpArgs false
/- St1 -/
namespace Go.Proofs.YtgakojgkkdmabaaDoor
open Go Go.RowKit
def zeroT : RawT := ⟨⟨0, []⟩, ⟨0, []⟩, []⟩
/-- the pair of the function q and the error e0, its rows clear of M -/
def ResP (M : Nat → Prop) (q : RawT) (e0 : Int) (W : World) (e : Ending) (w' : World) : Prop :=
 ∃ ag cg ak ck ac cc, e = .returned (.tuple #[.agg #[.int .i64 q.gen.width, .slice ag q.gen.words.length cg, .int .i64 q.kill.width, .slice ak q.kill.words.length ck, .slice ac q.copies.length cc], .int .i64 e0]) ∧
  Hid (RawTAt M w' (.slice ag q.gen.words.length cg) (.slice ak q.kill.words.length ck) (.slice ac q.copies.length cc) q) ∧ Ext No W w'
theorem zero_row {M : Nat → Prop} {w : World} {s : Nat} : Row M w s (.slice none 0 0) 0 [] := ⟨by simp, by omega, none, 0, rfl, by simp, .inl rfl⟩
theorem zeroT_at {M : Nat → Prop} {w : World} : RawTAt M w (.slice none 0 0) (.slice none 0 0) (.slice none 0 0) zeroT :=
 ⟨⟨zero_row, by simp [zeroT]⟩, ⟨zero_row, by simp [zeroT]⟩, zero_row⟩
theorem TrNo.res {M : Nat → Prop} {e0 : Int} {W w' : World} {e : Ending} (h : TrNo e0 W e w') : ResP M zeroT e0 W e w' := by
 obtain ⟨rfl, hx⟩ := h
 exact ⟨none, 0, none, 0, none, 0, rfl, Lib.hid zeroT_at, hx⟩
theorem TrEPost.res {M : Nat → Prop} {t : TrD} {W w' : World} {e : Ending} (h : TrEPost M t W e w') : ResP M (rawT t) 0 W e w' := by
 obtain ⟨ag, cg, ak, ck, ac, cc, rfl, h1, hx⟩ := h
 have h2 := h1.out.raw
 have e1 : (rawT t).gen.words.length = nw t.w := wordsN_len ..
 have e2 : (rawT t).kill.words.length = nw t.w := wordsN_len ..
 refine ⟨ag, cg, ak, ck, ac, cc, ?_, Lib.hid ?_, hx⟩
 ·rw [e1, e2]; rfl
 ·rw [e1, e2]; exact h2
def closeQ (w gen : Nat) (rs : List Nat) : RawT := if (copTo w gen rs w).length ≤ 64 then rawT (closeT w gen rs) else zeroT
def closeE (w gen : Nat) (rs : List Nat) : Int := if (copTo w gen rs w).length ≤ 64 then 0 else 7
theorem ClosePost.res {M : Nat → Prop} {w gen : Nat} {rs : List Nat} {W w' : World} {e : Ending} (h : ClosePost M w gen rs W e w') : ResP M (closeQ w gen rs) (closeE w gen rs) W e w' := by
 unfold closeQ closeE
 by_cases hl : (copTo w gen rs w).length ≤ 64
 ·rw [if_pos hl, if_pos hl]
  exact (h.1 hl).res
 ·rw [if_neg hl, if_neg hl]
  exact (h.2 (by omega)).res
end Go.Proofs.YtgakojgkkdmabaaDoor

/- St2 -/
namespace Go.Proofs.YtgakojgkkdmabaaDoor
open Go Go.RowKit
/-- the same rows beyond gen give the same canonical function -/
theorem closeT_congr {w g : Nat} {rs rs' : List Nat} (hg : g < 2 ^ w) (h : ∀ a b, a < w → b < w → g.testBit b = false → (rowAt rs a).testBit b = (rowAt rs' a).testBit b) : closeT w g rs = closeT w g rs' := by
 show TrD.mk _ _ _ _ = TrD.mk _ _ _ _
 rw [killTo_congr hg h, copTo_congr h w (Nat.le_refl _)]
theorem tab_bit {t : TrD} (ho : TrOk t) {a b : Nat} (ha : a < t.w) : (rowAt (tabT t) a).testBit b = (t.gen.testBit b || (rowAt (rowsN t t.w t.copies.length) a).testBit b) := bool_ext (by
 rw [show rowAt (tabT t) a = applyT t (2 ^ a) from tabTo_at ha, apply_bit ho (bitN_lt ha), Bool.or_eq_true]
 constructor
 ·rintro (h | ⟨c, _, h1, h2⟩)
  ·exact .inl h
  ·rw [one_bit] at h1
   have : a = c := of_decide_eq_true h1
   rw [this]; exact .inr h2
 ·rintro (h | h)
  ·exact .inl h
  ·exact .inr ⟨a, ha, by rw [one_bit]; simp, h⟩)
theorem canon_tab {t : TrD} (ho : TrOk t) : closeT t.w t.gen (tabT t) = canonT t :=
 closeT_congr ho.gen (fun a b ha _ hg => by rw [tab_bit ho ha, hg]; rfl)
end Go.Proofs.YtgakojgkkdmabaaDoor

/- St2 -/
namespace Go.Proofs.YtgakojgkkdmabaaDoor
open Go Go.RowKit
theorem BlkW.ext {w w' : World} {g n m : Nat} (h : BlkW w g n m) (hx : Ext No w w') : BlkW w' g n m := hx.blk h no_no
def BoxTab (D : Nat) (w g : Nat) (rs : List Nat) (sg so : Value) (M : Nat → Prop) (W : World) : Prop := W.heap[D]? = some (.cells #[.int .i64 (w : Int), sg, so] 75 (0, 0)) ∧ ¬ M D ∧ RowsO w g rs sg so M W
theorem keeps_tab (D w g : Nat) (rs : List Nat) (sg so : Value) : Keeps (BoxTab D w g rs sg so) :=
 ⟨fun h hx hm => ⟨hx.blk h.1 (fun e => h.2.1 (hm _ (lt_of_block h.1) e)), h.2.1, h.2.2.ext hx hm⟩, fun h hm => ⟨h.1, fun e => h.2.1 (hm _ (lt_of_block h.1) e), h.2.2.mono hm⟩⟩
end Go.Proofs.YtgakojgkkdmabaaDoor

/- St2 -/
namespace Go.Proofs.YtgakojgkkdmabaaDoor
open Go Go.RowKit
theorem closeQ_congr {w gen gen' : Nat} {rs rs' : List Nat} (h : closeT w gen rs = closeT w gen' rs') : closeQ w gen rs = closeQ w gen' rs' ∧ closeE w gen rs = closeE w gen' rs' := by
 have hc : copTo w gen rs w = copTo w gen' rs' w := congrArg TrD.copies h
 unfold closeQ closeE
 rw [hc, h]
 exact ⟨rfl, rfl⟩
end Go.Proofs.YtgakojgkkdmabaaDoor

/- What both sides answer for any raw function: a pair of a function and an error. Star. -/
import Derived.Test.YtgakojgkkdmabaaDoorTr28
import Derived.Test.YtgakojgkkdmabaaDoorTrB
set_option linter.unusedVariables false
set_option linter.unusedSimpArgs false
namespace Go.Proofs.YtgakojgkkdmabaaDoor
open Go Go.RowKit

def zeroT : RawT := ⟨⟨0, []⟩, ⟨0, []⟩, []⟩
/-- the pair of the function q and the error e0, its rows clear of M -/
def ResP (M : Nat → Prop) (q : RawT) (e0 : Int) (W : World) (e : Ending) (w' : World) : Prop :=
  ∃ ag cg ak ck ac cc, e = .returned (.tuple #[.agg #[.int .i64 q.gen.width, .slice ag q.gen.words.length cg, .int .i64 q.kill.width, .slice ak q.kill.words.length ck, .slice ac q.copies.length cc], .int .i64 e0]) ∧
    Hid (RawTAt M w' (.slice ag q.gen.words.length cg) (.slice ak q.kill.words.length ck) (.slice ac q.copies.length cc) q) ∧ Ext No W w'
theorem zero_row {M : Nat → Prop} {w : World} {s : Nat} : Row M w s (.slice none 0 0) 0 [] := ⟨by simp, by omega, none, 0, rfl, by simp, .inl rfl⟩
theorem zeroT_at {M : Nat → Prop} {w : World} : RawTAt M w (.slice none 0 0) (.slice none 0 0) (.slice none 0 0) zeroT :=
  ⟨⟨zero_row, by simp [zeroT]⟩, ⟨zero_row, by simp [zeroT]⟩, zero_row⟩
theorem TrNo.res {M : Nat → Prop} {e0 : Int} {W w' : World} {e : Ending} (h : TrNo e0 W e w') : ResP M zeroT e0 W e w' := by
  obtain ⟨rfl, hx⟩ := h
  exact ⟨none, 0, none, 0, none, 0, rfl, Lib.hid zeroT_at, hx⟩
theorem TrEPost.res {M : Nat → Prop} {t : TrD} {W w' : World} {e : Ending} (h : TrEPost M t W e w') : ResP M (rawT t) 0 W e w' := by
  obtain ⟨ag, cg, ak, ck, ac, cc, rfl, h1, hx⟩ := h
  have h2 := h1.out.raw
  have e1 : (rawT t).gen.words.length = nw t.w := wordsN_len ..
  have e2 : (rawT t).kill.words.length = nw t.w := wordsN_len ..
  refine ⟨ag, cg, ak, ck, ac, cc, ?_, Lib.hid ?_, hx⟩
  · rw [e1, e2]; rfl
  · rw [e1, e2]; exact h2
def closeQ (w gen : Nat) (rs : List Nat) : RawT := if (copTo w gen rs w).length ≤ 64 then rawT (closeT w gen rs) else zeroT
def closeE (w gen : Nat) (rs : List Nat) : Int := if (copTo w gen rs w).length ≤ 64 then 0 else 7
theorem ClosePost.res {M : Nat → Prop} {w gen : Nat} {rs : List Nat} {W w' : World} {e : Ending} (h : ClosePost M w gen rs W e w') : ResP M (closeQ w gen rs) (closeE w gen rs) W e w' := by
  unfold closeQ closeE
  by_cases hl : (copTo w gen rs w).length ≤ 64
  · rw [if_pos hl, if_pos hl]
    exact (h.1 hl).res
  · rw [if_neg hl, if_neg hl]
    exact (h.2 (by omega)).res
end Go.Proofs.YtgakojgkkdmabaaDoor

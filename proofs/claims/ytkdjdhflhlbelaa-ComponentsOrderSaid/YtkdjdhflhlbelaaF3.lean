/- equations.Right at valid arguments. -/
import Derived.Test.YtkdjdhflhlbelaaF2
import Derived.Test.YtkdjdhflhlbelaaFS
import Derived.Test.YtkdjdhflhlbelaaHeld2
set_option linter.unusedVariables false
set_option linter.unusedSimpArgs false
namespace Go.Proofs.Ytkdjdhflhlbelaa
open Go Go.RowKit
/-- values in memory, as a list of sets -/
theorem SetsV.list {M : Nat → Prop} {W : World} {so : Value} {w : Nat} {ms : List Nat} (h : SetsV M W so w ms) : ∃ L : LS, LAt kS M W so L ∧ L.map Prod.fst = ms.map (setN w) ∧ L.length = ms.length := by
 obtain ⟨⟨L, h1, h2⟩, _, _⟩ := h
 have e := congrArg List.length h2
 simp only [List.length_map] at e
 exact ⟨L, ⟨h1.row, h1.ok⟩, h2, e⟩
theorem LAt.setsV {M : Nat → Prop} {W : World} {so : Value} {w : Nat} {ms : List Nat} {L : LS} (h : LAt kS M W so L) (he : L.map Prod.fst = ms.map (setN w)) (hw : w ≤ 256) (hm : ∀ m ∈ ms, m < 2 ^ w) : SetsV M W so w ms := ⟨⟨L, ⟨h.row, h.ok⟩, he⟩, hw, hm⟩
theorem Apply_w (M : Nat → Prop) (t : TrD) (w s : Nat) (sg sk sc ss : Value) (W : World) (hw : t.w = w) (hM : ∀ b, M b → b < W.heap.size) (h : TrAt No W sg sk sc t) (hs : SetAt No W ss w s) :
  Calls Try.prog 73 #[.agg #[.int .i64 (w : Int), sg, .int .i64 (w : Int), sk, sc], .agg #[.int .i64 (w : Int), ss]] W (SetEPost M w (applyT t s) W) := by
 subst hw; exact Apply_any M t s sg sk sc ss W hM h hs
theorem SetsV.cells {M : Nat → Prop} {W : World} {so : Value} {w : Nat} {ms : List Nat} (h : SetsV M W so w ms) {i : Nat} (hi : i < ms.length) : ∃ b off cap a c, so = .slice (some ⟨b, off, none⟩) ms.length cap ∧
  (W.cell? ⟨b, off + i * 2, none⟩ = some (.int .i64 (w : Int)) ∧ W.cell? ⟨b, off + i * 2 + 1, none⟩ = some (.slice a (nw w) c)) ∧ Hid (SetAt M W (.slice a (nw w) c) w (rowD ms i)) := by
 obtain ⟨b, off, cap, a, c, h1, _, _, h4, h5, h6⟩ := h.at hi
 exact ⟨b, off, cap, a, c, h1, ⟨h4, h5⟩, Lib.hid (by rw [rowD_get hi]; exact h6.out)⟩
/-- what Right holds: its argument, its result's box, the sum in box D -/
structure RtS (M : Nat → Prop) (W wr : World) (sb : Array Value) (D w m : Nat) (a : Option Addr) (c : Nat) : Prop where
 ext : Ext No W wr
 boxS : wr.heap[W.heap.size]? = some (.cells sb 29 (0, 0))
 boxR : wr.heap[W.heap.size + 1]? = some (.cells #[.int .i64 0, .slice none 0 0] 33 (0, 0))
 boxD : wr.heap[D]? = some (.cells #[.int .i64 (w : Int), .slice a (nw w) c] 33 (0, 0))
 set : SetAt (fun b => M b ∨ b = W.heap.size + 1 ∨ b = D) wr (.slice a (nw w) c) w m
 low : W.heap.size + 1 < D
theorem RtS.step {M : Nat → Prop} {W wr w' : World} {sb : Array Value} {D w m : Nat} {a : Option Addr} {c : Nat} (h : RtS M W wr sb D w m a c) (hx : Ext No wr w') : RtS M W w' sb D w m a c :=
 ⟨h.ext.transNo hx, hx.blk h.boxS no_no, hx.blk h.boxR no_no, hx.blk h.boxD no_no, h.set.extNo hx, h.low⟩
theorem RtS.put {M : Nat → Prop} {W wr : World} {sb : Array Value} {D w m m' : Nat} {a a' : Option Addr} {c c' : Nat} (h : RtS M W wr sb D w m a c) (hs : SetAt (fun b => M b ∨ b = W.heap.size + 1 ∨ b = D) wr (.slice a' (nw w) c') w m') :
  RtS M W ((wr.setCell ⟨D, 0, none⟩ (.int .i64 (w : Int))).setCell ⟨D, 1, none⟩ (.slice a' (nw w) c')) sb D w m' a' c' := by
 have hE : Ext (At D) wr ((wr.setCell ⟨D, 0, none⟩ (.int .i64 (w : Int))).setCell ⟨D, 1, none⟩ (.slice a' (nw w) c')) := ext_two (Ext.refl No wr) D
 have hl := h.low
 exact ⟨h.ext.trans2 hE (fun i hi e => by unfold At at e; omega), hE.blk h.boxS (by unfold At; omega), hE.blk h.boxR (by unfold At; omega), (set_same (j := 1) (set_same (j := 0) h.boxD)).trans rfl, hs.ext hE (fun i _ e => .inr (.inr e)), hl⟩
theorem RtS.hM {M : Nat → Prop} {W wr : World} {sb : Array Value} {D w m : Nat} {a : Option Addr} {c : Nat} (h : RtS M W wr sb D w m a c) (hM : ∀ b, M b → b < W.heap.size) : ∀ b, (M b ∨ b = W.heap.size + 1 ∨ b = D) → b < wr.heap.size := fun b hb => by
 rcases hb with hb | rfl | rfl
 ·exact Nat.lt_of_lt_of_le (hM b hb) h.ext.size
 ·exact lt_of_block h.boxR
 ·exact lt_of_block h.boxD
end Go.Proofs.Ytkdjdhflhlbelaa

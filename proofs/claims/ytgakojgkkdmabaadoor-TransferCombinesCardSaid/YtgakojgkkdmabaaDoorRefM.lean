/- The reference: made. -/
import Derived.Test.YtgakojgkkdmabaaDoorRefG
set_option linter.unusedVariables false
set_option linter.unusedSimpArgs false
namespace Go.Proofs.YtgakojgkkdmabaaDoor
open Go Go.RowKit
set_option maxRecDepth 100000 in
set_option maxHeartbeats 2000000 in
theorem rmade_any (M : Nat → Prop) (w gen : Nat) (rs : List Nat) (sg so : Value) (W : World) (hM : ∀ b, M b → b < W.heap.size) (hg : SetAt M W sg w gen) (hr : SetsV No W so w rs) (hl : rs.length = w) :
  Calls Tryd.prog 60 #[.agg #[.int .i64 (w : Int), sg, so]] W (ClosePost M w gen rs W) := by
 have HR := Lib.hid hr
 have HM := Lib.hid hM
 have HG := Lib.hid hg
 obtain ⟨ag, cg, rfl⟩ := hg.slice
 obtain ⟨ao, co, rfl⟩ := hr.slice
 have hw := hg.hw
 have HLL := Lib.hid hl
 clear hr hM hg hl
 go_enter Tryd.func60, Tryd.ntmps60
 go_wp2_with fail
 have hx0 : Ext No W ((W.alloc (.cells #[.int .i64 (w : Int), .slice ag (nw w) cg, .slice ao rs.length co] 75)).alloc (.cells #[.int .i64 0, .slice none 0 0, .int .i64 0, .slice none 0 0, .slice none 0 0] 28)) := ((Ext.refl _ _).alloc _).alloc _
 have hB : ((W.alloc (.cells #[.int .i64 (w : Int), .slice ag (nw w) cg, .slice ao rs.length co] 75)).alloc (.cells #[.int .i64 0, .slice none 0 0, .int .i64 0, .slice none 0 0, .slice none 0 0] 28)).heap[W.heap.size + 1]? = some (.cells #[.int .i64 0, .slice none 0 0, .int .i64 0, .slice none 0 0, .slice none 0 0] 28 (0, 0)) := alloc_top (by simp)
 generalize ((W.alloc (.cells #[.int .i64 (w : Int), .slice ag (nw w) cg, .slice ao rs.length co] 75)).alloc (.cells #[.int .i64 0, .slice none 0 0, .int .i64 0, .slice none 0 0, .slice none 0 0] 28)) = W2 at *
 refine (rfunction_any (fun b => M b ∨ b = W.heap.size + 1) w gen rs _ _ _ (fun b hb => ?_) ((HG.out.mono (fun i hi e => ?_)).extNo hx0) (HR.out.extNo hx0) HLL.out).mono ?_
 ·rcases hb with hb | rfl
  ·exact Nat.lt_of_lt_of_le (HM.out b hb) hx0.size
  ·exact lt_of_block hB
 ·rcases e with e | e
  ·exact e
  ·omega
 rintro e1 w1 ⟨bg, dg, bk, dk, bc, n, dc, rfl, hn, hs, hx1⟩
 have hy : Ext No w1 (w1.alloc (.cells #[.int .i64 (w : Int), .slice bg (nw w) dg, .int .i64 (w : Int), .slice bk (nw w) dk, .slice bc n dc] 28)) := (Ext.refl _ _).alloc _
 have hB2 := hy.blk (hx1.blk hB no_no) no_no
 have hT2 := alloc_top (w := w1) (o := .cells #[.int .i64 (w : Int), .slice bg (nw w) dg, .int .i64 (w : Int), .slice bk (nw w) dk, .slice bc n dc] 28) rfl
 have hxa := (hx0.transNo hx1).transNo hy
 have hne : ¬ W.heap.size + 1 = w1.heap.size := by have := lt_of_block (hx1.blk hB no_no); omega
 have HS := Lib.hid hs
 have HY := Lib.hid hy
 have HN := Lib.hid hn
 have cB := cellOf hB2
 have fB := freeOf hB2
 have cT := cellOf hT2
 clear hx0 hx1 hB hs hy hn
 by_cases hc : n ≤ 64
 ·have hcd : decide ((n : Int) ≤ 64) = true := decide_eq_true (by omega)
  rw [hcd]
  clear hcd
  go_wp2_with fail
  generalize (w1.alloc (.cells #[.int .i64 (w : Int), .slice bg (nw w) dg, .int .i64 (w : Int), .slice bk (nw w) dk, .slice bc n dc] 28)) = w2 at *
  have hfin := BoxR.fin5 ⟨_, rfl, hB2⟩ (.int .i64 (w : Int)) (.slice bg (nw w) dg) (.int .i64 (w : Int)) (.slice bk (nw w) dk) (.slice bc n dc)
  have hE := set5 w2 (W.heap.size + 1) (.int .i64 (w : Int)) (.slice bg (nw w) dg) (.int .i64 (w : Int)) (.slice bk (nw w) dk) (.slice bc n dc)
  clear cB fB cT
  generalize (((((w2.setCell ⟨W.heap.size + 1, 0, none⟩ (.int .i64 (w : Int))).setCell ⟨W.heap.size + 1, 1, none⟩ (.slice bg (nw w) dg)).setCell ⟨W.heap.size + 1, 2, none⟩ (.int .i64 (w : Int))).setCell ⟨W.heap.size + 1, 3, none⟩ (.slice bk (nw w) dk)).setCell ⟨W.heap.size + 1, 4, none⟩ (.slice bc n dc)) = WF at *
  have cF := cellOf hfin
  refine ret_ex rfl ?_
  simp [results, Tryd.results60, go_sem, cF]
  have hnn := HN.out
  subst hnn
  refine ⟨fun _ => ⟨bg, dg, bk, dk, bc, dc, rfl, Lib.hid ⟨?_, ?_, ?_, closeT_ok hw HG.out.hm hc⟩, hxa.trans2 hE (fun i hi e => by unfold At at e; omega)⟩, fun h => absurd h (by omega)⟩
  ·exact ((HS.out.1.extNo HY.out).ext hE (fun i _ e => .inr e)).mono (fun i _ e => .inl e)
  ·exact ((HS.out.2.1.extNo HY.out).ext hE (fun i _ e => .inr e)).mono (fun i _ e => .inl e)
  ·exact ((HS.out.2.2.extNo HY.out).ext hE (fun i _ e => .inr e)).mono (fun i _ e => .inl e)
 ·have hcd : decide ((n : Int) ≤ 64) = false := decide_eq_false (by omega)
  rw [hcd]
  clear hcd
  go_wp2_with fail
  generalize (w1.alloc (.cells #[.int .i64 (w : Int), .slice bg (nw w) dg, .int .i64 (w : Int), .slice bk (nw w) dk, .slice bc n dc] 28)) = w2 at *
  have hfin := BoxR.fin5 ⟨_, rfl, hB2⟩ (.int .i64 0) (.slice none 0 0) (.int .i64 0) (.slice none 0 0) (.slice none 0 0)
  have hE := set5 w2 (W.heap.size + 1) (.int .i64 0) (.slice none 0 0) (.int .i64 0) (.slice none 0 0) (.slice none 0 0)
  clear cB fB cT
  generalize (((((w2.setCell ⟨W.heap.size + 1, 0, none⟩ (.int .i64 0)).setCell ⟨W.heap.size + 1, 1, none⟩ (.slice none 0 0)).setCell ⟨W.heap.size + 1, 2, none⟩ (.int .i64 0)).setCell ⟨W.heap.size + 1, 3, none⟩ (.slice none 0 0)).setCell ⟨W.heap.size + 1, 4, none⟩ (.slice none 0 0)) = WF at *
  have cF := cellOf hfin
  refine ret_ex rfl ?_
  simp [results, Tryd.results60, go_sem, cF]
  have hnn := HN.out
  subst hnn
  exact ⟨fun h => absurd h hc, fun _ => ⟨rfl, hxa.trans2 hE (fun i hi e => by unfold At at e; omega)⟩⟩
end Go.Proofs.YtgakojgkkdmabaaDoor

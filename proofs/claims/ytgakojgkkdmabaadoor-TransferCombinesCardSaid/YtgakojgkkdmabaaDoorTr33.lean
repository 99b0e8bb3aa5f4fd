/- transfer: Canon. -/
import Derived.Test.YtgakojgkkdmabaaDoorTr29
set_option linter.unusedVariables false
set_option linter.unusedSimpArgs false
namespace Go.Proofs.YtgakojgkkdmabaaDoor
open Go Go.RowKit
set_option maxRecDepth 100000 in
set_option maxHeartbeats 1000000 in
theorem canon_no (r : RawT) (g1 k1 c1 : Value) (W : World) (h : RawTAt No W g1 k1 c1 r) (hv : validT r = false) :
  Calls Tryd.prog 25 #[.agg #[.int .i64 r.gen.width, g1, .int .i64 r.kill.width, k1, c1]] W (TrNo 1 W) := by
 have H := Lib.hid h
 have HV := Lib.hid hv
 obtain ⟨ag, ng, cg, rfl⟩ := h.gen.shaped
 obtain ⟨ak, nk, ck, rfl⟩ := h.kill.shaped
 obtain ⟨ac, nc, cc, rfl⟩ := h.copies.shaped
 clear h hv
 go_enter Tryd.func25, Tryd.ntmps25
 go_wp2_with fail
 have hx0 : Ext No W ((W.alloc (.cells #[.int .i64 r.gen.width, .slice ag ng cg, .int .i64 r.kill.width, .slice ak nk ck, .slice ac nc cc] 28)).alloc (.cells #[.int .i64 0, .slice none 0 0, .int .i64 0, .slice none 0 0, .slice none 0 0] 28)) := ((Ext.refl _ _).alloc _).alloc _
 have hC : ((W.alloc (.cells #[.int .i64 r.gen.width, .slice ag ng cg, .int .i64 r.kill.width, .slice ak nk ck, .slice ac nc cc] 28)).alloc (.cells #[.int .i64 0, .slice none 0 0, .int .i64 0, .slice none 0 0, .slice none 0 0] 28)).heap[W.heap.size + 1]? = some (.cells #[.int .i64 0, .slice none 0 0, .int .i64 0, .slice none 0 0, .slice none 0 0] 28 (0, 0)) := alloc_top (by simp)
 generalize ((W.alloc (.cells #[.int .i64 r.gen.width, .slice ag ng cg, .int .i64 r.kill.width, .slice ak nk ck, .slice ac nc cc] 28)).alloc (.cells #[.int .i64 0, .slice none 0 0, .int .i64 0, .slice none 0 0, .slice none 0 0] 28)) = W2 at *
 refine (validT_any r _ _ _ _ (H.out.extNo hx0)).mono ?_
 rintro e1 w1 ⟨rfl, hx1⟩
 rw [HV.out]
 have hC1 := hx1.blk hC no_no
 have hx := Lib.hid (hx0.transNo hx1)
 have cC := cellOf hC1
 have fC := freeOf hC1
 have HC := Lib.hid hC1
 clear hx0 hx1 hC hC1
 go_wp2_with fail
 have hfin := BoxR.fin5 ⟨_, rfl, HC.out⟩ (.int .i64 0) (.slice none 0 0) (.int .i64 0) (.slice none 0 0) (.slice none 0 0)
 have hE := set5 w1 (W.heap.size + 1) (.int .i64 0) (.slice none 0 0) (.int .i64 0) (.slice none 0 0) (.slice none 0 0)
 clear cC fC
 generalize (((((w1.setCell ⟨W.heap.size + 1, 0, none⟩ (.int .i64 0)).setCell ⟨W.heap.size + 1, 1, none⟩ (.slice none 0 0)).setCell ⟨W.heap.size + 1, 2, none⟩ (.int .i64 0)).setCell ⟨W.heap.size + 1, 3, none⟩ (.slice none 0 0)).setCell ⟨W.heap.size + 1, 4, none⟩ (.slice none 0 0)) = WF at *
 have cF := cellOf hfin
 refine ret_ex rfl ?_
 simp [results, Tryd.results25, go_sem, cF]
 exact ⟨rfl, hx.out.trans2 hE (fun i hi e => by unfold At at e; omega)⟩
set_option maxRecDepth 100000 in
set_option maxHeartbeats 4000000 in
theorem canon_any (M : Nat → Prop) (t : TrD) (g1 k1 c1 : Value) (W : World) (hM : ∀ b, M b → b < W.heap.size) (hT : TabW W) (h : TrAt No W g1 k1 c1 t) :
  Calls Tryd.prog 25 #[.agg #[.int .i64 (t.w : Int), g1, .int .i64 (t.w : Int), k1, c1]] W (ClosePost M t.w t.gen (rowsN t t.w t.copies.length) W) := by
 have H := Lib.hid h
 have HM := Lib.hid hM
 have HT := Lib.hid hT
 obtain ⟨ag, cg, rfl⟩ := h.gen.slice
 obtain ⟨ak, ck, rfl⟩ := h.kill.slice
 obtain ⟨ac, cc, rfl⟩ := Row.slice h.copies
 have hw := h.ok.w
 clear h hM hT
 go_enter Tryd.func25, Tryd.ntmps25
 go_wp2_with fail
 have hx0 : Ext No W ((W.alloc (.cells #[.int .i64 (t.w : Int), .slice ag (nw t.w) cg, .int .i64 (t.w : Int), .slice ak (nw t.w) ck, .slice ac t.copies.length cc] 28)).alloc (.cells #[.int .i64 0, .slice none 0 0, .int .i64 0, .slice none 0 0, .slice none 0 0] 28)) := ((Ext.refl _ _).alloc _).alloc _
 have hA : ((W.alloc (.cells #[.int .i64 (t.w : Int), .slice ag (nw t.w) cg, .int .i64 (t.w : Int), .slice ak (nw t.w) ck, .slice ac t.copies.length cc] 28)).alloc (.cells #[.int .i64 0, .slice none 0 0, .int .i64 0, .slice none 0 0, .slice none 0 0] 28)).heap[W.heap.size]? = some (.cells #[.int .i64 (t.w : Int), .slice ag (nw t.w) cg, .int .i64 (t.w : Int), .slice ak (nw t.w) ck, .slice ac t.copies.length cc] 28 (0, 0)) := alloc_under (alloc_top rfl)
 have hC : ((W.alloc (.cells #[.int .i64 (t.w : Int), .slice ag (nw t.w) cg, .int .i64 (t.w : Int), .slice ak (nw t.w) ck, .slice ac t.copies.length cc] 28)).alloc (.cells #[.int .i64 0, .slice none 0 0, .int .i64 0, .slice none 0 0, .slice none 0 0] 28)).heap[W.heap.size + 1]? = some (.cells #[.int .i64 0, .slice none 0 0, .int .i64 0, .slice none 0 0, .slice none 0 0] 28 (0, 0)) := alloc_top (by simp)
 generalize ((W.alloc (.cells #[.int .i64 (t.w : Int), .slice ag (nw t.w) cg, .int .i64 (t.w : Int), .slice ak (nw t.w) ck, .slice ac t.copies.length cc] 28)).alloc (.cells #[.int .i64 0, .slice none 0 0, .int .i64 0, .slice none 0 0, .slice none 0 0] 28)) = W2 at *
 refine (validTr_any t _ _ _ _ (H.out.extNo hx0)).mono ?_
 rintro e1 w1 ⟨rfl, hx1⟩
 have hx := Lib.hid (hx0.transNo hx1)
 have HA := Lib.hid (hx1.blk hA no_no)
 have HC := Lib.hid (hx1.blk hC no_no)
 clear hx0 hx1 hA hC
 have cA := cellOf HA.out
 go_wp2_with fail
 refine (open_any (fun b => M b ∨ b = W.heap.size + 1) t _ _ _ _ (fun b hb => ?_) (H.out.extNo hx.out)).mono ?_
 ·rcases hb with hb | rfl
  ·exact Nat.lt_of_lt_of_le (HM.out b hb) hx.out.size
  ·exact lt_of_block HC.out
 rintro e2 w2 ⟨a2, c2, b2, d2, rfl, hrows, hx2⟩
 have HXF := Lib.hid (hx.out.transNo hx2)
 have HCC := Lib.hid (hx2.blk HC.out no_no)
 have HRO := Lib.hid hrows.out
 have HTV := Lib.hid (HT.out.ext HXF.out)
 clear hx2 HC hrows cA HA hx
 go_wp2_with fail
 refine (close_any (fun b => M b ∨ b = W.heap.size + 1) t.w t.gen (rowsN t t.w t.copies.length) _ _ _ (fun b hb => ?_) HTV.out HRO.out.set HRO.out.sets.no (rowsN_len _ _ _)).mono ?_
 ·rcases hb with hb | rfl
  ·exact Nat.lt_of_lt_of_le (HM.out b hb) HXF.out.size
  ·exact lt_of_block HCC.out
 rintro e6 w6 hpost
 have HC6 : Hid (∀ (w' : World), Ext No w2 w' → w'.heap[W.heap.size + 1]? = some (.cells #[.int .i64 0, .slice none 0 0, .int .i64 0, .slice none 0 0, .slice none 0 0] 28 (0, 0))) := Lib.hid (fun w' hx => hx.blk HCC.out no_no)
 clear HRO HTV
 by_cases hc : (copTo t.w t.gen (rowsN t t.w t.copies.length) t.w).length ≤ 64
 ·have hp1 := hpost.1 hc
  generalize htr : closeT t.w t.gen (rowsN t t.w t.copies.length) = tr at hp1
  obtain ⟨fg, eg, fk, ek, fc, ec, rfl, hTr, hx6⟩ := hp1
  have hCb := HC6.out _ hx6
  have cC := cellOf hCb
  have fC := freeOf hCb
  have HCb := Lib.hid hCb
  have HTR := Lib.hid htr
  clear hpost hCb htr
  go_wp2_with fail
  have hfin := BoxR.fin5 ⟨_, rfl, HCb.out⟩ (.int .i64 (tr.w : Int)) (.slice fg (nw tr.w) eg) (.int .i64 (tr.w : Int)) (.slice fk (nw tr.w) ek) (.slice fc tr.copies.length ec)
  have hE := set5 w6 (W.heap.size + 1) (.int .i64 (tr.w : Int)) (.slice fg (nw tr.w) eg) (.int .i64 (tr.w : Int)) (.slice fk (nw tr.w) ek) (.slice fc tr.copies.length ec)
  clear cC fC
  generalize (((((w6.setCell ⟨W.heap.size + 1, 0, none⟩ (.int .i64 (tr.w : Int))).setCell ⟨W.heap.size + 1, 1, none⟩ (.slice fg (nw tr.w) eg)).setCell ⟨W.heap.size + 1, 2, none⟩ (.int .i64 (tr.w : Int))).setCell ⟨W.heap.size + 1, 3, none⟩ (.slice fk (nw tr.w) ek)).setCell ⟨W.heap.size + 1, 4, none⟩ (.slice fc tr.copies.length ec)) = WF at *
  have cF := cellOf hfin
  refine ret_ex rfl ?_
  simp [results, Tryd.results25, go_sem, cF]
  refine ⟨fun _ => ?_, fun h => absurd hc (by omega)⟩
  rw [HTR.out]
  exact ⟨fg, eg, fk, ek, fc, ec, rfl, Lib.hid ((hTr.out.ext hE (fun i _ e => .inr e)).mono (fun i _ e => .inl e)), (HXF.out.transNo hx6).trans2 hE (fun i hi e => by unfold At at e; omega)⟩
 ·obtain ⟨rfl, hx6⟩ := hpost.2 (by omega)
  have hCb := HC6.out _ hx6
  have cC := cellOf hCb
  have fC := freeOf hCb
  have HCb := Lib.hid hCb
  clear hpost hCb
  go_wp2_with fail
  have hfin := BoxR.fin5 ⟨_, rfl, HCb.out⟩ (.int .i64 0) (.slice none 0 0) (.int .i64 0) (.slice none 0 0) (.slice none 0 0)
  have hE := set5 w6 (W.heap.size + 1) (.int .i64 0) (.slice none 0 0) (.int .i64 0) (.slice none 0 0) (.slice none 0 0)
  clear cC fC
  generalize (((((w6.setCell ⟨W.heap.size + 1, 0, none⟩ (.int .i64 0)).setCell ⟨W.heap.size + 1, 1, none⟩ (.slice none 0 0)).setCell ⟨W.heap.size + 1, 2, none⟩ (.int .i64 0)).setCell ⟨W.heap.size + 1, 3, none⟩ (.slice none 0 0)).setCell ⟨W.heap.size + 1, 4, none⟩ (.slice none 0 0)) = WF at *
  have cF := cellOf hfin
  refine ret_ex rfl ?_
  simp [results, Tryd.results25, go_sem, cF]
  exact ⟨fun h => absurd h hc, fun _ => ⟨rfl, (HXF.out.transNo hx6).trans2 hE (fun i hi e => by unfold At at e; omega)⟩⟩
end Go.Proofs.YtgakojgkkdmabaaDoor

/- Apply of both sides at any raw function and set. -/
import Derived.Test.YtkdjdhflhlbelaaSt1
import Derived.Test.YtkdjdhflhlbelaaRefC
set_option linter.unusedVariables false
set_option linter.unusedSimpArgs false
namespace Go.Proofs.Ytkdjdhflhlbelaa
open Go Go.RowKit
def zeroS : RawSet := ⟨0, []⟩
set_option maxRecDepth 100000 in
set_option maxHeartbeats 2000000 in
theorem rapply_any (M : Nat → Prop) (t : TrD) (s : Nat) (sg sk sc ss : Value) (W : World) (hM : ∀ b, M b → b < W.heap.size) (h : TrAt M W sg sk sc t) (hs : SetAt No W ss t.w s) :
    Calls Try.prog 100 #[.agg #[.int .i64 (t.w : Int), sg, .int .i64 (t.w : Int), sk, sc], .agg #[.int .i64 (t.w : Int), ss]] W (SetEPost M t.w (applyT t s) W) := by
  have H := Lib.hid h
  have HS := Lib.hid hs
  have HM := Lib.hid hM
  have hv := validB_set hs.hw hs.hm
  obtain ⟨ag, ng, cg, rfl⟩ := h.gen.shaped
  obtain ⟨ak, nk, ck, rfl⟩ := h.kill.shaped
  obtain ⟨ac, nc, cc, rfl⟩ := h.copies.shaped
  obtain ⟨as0, ns, cs, rfl⟩ := hs.shaped
  clear h hs hM
  go_enter Try.func100, Try.ntmps100
  go_wp2_with fail
  have hx0 : Ext No W (((W.alloc (.cells #[.int .i64 (t.w : Int), .slice ag ng cg, .int .i64 (t.w : Int), .slice ak nk ck, .slice ac nc cc] 70)).alloc (.cells #[.int .i64 (t.w : Int), .slice as0 ns cs] 33)).alloc (.cells #[.int .i64 0, .slice none 0 0] 33)) := (((Ext.refl _ _).alloc _).alloc _).alloc _
  refine (rvalidTr_any t _ _ _ _ _ rfl (H.out.no.extNo hx0)).mono ?_
  rintro e1 w1 ⟨rfl, hx1⟩
  have hA := hx1.blk (alloc_under (alloc_under (alloc_top (w := W) rfl))) no_no
  have hB := hx1.blk (n := W.heap.size + 1) (alloc_under (alloc_top (by simp))) no_no
  have hC := hx1.blk (n := W.heap.size + 2) (alloc_top (by simp)) no_no
  have hxa := hx0.transNo hx1
  have cB := cellOf hB
  clear hx0 hx1
  go_wp2_with fail
  refine (rvalid_any _ (setN t.w s) _ (HS.out.raw.extNo hxa)).mono ?_
  rintro e2 w2 ⟨rfl, hx2⟩
  rw [hv]
  replace hA := hx2.blk hA no_no
  replace hB := hx2.blk hB no_no
  replace hC := hx2.blk hC no_no
  replace hxa := hxa.transNo hx2
  clear hx2 cB
  have cA := cellOf hA
  have cB := cellOf hB
  have hszC := lt_of_block hC
  go_wp2_with fail
  refine (rvalue_any (fun b => M b ∨ b = W.heap.size + 2) t _ s _ _ _ _ _ rfl (fun b hb => ?_) ((H.out.mono (fun i hi e => ?_)).extNo hxa) (HS.out.extNo hxa)).mono ?_
  · rcases hb with hb | hb
    · have := HM.out b hb; omega
    · omega
  · rcases e with e | e
    · exact e
    · omega
  rintro e3 w3 ⟨a3, c3, rfl, hs3, hx3⟩
  replace hC := hx3.blk hC no_no
  replace hxa := hxa.transNo hx3
  clear hx3 cA cB hA hB
  have cC := cellOf hC
  have fC := freeOf hC
  go_wp2_with fail
  refine ret_ex rfl ?_
  simp [results, Try.results100, go_sem, cC]
  exact ⟨_, _, rfl, Lib.hid ((hs3.out.ext (ext_two hxa (W.heap.size + 2)) (fun i _ e => .inr e)).mono (fun i _ e => .inl e)), ext2 hxa (by omega)⟩
end Go.Proofs.Ytkdjdhflhlbelaa

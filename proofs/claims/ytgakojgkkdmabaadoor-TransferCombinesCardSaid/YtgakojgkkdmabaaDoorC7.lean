/- The walk of TransferCombines. -/
import Derived.Test.YtgakojgkkdmabaaDoorC6
import Derived.Test.YtgakojgkkdmabaaDoorAp2
import Derived.Test.YtgakojgkkdmabaaDoorSp2
import Derived.Test.YtgakojgkkdmabaaDoorSt4
import Derived.Test.YtgakojgkkdmabaaDoorTr17
set_option linter.unusedVariables false
set_option linter.unusedSimpArgs false
namespace Go.Proofs.YtgakojgkkdmabaaDoor
open Go Go.RowKit
theorem combines_w (r1 r2 : RawT) (x1 y1 x2 y2 : Int) (g1 k1 c1 g2 k2 c2 : Value) (W : World) (e1 : r1.gen.width = x1) (f1 : r1.kill.width = y1) (e2 : r2.gen.width = x2) (f2 : r2.kill.width = y2) (hT : TabW W) (h1 : RawTAt No W g1 k1 c1 r1) (h2 : RawTAt No W g2 k2 c2 r2) :
  Calls Tryd.prog 38 #[.agg #[.int .i64 x1, g1, .int .i64 y1, k1, c1], .agg #[.int .i64 x2, g2, .int .i64 y2, k2, c2]] W (BoolPost true W) := by
 subst e1 f1 e2 f2; exact combines_any r1 r2 g1 k1 c1 g2 k2 c2 W hT h1 h2
theorem raw_small {t : TrD} (h : TrOk t) : (rawT t).gen.words.length ≤ 1048576 ∧ (rawT t).kill.words.length ≤ 1048576 ∧ (rawT t).copies.length ≤ 1048576 := by
 have hw := h.w
 have hl := h.len
 refine ⟨?_, ?_, ?_⟩
 ·have : (rawT t).gen.words.length = nw t.w := wordsN_len ..
  unfold nw at this; omega
 ·have : (rawT t).kill.words.length = nw t.w := wordsN_len ..
  unfold nw at this; omega
 ·show t.copies.length ≤ _; omega
set_option maxRecDepth 100000 in
set_option maxHeartbeats 8000000 in
theorem transferCombines_any (tl g1 k1 c1 g2 k2 c2 : Value) (zs : List Int) (f g : RawT) (w : World) (ht : Ints No w .i64 tl zs) (h : RawTAt No w g1 k1 c1 f) (hs : RawTAt No w g2 k2 c2 g) (hT : TabW w) :
  Calls Tryd.prog 9 #[tl, .agg #[.int .i64 f.gen.width, g1, .int .i64 f.kill.width, k1, c1], .agg #[.int .i64 g.gen.width, g2, .int .i64 g.kill.width, k2, c2]] w fun e w' => e = .returned (.bool true) ∧ Ext No w w' := by
 have H := Lib.hid h
 have HS := Lib.hid hs
 have HTB := Lib.hid hT
 have HT := Lib.hid ht
 obtain ⟨at', ct', rfl⟩ := ht.slice
 obtain ⟨fg, fG, rfl⟩ := h.gen.slice
 obtain ⟨fk, fK, rfl⟩ := h.kill.slice
 obtain ⟨fc, fC, rfl⟩ := Row.slice h.copies
 obtain ⟨gg, gG, rfl⟩ := hs.gen.slice
 obtain ⟨gk, gK, rfl⟩ := hs.kill.slice
 obtain ⟨gc, gC, rfl⟩ := Row.slice hs.copies
 clear h ht hT hs
 go_enter Tryd.func9, Tryd.ntmps9
 go_wp2_with fail
 have hxA : Ext No w ((w.alloc (.cells #[.int .i64 f.gen.width, .slice fg f.gen.words.length fG, .int .i64 f.kill.width, .slice fk f.kill.words.length fK, .slice fc f.copies.length fC] 28)).alloc (.cells #[.int .i64 g.gen.width, .slice gg g.gen.words.length gG, .int .i64 g.kill.width, .slice gk g.kill.words.length gK, .slice gc g.copies.length gC] 28)) := ((Ext.refl _ _).alloc _).alloc _
 have hbA : ((w.alloc (.cells #[.int .i64 f.gen.width, .slice fg f.gen.words.length fG, .int .i64 f.kill.width, .slice fk f.kill.words.length fK, .slice fc f.copies.length fC] 28)).alloc (.cells #[.int .i64 g.gen.width, .slice gg g.gen.words.length gG, .int .i64 g.kill.width, .slice gk g.kill.words.length gK, .slice gc g.copies.length gC] 28)).heap[w.heap.size]? = some (.cells #[.int .i64 f.gen.width, .slice fg f.gen.words.length fG, .int .i64 f.kill.width, .slice fk f.kill.words.length fK, .slice fc f.copies.length fC] 28 (0, 0)) := alloc_under (alloc_top rfl)
 have hbB : ((w.alloc (.cells #[.int .i64 f.gen.width, .slice fg f.gen.words.length fG, .int .i64 f.kill.width, .slice fk f.kill.words.length fK, .slice fc f.copies.length fC] 28)).alloc (.cells #[.int .i64 g.gen.width, .slice gg g.gen.words.length gG, .int .i64 g.kill.width, .slice gk g.kill.words.length gK, .slice gc g.copies.length gC] 28)).heap[w.heap.size + 1]? = some (.cells #[.int .i64 g.gen.width, .slice gg g.gen.words.length gG, .int .i64 g.kill.width, .slice gk g.kill.words.length gK, .slice gc g.copies.length gC] 28 (0, 0)) := alloc_top (by simp)
 refine (new_any _ zs _ (HT.out.extNo hxA)).mono ?_
 rintro e0 w0 ⟨rfl, ht0, hx0, hs0⟩
 have htb : w.heap.size + 1 < ((w.alloc (.cells #[.int .i64 f.gen.width, .slice fg f.gen.words.length fG, .int .i64 f.kill.width, .slice fk f.kill.words.length fK, .slice fc f.copies.length fC] 28)).alloc (.cells #[.int .i64 g.gen.width, .slice gg g.gen.words.length gG, .int .i64 g.kill.width, .slice gk g.kill.words.length gK, .slice gc g.copies.length gC] 28)).heap.size := by simp
 have HX := Lib.hid (hxA.transNo hx0)
 have HA := Lib.hid (hx0.blk hbA no_no)
 have HB := Lib.hid (hx0.blk hbB no_no)
 have HT0 := Lib.hid ht0
 clear hxA hbA hbB hx0 hs0 ht0
 generalize ((w.alloc (.cells #[.int .i64 f.gen.width, .slice fg f.gen.words.length fG, .int .i64 f.kill.width, .slice fk f.kill.words.length fK, .slice fc f.copies.length fC] 28)).alloc (.cells #[.int .i64 g.gen.width, .slice gg g.gen.words.length gG, .int .i64 g.kill.width, .slice gk g.kill.words.length gK, .slice gc g.copies.length gC] 28)).heap.size = tb at *
 go_wp2_with fail
 go_loopw [8] (fun i wr => ∃ k : Nat, k ≤ 5 ∧ i = .int .i64 k ∧ Hid (TapeOk wr tb) ∧ Hid (Ext No w wr) ∧ Hid (wr.heap[w.heap.size]? = some (.cells #[.int .i64 f.gen.width, .slice fg f.gen.words.length fG, .int .i64 f.kill.width, .slice fk f.kill.words.length fK, .slice fc f.copies.length fC] 28 (0, 0))) ∧ Hid (wr.heap[w.heap.size + 1]? = some (.cells #[.int .i64 g.gen.width, .slice gg g.gen.words.length gG, .int .i64 g.kill.width, .slice gk g.kill.words.length gK, .slice gc g.copies.length gC] 28 (0, 0)))) (fun i _ => 5 - (intOf i).toNat)
 case atStart => exact ⟨0, Nat.zero_le _, rfl, HT0, HX, HA, HB⟩
 case round =>
  clear HT0 HX HA HB
  obtain ⟨k, hk, rfl, ht, hx, hA, hB⟩ := hrel
  rename World => wr
  have hpos : (0 : Int) ≤ (k : Int) := by omega
  by_cases hlt : k < 5
  ·have hlz : (k : Int) < 5 := by omega
   have HKK : Hid (Value.int .i64 ((k : Int) + 1) = .int .i64 ((k + 1 : Nat) : Int)) := Lib.hid (by rw [show ((k + 1 : Nat) : Int) = (k : Int) + 1 from by omega])
   go_wp2_with fail
   refine (width_any _ _ ht.out).mono ?_
   rintro e1 w1 ⟨W8, hw8, rfl, ht1, hx1⟩
   have hlt0 := ht.out.lt
   go_wp2_with fail
   refine (gtr_any _ W8 _ (by omega) ht1).mono ?_
   rintro e2 w2 ⟨t, sg, sk, sc, hw, rfl, hF, ht2, hx2⟩
   subst hw
   have hokt := hF.out.ok
   have hlt1 := ht1.lt
   have hlt2 := ht2.lt
   have hF2 := hF.out.raw.mono (M' := At tb) (fun i hi e => by unfold At at e; unfold Lo; omega)
   obtain ⟨a1, c1, rfl⟩ := hF.out.gen.slice
   obtain ⟨a2, c2, rfl⟩ := hF.out.kill.slice
   obtain ⟨a3, c3, rfl⟩ := Row.slice hF.out.copies
   go_wp2_with fail
   refine (gtr_any _ t.w _ (by omega) ht2).mono ?_
   rintro e3 w3 ⟨u, sg2, sk2, sc2, hu, rfl, hG, ht3, hx3⟩
   have hoku := hG.out.ok
   have hG2 := hG.out.raw.mono (M' := At tb) (fun i hi e => by unfold At at e; unfold Lo; omega)
   have hgu := hG.out.gen.slice
   have hku := hG.out.kill.slice
   rw [hu] at hgu hku
   obtain ⟨b1, d1, rfl⟩ := hgu
   obtain ⟨b2, d2, rfl⟩ := hku
   obtain ⟨b3, d3, rfl⟩ := Row.slice hG.out.copies
   have hxw := ((hx.out.trans2 hx1 (fun i hi e => by unfold At at e; omega)).trans2 hx2 (fun i hi e => by unfold At at e; omega)).trans2 hx3 (fun i hi e => by unfold At at e; omega)
   have hxa := ((Ext.refl No w3).alloc (.cells #[.int .i64 (t.w : Int), .slice a1 (nw t.w) c1, .int .i64 (t.w : Int), .slice a2 (nw t.w) c2, .slice a3 t.copies.length c3] 28)).alloc (.cells #[.int .i64 (t.w : Int), .slice b1 (nw t.w) d1, .int .i64 (t.w : Int), .slice b2 (nw t.w) d2, .slice b3 u.copies.length d3] 28)
   have HDX := Lib.hid (show ((w3.alloc (.cells #[.int .i64 (t.w : Int), .slice a1 (nw t.w) c1, .int .i64 (t.w : Int), .slice a2 (nw t.w) c2, .slice a3 t.copies.length c3] 28)).alloc (.cells #[.int .i64 (t.w : Int), .slice b1 (nw t.w) d1, .int .i64 (t.w : Int), .slice b2 (nw t.w) d2, .slice b3 u.copies.length d3] 28)).heap[w3.heap.size]? = some (.cells #[.int .i64 (t.w : Int), .slice a1 (nw t.w) c1, .int .i64 (t.w : Int), .slice a2 (nw t.w) c2, .slice a3 t.copies.length c3] 28 (0, 0)) from alloc_under (alloc_top rfl))
   have HDY := Lib.hid (show ((w3.alloc (.cells #[.int .i64 (t.w : Int), .slice a1 (nw t.w) c1, .int .i64 (t.w : Int), .slice a2 (nw t.w) c2, .slice a3 t.copies.length c3] 28)).alloc (.cells #[.int .i64 (t.w : Int), .slice b1 (nw t.w) d1, .int .i64 (t.w : Int), .slice b2 (nw t.w) d2, .slice b3 u.copies.length d3] 28)).heap[w3.heap.size + 1]? = some (.cells #[.int .i64 (t.w : Int), .slice b1 (nw t.w) d1, .int .i64 (t.w : Int), .slice b2 (nw t.w) d2, .slice b3 u.copies.length d3] 28 (0, 0)) from alloc_top (by simp))
   have hx123 := (hx1.trans hx2).trans hx3
   have hA2 := Lib.hid (hxa.blk (hx123.blk hA.out (by unfold At; omega)) no_no)
   have hB2 := Lib.hid (hxa.blk (hx123.blk hB.out (by unfold At; omega)) no_no)
   have hF5 := Lib.hid ((hF2.ext hx3 (fun _ _ e => e)).extNo hxa)
   have hG5 := Lib.hid (hG2.extNo hxa)
   have ht5 := Lib.hid (ht3.ext hxa)
   have hxw5 := Lib.hid (hxw.transNo hxa)
   have hDt : tb < w3.heap.size := ht3.lt
   have HWL := Lib.hid (raw_small hokt)
   clear hxa hxw hx1 hx2 hx3 hx123 ht1 ht2 ht3 hF2 hG2 hF hG hx hA ht hB hokt hoku hlt1 hlt2 hlt0
   go_upto_region 7 with (fail)
   generalize ((w3.alloc (.cells #[.int .i64 (t.w : Int), .slice a1 (nw t.w) c1, .int .i64 (t.w : Int), .slice a2 (nw t.w) c2, .slice a3 t.copies.length c3] 28)).alloc (.cells #[.int .i64 (t.w : Int), .slice b1 (nw t.w) d1, .int .i64 (t.w : Int), .slice b2 (nw t.w) d2, .slice b3 u.copies.length d3] 28)) = V at *
   generalize w3.heap.size = D at *
   obtain ⟨q, e0, hq⟩ := canon_both (rawT t) hF5.out.gen.lt hF5.out.kill.lt
   have HQ := Lib.hid hq
   clear hq
   have cX := cellOf HDX.out
   go_wp2_with fail
   clear cX
   refine (HQ.out _ _ _ _ hF5.out.no).2.mono ?_
   rintro e4 w4 ⟨qg, qG, qk, qK, qc, qC, rfl, hQ, hx4⟩
   have hz : Ext No w4 (w4.alloc (.cells #[.int .i64 q.gen.width, .slice qg q.gen.words.length qG, .int .i64 q.kill.width, .slice qk q.kill.words.length qK, .slice qc q.copies.length qC] 28)) := (Ext.refl _ _).alloc _
   have hy := hx4.transNo hz
   have HDC := Lib.hid (alloc_top (w := w4) (o := (.cells #[.int .i64 q.gen.width, .slice qg q.gen.words.length qG, .int .i64 q.kill.width, .slice qk q.kill.words.length qK, .slice qc q.copies.length qC] 28)) rfl)
   have hDC : D + 1 < w4.heap.size := lt_of_block (hx4.blk HDY.out no_no)
   replace HDX := Lib.hid (hy.blk HDX.out no_no)
   replace HDY := Lib.hid (hy.blk HDY.out no_no)
   replace hA2 := Lib.hid (hy.blk hA2.out no_no)
   replace hB2 := Lib.hid (hy.blk hB2.out no_no)
   replace hF5 := Lib.hid (hF5.out.extNo hy)
   replace hG5 := Lib.hid (hG5.out.extNo hy)
   replace ht5 := Lib.hid (ht5.out.ext hy)
   replace hxw5 := Lib.hid (hxw5.out.transNo hy)
   have hQ5 := Lib.hid (hQ.out.extNo hz)
   clear hz hy hx4 hQ HQ
   go_upto_region 8 with (fail)
   generalize (w4.alloc (.cells #[.int .i64 q.gen.width, .slice qg q.gen.words.length qG, .int .i64 q.kill.width, .slice qk q.kill.words.length qK, .slice qc q.copies.length qC] 28)) = V2 at *
   generalize w4.heap.size = E at *
   have HTV : Hid (∀ w', Ext (At tb) V2 w' → TabW w') := Lib.hid (fun w' hx => HTB.out.extM ((hxw5.out.ofNo (M := At tb)).trans hx) (by have := HTB.out.pos; unfold At; omega))
   obtain ⟨uu, huu⟩ : ∃ uu, uu = t.w + 1 := ⟨_, rfl⟩
   have hv1 : IntKind.i64.wrap ((t.w : Int) + 1) = (uu : Int) := by rw [IntWalk.i64_in _ (by omega)]; omega
   have hu9 : uu ≤ 256 := by omega
   clear huu
   refine wp_region_held_drew (S := (fun w' => Ext (At tb) V2 w' ∧ TapeOk w' tb)) (by kernel_rfl) ?_ (fun hHeld => ?_)
   ·exact ⟨(Ext.refl _ _).drew, ht5.out.ext (Ext.refl _ _).drew⟩
   refine hTk (i := 0) (v := ?_) hHeld (fun w hSw => ?_) ?_
   rotate_left
   ·(have hEs : Ext (At tb) V2 _ ∧ TapeOk _ tb := hSw); (have x0 := cellOf (hEs.1.blk HDX.out (fun e => by unfold At at e; omega))); go_simp; (try with_reducible rfl)
   try simp only [Act.put, nzA, nzB, nzC]
   refine hTk (i := 1) (v := ?_) hHeld (fun w hSw => ?_) ?_
   rotate_left
   ·(have hEs : Ext (At tb) V2 _ ∧ TapeOk _ tb := hSw); (have x0 := cellOf (hEs.1.blk HDY.out (fun e => by unfold At at e; omega))); go_simp; (try with_reducible rfl)
   try simp only [Act.put, nzA, nzB, nzC]
   refine held_call (i := 2) rfl (by kernel_rfl) rfl (fun K hK => ?_)
   ((have hEx : Ext (At tb) V2 _ ∧ TapeOk _ tb := hHeld); go_simp; (go_at_call 38); (refine (combines_w (rawT t) (rawT u) _ _ _ _ _ _ _ _ _ _ _ rfl rfl (show (rawT u).gen.width = (t.w : Int) from by show (u.w : Int) = _; rw [hu]) (show (rawT u).kill.width = (t.w : Int) from by show (u.w : Int) = _; rw [hu]) (HTV.out _ hEx.1) (hF5.out.ext hEx.1 (fun _ _ e => e)).no (hG5.out.ext hEx.1 (fun _ _ e => e)).no).mono ?_); (rintro e11 w11 ⟨rfl, hy⟩); (have hN1 := Lib.hid ((Ext.refl No V2).drew.transNo hy)); (have hyA := hy.ofNo (M := At tb)); (have htA := hEx.2.ext hy); (clear hy); go_simp)
   refine hK.out _ _ ?_ ?_
   ·exact ⟨hEx.1.trans hyA, htA⟩
   clear hK K hHeld
   intro hHeld
   try simp only [Act.put, nzA, nzB, nzC]
   refine hTk (i := 3) (v := ?_) hHeld (fun w hSw => ?_) ?_
   rotate_left
   ·go_simp; (try with_reducible rfl)
   try simp only [Act.put, nzA, nzB, nzC]
   refine hTk (i := 4) (v := ?_) hHeld (fun w hSw => ?_) ?_
   rotate_left
   ·go_simp; (try with_reducible rfl)
   try simp only [Act.put, nzA, nzB, nzC]
   refine hTk (i := 5) (v := ?_) hHeld (fun w hSw => ?_) ?_
   rotate_left
   ·(have hEs : Ext (At tb) V2 _ ∧ TapeOk _ tb := hSw); (have x0 := cellOf (hEs.1.blk HDX.out (fun e => by unfold At at e; omega))); go_simp; (try with_reducible rfl)
   try simp only [Act.put, nzA, nzB, nzC]
   refine hTk (i := 6) (v := ?_) hHeld (fun w hSw => ?_) ?_
   rotate_left
   ·(have hEs : Ext (At tb) V2 _ ∧ TapeOk _ tb := hSw); (have x0 := cellOf (hEs.1.blk HDC.out (fun e => by unfold At at e; omega))); go_simp; (try with_reducible rfl)
   try simp only [Act.put, nzA, nzB, nzC]
   refine held_call (i := 7) rfl (by kernel_rfl) rfl (fun K hK => ?_)
   ((have hEx : Ext (At tb) V2 _ ∧ TapeOk _ tb := hHeld); go_simp; (go_at_call 38); (refine (combines_w (rawT t) q _ _ _ _ _ _ _ _ _ _ _ rfl rfl rfl rfl (HTV.out _ hEx.1) (hF5.out.ext hEx.1 (fun _ _ e => e)).no (hQ5.out.extNo hN1.out)).mono ?_); (rintro e12 w12 ⟨rfl, hy⟩); (have hyA := hy.ofNo (M := At tb)); (have htA := hEx.2.ext hy); (clear hy); go_simp)
   refine hK.out _ _ ?_ ?_
   ·exact ⟨hEx.1.trans hyA, htA⟩
   clear hK K hHeld
   intro hHeld
   try simp only [Act.put, nzA, nzB, nzC]
   refine hTk (i := 8) (v := ?_) hHeld (fun w hSw => ?_) ?_
   rotate_left
   ·go_simp; (try with_reducible rfl)
   try simp only [Act.put, nzA, nzB, nzC]
   refine hTk (i := 9) (v := ?_) hHeld (fun w hSw => ?_) ?_
   rotate_left
   ·go_simp; (try with_reducible rfl)
   try simp only [Act.put, nzA, nzB, nzC]
   refine hTk (i := 10) (v := ?_) hHeld (fun w hSw => ?_) ?_
   rotate_left
   ·go_simp; (try with_reducible rfl)
   try simp only [Act.put, nzA, nzB, nzC]
   refine hTk (i := 11) (v := ?_) hHeld (fun w hSw => ?_) ?_
   rotate_left
   ·(have hEs : Ext (At tb) V2 _ ∧ TapeOk _ tb := hSw); (have x0 := cellOf (hEs.1.blk HDX.out (fun e => by unfold At at e; omega))); go_simp; (try with_reducible rfl)
   try simp only [Act.put, nzA, nzB, nzC]
   refine hTk (i := 12) (v := ?_) hHeld (fun w hSw => ?_) ?_
   rotate_left
   ·go_simp; (try with_reducible rfl)
   try simp only [Act.put, nzA, nzB, nzC]
   refine hTk (i := 13) (v := ?_) hHeld (fun w hSw => ?_) ?_
   rotate_left
   ·go_simp; (try with_reducible rfl)
   try simp only [Act.put, nzA, nzB, nzC]
   refine hTk (i := 14) (v := ?_) hHeld (fun w hSw => ?_) ?_
   rotate_left
   ·go_simp; (try with_reducible rfl)
   try simp only [Act.put, nzA, nzB, nzC]
   refine held_call (i := 15) rfl (by kernel_rfl) rfl (fun K hK => ?_)
   ((have hEx : Ext (At tb) V2 _ ∧ TapeOk _ tb := hHeld); go_simp; (go_at_call 14); (refine (gtr_any tb uu _ hu9 hEx.2).mono ?_); (rintro e13 w13 ⟨t3, g3, k3, c3, hw3, rfl, hF3, htA, hyA⟩); (subst hw3); (obtain ⟨o1, p1, rfl⟩ := hF3.out.gen.slice); (obtain ⟨o2, p2, rfl⟩ := hF3.out.kill.slice); (obtain ⟨o3, p3, rfl⟩ := Row.slice hF3.out.copies); go_simp)
   refine hK.out _ _ ?_ ?_
   ·exact ⟨hEx.1.trans hyA, htA⟩
   clear hK K hHeld
   intro hHeld
   try simp only [Act.put, nzA, nzB, nzC]
   refine held_call (i := 16) rfl (by kernel_rfl) rfl (fun K hK => ?_)
   ((have hEx : Ext (At tb) V2 _ ∧ TapeOk _ tb := hHeld); go_simp; (go_at_call 38); (refine (combines_w (rawT t) (rawT t3) _ _ _ _ _ _ _ _ _ _ _ rfl rfl rfl rfl (HTV.out _ hEx.1) (hF5.out.ext hEx.1 (fun _ _ e => e)).no hF3.out.raw.no).mono ?_); (rintro e14 w14 ⟨rfl, hy⟩); (have hyA := hy.ofNo (M := At tb)); (have htA := hEx.2.ext hy); (clear hy); go_simp)
   refine hK.out _ _ ?_ ?_
   ·exact ⟨hEx.1.trans hyA, htA⟩
   clear hK K hHeld
   intro hHeld
   try simp only [Act.put, nzA, nzB, nzC]
   refine hTk (i := 17) (v := ?_) hHeld (fun w hSw => ?_) ?_
   rotate_left
   ·go_simp; (try with_reducible rfl)
   try simp only [Act.put, nzA, nzB, nzC]
   refine hTk (i := 18) (v := ?_) hHeld (fun w hSw => ?_) ?_
   rotate_left
   ·go_simp; (try with_reducible rfl)
   try simp only [Act.put, nzA, nzB, nzC]
   refine hTk (i := 19) (v := ?_) hHeld (fun w hSw => ?_) ?_
   rotate_left
   ·go_simp; (try with_reducible rfl)
   try simp only [Act.put, nzA, nzB, nzC]
   refine hTk (i := 20) (v := ?_) hHeld (fun w hSw => ?_) ?_
   rotate_left
   ·go_simp; (try with_reducible rfl)
   try simp only [Act.put, nzA, nzB, nzC]
   refine hTk (i := 21) (v := ?_) hHeld (fun w hSw => ?_) ?_
   rotate_left
   ·(have hEs : Ext (At tb) V2 _ ∧ TapeOk _ tb := hSw); (have x0 := cellOf (hEs.1.blk HDX.out (fun e => by unfold At at e; omega))); go_simp; (try with_reducible rfl)
   try simp only [Act.put, nzA, nzB, nzC]
   refine hTk (i := 23) (v := ?_) hHeld (fun w hSw => ?_) ?_
   rotate_left
   ·(have hEs : Ext (At tb) V2 _ ∧ TapeOk _ tb := hSw); (have x0 := cellOf (hEs.1.blk HDY.out (fun e => by unfold At at e; omega))); go_simp; (try with_reducible rfl)
   try simp only [Act.put, nzA, nzB, nzC]
   refine held_call (i := 22) rfl (by kernel_rfl) rfl (fun K hK => ?_)
   ((have hEx : Ext (At tb) V2 _ ∧ TapeOk _ tb := hHeld); go_simp; (go_at_call 18); (refine (spoilT_any tb (rawT t) _ _ _ _ (hF5.out.ext hEx.1 (fun _ _ e => e)) HWL.out.1 HWL.out.2.1 HWL.out.2.2 hEx.2).mono ?_); (rintro e15 w15 ⟨r15, sg15, sk15, sc15, rfl, hR15, htA, hyA⟩); (obtain ⟨i15, j15, rfl⟩ := hR15.out.gen.slice); (obtain ⟨k15, l15, rfl⟩ := hR15.out.kill.slice); (obtain ⟨m15, n15, rfl⟩ := Row.slice hR15.out.copies); go_simp)
   refine hK.out _ _ ?_ ?_
   ·exact ⟨hEx.1.trans hyA, htA⟩
   clear hK K hHeld
   intro hHeld
   try simp only [Act.put, nzA, nzB, nzC]
   refine held_call (i := 24) rfl (by kernel_rfl) rfl (fun K hK => ?_)
   ((have hEx : Ext (At tb) V2 _ ∧ TapeOk _ tb := hHeld); go_simp; (go_at_call 38); (refine (combines_w r15 (rawT u) _ _ _ _ _ _ _ _ _ _ _ rfl rfl (show (rawT u).gen.width = (t.w : Int) from by show (u.w : Int) = _; rw [hu]) (show (rawT u).kill.width = (t.w : Int) from by show (u.w : Int) = _; rw [hu]) (HTV.out _ hEx.1) hR15.out.no (hG5.out.ext hEx.1 (fun _ _ e => e)).no).mono ?_); (rintro e16 w16 ⟨rfl, hy⟩); (have hyA := hy.ofNo (M := At tb)); (have htA := hEx.2.ext hy); (clear hy); go_simp)
   refine hK.out _ _ ?_ ?_
   ·exact ⟨hEx.1.trans hyA, htA⟩
   clear hK K hHeld
   intro hHeld
   try simp only [Act.put, nzA, nzB, nzC]
   refine hTk (i := 25) (v := ?_) hHeld (fun w hSw => ?_) ?_
   rotate_left
   ·go_simp; (try with_reducible rfl)
   try simp only [Act.put, nzA, nzB, nzC]
   refine hTk (i := 26) (v := ?_) hHeld (fun w hSw => ?_) ?_
   rotate_left
   ·go_simp; (try with_reducible rfl)
   try simp only [Act.put, nzA, nzB, nzC]
   refine hTk (i := 27) (v := ?_) hHeld (fun w hSw => ?_) ?_
   rotate_left
   ·go_simp; (try with_reducible rfl)
   try simp only [Act.put, nzA, nzB, nzC]
   refine hTk (i := 28) (v := ?_) hHeld (fun w hSw => ?_) ?_
   rotate_left
   ·(have hEs : Ext (At tb) V2 _ ∧ TapeOk _ tb := hSw); (have x0 := cellOf (hEs.1.blk HDY.out (fun e => by unfold At at e; omega))); go_simp; (try with_reducible rfl)
   try simp only [Act.put, nzA, nzB, nzC]
   refine hTk (i := 29) (v := ?_) hHeld (fun w hSw => ?_) ?_
   rotate_left
   ·go_simp; (try with_reducible rfl)
   try simp only [Act.put, nzA, nzB, nzC]
   refine hTk (i := 30) (v := ?_) hHeld (fun w hSw => ?_) ?_
   rotate_left
   ·(have hEs : Ext (At tb) V2 _ ∧ TapeOk _ tb := hSw); (have x0 := cellOf (hEs.1.blk HDX.out (fun e => by unfold At at e; omega))); go_simp; (try with_reducible rfl)
   try simp only [Act.put, nzA, nzB, nzC]
   refine held_call (i := 31) rfl (by kernel_rfl) rfl (fun K hK => ?_)
   ((have hEx : Ext (At tb) V2 _ ∧ TapeOk _ tb := hHeld); go_simp; (go_at_call 18); (refine (spoilT_any tb (rawT t) _ _ _ _ (hF5.out.ext hEx.1 (fun _ _ e => e)) HWL.out.1 HWL.out.2.1 HWL.out.2.2 hEx.2).mono ?_); (rintro e17 w17 ⟨r17, sg17, sk17, sc17, rfl, hR17, htA, hyA⟩); (obtain ⟨i17, j17, rfl⟩ := hR17.out.gen.slice); (obtain ⟨k17, l17, rfl⟩ := hR17.out.kill.slice); (obtain ⟨m17, n17, rfl⟩ := Row.slice hR17.out.copies); go_simp)
   refine hK.out _ _ ?_ ?_
   ·exact ⟨hEx.1.trans hyA, htA⟩
   clear hK K hHeld
   intro hHeld
   try simp only [Act.put, nzA, nzB, nzC]
   refine held_call (i := 32) rfl (by kernel_rfl) rfl (fun K hK => ?_)
   ((have hEx : Ext (At tb) V2 _ ∧ TapeOk _ tb := hHeld); go_simp; (go_at_call 38); (refine (combines_w (rawT u) r17 _ _ _ _ _ _ _ _ _ _ _ (show (rawT u).gen.width = (t.w : Int) from by show (u.w : Int) = _; rw [hu]) (show (rawT u).kill.width = (t.w : Int) from by show (u.w : Int) = _; rw [hu]) rfl rfl (HTV.out _ hEx.1) (hG5.out.ext hEx.1 (fun _ _ e => e)).no hR17.out.no).mono ?_); (rintro e18 w18 ⟨rfl, hy⟩); (have hyA := hy.ofNo (M := At tb)); (have htA := hEx.2.ext hy); (clear hy); go_simp)
   refine hK.out _ _ ?_ ?_
   ·exact ⟨hEx.1.trans hyA, htA⟩
   clear hK K hHeld
   intro hHeld
   try simp only [Act.put, nzA, nzB, nzC]
   refine hTk (i := 33) (v := ?_) hHeld (fun w hSw => ?_) ?_
   rotate_left
   ·go_simp; (try with_reducible rfl)
   try simp only [Act.put, nzA, nzB, nzC]
   refine hTk (i := 34) (v := ?_) hHeld (fun w hSw => ?_) ?_
   rotate_left
   ·go_simp; (try with_reducible rfl)
   try simp only [Act.put, nzA, nzB, nzC]
   refine wpAnyH_done (by kernel_rfl) ?_ _
   have hEx : Ext (At tb) V2 _ ∧ TapeOk _ tb := hHeld
   go_wp2_with fail
   go_roundw
   case rel => exact ⟨_, by omega, HKK.out, Lib.hid hEx.2, Lib.hid (hxw5.out.trans2 hEx.1 (fun i hi e => by unfold At at e; omega)), Lib.hid (hEx.1.blk hA2.out (by unfold At; omega)), Lib.hid (hEx.1.blk hB2.out (by unfold At; omega))⟩
   case measure => simp [intOf]; omega
  ·have hge : ¬ ((k : Int) < 5) := by omega
   have cA := cellOf hA.out
   go_wp2_with fail
   clear cA
   refine (large_any f _ _ _ _ (H.out.extNo hx.out)).mono ?_
   rintro e1 w1 ⟨bb, rfl, hx1⟩
   have hy1 := Lib.hid (hx.out.transNo hx1)
   have hA1 := Lib.hid (hx1.blk hA.out no_no)
   have hB1 := Lib.hid (hx1.blk hB.out no_no)
   clear hx hA hx1 ht hB
   cases bb with
   | true =>
    go_wp2_with fail
    go_ret
    exact ⟨rfl, hy1.out⟩
   | false =>
    have cB := cellOf hB1.out
    go_wp2_with fail
    clear cB
    refine (large_any g _ _ _ _ (HS.out.extNo hy1.out)).mono ?_
    rintro e2 w2 ⟨bc, rfl, hx2⟩
    have hy2 := Lib.hid (hy1.out.transNo hx2)
    have hA3 := Lib.hid (hx2.blk hA1.out no_no)
    have hB3 := Lib.hid (hx2.blk hB1.out no_no)
    clear hx2 hA1 hB1 hy1
    cases bc with
    | true =>
     go_wp2_with fail
     go_ret
     exact ⟨rfl, hy2.out⟩
    | false =>
     have cA := cellOf hA3.out
     have cB := cellOf hB3.out
     go_wp2_with fail
     clear cA cB
     refine (combines_any f g _ _ _ _ _ _ _ (HTB.out.ext hy2.out) (H.out.extNo hy2.out) (HS.out.extNo hy2.out)).mono ?_
     rintro e3 w3 ⟨rfl, hx3⟩
     go_wp2_with fail
     refine (sane_any _).mono ?_
     rintro e4 w4 ⟨rfl, hx4⟩
     go_wp2_with fail
     go_ret
     exact ⟨rfl, (hy2.out.transNo hx3).transNo hx4⟩
end Go.Proofs.YtgakojgkkdmabaaDoor

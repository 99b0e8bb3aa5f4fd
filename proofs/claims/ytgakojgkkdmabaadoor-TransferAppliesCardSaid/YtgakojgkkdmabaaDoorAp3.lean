/- reads: program and reference agree at any raw function and set. -/
import Derived.Test.YtgakojgkkdmabaaDoorAp2
import Derived.Test.YtgakojgkkdmabaaDoorREq
import Derived.Test.YtgakojgkkdmabaaDoorHeld
set_option linter.unusedVariables false
set_option linter.unusedSimpArgs false
namespace Go.Proofs.YtgakojgkkdmabaaDoor
open Go Go.RowKit

theorem rawv_of {M : Nat → Prop} {w : World} {sl : Value} {s : RawSet} (h : WordsAt M w sl s.words) : RawV M w (.agg #[.int .i64 s.width, sl]) s := ⟨sl, rfl, h⟩
set_option maxRecDepth 100000 in
set_option maxHeartbeats 4000000 in
theorem reads_any (r : RawT) (s : RawSet) (g1 k1 c1 s1 : Value) (a b : Int) (W : World) (hT : TabW W) (h : RawTAt No W g1 k1 c1 r) (hs : WordsAt No W s1 s.words) :
    Calls Tryd.prog 15 #[.agg #[.int .i64 r.gen.width, g1, .int .i64 r.kill.width, k1, c1], .agg #[.int .i64 s.width, s1], .int .i64 a, .int .i64 b] W (BoolPost true W) := by
  obtain ⟨q, e0, hq⟩ := apply_both r s h.gen.lt h.kill.lt hs.lt
  obtain ⟨p, e1, hp⟩ := canon_both r h.gen.lt h.kill.lt
  obtain ⟨bb, hb⟩ := follows_both r a b h.gen.lt h.kill.lt
  have HQ := Lib.hid hq
  have HP := Lib.hid hp
  have HB := Lib.hid hb
  have HTB := Lib.hid hT
  have H := Lib.hid h
  have HS := Lib.hid hs
  obtain ⟨ag, cg, rfl⟩ := h.gen.slice
  obtain ⟨ak, ck, rfl⟩ := h.kill.slice
  obtain ⟨ac, cc, rfl⟩ := Row.slice h.copies
  obtain ⟨as0, cs, rfl⟩ := hs.slice
  clear h hs hT hq hp hb
  go_enter Tryd.func15, Tryd.ntmps15
  go_wp2_with fail
  have hx0 : Ext No W ((W.alloc (.cells #[.int .i64 r.gen.width, .slice ag r.gen.words.length cg, .int .i64 r.kill.width, .slice ak r.kill.words.length ck, .slice ac r.copies.length cc] 28)).alloc (.cells #[.int .i64 s.width, .slice as0 s.words.length cs] 25)) := ((Ext.refl _ _).alloc _).alloc _
  have hA : ((W.alloc (.cells #[.int .i64 r.gen.width, .slice ag r.gen.words.length cg, .int .i64 r.kill.width, .slice ak r.kill.words.length ck, .slice ac r.copies.length cc] 28)).alloc (.cells #[.int .i64 s.width, .slice as0 s.words.length cs] 25)).heap[W.heap.size]? = some (.cells #[.int .i64 r.gen.width, .slice ag r.gen.words.length cg, .int .i64 r.kill.width, .slice ak r.kill.words.length ck, .slice ac r.copies.length cc] 28 (0, 0)) := alloc_under (alloc_top rfl)
  have hB : ((W.alloc (.cells #[.int .i64 r.gen.width, .slice ag r.gen.words.length cg, .int .i64 r.kill.width, .slice ak r.kill.words.length ck, .slice ac r.copies.length cc] 28)).alloc (.cells #[.int .i64 s.width, .slice as0 s.words.length cs] 25)).heap[W.heap.size + 1]? = some (.cells #[.int .i64 s.width, .slice as0 s.words.length cs] 25 (0, 0)) := alloc_top (by simp)
  generalize ((W.alloc (.cells #[.int .i64 r.gen.width, .slice ag r.gen.words.length cg, .int .i64 r.kill.width, .slice ak r.kill.words.length ck, .slice ac r.copies.length cc] 28)).alloc (.cells #[.int .i64 s.width, .slice as0 s.words.length cs] 25)) = V0 at *
  refine ((HQ.out _ _ _ _ _ (H.out.extNo hx0) (HS.out.extNo hx0)).1).mono ?_
  rintro e1 w1 ⟨a1, d1, rfl, hx, hx1⟩
  have hy := hx1.alloc (.cells #[.int .i64 q.width, .slice a1 q.words.length d1] 25)
  have hz : Ext No w1 (w1.alloc (.cells #[.int .i64 q.width, .slice a1 q.words.length d1] 25)) := (Ext.refl _ _).alloc _
  replace hA := hy.blk hA no_no
  replace hB := hy.blk hB no_no
  have hxB := alloc_top (w := w1) (o := (.cells #[.int .i64 q.width, .slice a1 q.words.length d1] 25)) rfl
  replace hx := hx.out.extNo hz
  replace hx0 := hx0.transNo hy
  clear hy hz hx1
  have c0 := cellOf hA
  have c1 := cellOf hB
  go_wp2_with fail
  clear c0 c1
  generalize (w1.alloc (.cells #[.int .i64 q.width, .slice a1 q.words.length d1] 25)) = V1 at *
  generalize w1.heap.size = D1 at *
  refine ((HQ.out _ _ _ _ _ (H.out.extNo hx0) (HS.out.extNo hx0)).2).mono ?_
  rintro e2 w2 ⟨a2, d2, rfl, hY, hx2⟩
  have hy := hx2.alloc (.cells #[.int .i64 q.width, .slice a2 q.words.length d2] 25)
  have hz : Ext No w2 (w2.alloc (.cells #[.int .i64 q.width, .slice a2 q.words.length d2] 25)) := (Ext.refl _ _).alloc _
  replace hA := hy.blk hA no_no
  replace hB := hy.blk hB no_no
  replace hxB := hy.blk hxB no_no
  have hyB := alloc_top (w := w2) (o := (.cells #[.int .i64 q.width, .slice a2 q.words.length d2] 25)) rfl
  replace hY := hY.out.extNo hz
  replace hx := hx.extNo hy
  replace hx0 := hx0.transNo hy
  clear hy hz hx2
  have c0 := cellOf hA
  go_wp2_with fail
  clear c0
  generalize (w2.alloc (.cells #[.int .i64 q.width, .slice a2 q.words.length d2] 25)) = V2 at *
  generalize w2.heap.size = D2 at *
  refine ((HP.out _ _ _ _ (H.out.extNo hx0)).1 (HTB.out.ext hx0)).mono ?_
  rintro e3 w3 ⟨m3, n3, u3, v3, x3, y3, rfl, hc, hx3⟩
  have hy := hx3.alloc (.cells #[.int .i64 p.gen.width, .slice m3 p.gen.words.length n3, .int .i64 p.kill.width, .slice u3 p.kill.words.length v3, .slice x3 p.copies.length y3] 28)
  have hz : Ext No w3 (w3.alloc (.cells #[.int .i64 p.gen.width, .slice m3 p.gen.words.length n3, .int .i64 p.kill.width, .slice u3 p.kill.words.length v3, .slice x3 p.copies.length y3] 28)) := (Ext.refl _ _).alloc _
  replace hA := hy.blk hA no_no
  replace hB := hy.blk hB no_no
  replace hxB := hy.blk hxB no_no
  replace hyB := hy.blk hyB no_no
  have hcB := alloc_top (w := w3) (o := (.cells #[.int .i64 p.gen.width, .slice m3 p.gen.words.length n3, .int .i64 p.kill.width, .slice u3 p.kill.words.length v3, .slice x3 p.copies.length y3] 28)) rfl
  replace hc := hc.out.extNo hz
  replace hx := hx.extNo hy
  replace hY := hY.extNo hy
  replace hx0 := hx0.transNo hy
  clear hy hz hx3
  have c0 := cellOf hA
  go_wp2_with fail
  clear c0
  generalize (w3.alloc (.cells #[.int .i64 p.gen.width, .slice m3 p.gen.words.length n3, .int .i64 p.kill.width, .slice u3 p.kill.words.length v3, .slice x3 p.copies.length y3] 28)) = V3 at *
  generalize w3.heap.size = D3 at *
  refine ((HP.out _ _ _ _ (H.out.extNo hx0)).2).mono ?_
  rintro e4 w4 ⟨m4, n4, u4, v4, x4, y4, rfl, hd, hx4⟩
  have hy := hx4.alloc (.cells #[.int .i64 p.gen.width, .slice m4 p.gen.words.length n4, .int .i64 p.kill.width, .slice u4 p.kill.words.length v4, .slice x4 p.copies.length y4] 28)
  have hz : Ext No w4 (w4.alloc (.cells #[.int .i64 p.gen.width, .slice m4 p.gen.words.length n4, .int .i64 p.kill.width, .slice u4 p.kill.words.length v4, .slice x4 p.copies.length y4] 28)) := (Ext.refl _ _).alloc _
  replace hA := hy.blk hA no_no
  replace hB := hy.blk hB no_no
  replace hxB := hy.blk hxB no_no
  replace hyB := hy.blk hyB no_no
  replace hcB := hy.blk hcB no_no
  have hdB := alloc_top (w := w4) (o := (.cells #[.int .i64 p.gen.width, .slice m4 p.gen.words.length n4, .int .i64 p.kill.width, .slice u4 p.kill.words.length v4, .slice x4 p.copies.length y4] 28)) rfl
  replace hd := hd.out.extNo hz
  replace hx := hx.extNo hy
  replace hY := hY.extNo hy
  replace hc := hc.extNo hy
  replace hx0 := hx0.transNo hy
  clear hy hz hx4
  have c0 := cellOf hA
  go_wp2_with fail
  clear c0
  generalize (w4.alloc (.cells #[.int .i64 p.gen.width, .slice m4 p.gen.words.length n4, .int .i64 p.kill.width, .slice u4 p.kill.words.length v4, .slice x4 p.copies.length y4] 28)) = V4 at *
  generalize w4.heap.size = D4 at *
  have HA := Lib.hid hA
  have HX := Lib.hid hx
  have HY := Lib.hid hY
  have HC := Lib.hid hc
  have HD := Lib.hid hd
  have HXB := Lib.hid hxB
  have HYB := Lib.hid hyB
  have HCB := Lib.hid hcB
  have HDB := Lib.hid hdB
  have HE := Lib.hid hx0
  clear hA hB hx hY hc hd hxB hyB hcB hdB hx0
  have hvb : ∃ vb, Hid (validT r = vb) := ⟨_, Lib.hid rfl⟩
  obtain ⟨vb, HV⟩ := hvb
  refine wp_region_held_drew (S := (fun w' => Ext No V4 w')) (by kernel_rfl) ?_ (fun hHeld => ?_)
  · exact (Ext.refl _ _).drew
  refine held_take (i := 0) (v := ?_) rfl (by kernel_rfl) (by kernel_rfl) (by kernel_rfl) (fun _ _ _ h => h) rfl (fun w hSw => ?_) hHeld ?_
  rotate_left
  · (have hEs : Ext No V4 _ := hSw); (have x0 := cellOf (hEs.blk HA.out no_no)); go_simp; (try with_reducible rfl)
  try simp only [Act.put, List.setIfInBounds_toArray, List.set_cons_zero, List.set_cons_succ]
  refine held_take (i := 2) (v := ?_) rfl (by kernel_rfl) (by kernel_rfl) (by kernel_rfl) (fun _ _ _ h => h) rfl (fun w hSw => ?_) hHeld ?_
  rotate_left
  · (have hEs : Ext No V4 _ := hSw); (have x0 := cellOf (hEs.blk HA.out no_no)); go_simp; (try with_reducible rfl)
  try simp only [Act.put, List.setIfInBounds_toArray, List.set_cons_zero, List.set_cons_succ]
  refine held_call (i := 1) rfl (by kernel_rfl) rfl (fun K hK => ?_)
  ((have hEx : Ext No V4 _ := hHeld); go_simp; (go_at_call 43); (with_reducible refine (validT_any r _ _ _ _ (H.out.extNo (HE.out.transNo hEx))).mono ?_); (rintro e11 w11 ⟨rfl, hyA⟩); (try rw [HV.out]); go_simp)
  refine hK.out _ _ ?_ (fun hNew => ?_)
  · exact Ext.transNo (show Ext No V4 _ from hHeld) hyA
  clear hK K hHeld
  have hHeld := hNew
  clear hNew
  try simp only [Act.put, List.setIfInBounds_toArray, List.set_cons_zero, List.set_cons_succ]
  refine held_call (i := 3) rfl (by kernel_rfl) rfl (fun K hK => ?_)
  ((have hEx : Ext No V4 _ := hHeld); go_simp; (go_at_call 44); (with_reducible refine (rvalidT_any r _ _ _ _ (H.out.extNo (HE.out.transNo hEx))).mono ?_); (rintro e12 w12 ⟨rfl, hyA⟩); (try rw [HV.out]); go_simp)
  refine hK.out _ _ ?_ (fun hNew => ?_)
  · exact Ext.transNo (show Ext No V4 _ from hHeld) hyA
  clear hK K hHeld
  have hHeld := hNew
  clear hNew
  try simp only [Act.put, List.setIfInBounds_toArray, List.set_cons_zero, List.set_cons_succ]
  refine held_take (i := 4) (v := ?_) rfl (by kernel_rfl) (by kernel_rfl) (by kernel_rfl) (fun _ _ _ h => h) rfl (fun w hSw => ?_) hHeld ?_
  rotate_left
  · go_simp; (try with_reducible rfl)
  try simp only [Act.put, List.setIfInBounds_toArray, List.set_cons_zero, List.set_cons_succ]
  refine held_take (i := 5) (v := ?_) rfl (by kernel_rfl) (by kernel_rfl) (by kernel_rfl) (fun _ _ _ h => h) rfl (fun w hSw => ?_) hHeld ?_
  rotate_left
  · go_simp; (try with_reducible rfl)
  try simp only [Act.put, List.setIfInBounds_toArray, List.set_cons_zero, List.set_cons_succ]
  refine held_take (i := 6) (v := ?_) rfl (by kernel_rfl) (by kernel_rfl) (by kernel_rfl) (fun _ _ _ h => h) rfl (fun w hSw => ?_) hHeld ?_
  rotate_left
  · (have hEs : Ext No V4 _ := hSw); (have x0 := cellOf (hEs.blk HA.out no_no)); go_simp; (try with_reducible rfl)
  try simp only [Act.put, List.setIfInBounds_toArray, List.set_cons_zero, List.set_cons_succ]
  refine held_take (i := 7) (v := ?_) rfl (by kernel_rfl) (by kernel_rfl) (by kernel_rfl) (fun _ _ _ h => h) rfl (fun w hSw => ?_) hHeld ?_
  rotate_left
  · go_simp; (try with_reducible rfl)
  try simp only [Act.put, List.setIfInBounds_toArray, List.set_cons_zero, List.set_cons_succ]
  refine held_take (i := 8) (v := ?_) rfl (by kernel_rfl) (by kernel_rfl) (by kernel_rfl) (fun _ _ _ h => h) rfl (fun w hSw => ?_) hHeld ?_
  rotate_left
  · go_simp; (try with_reducible rfl)
  try simp only [Act.put, List.setIfInBounds_toArray, List.set_cons_zero, List.set_cons_succ]
  refine held_take (i := 10) (v := ?_) rfl (by kernel_rfl) (by kernel_rfl) (by kernel_rfl) (fun _ _ _ h => h) rfl (fun w hSw => ?_) hHeld ?_
  rotate_left
  · (have hEs : Ext No V4 _ := hSw); (have x0 := cellOf (hEs.blk HA.out no_no)); go_simp; (try with_reducible rfl)
  try simp only [Act.put, List.setIfInBounds_toArray, List.set_cons_zero, List.set_cons_succ]
  refine held_take (i := 11) (v := ?_) rfl (by kernel_rfl) (by kernel_rfl) (by kernel_rfl) (fun _ _ _ h => h) rfl (fun w hSw => ?_) hHeld ?_
  rotate_left
  · go_simp; (try with_reducible rfl)
  try simp only [Act.put, List.setIfInBounds_toArray, List.set_cons_zero, List.set_cons_succ]
  refine held_take (i := 12) (v := ?_) rfl (by kernel_rfl) (by kernel_rfl) (by kernel_rfl) (fun _ _ _ h => h) rfl (fun w hSw => ?_) hHeld ?_
  rotate_left
  · go_simp; (try with_reducible rfl)
  try simp only [Act.put, List.setIfInBounds_toArray, List.set_cons_zero, List.set_cons_succ]
  refine held_call (i := 9) rfl (by kernel_rfl) rfl (fun K hK => ?_)
  ((have hEx : Ext No V4 _ := hHeld); go_simp; (go_at_call 45); (with_reducible refine ((HB.out _ _ _ _ (H.out.extNo (HE.out.transNo hEx))).1).mono ?_); (rintro e13 w13 ⟨rfl, hyA⟩); (try rw [HV.out]); go_simp)
  refine hK.out _ _ ?_ (fun hNew => ?_)
  · exact Ext.transNo (show Ext No V4 _ from hHeld) hyA
  clear hK K hHeld
  have hHeld := hNew
  clear hNew
  try simp only [Act.put, List.setIfInBounds_toArray, List.set_cons_zero, List.set_cons_succ]
  refine held_call (i := 13) rfl (by kernel_rfl) rfl (fun K hK => ?_)
  ((have hEx : Ext No V4 _ := hHeld); go_simp; (go_at_call 46); (with_reducible refine ((HB.out _ _ _ _ (H.out.extNo (HE.out.transNo hEx))).2).mono ?_); (rintro e14 w14 ⟨rfl, hyA⟩); (try rw [HV.out]); go_simp)
  refine hK.out _ _ ?_ (fun hNew => ?_)
  · exact Ext.transNo (show Ext No V4 _ from hHeld) hyA
  clear hK K hHeld
  have hHeld := hNew
  clear hNew
  try simp only [Act.put, List.setIfInBounds_toArray, List.set_cons_zero, List.set_cons_succ]
  refine held_take (i := 14) (v := ?_) rfl (by kernel_rfl) (by kernel_rfl) (by kernel_rfl) (fun _ _ _ h => h) rfl (fun w hSw => ?_) hHeld ?_
  rotate_left
  · go_simp; (try with_reducible rfl)
  try simp only [Act.put, List.setIfInBounds_toArray, List.set_cons_zero, List.set_cons_succ]
  refine held_take (i := 15) (v := ?_) rfl (by kernel_rfl) (by kernel_rfl) (by kernel_rfl) (fun _ _ _ h => h) rfl (fun w hSw => ?_) hHeld ?_
  rotate_left
  · go_simp; (try with_reducible rfl)
  try simp only [Act.put, List.setIfInBounds_toArray, List.set_cons_zero, List.set_cons_succ]
  refine held_take (i := 16) (v := ?_) rfl (by kernel_rfl) (by kernel_rfl) (by kernel_rfl) (fun _ _ _ h => h) rfl (fun w hSw => ?_) hHeld ?_
  rotate_left
  · go_simp; (try with_reducible rfl)
  try simp only [Act.put, List.setIfInBounds_toArray, List.set_cons_zero, List.set_cons_succ]
  refine held_take (i := 17) (v := ?_) rfl (by kernel_rfl) (by kernel_rfl) (by kernel_rfl) (fun _ _ _ h => h) rfl (fun w hSw => ?_) hHeld ?_
  rotate_left
  · go_simp; (try with_reducible rfl)
  try simp only [Act.put, List.setIfInBounds_toArray, List.set_cons_zero, List.set_cons_succ]
  refine held_take (i := 18) (v := ?_) rfl (by kernel_rfl) (by kernel_rfl) (by kernel_rfl) (fun _ _ _ h => h) rfl (fun w hSw => ?_) hHeld ?_
  rotate_left
  · go_simp; (try with_reducible rfl)
  try simp only [Act.put, List.setIfInBounds_toArray, List.set_cons_zero, List.set_cons_succ]
  refine held_take (i := 19) (v := ?_) rfl (by kernel_rfl) (by kernel_rfl) (by kernel_rfl) (fun _ _ _ h => h) rfl (fun w hSw => ?_) hHeld ?_
  rotate_left
  · go_simp; (try with_reducible rfl)
  try simp only [Act.put, List.setIfInBounds_toArray, List.set_cons_zero, List.set_cons_succ]
  refine held_take (i := 20) (v := ?_) rfl (by kernel_rfl) (by kernel_rfl) (by kernel_rfl) (fun _ _ _ h => h) rfl (fun w hSw => ?_) hHeld ?_
  rotate_left
  · go_simp; (try with_reducible rfl)
  try simp only [Act.put, List.setIfInBounds_toArray, List.set_cons_zero, List.set_cons_succ]
  refine held_take (i := 21) (v := ?_) rfl (by kernel_rfl) (by kernel_rfl) (by kernel_rfl) (fun _ _ _ h => h) rfl (fun w hSw => ?_) hHeld ?_
  rotate_left
  · go_simp; (try with_reducible rfl)
  try simp only [Act.put, List.setIfInBounds_toArray, List.set_cons_zero, List.set_cons_succ]
  refine held_take (i := 22) (v := ?_) rfl (by kernel_rfl) (by kernel_rfl) (by kernel_rfl) (fun _ _ _ h => h) rfl (fun w hSw => ?_) hHeld ?_
  rotate_left
  · (have hEs : Ext No V4 _ := hSw); (have x0 := cellOf (hEs.blk HXB.out no_no)); go_simp; (try with_reducible rfl)
  try simp only [Act.put, List.setIfInBounds_toArray, List.set_cons_zero, List.set_cons_succ]
  refine held_take (i := 23) (v := ?_) rfl (by kernel_rfl) (by kernel_rfl) (by kernel_rfl) (fun _ _ _ h => h) rfl (fun w hSw => ?_) hHeld ?_
  rotate_left
  · (have hEs : Ext No V4 _ := hSw); (have x0 := cellOf (hEs.blk HYB.out no_no)); go_simp; (try with_reducible rfl)
  try simp only [Act.put, List.setIfInBounds_toArray, List.set_cons_zero, List.set_cons_succ]
  refine held_call (i := 24) rfl (by kernel_rfl) rfl (fun K hK => ?_)
  ((have hEx : Ext No V4 _ := hHeld); go_simp; (go_at_call 32); (with_reducible refine (rsame_any q q _ _ _ (rawv_of (HX.out.extNo hEx)) (rawv_of (HY.out.extNo hEx))).mono ?_); (rintro e15 w15 ⟨rfl, hyA⟩); (rw [show sameB q q = true by simp [sameB]]); go_simp)
  refine hK.out _ _ ?_ (fun hNew => ?_)
  · exact Ext.transNo (show Ext No V4 _ from hHeld) hyA
  clear hK K hHeld
  have hHeld := hNew
  clear hNew
  try simp only [Act.put, List.setIfInBounds_toArray, List.set_cons_zero, List.set_cons_succ]
  refine held_take (i := 25) (v := ?_) rfl (by kernel_rfl) (by kernel_rfl) (by kernel_rfl) (fun _ _ _ h => h) rfl (fun w hSw => ?_) hHeld ?_
  rotate_left
  · go_simp; (try with_reducible rfl)
  try simp only [Act.put, List.setIfInBounds_toArray, List.set_cons_zero, List.set_cons_succ]
  refine held_take (i := 26) (v := ?_) rfl (by kernel_rfl) (by kernel_rfl) (by kernel_rfl) (fun _ _ _ h => h) rfl (fun w hSw => ?_) hHeld ?_
  rotate_left
  · go_simp; (try with_reducible rfl)
  try simp only [Act.put, List.setIfInBounds_toArray, List.set_cons_zero, List.set_cons_succ]
  refine held_take (i := 27) (v := ?_) rfl (by kernel_rfl) (by kernel_rfl) (by kernel_rfl) (fun _ _ _ h => h) rfl (fun w hSw => ?_) hHeld ?_
  rotate_left
  · go_simp; (try with_reducible rfl)
  try simp only [Act.put, List.setIfInBounds_toArray, List.set_cons_zero, List.set_cons_succ]
  refine held_take (i := 28) (v := ?_) rfl (by kernel_rfl) (by kernel_rfl) (by kernel_rfl) (fun _ _ _ h => h) rfl (fun w hSw => ?_) hHeld ?_
  rotate_left
  · go_simp; (try with_reducible rfl)
  try simp only [Act.put, List.setIfInBounds_toArray, List.set_cons_zero, List.set_cons_succ]
  refine held_take (i := 29) (v := ?_) rfl (by kernel_rfl) (by kernel_rfl) (by kernel_rfl) (fun _ _ _ h => h) rfl (fun w hSw => ?_) hHeld ?_
  rotate_left
  · go_simp; (try with_reducible rfl)
  try simp only [Act.put, List.setIfInBounds_toArray, List.set_cons_zero, List.set_cons_succ]
  refine held_take (i := 30) (v := ?_) rfl (by kernel_rfl) (by kernel_rfl) (by kernel_rfl) (fun _ _ _ h => h) rfl (fun w hSw => ?_) hHeld ?_
  rotate_left
  · go_simp; (try with_reducible rfl)
  try simp only [Act.put, List.setIfInBounds_toArray, List.set_cons_zero, List.set_cons_succ]
  refine held_take (i := 31) (v := ?_) rfl (by kernel_rfl) (by kernel_rfl) (by kernel_rfl) (fun _ _ _ h => h) rfl (fun w hSw => ?_) hHeld ?_
  rotate_left
  · go_simp; (try with_reducible rfl)
  try simp only [Act.put, List.setIfInBounds_toArray, List.set_cons_zero, List.set_cons_succ]
  refine held_take (i := 32) (v := ?_) rfl (by kernel_rfl) (by kernel_rfl) (by kernel_rfl) (fun _ _ _ h => h) rfl (fun w hSw => ?_) hHeld ?_
  rotate_left
  · (have hEs : Ext No V4 _ := hSw); (have x0 := cellOf (hEs.blk HCB.out no_no)); go_simp; (try with_reducible rfl)
  try simp only [Act.put, List.setIfInBounds_toArray, List.set_cons_zero, List.set_cons_succ]
  refine held_take (i := 33) (v := ?_) rfl (by kernel_rfl) (by kernel_rfl) (by kernel_rfl) (fun _ _ _ h => h) rfl (fun w hSw => ?_) hHeld ?_
  rotate_left
  · (have hEs : Ext No V4 _ := hSw); (have x0 := cellOf (hEs.blk HDB.out no_no)); go_simp; (try with_reducible rfl)
  try simp only [Act.put, List.setIfInBounds_toArray, List.set_cons_zero, List.set_cons_succ]
  refine held_call (i := 34) rfl (by kernel_rfl) rfl (fun K hK => ?_)
  ((have hEx : Ext No V4 _ := hHeld); go_simp; (go_at_call 26); (with_reducible refine (requals_any p p _ _ _ _ _ _ _ (HC.out.extNo hEx) (HD.out.extNo hEx)).mono ?_); (rintro e16 w16 ⟨rfl, hyA⟩); (rw [eqT_all (by simp [sameB]) (by simp [sameB]) rfl]); go_simp)
  refine hK.out _ _ ?_ (fun hNew => ?_)
  · exact Ext.transNo (show Ext No V4 _ from hHeld) hyA
  clear hK K hHeld
  have hHeld := hNew
  clear hNew
  try simp only [Act.put, List.setIfInBounds_toArray, List.set_cons_zero, List.set_cons_succ]
  refine held_take (i := 35) (v := ?_) rfl (by kernel_rfl) (by kernel_rfl) (by kernel_rfl) (fun _ _ _ h => h) rfl (fun w hSw => ?_) hHeld ?_
  rotate_left
  · go_simp; (try with_reducible rfl)
  try simp only [Act.put, List.setIfInBounds_toArray, List.set_cons_zero, List.set_cons_succ]
  refine held_take (i := 36) (v := ?_) rfl (by kernel_rfl) (by kernel_rfl) (by kernel_rfl) (fun _ _ _ h => h) rfl (fun w hSw => ?_) hHeld ?_
  rotate_left
  · go_simp; (try with_reducible rfl)
  try simp only [Act.put, List.setIfInBounds_toArray, List.set_cons_zero, List.set_cons_succ]
  refine wpAnyH_done (by kernel_rfl) ?_ _
  have hEx : Ext No V4 _ := hHeld
  go_wp2_with fail
  go_ret
  exact ⟨rfl, HE.out.transNo hEx⟩
end Go.Proofs.YtgakojgkkdmabaaDoor

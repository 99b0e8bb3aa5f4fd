/- Apply of both sides at any raw function and set. -/
import Derived.Test.YtkdjdhflhlbelaaSt1
import Derived.Test.YtkdjdhflhlbelaaRefC
set_option linter.unusedVariables false
set_option linter.unusedSimpArgs false
namespace Go.Proofs.Ytkdjdhflhlbelaa
open Go Go.RowKit
def applyE (r : RawT) (s : RawSet) : Int := if validT r = true then (if validB s = true then (if r.gen.width = s.width then 0 else 2) else 1) else 1
/-- the pair of the set q and the error e0 -/
def ResS (M : Nat → Prop) (q : RawSet) (e0 : Int) (W : World) (e : Ending) (w' : World) : Prop :=
  ∃ a c, e = .returned (.tuple #[.agg #[.int .i64 q.width, .slice a q.words.length c], .int .i64 e0]) ∧ Hid (WordsAt M w' (.slice a q.words.length c) q.words) ∧ Ext No W w'
def zeroS : RawSet := ⟨0, []⟩
theorem SetNo.res {M : Nat → Prop} {e0 : Int} {W w' : World} {e : Ending} (h : SetNo e0 W e w') : ResS M zeroS e0 W e w' := by
  obtain ⟨rfl, hx⟩ := h
  exact ⟨none, 0, rfl, Lib.hid ⟨zero_row, by simp [zeroS]⟩, hx⟩
theorem SetEPost.res {M : Nat → Prop} {w m : Nat} {W w' : World} {e : Ending} (h : SetEPost M w m W e w') : ResS M (setN w m) 0 W e w' := by
  obtain ⟨a, c, rfl, h1, hx⟩ := h
  have e1 : (setN w m).words.length = nw w := wordsN_len ..
  refine ⟨a, c, ?_, Lib.hid ?_, hx⟩
  · rw [e1]; rfl
  · rw [e1]; exact h1.out.words
set_option maxRecDepth 100000 in
set_option maxHeartbeats 2000000 in
theorem apply_no (r : RawT) (s : RawSet) (g1 k1 c1 s1 : Value) (W : World) (h : RawTAt No W g1 k1 c1 r) (hs : WordsAt No W s1 s.words) (h0 : applyE r s ≠ 0) :
    Calls Try.prog 73 #[.agg #[.int .i64 r.gen.width, g1, .int .i64 r.kill.width, k1, c1], .agg #[.int .i64 s.width, s1]] W (SetNo (applyE r s) W) := by
  have H := Lib.hid h
  have HSV : Hid (RawV No W (.agg #[.int .i64 s.width, s1]) s) := Lib.hid ⟨_, rfl, hs⟩
  obtain ⟨ag, ng, cg, rfl⟩ := h.gen.shaped
  obtain ⟨ak, nk, ck, rfl⟩ := h.kill.shaped
  obtain ⟨ac, nc, cc, rfl⟩ := h.copies.shaped
  obtain ⟨as0, ns, cs, rfl⟩ := hs.shaped
  clear h hs
  go_enter Try.func73, Try.ntmps73
  go_wp2_with fail
  have hx0 : Ext No W (((W.alloc (.cells #[.int .i64 r.gen.width, .slice ag ng cg, .int .i64 r.kill.width, .slice ak nk ck, .slice ac nc cc] 70)).alloc (.cells #[.int .i64 s.width, .slice as0 ns cs] 33)).alloc (.cells #[.int .i64 0, .slice none 0 0] 33)) := (((Ext.refl _ _).alloc _).alloc _).alloc _
  have hA : (((W.alloc (.cells #[.int .i64 r.gen.width, .slice ag ng cg, .int .i64 r.kill.width, .slice ak nk ck, .slice ac nc cc] 70)).alloc (.cells #[.int .i64 s.width, .slice as0 ns cs] 33)).alloc (.cells #[.int .i64 0, .slice none 0 0] 33)).heap[W.heap.size]? = some (.cells #[.int .i64 r.gen.width, .slice ag ng cg, .int .i64 r.kill.width, .slice ak nk ck, .slice ac nc cc] 70 (0, 0)) := alloc_under (alloc_under (alloc_top rfl))
  have hB : (((W.alloc (.cells #[.int .i64 r.gen.width, .slice ag ng cg, .int .i64 r.kill.width, .slice ak nk ck, .slice ac nc cc] 70)).alloc (.cells #[.int .i64 s.width, .slice as0 ns cs] 33)).alloc (.cells #[.int .i64 0, .slice none 0 0] 33)).heap[W.heap.size + 1]? = some (.cells #[.int .i64 s.width, .slice as0 ns cs] 33 (0, 0)) := alloc_under (alloc_top (by simp))
  have hC : (((W.alloc (.cells #[.int .i64 r.gen.width, .slice ag ng cg, .int .i64 r.kill.width, .slice ak nk ck, .slice ac nc cc] 70)).alloc (.cells #[.int .i64 s.width, .slice as0 ns cs] 33)).alloc (.cells #[.int .i64 0, .slice none 0 0] 33)).heap[W.heap.size + 2]? = some (.cells #[.int .i64 0, .slice none 0 0] 33 (0, 0)) := alloc_top (by simp)
  generalize (((W.alloc (.cells #[.int .i64 r.gen.width, .slice ag ng cg, .int .i64 r.kill.width, .slice ak nk ck, .slice ac nc cc] 70)).alloc (.cells #[.int .i64 s.width, .slice as0 ns cs] 33)).alloc (.cells #[.int .i64 0, .slice none 0 0] 33)) = W2 at *
  refine (validT_any r _ _ _ _ (H.out.extNo hx0)).mono ?_
  rintro e1 w1 ⟨rfl, hx1⟩
  replace hA := hx1.blk hA no_no
  replace hB := hx1.blk hB no_no
  replace hC := hx1.blk hC no_no
  have hy := hx0.transNo hx1
  clear hx0 hx1
  cases hv : validT r with
  | false =>
    have hE0 : applyE r s = 1 := by simp [applyE, hv]
    clear h0 hA hB
    have cC := cellOf hC
    have fC := freeOf hC
    go_wp2_with fail
    refine ret_ex rfl ?_
    simp [results, Try.results73, go_sem, cC]
    exact ⟨by rw [hE0], ext2 hy (by omega)⟩
  | true =>
    have cB := cellOf hB
    go_wp2_with fail
    refine (valid_any _ s _ (HSV.out.extNo hy)).mono ?_
    rintro e2 w2 ⟨rfl, hx2⟩
    clear cB
    replace hA := hx2.blk hA no_no
    replace hB := hx2.blk hB no_no
    replace hC := hx2.blk hC no_no
    replace hy := hy.transNo hx2
    clear hx2
    have cC := cellOf hC
    have fC := freeOf hC
    cases hb : validB s with
    | false =>
      have hE0 : applyE r s = 1 := by simp [applyE, hv, hb]
      clear h0 hA hB
      go_wp2_with fail
      refine ret_ex rfl ?_
      simp [results, Try.results73, go_sem, cC]
      exact ⟨by rw [hE0], ext2 hy (by omega)⟩
    | true =>
      have hne : ¬ r.gen.width = s.width := fun e => h0 (by simp [applyE, hv, hb, e])
      have hE0 : applyE r s = 2 := by simp [applyE, hv, hb, hne]
      have cA := cellOf hA
      have cB := cellOf hB
      clear h0
      go_wp2_with fail
      refine ret_ex rfl ?_
      simp [results, Try.results73, go_sem, cC]
      exact ⟨by rw [hE0], ext2 hy (by omega)⟩
set_option maxRecDepth 100000 in
set_option maxHeartbeats 2000000 in
theorem rapply_no (r : RawT) (s : RawSet) (g1 k1 c1 s1 : Value) (W : World) (h : RawTAt No W g1 k1 c1 r) (hs : WordsAt No W s1 s.words) (h0 : applyE r s ≠ 0) :
    Calls Try.prog 100 #[.agg #[.int .i64 r.gen.width, g1, .int .i64 r.kill.width, k1, c1], .agg #[.int .i64 s.width, s1]] W (SetNo (applyE r s) W) := by
  have H := Lib.hid h
  have HSV : Hid (RawV No W (.agg #[.int .i64 s.width, s1]) s) := Lib.hid ⟨_, rfl, hs⟩
  obtain ⟨ag, ng, cg, rfl⟩ := h.gen.shaped
  obtain ⟨ak, nk, ck, rfl⟩ := h.kill.shaped
  obtain ⟨ac, nc, cc, rfl⟩ := h.copies.shaped
  obtain ⟨as0, ns, cs, rfl⟩ := hs.shaped
  clear h hs
  go_enter Try.func100, Try.ntmps100
  go_wp2_with fail
  have hx0 : Ext No W (((W.alloc (.cells #[.int .i64 r.gen.width, .slice ag ng cg, .int .i64 r.kill.width, .slice ak nk ck, .slice ac nc cc] 70)).alloc (.cells #[.int .i64 s.width, .slice as0 ns cs] 33)).alloc (.cells #[.int .i64 0, .slice none 0 0] 33)) := (((Ext.refl _ _).alloc _).alloc _).alloc _
  have hA : (((W.alloc (.cells #[.int .i64 r.gen.width, .slice ag ng cg, .int .i64 r.kill.width, .slice ak nk ck, .slice ac nc cc] 70)).alloc (.cells #[.int .i64 s.width, .slice as0 ns cs] 33)).alloc (.cells #[.int .i64 0, .slice none 0 0] 33)).heap[W.heap.size]? = some (.cells #[.int .i64 r.gen.width, .slice ag ng cg, .int .i64 r.kill.width, .slice ak nk ck, .slice ac nc cc] 70 (0, 0)) := alloc_under (alloc_under (alloc_top rfl))
  have hB : (((W.alloc (.cells #[.int .i64 r.gen.width, .slice ag ng cg, .int .i64 r.kill.width, .slice ak nk ck, .slice ac nc cc] 70)).alloc (.cells #[.int .i64 s.width, .slice as0 ns cs] 33)).alloc (.cells #[.int .i64 0, .slice none 0 0] 33)).heap[W.heap.size + 1]? = some (.cells #[.int .i64 s.width, .slice as0 ns cs] 33 (0, 0)) := alloc_under (alloc_top (by simp))
  have hC : (((W.alloc (.cells #[.int .i64 r.gen.width, .slice ag ng cg, .int .i64 r.kill.width, .slice ak nk ck, .slice ac nc cc] 70)).alloc (.cells #[.int .i64 s.width, .slice as0 ns cs] 33)).alloc (.cells #[.int .i64 0, .slice none 0 0] 33)).heap[W.heap.size + 2]? = some (.cells #[.int .i64 0, .slice none 0 0] 33 (0, 0)) := alloc_top (by simp)
  generalize (((W.alloc (.cells #[.int .i64 r.gen.width, .slice ag ng cg, .int .i64 r.kill.width, .slice ak nk ck, .slice ac nc cc] 70)).alloc (.cells #[.int .i64 s.width, .slice as0 ns cs] 33)).alloc (.cells #[.int .i64 0, .slice none 0 0] 33)) = W2 at *
  refine (rvalidT_any r _ _ _ _ (H.out.extNo hx0)).mono ?_
  rintro e1 w1 ⟨rfl, hx1⟩
  replace hA := hx1.blk hA no_no
  replace hB := hx1.blk hB no_no
  replace hC := hx1.blk hC no_no
  have hy := hx0.transNo hx1
  clear hx0 hx1
  cases hv : validT r with
  | false =>
    have hE0 : applyE r s = 1 := by simp [applyE, hv]
    clear h0 hA hB
    have cC := cellOf hC
    have fC := freeOf hC
    go_wp2_with fail
    refine ret_ex rfl ?_
    simp [results, Try.results100, go_sem, cC]
    exact ⟨by rw [hE0], ext2 hy (by omega)⟩
  | true =>
    have cB := cellOf hB
    go_wp2_with fail
    refine (rvalid_any _ s _ (HSV.out.extNo hy)).mono ?_
    rintro e2 w2 ⟨rfl, hx2⟩
    clear cB
    replace hA := hx2.blk hA no_no
    replace hB := hx2.blk hB no_no
    replace hC := hx2.blk hC no_no
    replace hy := hy.transNo hx2
    clear hx2
    have cC := cellOf hC
    have fC := freeOf hC
    cases hb : validB s with
    | false =>
      have hE0 : applyE r s = 1 := by simp [applyE, hv, hb]
      clear h0 hA hB
      go_wp2_with fail
      refine ret_ex rfl ?_
      simp [results, Try.results100, go_sem, cC]
      exact ⟨by rw [hE0], ext2 hy (by omega)⟩
    | true =>
      have hne : ¬ r.gen.width = s.width := fun e => h0 (by simp [applyE, hv, hb, e])
      have hE0 : applyE r s = 2 := by simp [applyE, hv, hb, hne]
      have cA := cellOf hA
      have cB := cellOf hB
      clear h0
      go_wp2_with fail
      refine ret_ex rfl ?_
      simp [results, Try.results100, go_sem, cC]
      exact ⟨by rw [hE0], ext2 hy (by omega)⟩
set_option maxRecDepth 100000 in
set_option maxHeartbeats 2000000 in
theorem rapply_any (M : Nat → Prop) (t : TrD) (s : Nat) (sg sk sc ss : Value) (W : World) (hM : ∀ b, M b → b < W.heap.size) (h : TrAt M W sg sk sc t) (hs : SetAt No W ss t.w s) :
    Calls Try.prog 100 #[.agg #[.int .i64 (t.w : Int), sg, .int .i64 (t.w : Int), sk, sc], .agg #[.int .i64 (t.w : Int), ss]] W (SetEPost M t.w (applyT t s) W) := by
  have H := Lib.hid h
  have HS := Lib.hid hs
  have HM := Lib.hid hM
  have hv := validB_set hs.hw hs.hm
  obtain ⟨ag, ng, cg, rfl⟩ := h.gen.shaped
  obtain ⟨ak, nk, ck, rfl⟩ := h.kill.shaped
  obtain ⟨ac, nc, cc, rfl⟩ := h.copies.shaped
  obtain ⟨as0, ns, cs, rfl⟩ := hs.shaped
  clear h hs hM
  go_enter Try.func100, Try.ntmps100
  go_wp2_with fail
  have hx0 : Ext No W (((W.alloc (.cells #[.int .i64 (t.w : Int), .slice ag ng cg, .int .i64 (t.w : Int), .slice ak nk ck, .slice ac nc cc] 70)).alloc (.cells #[.int .i64 (t.w : Int), .slice as0 ns cs] 33)).alloc (.cells #[.int .i64 0, .slice none 0 0] 33)) := (((Ext.refl _ _).alloc _).alloc _).alloc _
  refine (rvalidTr_any t _ _ _ _ _ rfl (H.out.no.extNo hx0)).mono ?_
  rintro e1 w1 ⟨rfl, hx1⟩
  have hA := hx1.blk (alloc_under (alloc_under (alloc_top (w := W) rfl))) no_no
  have hB := hx1.blk (n := W.heap.size + 1) (alloc_under (alloc_top (by simp))) no_no
  have hC := hx1.blk (n := W.heap.size + 2) (alloc_top (by simp)) no_no
  have hxa := hx0.transNo hx1
  have cB := cellOf hB
  clear hx0 hx1
  go_wp2_with fail
  refine (rvalid_any _ (setN t.w s) _ (HS.out.raw.extNo hxa)).mono ?_
  rintro e2 w2 ⟨rfl, hx2⟩
  rw [hv]
  replace hA := hx2.blk hA no_no
  replace hB := hx2.blk hB no_no
  replace hC := hx2.blk hC no_no
  replace hxa := hxa.transNo hx2
  clear hx2 cB
  have cA := cellOf hA
  have cB := cellOf hB
  have hszC := lt_of_block hC
  go_wp2_with fail
  refine (rvalue_any (fun b => M b ∨ b = W.heap.size + 2) t _ s _ _ _ _ _ rfl (fun b hb => ?_) ((H.out.mono (fun i hi e => ?_)).extNo hxa) (HS.out.extNo hxa)).mono ?_
  · rcases hb with hb | hb
    · have := HM.out b hb; omega
    · omega
  · rcases e with e | e
    · exact e
    · omega
  rintro e3 w3 ⟨a3, c3, rfl, hs3, hx3⟩
  replace hC := hx3.blk hC no_no
  replace hxa := hxa.transNo hx3
  clear hx3 cA cB hA hB
  have cC := cellOf hC
  have fC := freeOf hC
  go_wp2_with fail
  refine ret_ex rfl ?_
  simp [results, Try.results100, go_sem, cC]
  exact ⟨_, _, rfl, Lib.hid ((hs3.out.ext (ext_two hxa (W.heap.size + 2)) (fun i _ e => .inr e)).mono (fun i _ e => .inl e)), ext2 hxa (by omega)⟩
/-- program and reference answer the same pair -/
theorem apply_both (r : RawT) (s : RawSet) (hg : ∀ n ∈ r.gen.words, n < 2 ^ 64) (hk : ∀ n ∈ r.kill.words, n < 2 ^ 64) (hs : ∀ n ∈ s.words, n < 2 ^ 64) :
    ∃ (q : RawSet) (e0 : Int), ∀ (g1 k1 c1 s1 : Value) (W : World), RawTAt No W g1 k1 c1 r → WordsAt No W s1 s.words →
      Calls Try.prog 73 #[.agg #[.int .i64 r.gen.width, g1, .int .i64 r.kill.width, k1, c1], .agg #[.int .i64 s.width, s1]] W (ResS No q e0 W) ∧
      Calls Try.prog 100 #[.agg #[.int .i64 r.gen.width, g1, .int .i64 r.kill.width, k1, c1], .agg #[.int .i64 s.width, s1]] W (ResS No q e0 W) := by
  by_cases h0 : applyE r s = 0
  · have hv : validT r = true := by
      cases e : validT r with
      | true => rfl
      | false => simp [applyE, e] at h0
    have hb : validB s = true := by
      cases e : validB s with
      | true => rfl
      | false => simp [applyE, hv, e] at h0
    have hw : r.gen.width = s.width := by
      simp only [applyE, hv, hb, if_true] at h0
      split at h0
      · assumption
      · omega
    obtain ⟨t, ho, rfl⟩ := validT_ex hv hg hk
    obtain ⟨w, m, h1, h2, rfl⟩ := (validB_iff hs).1 hb
    have ew : t.w = w := by have : ((t.w : Nat) : Int) = (w : Int) := hw; omega
    subst ew
    exact ⟨setN t.w (applyT t m), 0, fun g1 k1 c1 s1 W h hw => ⟨(Apply_any No t m g1 k1 c1 s1 W (fun _ e => e.elim) (h.tr ho) ⟨hw, h1, h2⟩).mono (fun _ _ h => h.res), (rapply_any No t m g1 k1 c1 s1 W (fun _ e => e.elim) (h.tr ho) ⟨hw, h1, h2⟩).mono (fun _ _ h => h.res)⟩⟩
  · exact ⟨zeroS, applyE r s, fun g1 k1 c1 s1 W h hw => ⟨(apply_no r s g1 k1 c1 s1 W h hw h0).mono (fun _ _ h => h.res), (rapply_no r s g1 k1 c1 s1 W h hw h0).mono (fun _ _ h => h.res)⟩⟩
end Go.Proofs.Ytkdjdhflhlbelaa

/- The walk of TransferApplies. -/
import Derived.Test.YtgakojgkkdmabaaDoorAp3
import Derived.Test.YtgakojgkkdmabaaDoorSp2
import Derived.Test.YtgakojgkkdmabaaDoorSt4
import Derived.Test.YtgakojgkkdmabaaDoorTr17
set_option linter.unusedVariables false
set_option linter.unusedSimpArgs false
namespace Go.Proofs.YtgakojgkkdmabaaDoor
open Go Go.RowKit

set_option maxRecDepth 100000 in
set_option maxHeartbeats 8000000 in
theorem transferApplies_any (tl g1 k1 c1 s1 : Value) (zs : List Int) (f : RawT) (s : RawSet) (a b : Int) (w : World) (ht : Ints No w .i64 tl zs) (h : RawTAt No w g1 k1 c1 f) (hs : WordsAt No w s1 s.words) (hT : TabW w) :
    Calls Tryd.prog 3 #[tl, .agg #[.int .i64 f.gen.width, g1, .int .i64 f.kill.width, k1, c1], .agg #[.int .i64 s.width, s1], .int .i64 a, .int .i64 b] w fun e w' => e = .returned (.bool true) ∧ Ext No w w' := by
  have H := Lib.hid h
  have HS := Lib.hid hs
  have HTB := Lib.hid hT
  have HT := Lib.hid ht
  obtain ⟨at', ct', rfl⟩ := ht.slice
  obtain ⟨ag, cg, rfl⟩ := h.gen.slice
  obtain ⟨ak, ck, rfl⟩ := h.kill.slice
  obtain ⟨ac, cc, rfl⟩ := Row.slice h.copies
  obtain ⟨as0, cs, rfl⟩ := hs.slice
  clear h ht hT hs
  go_enter Tryd.func3, Tryd.ntmps3
  go_wp2_with fail
  have hxA : Ext No w ((w.alloc (.cells #[.int .i64 f.gen.width, .slice ag f.gen.words.length cg, .int .i64 f.kill.width, .slice ak f.kill.words.length ck, .slice ac f.copies.length cc] 28)).alloc (.cells #[.int .i64 s.width, .slice as0 s.words.length cs] 25)) := ((Ext.refl _ _).alloc _).alloc _
  have hbA : ((w.alloc (.cells #[.int .i64 f.gen.width, .slice ag f.gen.words.length cg, .int .i64 f.kill.width, .slice ak f.kill.words.length ck, .slice ac f.copies.length cc] 28)).alloc (.cells #[.int .i64 s.width, .slice as0 s.words.length cs] 25)).heap[w.heap.size]? = some (.cells #[.int .i64 f.gen.width, .slice ag f.gen.words.length cg, .int .i64 f.kill.width, .slice ak f.kill.words.length ck, .slice ac f.copies.length cc] 28 (0, 0)) := alloc_under (alloc_top rfl)
  have hbB : ((w.alloc (.cells #[.int .i64 f.gen.width, .slice ag f.gen.words.length cg, .int .i64 f.kill.width, .slice ak f.kill.words.length ck, .slice ac f.copies.length cc] 28)).alloc (.cells #[.int .i64 s.width, .slice as0 s.words.length cs] 25)).heap[w.heap.size + 1]? = some (.cells #[.int .i64 s.width, .slice as0 s.words.length cs] 25 (0, 0)) := alloc_top (by simp)
  refine (new_any _ zs _ (HT.out.extNo hxA)).mono ?_
  rintro e0 w0 ⟨rfl, ht0, hx0, hs0⟩
  have htb : w.heap.size + 1 < ((w.alloc (.cells #[.int .i64 f.gen.width, .slice ag f.gen.words.length cg, .int .i64 f.kill.width, .slice ak f.kill.words.length ck, .slice ac f.copies.length cc] 28)).alloc (.cells #[.int .i64 s.width, .slice as0 s.words.length cs] 25)).heap.size := by simp
  have HX := Lib.hid (hxA.transNo hx0)
  have HA := Lib.hid (hx0.blk hbA no_no)
  have HB := Lib.hid (hx0.blk hbB no_no)
  have HT0 := Lib.hid ht0
  clear hxA hbA hbB hx0 hs0 ht0
  generalize ((w.alloc (.cells #[.int .i64 f.gen.width, .slice ag f.gen.words.length cg, .int .i64 f.kill.width, .slice ak f.kill.words.length ck, .slice ac f.copies.length cc] 28)).alloc (.cells #[.int .i64 s.width, .slice as0 s.words.length cs] 25)).heap.size = tb at *
  go_wp2_with fail
  go_loopw [12] (fun i wr => ∃ k : Nat, k ≤ 5 ∧ i = .int .i64 k ∧ Hid (TapeOk wr tb) ∧ Hid (Ext No w wr) ∧ Hid (wr.heap[w.heap.size]? = some (.cells #[.int .i64 f.gen.width, .slice ag f.gen.words.length cg, .int .i64 f.kill.width, .slice ak f.kill.words.length ck, .slice ac f.copies.length cc] 28 (0, 0))) ∧ Hid (wr.heap[w.heap.size + 1]? = some (.cells #[.int .i64 s.width, .slice as0 s.words.length cs] 25 (0, 0)))) (fun i _ => 5 - (intOf i).toNat)
  case atStart => exact ⟨0, Nat.zero_le _, rfl, HT0, HX, HA, HB⟩
  case round =>
    clear HT0 HX HA HB
    obtain ⟨k, hk, rfl, ht, hx, hA, hB⟩ := hrel
    rename World => wr
    have hpos : (0 : Int) ≤ (k : Int) := by omega
    by_cases hlt : k < 5
    · have hlz : (k : Int) < 5 := by omega
      have HKK : Hid (Value.int .i64 ((k : Int) + 1) = .int .i64 ((k + 1 : Nat) : Int)) := Lib.hid (by rw [show ((k + 1 : Nat) : Int) = (k : Int) + 1 from by omega])
      go_wp2_with fail
      refine (width_any _ _ ht.out).mono ?_
      rintro e1 w1 ⟨W8, hw8, rfl, ht1, hx1⟩
      have hlt0 := ht.out.lt
      go_wp2_with fail
      refine (gtr_any _ W8 _ (by omega) ht1).mono ?_
      rintro e2 w2 ⟨t, sg, sk, sc, hw, rfl, hF, ht2, hx2⟩
      subst hw
      have hok := hF.out.ok
      have hlt1 := ht1.lt
      have hF2 := hF.out.raw.mono (M' := At tb) (fun i hi e => by unfold At at e; unfold Lo; omega)
      obtain ⟨a1, c1, rfl⟩ := hF.out.gen.slice
      obtain ⟨a2, c2, rfl⟩ := hF.out.kill.slice
      obtain ⟨a3, c3, rfl⟩ := Row.slice hF.out.copies
      have hxw := (hx.out.trans2 hx1 (fun i hi e => by unfold At at e; omega)).trans2 hx2 (fun i hi e => by unfold At at e; omega)
      have hx5 := (Ext.refl No w2).alloc (.cells #[.int .i64 (t.w : Int), .slice a1 (nw t.w) c1, .int .i64 (t.w : Int), .slice a2 (nw t.w) c2, .slice a3 t.copies.length c3] 28)
      have hD := alloc_top (w := w2) (o := (.cells #[.int .i64 (t.w : Int), .slice a1 (nw t.w) c1, .int .i64 (t.w : Int), .slice a2 (nw t.w) c2, .slice a3 t.copies.length c3] 28)) rfl
      have hA2 := Lib.hid (alloc_under (o := (.cells #[.int .i64 (t.w : Int), .slice a1 (nw t.w) c1, .int .i64 (t.w : Int), .slice a2 (nw t.w) c2, .slice a3 t.copies.length c3] 28)) ((hx1.trans hx2).blk hA.out (by unfold At; omega)))
      have hB2 := Lib.hid (alloc_under (o := (.cells #[.int .i64 (t.w : Int), .slice a1 (nw t.w) c1, .int .i64 (t.w : Int), .slice a2 (nw t.w) c2, .slice a3 t.copies.length c3] 28)) ((hx1.trans hx2).blk hB.out (by unfold At; omega)))
      have hF5 := Lib.hid (hF2.extNo hx5)
      have ht5 := Lib.hid (ht2.ext hx5)
      have hxw5 := Lib.hid (hxw.transNo hx5)
      have hDt : w2.heap.size ≠ tb := by have := hx2.size; omega
      have hwl : (rawT t).gen.words.length ≤ 1048576 := by have : (rawT t).gen.words.length = nw t.w := wordsN_len ..; have := hok.w; unfold nw at *; omega
      have hwk : (rawT t).kill.words.length ≤ 1048576 := by have : (rawT t).kill.words.length = nw t.w := wordsN_len ..; have := hok.w; unfold nw at *; omega
      have hwc : (rawT t).copies.length ≤ 1048576 := by have := hok.len; show t.copies.length ≤ _; omega
      have HWL := Lib.hid (And.intro hwl (And.intro hwk hwc))
      have HD := Lib.hid hD
      clear hx5 hxw hx1 hx2 ht1 ht2 hF2 hD hF hx hA ht hB hok hlt1 hlt0 hwl hwk hwc
      go_wp2_with fail
      generalize (w2.alloc (.cells #[.int .i64 (t.w : Int), .slice a1 (nw t.w) c1, .int .i64 (t.w : Int), .slice a2 (nw t.w) c2, .slice a3 t.copies.length c3] 28)) = V at *
      generalize w2.heap.size = D at *
      have HTV : Hid (∀ w', Ext (At tb) V w' → TabW w') := Lib.hid (fun w' hx => HTB.out.extM ((hxw5.out.ofNo (M := At tb)).trans hx) (by have := HTB.out.pos; unfold At; omega))
      obtain ⟨u, hu⟩ : ∃ u, u = t.w + 1 := ⟨_, rfl⟩
      have hv1 : IntKind.i64.wrap ((t.w : Int) + 1) = (u : Int) := by rw [IntWalk.i64_in _ (by omega)]; omega
      have hv2 : IntKind.i64.wrap ((t.w : Int) + 2) = (t.w : Int) + 2 := IntWalk.i64_in _ (by omega)
      have hw9 : t.w ≤ 256 := by omega
      have hu9 : u ≤ 256 := by omega
      have HU := Lib.hid hu
      clear hu
      refine wp_region_held_drew (S := (fun w' => Ext (At tb) V w' ∧ TapeOk w' tb)) (by kernel_rfl) ?_ (fun hHeld => ?_)
      · exact ⟨(Ext.refl _ _).drew, ht5.out.ext (Ext.refl _ _).drew⟩
      refine held_take (i := 0) (v := ?_) rfl (by kernel_rfl) (by kernel_rfl) (by kernel_rfl) (fun _ _ _ h => h) rfl (fun w hSw => ?_) hHeld ?_
      rotate_left
      · (have hEs : Ext (At tb) V _ ∧ TapeOk _ tb := hSw); (have x0 := cellOf (hEs.1.blk HD.out (fun e => by unfold At at e; omega))); go_simp; (try with_reducible rfl)
      try simp only [Act.put, List.setIfInBounds_toArray, List.set_cons_zero, List.set_cons_succ]
      refine held_take (i := 1) (v := ?_) rfl (by kernel_rfl) (by kernel_rfl) (by kernel_rfl) (fun _ _ _ h => h) rfl (fun w hSw => ?_) hHeld ?_
      rotate_left
      · go_simp; (try with_reducible rfl)
      try simp only [Act.put, List.setIfInBounds_toArray, List.set_cons_zero, List.set_cons_succ]
      refine held_take (i := 2) (v := ?_) rfl (by kernel_rfl) (by kernel_rfl) (by kernel_rfl) (fun _ _ _ h => h) rfl (fun w hSw => ?_) hHeld ?_
      rotate_left
      · go_simp; (try with_reducible rfl)
      try simp only [Act.put, List.setIfInBounds_toArray, List.set_cons_zero, List.set_cons_succ]
      refine held_take (i := 4) (v := ?_) rfl (by kernel_rfl) (by kernel_rfl) (by kernel_rfl) (fun _ _ _ h => h) rfl (fun w hSw => ?_) hHeld ?_
      rotate_left
      · go_simp; (try with_reducible rfl)
      try simp only [Act.put, List.setIfInBounds_toArray, List.set_cons_zero, List.set_cons_succ]
      refine held_take (i := 5) (v := ?_) rfl (by kernel_rfl) (by kernel_rfl) (by kernel_rfl) (fun _ _ _ h => h) rfl (fun w hSw => ?_) hHeld ?_
      rotate_left
      · go_simp; (try with_reducible rfl)
      try simp only [Act.put, List.setIfInBounds_toArray, List.set_cons_zero, List.set_cons_succ]
      refine held_take (i := 6) (v := ?_) rfl (by kernel_rfl) (by kernel_rfl) (by kernel_rfl) (fun _ _ _ h => h) rfl (fun w hSw => ?_) hHeld ?_
      rotate_left
      · go_simp; (try with_reducible rfl)
      try simp only [Act.put, List.setIfInBounds_toArray, List.set_cons_zero, List.set_cons_succ]
      refine held_take (i := 9) (v := ?_) rfl (by kernel_rfl) (by kernel_rfl) (by kernel_rfl) (fun _ _ _ h => h) rfl (fun w hSw => ?_) hHeld ?_
      rotate_left
      · go_simp; (try with_reducible rfl)
      try simp only [Act.put, List.setIfInBounds_toArray, List.set_cons_zero, List.set_cons_succ]
      refine held_take (i := 10) (v := ?_) rfl (by kernel_rfl) (by kernel_rfl) (by kernel_rfl) (fun _ _ _ h => h) rfl (fun w hSw => ?_) hHeld ?_
      rotate_left
      · go_simp; (try with_reducible rfl)
      try simp only [Act.put, List.setIfInBounds_toArray, List.set_cons_zero, List.set_cons_succ]
      refine held_take (i := 11) (v := ?_) rfl (by kernel_rfl) (by kernel_rfl) (by kernel_rfl) (fun _ _ _ h => h) rfl (fun w hSw => ?_) hHeld ?_
      rotate_left
      · go_simp; (try with_reducible rfl)
      try simp only [Act.put, List.setIfInBounds_toArray, List.set_cons_zero, List.set_cons_succ]
      refine held_call (i := 3) rfl (by kernel_rfl) rfl (fun K hK => ?_)
      ((have hEx : Ext (At tb) V _ ∧ TapeOk _ tb := hHeld); go_simp; (go_at_call 16); (refine (gset_any tb t.w _ hw9 hEx.2).mono ?_); (rintro e3 w3 ⟨m3, g3, hm3, rfl, hb3, hlo3, htA, hyA⟩); (have hs3 := Lib.hid (hb3.out.set (M := At tb) hw9 hm3 (fun e => by unfold At at e; have := hEx.2.lt; omega))); (clear hb3 hlo3 hm3); go_simp)
      refine hK.out _ _ ?_ (fun hNew => ?_)
      · exact ⟨hEx.1.trans hyA, htA⟩
      clear hK K hHeld
      have hHeld := hNew
      clear hNew
      try simp only [Act.put, List.setIfInBounds_toArray, List.set_cons_zero, List.set_cons_succ]
      refine held_call (i := 7) rfl (by kernel_rfl) rfl (fun K hK => ?_)
      ((have hEx : Ext (At tb) V _ ∧ TapeOk _ tb := hHeld); go_simp; (go_at_call 17); (refine (next_lt tb ((t.w : Int) + 2) (by omega) (by omega) _ hEx.2).mono ?_); (rintro e4 w4 ⟨r4, rfl, hr4, htA, hyA, -⟩); (have hs4 := Lib.hid (hs3.out.ext hyA (fun _ _ e => e))); (clear hs3); go_simp)
      refine hK.out _ _ ?_ (fun hNew => ?_)
      · exact ⟨hEx.1.trans hyA, htA⟩
      clear hK K hHeld
      have hHeld := hNew
      clear hNew
      try simp only [Act.put, List.setIfInBounds_toArray, List.set_cons_zero, List.set_cons_succ]
      refine held_take (i := 8) (v := ?_) rfl (by kernel_rfl) (by kernel_rfl) (by kernel_rfl) (fun _ _ _ h => h) rfl (fun w hSw => ?_) hHeld ?_
      rotate_left
      · go_simp; (try with_reducible rfl)
      try simp only [Act.put, List.setIfInBounds_toArray, List.set_cons_zero, List.set_cons_succ]
      refine held_call (i := 12) rfl (by kernel_rfl) rfl (fun K hK => ?_)
      ((have hEx : Ext (At tb) V _ ∧ TapeOk _ tb := hHeld); go_simp; (go_at_call 17); (refine (next_lt tb ((t.w : Int) + 2) (by omega) (by omega) _ hEx.2).mono ?_); (rintro e5 w5 ⟨r5, rfl, hr5, htA, hyA, -⟩); (have hs5 := Lib.hid (hs4.out.ext hyA (fun _ _ e => e))); (clear hs4); go_simp)
      refine hK.out _ _ ?_ (fun hNew => ?_)
      · exact ⟨hEx.1.trans hyA, htA⟩
      clear hK K hHeld
      have hHeld := hNew
      clear hNew
      try simp only [Act.put, List.setIfInBounds_toArray, List.set_cons_zero, List.set_cons_succ]
      refine held_take (i := 13) (v := ?_) rfl (by kernel_rfl) (by kernel_rfl) (by kernel_rfl) (fun _ _ _ h => h) rfl (fun w hSw => ?_) hHeld ?_
      rotate_left
      · go_simp; (try with_reducible rfl)
      try simp only [Act.put, List.setIfInBounds_toArray, List.set_cons_zero, List.set_cons_succ]
      refine held_call (i := 14) rfl (by kernel_rfl) rfl (fun K hK => ?_)
      ((have hEx : Ext (At tb) V _ ∧ TapeOk _ tb := hHeld); go_simp; (go_at_call 15); (refine (reads_any (rawT t) (setN t.w m3) _ _ _ _ _ _ _ (HTV.out _ hEx.1) (hF5.out.ext hEx.1 (fun _ _ e => e)).no hs5.out.no.words).mono ?_); (rintro e6 w6 ⟨rfl, hy⟩); (have hyA := hy.ofNo (M := At tb)); (have htA := hEx.2.ext hy); (clear hy); go_simp)
      refine hK.out _ _ ?_ (fun hNew => ?_)
      · exact ⟨hEx.1.trans hyA, htA⟩
      clear hK K hHeld
      have hHeld := hNew
      clear hNew
      try simp only [Act.put, List.setIfInBounds_toArray, List.set_cons_zero, List.set_cons_succ]
      refine held_take (i := 15) (v := ?_) rfl (by kernel_rfl) (by kernel_rfl) (by kernel_rfl) (fun _ _ _ h => h) rfl (fun w hSw => ?_) hHeld ?_
      rotate_left
      · go_simp; (try with_reducible rfl)
      try simp only [Act.put, List.setIfInBounds_toArray, List.set_cons_zero, List.set_cons_succ]
      refine held_take (i := 16) (v := ?_) rfl (by kernel_rfl) (by kernel_rfl) (by kernel_rfl) (fun _ _ _ h => h) rfl (fun w hSw => ?_) hHeld ?_
      rotate_left
      · go_simp; (try with_reducible rfl)
      try simp only [Act.put, List.setIfInBounds_toArray, List.set_cons_zero, List.set_cons_succ]
      refine held_take (i := 17) (v := ?_) rfl (by kernel_rfl) (by kernel_rfl) (by kernel_rfl) (fun _ _ _ h => h) rfl (fun w hSw => ?_) hHeld ?_
      rotate_left
      · go_simp; (try with_reducible rfl)
      try simp only [Act.put, List.setIfInBounds_toArray, List.set_cons_zero, List.set_cons_succ]
      refine held_take (i := 18) (v := ?_) rfl (by kernel_rfl) (by kernel_rfl) (by kernel_rfl) (fun _ _ _ h => h) rfl (fun w hSw => ?_) hHeld ?_
      rotate_left
      · (have hEs : Ext (At tb) V _ ∧ TapeOk _ tb := hSw); (have x0 := cellOf (hEs.1.blk HD.out (fun e => by unfold At at e; omega))); go_simp; (try with_reducible rfl)
      try simp only [Act.put, List.setIfInBounds_toArray, List.set_cons_zero, List.set_cons_succ]
      refine held_take (i := 20) (v := ?_) rfl (by kernel_rfl) (by kernel_rfl) (by kernel_rfl) (fun _ _ _ h => h) rfl (fun w hSw => ?_) hHeld ?_
      rotate_left
      · go_simp; (try with_reducible rfl)
      try simp only [Act.put, List.setIfInBounds_toArray, List.set_cons_zero, List.set_cons_succ]
      refine held_take (i := 21) (v := ?_) rfl (by kernel_rfl) (by kernel_rfl) (by kernel_rfl) (fun _ _ _ h => h) rfl (fun w hSw => ?_) hHeld ?_
      rotate_left
      · go_simp; (try with_reducible rfl)
      try simp only [Act.put, List.setIfInBounds_toArray, List.set_cons_zero, List.set_cons_succ]
      refine held_call (i := 19) rfl (by kernel_rfl) rfl (fun K hK => ?_)
      ((have hEx : Ext (At tb) V _ ∧ TapeOk _ tb := hHeld); go_simp; (go_at_call 18); (refine (spoilT_any tb (rawT t) _ _ _ _ (hF5.out.ext hEx.1 (fun _ _ e => e)) HWL.out.1 HWL.out.2.1 HWL.out.2.2 hEx.2).mono ?_); (rintro e7 w7 ⟨r7, sg7, sk7, sc7, rfl, hR7, htA, hyA⟩); (obtain ⟨a7, c7, rfl⟩ := hR7.out.gen.slice); (obtain ⟨b7, d7, rfl⟩ := hR7.out.kill.slice); (obtain ⟨x7, y7, rfl⟩ := Row.slice hR7.out.copies); go_simp)
      refine hK.out _ _ ?_ (fun hNew => ?_)
      · exact ⟨hEx.1.trans hyA, htA⟩
      clear hK K hHeld
      have hHeld := hNew
      clear hNew
      try simp only [Act.put, List.setIfInBounds_toArray, List.set_cons_zero, List.set_cons_succ]
      refine held_call (i := 22) rfl (by kernel_rfl) rfl (fun K hK => ?_)
      ((have hEx : Ext (At tb) V _ ∧ TapeOk _ tb := hHeld); go_simp; (go_at_call 16); (refine (gset_any tb t.w _ hw9 hEx.2).mono ?_); (rintro e8 w8 ⟨m8, g8, hm8, rfl, hb8, hlo8, htA, hyA⟩); (have hs8 := Lib.hid (hb8.out.set (M := At tb) hw9 hm8 (fun e => by unfold At at e; have := hEx.2.lt; omega))); (clear hb8 hlo8 hm8); (have hR8 := Lib.hid (hR7.out.ext hyA (fun _ _ e => e))); (clear hR7); go_simp)
      refine hK.out _ _ ?_ (fun hNew => ?_)
      · exact ⟨hEx.1.trans hyA, htA⟩
      clear hK K hHeld
      have hHeld := hNew
      clear hNew
      try simp only [Act.put, List.setIfInBounds_toArray, List.set_cons_zero, List.set_cons_succ]
      refine held_call (i := 23) rfl (by kernel_rfl) rfl (fun K hK => ?_)
      ((have hEx : Ext (At tb) V _ ∧ TapeOk _ tb := hHeld); go_simp; (go_at_call 15); (refine (reads_any r7 (setN t.w m8) _ _ _ _ _ _ _ (HTV.out _ hEx.1) hR8.out.no hs8.out.no.words).mono ?_); (rintro e9 w9 ⟨rfl, hy⟩); (have hyA := hy.ofNo (M := At tb)); (have htA := hEx.2.ext hy); (clear hy); go_simp)
      refine hK.out _ _ ?_ (fun hNew => ?_)
      · exact ⟨hEx.1.trans hyA, htA⟩
      clear hK K hHeld
      have hHeld := hNew
      clear hNew
      try simp only [Act.put, List.setIfInBounds_toArray, List.set_cons_zero, List.set_cons_succ]
      refine held_take (i := 24) (v := ?_) rfl (by kernel_rfl) (by kernel_rfl) (by kernel_rfl) (fun _ _ _ h => h) rfl (fun w hSw => ?_) hHeld ?_
      rotate_left
      · go_simp; (try with_reducible rfl)
      try simp only [Act.put, List.setIfInBounds_toArray, List.set_cons_zero, List.set_cons_succ]
      refine held_take (i := 25) (v := ?_) rfl (by kernel_rfl) (by kernel_rfl) (by kernel_rfl) (fun _ _ _ h => h) rfl (fun w hSw => ?_) hHeld ?_
      rotate_left
      · go_simp; (try with_reducible rfl)
      try simp only [Act.put, List.setIfInBounds_toArray, List.set_cons_zero, List.set_cons_succ]
      refine held_take (i := 26) (v := ?_) rfl (by kernel_rfl) (by kernel_rfl) (by kernel_rfl) (fun _ _ _ h => h) rfl (fun w hSw => ?_) hHeld ?_
      rotate_left
      · go_simp; (try with_reducible rfl)
      try simp only [Act.put, List.setIfInBounds_toArray, List.set_cons_zero, List.set_cons_succ]
      refine held_take (i := 27) (v := ?_) rfl (by kernel_rfl) (by kernel_rfl) (by kernel_rfl) (fun _ _ _ h => h) rfl (fun w hSw => ?_) hHeld ?_
      rotate_left
      · (have hEs : Ext (At tb) V _ ∧ TapeOk _ tb := hSw); (have x0 := cellOf (hEs.1.blk HD.out (fun e => by unfold At at e; omega))); go_simp; (try with_reducible rfl)
      try simp only [Act.put, List.setIfInBounds_toArray, List.set_cons_zero, List.set_cons_succ]
      refine held_take (i := 28) (v := ?_) rfl (by kernel_rfl) (by kernel_rfl) (by kernel_rfl) (fun _ _ _ h => h) rfl (fun w hSw => ?_) hHeld ?_
      rotate_left
      · go_simp; (try with_reducible rfl)
      try simp only [Act.put, List.setIfInBounds_toArray, List.set_cons_zero, List.set_cons_succ]
      refine held_take (i := 29) (v := ?_) rfl (by kernel_rfl) (by kernel_rfl) (by kernel_rfl) (fun _ _ _ h => h) rfl (fun w hSw => ?_) hHeld ?_
      rotate_left
      · go_simp; (try with_reducible rfl)
      try simp only [Act.put, List.setIfInBounds_toArray, List.set_cons_zero, List.set_cons_succ]
      refine held_take (i := 30) (v := ?_) rfl (by kernel_rfl) (by kernel_rfl) (by kernel_rfl) (fun _ _ _ h => h) rfl (fun w hSw => ?_) hHeld ?_
      rotate_left
      · go_simp; (try with_reducible rfl)
      try simp only [Act.put, List.setIfInBounds_toArray, List.set_cons_zero, List.set_cons_succ]
      refine held_take (i := 32) (v := ?_) rfl (by kernel_rfl) (by kernel_rfl) (by kernel_rfl) (fun _ _ _ h => h) rfl (fun w hSw => ?_) hHeld ?_
      rotate_left
      · go_simp; (try with_reducible rfl)
      try simp only [Act.put, List.setIfInBounds_toArray, List.set_cons_zero, List.set_cons_succ]
      refine held_take (i := 33) (v := ?_) rfl (by kernel_rfl) (by kernel_rfl) (by kernel_rfl) (fun _ _ _ h => h) rfl (fun w hSw => ?_) hHeld ?_
      rotate_left
      · go_simp; (try with_reducible rfl)
      try simp only [Act.put, List.setIfInBounds_toArray, List.set_cons_zero, List.set_cons_succ]
      refine held_call (i := 31) rfl (by kernel_rfl) rfl (fun K hK => ?_)
      ((have hEx : Ext (At tb) V _ ∧ TapeOk _ tb := hHeld); go_simp; (go_at_call 16); (refine (gset_any tb u _ hu9 hEx.2).mono ?_); (rintro e10 w10 ⟨m10, g10, hm10, rfl, hb10, hlo10, htA, hyA⟩); (have hs10 := Lib.hid (hb10.out.set (M := At tb) hu9 hm10 (fun e => by unfold At at e; have := hEx.2.lt; omega))); (clear hb10 hlo10 hm10); go_simp)
      refine hK.out _ _ ?_ (fun hNew => ?_)
      · exact ⟨hEx.1.trans hyA, htA⟩
      clear hK K hHeld
      have hHeld := hNew
      clear hNew
      try simp only [Act.put, List.setIfInBounds_toArray, List.set_cons_zero, List.set_cons_succ]
      refine held_call (i := 34) rfl (by kernel_rfl) rfl (fun K hK => ?_)
      ((have hEx : Ext (At tb) V _ ∧ TapeOk _ tb := hHeld); go_simp; (go_at_call 15); (refine (reads_any (rawT t) (setN u m10) _ _ _ _ _ _ _ (HTV.out _ hEx.1) (hF5.out.ext hEx.1 (fun _ _ e => e)).no hs10.out.no.words).mono ?_); (rintro e11 w11 ⟨rfl, hy⟩); (have hyA := hy.ofNo (M := At tb)); (have htA := hEx.2.ext hy); (clear hy); go_simp)
      refine hK.out _ _ ?_ (fun hNew => ?_)
      · exact ⟨hEx.1.trans hyA, htA⟩
      clear hK K hHeld
      have hHeld := hNew
      clear hNew
      try simp only [Act.put, List.setIfInBounds_toArray, List.set_cons_zero, List.set_cons_succ]
      refine held_take (i := 35) (v := ?_) rfl (by kernel_rfl) (by kernel_rfl) (by kernel_rfl) (fun _ _ _ h => h) rfl (fun w hSw => ?_) hHeld ?_
      rotate_left
      · go_simp; (try with_reducible rfl)
      try simp only [Act.put, List.setIfInBounds_toArray, List.set_cons_zero, List.set_cons_succ]
      refine held_take (i := 36) (v := ?_) rfl (by kernel_rfl) (by kernel_rfl) (by kernel_rfl) (fun _ _ _ h => h) rfl (fun w hSw => ?_) hHeld ?_
      rotate_left
      · go_simp; (try with_reducible rfl)
      try simp only [Act.put, List.setIfInBounds_toArray, List.set_cons_zero, List.set_cons_succ]
      refine held_take (i := 37) (v := ?_) rfl (by kernel_rfl) (by kernel_rfl) (by kernel_rfl) (fun _ _ _ h => h) rfl (fun w hSw => ?_) hHeld ?_
      rotate_left
      · go_simp; (try with_reducible rfl)
      try simp only [Act.put, List.setIfInBounds_toArray, List.set_cons_zero, List.set_cons_succ]
      refine held_take (i := 38) (v := ?_) rfl (by kernel_rfl) (by kernel_rfl) (by kernel_rfl) (fun _ _ _ h => h) rfl (fun w hSw => ?_) hHeld ?_
      rotate_left
      · (have hEs : Ext (At tb) V _ ∧ TapeOk _ tb := hSw); (have x0 := cellOf (hEs.1.blk HD.out (fun e => by unfold At at e; omega))); go_simp; (try with_reducible rfl)
      try simp only [Act.put, List.setIfInBounds_toArray, List.set_cons_zero, List.set_cons_succ]
      refine held_take (i := 39) (v := ?_) rfl (by kernel_rfl) (by kernel_rfl) (by kernel_rfl) (fun _ _ _ h => h) rfl (fun w hSw => ?_) hHeld ?_
      rotate_left
      · go_simp; (try with_reducible rfl)
      try simp only [Act.put, List.setIfInBounds_toArray, List.set_cons_zero, List.set_cons_succ]
      refine held_take (i := 40) (v := ?_) rfl (by kernel_rfl) (by kernel_rfl) (by kernel_rfl) (fun _ _ _ h => h) rfl (fun w hSw => ?_) hHeld ?_
      rotate_left
      · go_simp; (try with_reducible rfl)
      try simp only [Act.put, List.setIfInBounds_toArray, List.set_cons_zero, List.set_cons_succ]
      refine held_take (i := 41) (v := ?_) rfl (by kernel_rfl) (by kernel_rfl) (by kernel_rfl) (fun _ _ _ h => h) rfl (fun w hSw => ?_) hHeld ?_
      rotate_left
      · go_simp; (try with_reducible rfl)
      try simp only [Act.put, List.setIfInBounds_toArray, List.set_cons_zero, List.set_cons_succ]
      refine held_call (i := 42) rfl (by kernel_rfl) rfl (fun K hK => ?_)
      ((have hEx : Ext (At tb) V _ ∧ TapeOk _ tb := hHeld); go_simp; (go_at_call 16); (refine (gset_any tb t.w _ hw9 hEx.2).mono ?_); (rintro e12 w12 ⟨m12, g12, hm12, rfl, hb12, hlo12, htA, hyA⟩); (have hs12 := Lib.hid (hb12.out.set (M := At tb) hw9 hm12 (fun e => by unfold At at e; have := hEx.2.lt; omega))); (clear hb12 hlo12 hm12); go_simp)
      refine hK.out _ _ ?_ (fun hNew => ?_)
      · exact ⟨hEx.1.trans hyA, htA⟩
      clear hK K hHeld
      have hHeld := hNew
      clear hNew
      try simp only [Act.put, List.setIfInBounds_toArray, List.set_cons_zero, List.set_cons_succ]
      refine held_call (i := 43) rfl (by kernel_rfl) rfl (fun K hK => ?_)
      ((have hEx : Ext (At tb) V _ ∧ TapeOk _ tb := hHeld); go_simp; (go_at_call 19); (refine (spoilS_any tb (setN t.w m12) _ _ hs12.out.no.words (by rw [show (setN t.w m12).words.length = nw t.w from wordsN_len ..]; unfold nw; omega) hEx.2).mono ?_); (rintro e13 w13 ⟨z13, a13, c13, l13, rfl, hl13, htA, hyA⟩); go_simp)
      refine hK.out _ _ ?_ (fun hNew => ?_)
      · exact ⟨hEx.1.trans hyA, htA⟩
      clear hK K hHeld
      have hHeld := hNew
      clear hNew
      try simp only [Act.put, List.setIfInBounds_toArray, List.set_cons_zero, List.set_cons_succ]
      refine held_call (i := 44) rfl (by kernel_rfl) rfl (fun K hK => ?_)
      ((have hEx : Ext (At tb) V _ ∧ TapeOk _ tb := hHeld); go_simp; (go_at_call 15); (refine (reads_any (rawT t) ⟨z13, l13⟩ _ _ _ _ _ _ _ (HTV.out _ hEx.1) (hF5.out.ext hEx.1 (fun _ _ e => e)).no (hl13.out.mono (fun _ _ x => x.elim))).mono ?_); (rintro e14 w14 ⟨rfl, hy⟩); (have hyA := hy.ofNo (M := At tb)); (have htA := hEx.2.ext hy); (clear hy); go_simp)
      refine hK.out _ _ ?_ (fun hNew => ?_)
      · exact ⟨hEx.1.trans hyA, htA⟩
      clear hK K hHeld
      have hHeld := hNew
      clear hNew
      try simp only [Act.put, List.setIfInBounds_toArray, List.set_cons_zero, List.set_cons_succ]
      refine held_take (i := 45) (v := ?_) rfl (by kernel_rfl) (by kernel_rfl) (by kernel_rfl) (fun _ _ _ h => h) rfl (fun w hSw => ?_) hHeld ?_
      rotate_left
      · go_simp; (try with_reducible rfl)
      try simp only [Act.put, List.setIfInBounds_toArray, List.set_cons_zero, List.set_cons_succ]
      refine held_take (i := 46) (v := ?_) rfl (by kernel_rfl) (by kernel_rfl) (by kernel_rfl) (fun _ _ _ h => h) rfl (fun w hSw => ?_) hHeld ?_
      rotate_left
      · go_simp; (try with_reducible rfl)
      try simp only [Act.put, List.setIfInBounds_toArray, List.set_cons_zero, List.set_cons_succ]
      refine wpAnyH_done (by kernel_rfl) ?_ _
      have hEx : Ext (At tb) V _ ∧ TapeOk _ tb := hHeld
      go_wp2_with fail
      go_roundw
      case rel => exact ⟨_, by omega, HKK.out, Lib.hid hEx.2, Lib.hid (hxw5.out.trans2 hEx.1 (fun i hi e => by unfold At at e; omega)), Lib.hid (hEx.1.blk hA2.out (by unfold At; omega)), Lib.hid (hEx.1.blk hB2.out (by unfold At; omega))⟩
      case measure => simp [intOf]; omega
    · have hge : ¬ ((k : Int) < 5) := by omega
      have cA := cellOf hA.out
      go_wp2_with fail
      clear cA
      refine (large_any f _ _ _ _ (H.out.extNo hx.out)).mono ?_
      rintro e1 w1 ⟨bb, rfl, hx1⟩
      have hy1 := hx.out.transNo hx1
      have hA1 := Lib.hid (hx1.blk hA.out no_no)
      have hB1 := Lib.hid (hx1.blk hB.out no_no)
      clear hx hA hx1 ht hB
      cases bb with
      | true =>
        go_wp2_with fail
        go_ret
        exact ⟨rfl, hy1⟩
      | false =>
        have cA := cellOf hA1.out
        have cB := cellOf hB1.out
        go_wp2_with fail
        clear cA cB
        refine (reads_any f s _ _ _ _ _ _ _ (HTB.out.ext hy1) (H.out.extNo hy1) (HS.out.extNo hy1)).mono ?_
        rintro e2 w2 ⟨rfl, hx2⟩
        go_wp2_with fail
        refine (sane_any _).mono ?_
        rintro e3 w3 ⟨rfl, hx3⟩
        go_wp2_with fail
        go_ret
        exact ⟨rfl, (hy1.transNo hx2).transNo hx3⟩
end Go.Proofs.YtgakojgkkdmabaaDoor

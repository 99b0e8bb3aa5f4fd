/- Merged: F9 H10 -/
import Derived.Test.YtkdjdhflhlbelaaF4
import Derived.Test.YtkdjdhflhlbelaaTrC
import Derived.Test.YtkdjdhflhlbelaaF8
set_option linter.unusedVariables false
set_option linter.unusedSimpArgs false
/- F9 -/
namespace Go.Proofs.Ytkdjdhflhlbelaa
open Go Go.RowKit
/-! ### the example -/
set_option maxHeartbeats 1000000 in
theorem rident_any (w : Nat) (W : World) (hw : w ≤ 256) : Calls Try.prog 80 #[.int .i64 (w : Int)] W (fun e w' => ∃ g1 g2, e = .returned (.agg #[.int .i64 (w : Int), .slice (some ⟨g1, 0, none⟩) (nw w) (nw w), .int .i64 (w : Int), .slice (some ⟨g2, 0, none⟩) (nw w) (nw w), .slice none 0 0]) ∧ Hid (BlkW w' g1 w 0) ∧ Hid (BlkW w' g2 w 0) ∧ W.heap.size ≤ g1 ∧ W.heap.size ≤ g2 ∧ Ext No W w') := by
 go_enter Try.func80, Try.ntmps80
 go_wp2_with fail
 have hx0 : Ext No W (W.alloc (.cells #[.int .i64 0, .slice none 0 0, .int .i64 0, .slice none 0 0, .slice none 0 0] 70)) := (Ext.refl _ _).alloc _
 have hC := alloc_top (w := W) (o := .cells #[.int .i64 0, .slice none 0 0, .int .i64 0, .slice none 0 0, .slice none 0 0] 70) rfl
 have hsz : (W.alloc (.cells #[.int .i64 0, .slice none 0 0, .int .i64 0, .slice none 0 0, .slice none 0 0] 70)).heap.size = W.heap.size + 1 := by simp
 have HSZ := Lib.hid hsz
 clear hsz
 refine (rempty_any w _ hw).mono ?_
 rintro e1 w1 ⟨g1, rfl, hb1, hlo1, hx1⟩
 have HX1 := Lib.hid (hx0.transNo hx1)
 have HC := Lib.hid (hx1.blk hC no_no)
 have hl1 : Hid (W.heap.size + 1 ≤ g1) := Lib.hid (by rw [← HSZ.out]; exact hlo1)
 clear hx0 hC hx1 hlo1
 go_wp2_with fail
 refine (rempty_any w _ hw).mono ?_
 rintro e2 w2 ⟨g2, rfl, hb2, hlo2, hx2⟩
 have hl2 : Hid (W.heap.size + 1 ≤ g2) := Lib.hid (by have := lt_of_block HC.out; omega)
 have HX2 := Lib.hid (HX1.out.transNo hx2)
 have HC2 := hx2.blk HC.out no_no
 have hb12 := Lib.hid (hx2.blk (hb1.out : w1.heap[g1]? = _) no_no)
 have cC := cellOf HC2
 have fC := freeOf HC2
 clear hx2 hlo2 HC hb1 HX1
 go_wp2_with fail
 have hfin := BoxR.fin5 ⟨_, rfl, HC2⟩ (.int .i64 (w : Int)) (.slice (some ⟨g1, 0, none⟩) (nw w) (nw w)) (.int .i64 (w : Int)) (.slice (some ⟨g2, 0, none⟩) (nw w) (nw w)) (.slice none 0 0)
 have hE := set5 w2 W.heap.size (.int .i64 (w : Int)) (.slice (some ⟨g1, 0, none⟩) (nw w) (nw w)) (.int .i64 (w : Int)) (.slice (some ⟨g2, 0, none⟩) (nw w) (nw w)) (.slice none 0 0)
 clear cC fC
 generalize (((((w2.setCell ⟨W.heap.size, 0, none⟩ (.int .i64 (w : Int))).setCell ⟨W.heap.size, 1, none⟩ (.slice (some ⟨g1, 0, none⟩) (nw w) (nw w))).setCell ⟨W.heap.size, 2, none⟩ (.int .i64 (w : Int))).setCell ⟨W.heap.size, 3, none⟩ (.slice (some ⟨g2, 0, none⟩) (nw w) (nw w))).setCell ⟨W.heap.size, 4, none⟩ (.slice none 0 0)) = WF at *
 have cF := cellOf hfin
 refine ret_ex rfl ?_
 simp [results, Try.results80, go_sem, cF]
 have k1 := hl1.out
 have k2 := hl2.out
 exact ⟨g1, g2, ⟨rfl, rfl⟩, Lib.hid (hE.blk hb12.out (by unfold At; omega)), Lib.hid (hE.blk (hb2.out : w2.heap[g2]? = _) (by unfold At; omega)), by omega, by omega, HX2.out.trans2 hE (fun i hi e => by unfold At at e; omega)⟩
theorem one_list {β : Type} {K : EK β} {W : World} {g : Nat} {cs : Array Value} {T : TypeId} {p : β} (h : W.heap[g]? = some (.cells cs T (0, 0))) (hc : cs.toList = K.cells p) (hs : cs.size = K.s) (hok : K.ok No W p) : LAt K No W (.slice (some ⟨g, 0, none⟩) 1 1) [p] := by
 refine ⟨?_, fun q hq => by rw [List.mem_singleton.1 hq]; exact hok⟩
 have h1 := Row.block (M := No) (n := 1) (s := K.s) h (by rw [Nat.one_mul]; exact hs) no_no (by decide)
 rw [hc] at h1
 simpa using h1
end Go.Proofs.Ytkdjdhflhlbelaa

/- H10 -/
namespace Go.Proofs.Ytkdjdhflhlbelaa
open Go Go.RowKit
theorem rsame_d2 (w m k : Nat) (u v : Value) (W : World) (hs : SetAt No W u w m) (ht : SetAt No W v w k) : Calls Try.prog 52 #[.agg #[.int .i64 (w : Int), u], .agg #[.int .i64 (w : Int), v]] W (BoolPost (decide (m = k)) W) := by
 have h := rsame_any _ _ _ _ W hs.raw ht.raw
 rw [show sameB (setN w m) (setN w k) = decide (m = k) from by
  unfold sameB setN
  rw [decide_eq_decide]
  exact ⟨fun e => wordsN_inj hs.hm ht.hm e.2, fun e => by rw [e]; exact ⟨rfl, rfl⟩⟩] at h
 exact h
theorem rows_eq {us vs : List Nat} (hl : us.length = vs.length) (h : ∀ j, j < us.length → rowD us j = rowD vs j) : us = vs := by
 refine List.ext_getElem hl (fun i h1 h2 => ?_)
 have := h i h1
 rwa [rowD_get h1, rowD_get h2] at this
set_option maxRecDepth 100000 in
set_option maxHeartbeats 4000000 in
theorem rsameSets_any (w : Nat) (us vs : List Nat) (s1 s2 : Value) (W : World) (h1 : SetsV No W s1 w us) (h2 : SetsV No W s2 w vs) (hb : us.length ≤ 1048576) :
  Calls Try.prog 33 #[s1, s2] W (BoolPost (decide (us = vs)) W) := by
 have H1 := Lib.hid h1
 have H2 := Lib.hid h2
 obtain ⟨a1, c1, rfl⟩ := h1.slice
 obtain ⟨a2, c2, rfl⟩ := h2.slice
 clear h1 h2
 by_cases hl : us.length = vs.length
 ·have HL := Lib.hid hl
  obtain ⟨n, hn⟩ : ∃ n, n = us.length := ⟨_, rfl⟩
  have HN := Lib.hid hn
  have hvn : vs.length = n := by omega
  rw [hvn]
  rw [show us.length = n from hn.symm] at hb ⊢
  clear hl hn hvn
  go_enter Try.func33, Try.ntmps33
  go_wp2_with fail
  go_loopw [5] (fun s5 wr => ∃ k : Nat, s5 = .int .i64 k ∧ k ≤ n ∧ Hid (Ext No W wr) ∧ Hid (∀ j, j < k → rowD us j = rowD vs j)) (fun s5 _ => n - (intOf s5).toNat)
  case atStart => exact ⟨0, rfl, Nat.zero_le _, Lib.hid (Ext.refl _ _), Lib.hid (fun j h => absurd h (Nat.not_lt_zero _))⟩
  case round =>
   obtain ⟨k, rfl, hk, hx, hm⟩ := hrel
   rename World => wr
   by_cases hlt : k < n
   ·have hlz : (k : Int) < (n : Int) := by omega
    obtain ⟨o1, o2, o3, o4, o5, hve, hcl1, hq1⟩ := (H1.out.extNo hx.out).cells (i := k) (by rw [← HN.out]; exact hlt)
    rw [← HN.out] at hve
    simp only [Value.slice.injEq] at hve
    obtain ⟨rfl, -, rfl⟩ := hve
    obtain ⟨p1, p2, p3, p4, p5, hve, hcl2, hq2⟩ := (H2.out.extNo hx.out).cells (i := k) (by rw [← HL.out, ← HN.out]; exact hlt)
    rw [← HL.out, ← HN.out] at hve
    simp only [Value.slice.injEq] at hve
    obtain ⟨rfl, -, rfl⟩ := hve
    have HQ1 := Lib.hid hcl1
    have HQ2 := Lib.hid hcl2
    clear hcl1 hcl2
    by_cases he : rowD us k = rowD vs k
    ·have hdec : decide (rowD us k = rowD vs k) = true := decide_eq_true he
     have HE := Lib.hid he
     clear he
     go_upto_region 6 with (fail)
     refine wp_region_held_drew (S := (fun w' => Ext No wr w')) (by kernel_rfl) ?_ (fun hHeld => ?_)
     ·exact (Ext.refl _ _).drew
     refine hTk (i := 0) (v := ?_) hHeld (fun w hSw => ?_) ?_
     rotate_left
     ·go_simp; (try with_reducible rfl)
     try simp only [Act.put, nzA, nzB, nzC]
     refine hTk (i := 1) (v := ?_) hHeld (fun w hSw => ?_) ?_
     rotate_left
     ·go_simp; (try with_reducible rfl)
     try simp only [Act.put, nzA, nzB, nzC]
     refine hTk (i := 2) (v := ?_) hHeld (fun w hSw => ?_) ?_
     rotate_left
     ·go_simp; (try with_reducible rfl)
     try simp only [Act.put, nzA, nzB, nzC]
     refine hTk (i := 3) (v := ?_) hHeld (fun w hSw => ?_) ?_
     rotate_left
     ·(have hEs : Ext No wr _ := hSw); (obtain ⟨p0, p1⟩ := HQ1.out); (have x0 := hEs.keep p0); (have x1 := hEs.keep p1); go_simp; (try with_reducible rfl)
     try simp only [Act.put, nzA, nzB, nzC]
     refine hTk (i := 4) (v := ?_) hHeld (fun w hSw => ?_) ?_
     rotate_left
     ·go_simp; (try with_reducible rfl)
     try simp only [Act.put, nzA, nzB, nzC]
     refine hTk (i := 5) (v := ?_) hHeld (fun w hSw => ?_) ?_
     rotate_left
     ·go_simp; (try with_reducible rfl)
     try simp only [Act.put, nzA, nzB, nzC]
     refine hTk (i := 6) (v := ?_) hHeld (fun w hSw => ?_) ?_
     rotate_left
     ·go_simp; (try with_reducible rfl)
     try simp only [Act.put, nzA, nzB, nzC]
     refine hTk (i := 7) (v := ?_) hHeld (fun w hSw => ?_) ?_
     rotate_left
     ·(have hEs : Ext No wr _ := hSw); (obtain ⟨p0, p1⟩ := HQ2.out); (have x0 := hEs.keep p0); (have x1 := hEs.keep p1); go_simp; (try with_reducible rfl)
     try simp only [Act.put, nzA, nzB, nzC]
     refine held_call (i := 8) rfl (by kernel_rfl) rfl (fun K hK => ?_)
     ((have hEx : Ext No wr _ := hHeld); go_simp; (go_at_call 52); (refine (rsame_d2 w (rowD us k) (rowD vs k) _ _ _ (hq1.out.extNo hEx) (hq2.out.extNo hEx)).mono ?_); (rintro e9 w9 ⟨rfl, hyA⟩); (rw [hdec]); go_simp)
     refine hK.out _ _ ?_ ?_
     ·exact Ext.transNo (show Ext No wr _ from hHeld) hyA
     clear hK K hHeld
     intro hHeld
     try simp only [Act.put, nzA, nzB, nzC]
     refine hTk (i := 9) (v := ?_) hHeld (fun w hSw => ?_) ?_
     rotate_left
     ·go_simp; (try with_reducible rfl)
     try simp only [Act.put, nzA, nzB, nzC]
     refine wpAnyH_done (by kernel_rfl) ?_ _
     have hEx : Ext No wr _ := hHeld
     go_wp2_with fail
     go_roundw
     case rel => exact ⟨k + 1, by go_num, by omega, Lib.hid (hx.out.transNo hEx), Lib.hid (fun j hj => by
      by_cases e : j = k
      ·subst e; exact HE.out
      ·exact hm.out j (by omega))⟩
     case measure => simp [intOf]; omega
    ·have hdec : decide (rowD us k = rowD vs k) = false := decide_eq_false he
     have HE := Lib.hid he
     clear he
     go_upto_region 6 with (fail)
     refine wp_region_held_drew (S := (fun w' => Ext No wr w')) (by kernel_rfl) ?_ (fun hHeld => ?_)
     ·exact (Ext.refl _ _).drew
     refine hTk (i := 0) (v := ?_) hHeld (fun w hSw => ?_) ?_
     rotate_left
     ·go_simp; (try with_reducible rfl)
     try simp only [Act.put, nzA, nzB, nzC]
     refine hTk (i := 1) (v := ?_) hHeld (fun w hSw => ?_) ?_
     rotate_left
     ·go_simp; (try with_reducible rfl)
     try simp only [Act.put, nzA, nzB, nzC]
     refine hTk (i := 2) (v := ?_) hHeld (fun w hSw => ?_) ?_
     rotate_left
     ·go_simp; (try with_reducible rfl)
     try simp only [Act.put, nzA, nzB, nzC]
     refine hTk (i := 3) (v := ?_) hHeld (fun w hSw => ?_) ?_
     rotate_left
     ·(have hEs : Ext No wr _ := hSw); (obtain ⟨p0, p1⟩ := HQ1.out); (have x0 := hEs.keep p0); (have x1 := hEs.keep p1); go_simp; (try with_reducible rfl)
     try simp only [Act.put, nzA, nzB, nzC]
     refine hTk (i := 4) (v := ?_) hHeld (fun w hSw => ?_) ?_
     rotate_left
     ·go_simp; (try with_reducible rfl)
     try simp only [Act.put, nzA, nzB, nzC]
     refine hTk (i := 5) (v := ?_) hHeld (fun w hSw => ?_) ?_
     rotate_left
     ·go_simp; (try with_reducible rfl)
     try simp only [Act.put, nzA, nzB, nzC]
     refine hTk (i := 6) (v := ?_) hHeld (fun w hSw => ?_) ?_
     rotate_left
     ·go_simp; (try with_reducible rfl)
     try simp only [Act.put, nzA, nzB, nzC]
     refine hTk (i := 7) (v := ?_) hHeld (fun w hSw => ?_) ?_
     rotate_left
     ·(have hEs : Ext No wr _ := hSw); (obtain ⟨p0, p1⟩ := HQ2.out); (have x0 := hEs.keep p0); (have x1 := hEs.keep p1); go_simp; (try with_reducible rfl)
     try simp only [Act.put, nzA, nzB, nzC]
     refine held_call (i := 8) rfl (by kernel_rfl) rfl (fun K hK => ?_)
     ((have hEx : Ext No wr _ := hHeld); go_simp; (go_at_call 52); (refine (rsame_d2 w (rowD us k) (rowD vs k) _ _ _ (hq1.out.extNo hEx) (hq2.out.extNo hEx)).mono ?_); (rintro e9 w9 ⟨rfl, hyA⟩); (rw [hdec]); go_simp)
     refine hK.out _ _ ?_ ?_
     ·exact Ext.transNo (show Ext No wr _ from hHeld) hyA
     clear hK K hHeld
     intro hHeld
     try simp only [Act.put, nzA, nzB, nzC]
     refine hTk (i := 9) (v := ?_) hHeld (fun w hSw => ?_) ?_
     rotate_left
     ·go_simp; (try with_reducible rfl)
     try simp only [Act.put, nzA, nzB, nzC]
     refine wpAnyH_done (by kernel_rfl) ?_ _
     have hEx : Ext No wr _ := hHeld
     go_wp2_with fail
     go_ret
     exact ⟨by rw [decide_eq_false (fun e => HE.out (by rw [e]))]; rfl, hx.out.transNo hEx⟩
   ·have hge : ¬ (k : Int) < (n : Int) := by omega
    have hkn : k = n := by omega
    subst hkn
    go_wp2_with fail
    go_ret
    exact ⟨by rw [decide_eq_true (rows_eq HL.out (by rw [← HN.out]; exact hm.out))]; rfl, hx.out⟩
 ·have hne : ((us.length : Int) != (vs.length : Int)) = true := by simp; omega
  have hne2 : ¬ ((us.length : Int) = (vs.length : Int)) := by omega
  have HL := Lib.hid hl
  clear hl
  go_enter Try.func33, Try.ntmps33
  go_wp2_with fail
  go_ret
  exact ⟨by rw [decide_eq_false (fun e => HL.out (by rw [e]))]; rfl, Ext.refl _ _⟩
end Go.Proofs.Ytkdjdhflhlbelaa


import Derived.Test.YtjeohlooaiociaaGreatDoorF4
import Derived.Test.YtjeohlooaiociaaGreatDoorF8
set_option linter.unusedVariables false
set_option linter.unusedSimpArgs false
namespace Go.Proofs.YtjeohlooaiociaaGreatDoor
open Go Go.RowKit
theorem solve1_any (M : Nat → Prop) (S : SysD) (vd vt vb vv : Value) (vs : List Nat) (g : Nat) (W : World) (hM : ∀ b, M b → b < W.heap.size) (hg : W.heap[g]? = some (.cells #[.int .i64 (S.w : Int), vd, vt, vb] 27 (0, 0))) (h : SysAt No W vd vt vb S) (hv : SetsV No W vv S.w vs) (hl : vs.length = S.deps.length) :
  Calls Tryz.prog 59 #[vv, .pointer (some ⟨g, 0, none⟩)] W (SetsPost M S.w (nextD S vs) W) := by
 have H := Lib.hid h
 have HV := Lib.hid hv
 have HM := Lib.hid hM
 have HL := Lib.hid hl
 obtain ⟨ad, cd, at1, ct, ab, cb, rfl, rfl, rfl⟩ := h.slices
 have cG := cellOf hg
 clear h hv hM hl hg
 go_enter Tryz.func59, Tryz.ntmps59
 go_wp2_with fail
 refine (sysNext_any M S _ _ _ _ vs _ HM.out H.out HV.out HL.out).mono ?_
 rintro e1 w1 ⟨a1, c1, rfl, hs1, hx1⟩
 clear cG
 go_wp2_with fail
 go_ret
 exact ⟨a1, c1, rfl, hs1, hx1⟩
def RoundsPost (M : Nat → Prop) (S : SysD) (W : World) (e : Ending) (w' : World) : Prop :=
 ∃ (R : Nat) (a : Option Addr) (c : Nat), FixAt S R ∧ e = .returned (.tuple #[.slice a S.deps.length c, .int .i64 (R : Int)]) ∧ Hid (SetsV M w' (.slice a S.deps.length c) S.w (iterD S R)) ∧ Ext No W w'
set_option maxRecDepth 100000 in
set_option maxHeartbeats 2000000 in
theorem rounds1_any (M : Nat → Prop) (S : SysD) (vd vt vb : Value) (g : Nat) (W : World) (hM : ∀ b, M b → b < W.heap.size) (hg : W.heap[g]? = some (.cells #[.int .i64 (S.w : Int), vd, vt, vb] 27 (0, 0))) (h : SysAt No W vd vt vb S) :
  Calls Tryz.prog 58 #[.int .i64 (S.w : Int), .int .i64 (S.deps.length : Int), .func (.func 59) #[] #[.pointer (some ⟨g, 0, none⟩)]] W (RoundsPost M S W) := by
 have H := Lib.hid h
 have HM := Lib.hid hM
 have HG := Lib.hid hg
 have hok := h.ok
 have hw := hok.w
 have hn := hok.n2
 have HOK := Lib.hid hok
 obtain ⟨R, hR, hRle⟩ := fix_ex hok
 have HR := Lib.hid hR
 have hRb : R ≤ 65536 := Nat.le_trans hRle (Nat.le_trans (Nat.mul_le_mul hn hw) (by decide))
 clear h hM hg hok hR hRle
 go_enter Tryz.func58, Tryz.ntmps58
 go_wp2_with fail
 refine (emptyV_any M S.w S.deps.length _ HM.out hw hn).mono ?_
 rintro e1 w1 ⟨a1, c1, rfl, hs1, hx1⟩
 rw [List.length_replicate] at hs1 ⊢
 have HX1 := Lib.hid hx1
 have HS1 := Lib.hid (show SetsV M w1 _ S.w (iterD S 0) from hs1.out)
 clear hs1 hx1
 go_wp2_with fail
 go_at_call 59
 refine (solve1_any M S _ _ _ _ (iterD S 0) g _ (fun b hb => Nat.lt_of_lt_of_le (HM.out b hb) HX1.out.size) (HX1.out.blk HG.out no_no) (H.out.extNo HX1.out) HS1.out.no (good_iter HOK.out 0).len).mono ?_
 rintro e2 w2 ⟨a2, c2, rfl, hs2, hx2⟩
 rw [show (nextD S (iterD S 0)).length = S.deps.length from nextTo_len _ _ _] at hs2 ⊢
 have HX2 := Lib.hid (HX1.out.transNo hx2)
 have HS2 := Lib.hid (show SetsV M w2 _ S.w (iterD S 1) from hs2.out)
 have HS12 := Lib.hid (HS1.out.extNo hx2)
 clear hs2 hx2 HS1 HX1
 go_wp2_with fail
 go_loopw [8, 9, 10] (fun s8 s9 s10 wr => ∃ (k : Nat) (a : Option Addr) (c : Nat) (a' : Option Addr) (c' : Nat), s8 = .slice a S.deps.length c ∧ s9 = .slice a' S.deps.length c' ∧ s10 = .int .i64 k ∧ k ≤ R ∧ Hid (SetsV M wr (.slice a S.deps.length c) S.w (iterD S k)) ∧ Hid (SetsV M wr (.slice a' S.deps.length c') S.w (iterD S (k + 1))) ∧ Hid (∀ j, j < k → iterD S (j + 1) ≠ iterD S j) ∧ Hid (Ext No W wr)) (fun _ _ s10 _ => R - (intOf s10).toNat)
 case atStart => exact ⟨0, a1, c1, a2, c2, rfl, rfl, rfl, Nat.zero_le _, HS12, HS2, Lib.hid (fun j hj => absurd hj (Nat.not_lt_zero _)), HX2⟩
 clear HS12 HS2 HX2
 obtain ⟨k, a3, c3, a4, c4, rfl, rfl, rfl, hk, hs3, hs4, hne, hx⟩ := hrel
 rename World => wr
 have hl1 : Hid ((iterD S k).length = (iterD S (k + 1)).length) := Lib.hid (by rw [(good_iter HOK.out k).len, (good_iter HOK.out (k + 1)).len])
 go_wp2_with fail
 refine (fequal_any S.w (iterD S k) (iterD S (k + 1)) _ _ _ hs3.out.no hs4.out.no hl1.out).mono ?_
 rintro e5 w5 ⟨rfl, hx5⟩
 by_cases he : iterD S k = iterD S (k + 1)
 ·rw [decide_eq_true he]
  have HE := Lib.hid he
  clear he
  go_wp2_with fail
  refine ret_ex rfl ?_
  simp [results, Tryz.results58, go_sem]
  refine ⟨k, a3, c3, ⟨HE.out.symm, hne.out⟩, rfl, Lib.hid (hs3.out.extNo hx5), hx.out.transNo hx5⟩
 rw [decide_eq_false he]
 have HE := Lib.hid he
 have hkR : k < R := by
  rcases Nat.lt_or_ge k R with h | h
  ·exact h
  exfalso
  have : k = R := by omega
  subst this
  exact he HR.out.fix.symm
 clear he
 have hadd : IntKind.i64.wrap ((k : Int) + 1) = ((k + 1 : Nat) : Int) := by rw [IntWalk.i64_in _ (by omega)]; omega
 go_wp2_with fail
 go_at_call 59
 refine (solve1_any M S _ _ _ _ (iterD S (k + 1)) g _ (fun b hb => Nat.lt_of_lt_of_le (HM.out b hb) (hx.out.transNo hx5).size) ((hx.out.transNo hx5).blk HG.out no_no) (H.out.extNo (hx.out.transNo hx5)) (hs4.out.no.extNo hx5) (good_iter HOK.out (k + 1)).len).mono ?_
 rintro e6 w6 ⟨a6, c6, rfl, hs6, hx6⟩
 rw [show (nextD S (iterD S (k + 1))).length = S.deps.length from nextTo_len _ _ _] at hs6 ⊢
 have HS6 := Lib.hid (show SetsV M w6 _ S.w (iterD S (k + 1 + 1)) from hs6.out)
 clear hs6
 go_wp2_with fail
 go_roundw
 case rel => exact ⟨k + 1, a4, c4, a6, c6, rfl, rfl, by go_num, by omega, Lib.hid ((hs4.out.extNo hx5).extNo hx6), HS6, Lib.hid (fun j hj => by
  by_cases e : j = k
  ·subst e; exact fun e2 => HE.out e2.symm
  exact hne.out j (by omega)), Lib.hid ((hx.out.transNo hx5).transNo hx6)⟩
 case measure => simp [intOf]; omega
def SolvePost (M : Nat → Prop) (S : SysD) (W : World) (e : Ending) (w' : World) : Prop :=
 ∃ (R : Nat) (a : Option Addr) (c : Nat), FixAt S R ∧ e = .returned (.tuple #[.slice a S.deps.length c, .int .i64 (R : Int), .int .i64 0]) ∧ Hid (SetsV M w' (.slice a S.deps.length c) S.w (iterD S R)) ∧ Ext No W w'
set_option maxHeartbeats 1000000 in
theorem sysSolve_any (M : Nat → Prop) (S : SysD) (vd vt vb : Value) (W : World) (hM : ∀ b, M b → b < W.heap.size) (h : SysAt No W vd vt vb S) :
  Calls Tryz.prog 19 #[.agg #[.int .i64 (S.w : Int), vd, vt, vb]] W (SolvePost M S W) := by
 have H := Lib.hid h
 have HM := Lib.hid hM
 obtain ⟨ad, cd, at1, ct, ab, cb, rfl, rfl, rfl⟩ := h.slices
 clear h hM
 go_enter Tryz.func19, Tryz.ntmps19
 go_wp2_with fail
 have hx0 : Ext No W (W.alloc (.cells #[.int .i64 (S.w : Int), .slice ad S.deps.length cd, .slice at1 S.deps.length ct, .slice ab S.deps.length cb] 27)) := (Ext.refl _ _).alloc _
 refine (sysValid_yes S _ _ _ _ (H.out.extNo hx0)).mono ?_
 rintro e1 w1 ⟨rfl, hx1⟩
 have HA := Lib.hid (hx1.blk (alloc_top (w := W) (o := (.cells #[.int .i64 (S.w : Int), .slice ad S.deps.length cd, .slice at1 S.deps.length ct, .slice ab S.deps.length cb] 27)) rfl) no_no)
 have HX := Lib.hid (hx0.transNo hx1)
 clear hx0 hx1
 have cA := cellOf HA.out
 go_wp2_with fail
 clear cA
 refine (rounds1_any M S _ _ _ W.heap.size _ (fun b hb => Nat.lt_of_lt_of_le (HM.out b hb) HX.out.size) HA.out (H.out.extNo HX.out)).mono ?_
 rintro e2 w2 ⟨R, a2, c2, hR, rfl, hs2, hx2⟩
 have HR := Lib.hid hR
 clear hR
 go_wp2_with fail
 refine ret_ex rfl ?_
 simp [results, Tryz.results19, go_sem]
 exact ⟨R, a2, c2, HR.out, rfl, hs2, HX.out.transNo hx2⟩
end Go.Proofs.YtjeohlooaiociaaGreatDoor

namespace Go.Proofs.YtjeohlooaiociaaGreatDoor
open Go Go.RowKit
theorem no_lt' {n : Nat} : ∀ b, No b → b < n := fun _ e => e.elim
set_option maxHeartbeats 1000000 in
theorem rident_any (w : Nat) (W : World) (hw : w ≤ 256) : Calls Tryz.prog 56 #[.int .i64 (w : Int)] W (fun e w' => ∃ g1 g2, e = .returned (.agg #[.int .i64 (w : Int), .slice (some ⟨g1, 0, none⟩) (nw w) (nw w), .int .i64 (w : Int), .slice (some ⟨g2, 0, none⟩) (nw w) (nw w), .slice none 0 0]) ∧ Hid (BlkW w' g1 w 0) ∧ Hid (BlkW w' g2 w 0) ∧ W.heap.size ≤ g1 ∧ W.heap.size ≤ g2 ∧ Ext No W w') := by
 go_enter Tryz.func56, Tryz.ntmps56
 go_wp2_with fail
 have hx0 : Ext No W (W.alloc (.cells #[.int .i64 0, .slice none 0 0, .int .i64 0, .slice none 0 0, .slice none 0 0] 69)) := (Ext.refl _ _).alloc _
 have hC := alloc_top (w := W) (o := .cells #[.int .i64 0, .slice none 0 0, .int .i64 0, .slice none 0 0, .slice none 0 0] 69) rfl
 have hsz : (W.alloc (.cells #[.int .i64 0, .slice none 0 0, .int .i64 0, .slice none 0 0, .slice none 0 0] 69)).heap.size = W.heap.size + 1 := by simp
 have HSZ := Lib.hid hsz
 clear hsz
 refine (rempty_any w _ hw).mono ?_
 rintro e1 w1 ⟨g1, rfl, hb1, hlo1, hx1⟩
 have HX1 := Lib.hid (hx0.transNo hx1)
 have HC := Lib.hid (hx1.blk hC no_no)
 have hl1 : Hid (W.heap.size + 1 ≤ g1) := Lib.hid (by rw [← HSZ.out]; exact hlo1)
 clear hx0 hC hx1 hlo1
 go_wp2_with fail
 refine (rempty_any w _ hw).mono ?_
 rintro e2 w2 ⟨g2, rfl, hb2, hlo2, hx2⟩
 have hl2 : Hid (W.heap.size + 1 ≤ g2) := Lib.hid (by have := lt_of_block HC.out; omega)
 have HX2 := Lib.hid (HX1.out.transNo hx2)
 have HC2 := hx2.blk HC.out no_no
 have hb12 := Lib.hid (hx2.blk (hb1.out : w1.heap[g1]? = _) no_no)
 have cC := cellOf HC2
 have fC := freeOf HC2
 clear hx2 hlo2 HC hb1 HX1
 go_wp2_with fail
 have hfin := BoxR.fin5 ⟨_, rfl, HC2⟩ (.int .i64 (w : Int)) (.slice (some ⟨g1, 0, none⟩) (nw w) (nw w)) (.int .i64 (w : Int)) (.slice (some ⟨g2, 0, none⟩) (nw w) (nw w)) (.slice none 0 0)
 have hE := set5 w2 W.heap.size (.int .i64 (w : Int)) (.slice (some ⟨g1, 0, none⟩) (nw w) (nw w)) (.int .i64 (w : Int)) (.slice (some ⟨g2, 0, none⟩) (nw w) (nw w)) (.slice none 0 0)
 clear cC fC
 generalize (((((w2.setCell ⟨W.heap.size, 0, none⟩ (.int .i64 (w : Int))).setCell ⟨W.heap.size, 1, none⟩ (.slice (some ⟨g1, 0, none⟩) (nw w) (nw w))).setCell ⟨W.heap.size, 2, none⟩ (.int .i64 (w : Int))).setCell ⟨W.heap.size, 3, none⟩ (.slice (some ⟨g2, 0, none⟩) (nw w) (nw w))).setCell ⟨W.heap.size, 4, none⟩ (.slice none 0 0)) = WF at *
 have cF := cellOf hfin
 refine ret_ex rfl ?_
 simp [results, Tryz.results56, go_sem, cF]
 have k1 := hl1.out
 have k2 := hl2.out
 exact ⟨g1, g2, ⟨rfl, rfl⟩, Lib.hid (hE.blk hb12.out (by unfold At; omega)), Lib.hid (hE.blk (hb2.out : w2.heap[g2]? = _) (by unfold At; omega)), by omega, by omega, HX2.out.trans2 hE (fun i hi e => by unfold At at e; omega)⟩
theorem one_list {β : Type} {K : EK β} {W : World} {g : Nat} {cs : Array Value} {T : TypeId} {p : β} (h : W.heap[g]? = some (.cells cs T (0, 0))) (hc : cs.toList = K.cells p) (hs : cs.size = K.s) (hok : K.ok No W p) : LAt K No W (.slice (some ⟨g, 0, none⟩) 1 1) [p] := by
 refine ⟨?_, fun q hq => by rw [List.mem_singleton.1 hq]; exact hok⟩
 have h1 := Row.block (M := No) (n := 1) (s := K.s) h (by rw [Nat.one_mul]; exact hs) no_no (by decide)
 rw [hc] at h1
 simpa using h1
end Go.Proofs.YtjeohlooaiociaaGreatDoor

namespace Go.Proofs.YtjeohlooaiociaaGreatDoor
open Go Go.RowKit
theorem rsame_d2 (w m k : Nat) (u v : Value) (W : World) (hs : SetAt No W u w m) (ht : SetAt No W v w k) : Calls Tryz.prog 60 #[.agg #[.int .i64 (w : Int), u], .agg #[.int .i64 (w : Int), v]] W (BoolPost (decide (m = k)) W) := by
 have h := rsame_any _ _ _ _ W hs.raw ht.raw
 rw [show sameB (setN w m) (setN w k) = decide (m = k) from by
  unfold sameB setN
  rw [decide_eq_decide]
  exact ⟨fun e => wordsN_inj hs.hm ht.hm e.2, fun e => by rw [e]; exact ⟨rfl, rfl⟩⟩] at h
 exact h
theorem rows_eq {us vs : List Nat} (hl : us.length = vs.length) (h : ∀ j, j < us.length → rowD us j = rowD vs j) : us = vs := by
 refine List.ext_getElem hl (fun i h1 h2 => ?_)
 have := h i h1
 rwa [rowD_get h1, rowD_get h2] at this
set_option maxRecDepth 100000 in
set_option maxHeartbeats 4000000 in
theorem rsameSets_any (w : Nat) (us vs : List Nat) (s1 s2 : Value) (W : World) (h1 : SetsV No W s1 w us) (h2 : SetsV No W s2 w vs) (hb : us.length ≤ 1048576) :
  Calls Tryz.prog 20 #[s1, s2] W (BoolPost (decide (us = vs)) W) := by
 have H1 := Lib.hid h1
 have H2 := Lib.hid h2
 obtain ⟨a1, c1, rfl⟩ := h1.slice
 obtain ⟨a2, c2, rfl⟩ := h2.slice
 clear h1 h2
 by_cases hl : us.length = vs.length
 ·have HL := Lib.hid hl
  obtain ⟨n, hn⟩ : ∃ n, n = us.length := ⟨_, rfl⟩
  have HN := Lib.hid hn
  have hvn : vs.length = n := by omega
  rw [hvn]
  rw [show us.length = n from hn.symm] at hb ⊢
  clear hl hn hvn
  go_enter Tryz.func20, Tryz.ntmps20
  go_wp2_with fail
  go_loopw [5] (fun s5 wr => ∃ k : Nat, s5 = .int .i64 k ∧ k ≤ n ∧ Hid (Ext No W wr) ∧ Hid (∀ j, j < k → rowD us j = rowD vs j)) (fun s5 _ => n - (intOf s5).toNat)
  case atStart => exact ⟨0, rfl, Nat.zero_le _, Lib.hid (Ext.refl _ _), Lib.hid (fun j h => absurd h (Nat.not_lt_zero _))⟩
  obtain ⟨k, rfl, hk, hx, hm⟩ := hrel
  rename World => wr
  by_cases hlt : k < n
  ·have hlz : (k : Int) < (n : Int) := by omega
   obtain ⟨o1, o2, o3, o4, o5, hve, hcl1, hq1⟩ := (H1.out.extNo hx.out).cells (i := k) (by rw [← HN.out]; exact hlt)
   rw [← HN.out] at hve
   simp only [Value.slice.injEq] at hve
   obtain ⟨rfl, -, rfl⟩ := hve
   obtain ⟨p1, p2, p3, p4, p5, hve, hcl2, hq2⟩ := (H2.out.extNo hx.out).cells (i := k) (by rw [← HL.out, ← HN.out]; exact hlt)
   rw [← HL.out, ← HN.out] at hve
   simp only [Value.slice.injEq] at hve
   obtain ⟨rfl, -, rfl⟩ := hve
   have HQ1 := Lib.hid hcl1
   have HQ2 := Lib.hid hcl2
   clear hcl1 hcl2
   by_cases he : rowD us k = rowD vs k
   ·have hdec : decide (rowD us k = rowD vs k) = true := decide_eq_true he
    have HE := Lib.hid he
    clear he
    go_upto_region 6 with (fail)
    refine wp_region_held_drew (S := (fun w' => Ext No wr w')) (by kernel_rfl) ?_ (fun hHeld => ?_)
    ·exact (Ext.refl _ _).drew
    refine hHs [0, 1, 2, 3, 4, 5, 6] ?_
    iterate 7
     refine hTn ?_ hHeld (fun w hSw => ?_) ?_
     rotate_left
     ·(have hEs : Ext No wr _ := hSw); (obtain ⟨p0, p1⟩ := HQ1.out); (have q0 := hEs.keep p0); (have q1 := hEs.keep p1); go_simp; (try with_reducible rfl)
     simp only [Act.put, nzA, nzB, nzC]
    refine hHe ?_
    refine hTk 7 ?_ hHeld (fun w hSw => ?_) ?_
    rotate_left
    ·(have hEs : Ext No wr _ := hSw); (obtain ⟨p0, p1⟩ := HQ2.out); (have x0 := hEs.keep p0); (have x1 := hEs.keep p1); go_simp; (try with_reducible rfl)
    simp only [Act.put, nzA, nzB, nzC]
    refine hHc 8 fun K hK => ?_
    ((have hEx : Ext No wr _ := hHeld); go_simp; (go_at_call 60); (refine (rsame_d2 w (rowD us k) (rowD vs k) _ _ _ (hq1.out.extNo hEx) (hq2.out.extNo hEx)).mono ?_); (rintro e9 w9 ⟨rfl, hyA⟩); (rw [hdec]); go_simp)
    refine hK.out _ _ ?_ ?_
    ·exact Ext.transNo (show Ext No wr _ from hHeld) hyA
    clear hK K hHeld
    intro hHeld
    try simp only [Act.put, nzA, nzB, nzC]
    refine hTk 9 ?_ hHeld (fun w hSw => ?_) ?_
    rotate_left
    ·go_simp; (try with_reducible rfl)
    simp only [Act.put, nzA, nzB, nzC]
    refine wpAnyH_done (by kernel_rfl) ?_ _
    have hEx : Ext No wr _ := hHeld
    go_wp2_with fail
    go_roundw
    case rel => exact ⟨k + 1, by go_num, by omega, Lib.hid (hx.out.transNo hEx), Lib.hid (fun j hj => by
     by_cases e : j = k
     ·subst e; exact HE.out
     exact hm.out j (by omega))⟩
    case measure => simp [intOf]; omega
   have hdec : decide (rowD us k = rowD vs k) = false := decide_eq_false he
   have HE := Lib.hid he
   clear he
   go_upto_region 6 with (fail)
   refine wp_region_held_drew (S := (fun w' => Ext No wr w')) (by kernel_rfl) ?_ (fun hHeld => ?_)
   ·exact (Ext.refl _ _).drew
   refine hHs [0, 1, 2, 3, 4, 5, 6] ?_
   iterate 7
    refine hTn ?_ hHeld (fun w hSw => ?_) ?_
    rotate_left
    ·(have hEs : Ext No wr _ := hSw); (obtain ⟨p0, p1⟩ := HQ1.out); (have q0 := hEs.keep p0); (have q1 := hEs.keep p1); go_simp; (try with_reducible rfl)
    simp only [Act.put, nzA, nzB, nzC]
   refine hHe ?_
   refine hTk 7 ?_ hHeld (fun w hSw => ?_) ?_
   rotate_left
   ·(have hEs : Ext No wr _ := hSw); (obtain ⟨p0, p1⟩ := HQ2.out); (have x0 := hEs.keep p0); (have x1 := hEs.keep p1); go_simp; (try with_reducible rfl)
   simp only [Act.put, nzA, nzB, nzC]
   refine hHc 8 fun K hK => ?_
   ((have hEx : Ext No wr _ := hHeld); go_simp; (go_at_call 60); (refine (rsame_d2 w (rowD us k) (rowD vs k) _ _ _ (hq1.out.extNo hEx) (hq2.out.extNo hEx)).mono ?_); (rintro e9 w9 ⟨rfl, hyA⟩); (rw [hdec]); go_simp)
   refine hK.out _ _ ?_ ?_
   ·exact Ext.transNo (show Ext No wr _ from hHeld) hyA
   clear hK K hHeld
   intro hHeld
   try simp only [Act.put, nzA, nzB, nzC]
   refine hTk 9 ?_ hHeld (fun w hSw => ?_) ?_
   rotate_left
   ·go_simp; (try with_reducible rfl)
   simp only [Act.put, nzA, nzB, nzC]
   refine wpAnyH_done (by kernel_rfl) ?_ _
   have hEx : Ext No wr _ := hHeld
   go_wp2_with fail
   go_ret
   exact ⟨by rw [decide_eq_false (fun e => HE.out (by rw [e]))]; rfl, hx.out.transNo hEx⟩
  have hge : ¬ (k : Int) < (n : Int) := by omega
  have hkn : k = n := by omega
  subst hkn
  go_wp2_with fail
  go_ret
  exact ⟨by rw [decide_eq_true (rows_eq HL.out (by rw [← HN.out]; exact hm.out))]; rfl, hx.out⟩
 have hne : ((us.length : Int) != (vs.length : Int)) = true := by simp; omega
 have hne2 : ¬ ((us.length : Int) = (vs.length : Int)) := by omega
 have HL := Lib.hid hl
 clear hl
 go_enter Tryz.func20, Tryz.ntmps20
 go_wp2_with fail
 go_ret
 exact ⟨by rw [decide_eq_false (fun e => HL.out (by rw [e]))]; rfl, Ext.refl _ _⟩

/- fixpoint: rounds and Solve, at valid systems. -/
import Derived.Test.YtjeohlooaiociaaGreatDoorF4
set_option linter.unusedVariables false
set_option linter.unusedSimpArgs false
namespace Go.Proofs.YtjeohlooaiociaaGreatDoor
open Go Go.RowKit
theorem solve1_any (M : Nat → Prop) (S : SysD) (vd vt vb vv : Value) (vs : List Nat) (g : Nat) (W : World) (hM : ∀ b, M b → b < W.heap.size) (hg : W.heap[g]? = some (.cells #[.int .i64 (S.w : Int), vd, vt, vb] 27 (0, 0))) (h : SysAt No W vd vt vb S) (hv : SetsV No W vv S.w vs) (hl : vs.length = S.deps.length) :
  Calls Tryz.prog 59 #[vv, .pointer (some ⟨g, 0, none⟩)] W (SetsPost M S.w (nextD S vs) W) := by
 have H := Lib.hid h
 have HV := Lib.hid hv
 have HM := Lib.hid hM
 have HL := Lib.hid hl
 obtain ⟨ad, cd, at1, ct, ab, cb, rfl, rfl, rfl⟩ := h.slices
 have cG := cellOf hg
 clear h hv hM hl hg
 go_enter Tryz.func59, Tryz.ntmps59
 go_wp2_with fail
 refine (sysNext_any M S _ _ _ _ vs _ HM.out H.out HV.out HL.out).mono ?_
 rintro e1 w1 ⟨a1, c1, rfl, hs1, hx1⟩
 clear cG
 go_wp2_with fail
 go_ret
 exact ⟨a1, c1, rfl, hs1, hx1⟩
def RoundsPost (M : Nat → Prop) (S : SysD) (W : World) (e : Ending) (w' : World) : Prop :=
 ∃ (R : Nat) (a : Option Addr) (c : Nat), FixAt S R ∧ e = .returned (.tuple #[.slice a S.deps.length c, .int .i64 (R : Int)]) ∧ Hid (SetsV M w' (.slice a S.deps.length c) S.w (iterD S R)) ∧ Ext No W w'
set_option maxRecDepth 100000 in
set_option maxHeartbeats 2000000 in
theorem rounds1_any (M : Nat → Prop) (S : SysD) (vd vt vb : Value) (g : Nat) (W : World) (hM : ∀ b, M b → b < W.heap.size) (hg : W.heap[g]? = some (.cells #[.int .i64 (S.w : Int), vd, vt, vb] 27 (0, 0))) (h : SysAt No W vd vt vb S) :
  Calls Tryz.prog 58 #[.int .i64 (S.w : Int), .int .i64 (S.deps.length : Int), .func (.func 59) #[] #[.pointer (some ⟨g, 0, none⟩)]] W (RoundsPost M S W) := by
 have H := Lib.hid h
 have HM := Lib.hid hM
 have HG := Lib.hid hg
 have hok := h.ok
 have hw := hok.w
 have hn := hok.n2
 have HOK := Lib.hid hok
 obtain ⟨R, hR, hRle⟩ := fix_ex hok
 have HR := Lib.hid hR
 have hRb : R ≤ 65536 := Nat.le_trans hRle (Nat.le_trans (Nat.mul_le_mul hn hw) (by decide))
 clear h hM hg hok hR hRle
 go_enter Tryz.func58, Tryz.ntmps58
 go_wp2_with fail
 refine (emptyV_any M S.w S.deps.length _ HM.out hw hn).mono ?_
 rintro e1 w1 ⟨a1, c1, rfl, hs1, hx1⟩
 rw [List.length_replicate] at hs1 ⊢
 have HX1 := Lib.hid hx1
 have HS1 := Lib.hid (show SetsV M w1 _ S.w (iterD S 0) from hs1.out)
 clear hs1 hx1
 go_wp2_with fail
 go_at_call 59
 refine (solve1_any M S _ _ _ _ (iterD S 0) g _ (fun b hb => Nat.lt_of_lt_of_le (HM.out b hb) HX1.out.size) (HX1.out.blk HG.out no_no) (H.out.extNo HX1.out) HS1.out.no (good_iter HOK.out 0).len).mono ?_
 rintro e2 w2 ⟨a2, c2, rfl, hs2, hx2⟩
 rw [show (nextD S (iterD S 0)).length = S.deps.length from nextTo_len _ _ _] at hs2 ⊢
 have HX2 := Lib.hid (HX1.out.transNo hx2)
 have HS2 := Lib.hid (show SetsV M w2 _ S.w (iterD S 1) from hs2.out)
 have HS12 := Lib.hid (HS1.out.extNo hx2)
 clear hs2 hx2 HS1 HX1
 go_wp2_with fail
 go_loopw [8, 9, 10] (fun s8 s9 s10 wr => ∃ (k : Nat) (a : Option Addr) (c : Nat) (a' : Option Addr) (c' : Nat), s8 = .slice a S.deps.length c ∧ s9 = .slice a' S.deps.length c' ∧ s10 = .int .i64 k ∧ k ≤ R ∧ Hid (SetsV M wr (.slice a S.deps.length c) S.w (iterD S k)) ∧ Hid (SetsV M wr (.slice a' S.deps.length c') S.w (iterD S (k + 1))) ∧ Hid (∀ j, j < k → iterD S (j + 1) ≠ iterD S j) ∧ Hid (Ext No W wr)) (fun _ _ s10 _ => R - (intOf s10).toNat)
 case atStart => exact ⟨0, a1, c1, a2, c2, rfl, rfl, rfl, Nat.zero_le _, HS12, HS2, Lib.hid (fun j hj => absurd hj (Nat.not_lt_zero _)), HX2⟩
 case round =>
  clear HS12 HS2 HX2
  obtain ⟨k, a3, c3, a4, c4, rfl, rfl, rfl, hk, hs3, hs4, hne, hx⟩ := hrel
  rename World => wr
  have hl1 : Hid ((iterD S k).length = (iterD S (k + 1)).length) := Lib.hid (by rw [(good_iter HOK.out k).len, (good_iter HOK.out (k + 1)).len])
  go_wp2_with fail
  refine (fequal_any S.w (iterD S k) (iterD S (k + 1)) _ _ _ hs3.out.no hs4.out.no hl1.out).mono ?_
  rintro e5 w5 ⟨rfl, hx5⟩
  by_cases he : iterD S k = iterD S (k + 1)
  ·rw [decide_eq_true he]
   have HE := Lib.hid he
   clear he
   go_wp2_with fail
   refine ret_ex rfl ?_
   simp [results, Tryz.results58, go_sem]
   refine ⟨k, a3, c3, ⟨HE.out.symm, hne.out⟩, rfl, Lib.hid (hs3.out.extNo hx5), hx.out.transNo hx5⟩
  ·rw [decide_eq_false he]
   have HE := Lib.hid he
   have hkR : k < R := by
    rcases Nat.lt_or_ge k R with h | h
    ·exact h
    ·exfalso
     have : k = R := by omega
     subst this
     exact he HR.out.fix.symm
   clear he
   have hadd : IntKind.i64.wrap ((k : Int) + 1) = ((k + 1 : Nat) : Int) := by rw [IntWalk.i64_in _ (by omega)]; omega
   go_wp2_with fail
   go_at_call 59
   refine (solve1_any M S _ _ _ _ (iterD S (k + 1)) g _ (fun b hb => Nat.lt_of_lt_of_le (HM.out b hb) (hx.out.transNo hx5).size) ((hx.out.transNo hx5).blk HG.out no_no) (H.out.extNo (hx.out.transNo hx5)) (hs4.out.no.extNo hx5) (good_iter HOK.out (k + 1)).len).mono ?_
   rintro e6 w6 ⟨a6, c6, rfl, hs6, hx6⟩
   rw [show (nextD S (iterD S (k + 1))).length = S.deps.length from nextTo_len _ _ _] at hs6 ⊢
   have HS6 := Lib.hid (show SetsV M w6 _ S.w (iterD S (k + 1 + 1)) from hs6.out)
   clear hs6
   go_wp2_with fail
   go_roundw
   case rel => exact ⟨k + 1, a4, c4, a6, c6, rfl, rfl, by go_num, by omega, Lib.hid ((hs4.out.extNo hx5).extNo hx6), HS6, Lib.hid (fun j hj => by
    by_cases e : j = k
    ·subst e; exact fun e2 => HE.out e2.symm
    ·exact hne.out j (by omega)), Lib.hid ((hx.out.transNo hx5).transNo hx6)⟩
   case measure => simp [intOf]; omega
def SolvePost (M : Nat → Prop) (S : SysD) (W : World) (e : Ending) (w' : World) : Prop :=
 ∃ (R : Nat) (a : Option Addr) (c : Nat), FixAt S R ∧ e = .returned (.tuple #[.slice a S.deps.length c, .int .i64 (R : Int), .int .i64 0]) ∧ Hid (SetsV M w' (.slice a S.deps.length c) S.w (iterD S R)) ∧ Ext No W w'
set_option maxHeartbeats 1000000 in
theorem sysSolve_any (M : Nat → Prop) (S : SysD) (vd vt vb : Value) (W : World) (hM : ∀ b, M b → b < W.heap.size) (h : SysAt No W vd vt vb S) :
  Calls Tryz.prog 19 #[.agg #[.int .i64 (S.w : Int), vd, vt, vb]] W (SolvePost M S W) := by
 have H := Lib.hid h
 have HM := Lib.hid hM
 obtain ⟨ad, cd, at1, ct, ab, cb, rfl, rfl, rfl⟩ := h.slices
 clear h hM
 go_enter Tryz.func19, Tryz.ntmps19
 go_wp2_with fail
 have hx0 : Ext No W (W.alloc (.cells #[.int .i64 (S.w : Int), .slice ad S.deps.length cd, .slice at1 S.deps.length ct, .slice ab S.deps.length cb] 27)) := (Ext.refl _ _).alloc _
 refine (sysValid_yes S _ _ _ _ (H.out.extNo hx0)).mono ?_
 rintro e1 w1 ⟨rfl, hx1⟩
 have HA := Lib.hid (hx1.blk (alloc_top (w := W) (o := (.cells #[.int .i64 (S.w : Int), .slice ad S.deps.length cd, .slice at1 S.deps.length ct, .slice ab S.deps.length cb] 27)) rfl) no_no)
 have HX := Lib.hid (hx0.transNo hx1)
 clear hx0 hx1
 have cA := cellOf HA.out
 go_wp2_with fail
 clear cA
 refine (rounds1_any M S _ _ _ W.heap.size _ (fun b hb => Nat.lt_of_lt_of_le (HM.out b hb) HX.out.size) HA.out (H.out.extNo HX.out)).mono ?_
 rintro e2 w2 ⟨R, a2, c2, hR, rfl, hs2, hx2⟩
 have HR := Lib.hid hR
 clear hR
 go_wp2_with fail
 refine ret_ex rfl ?_
 simp [results, Tryz.results19, go_sem]
 exact ⟨R, a2, c2, HR.out, rfl, hs2, HX.out.transNo hx2⟩
end Go.Proofs.YtjeohlooaiociaaGreatDoor

/- Merged: I8 I7 -/
import Derived.Test.YtkdjdhflhlbelaaF9
import Derived.Test.YtkdjdhflhlbelaaFS
import Derived.Test.YtkdjdhflhlbelaaI2
import Derived.Test.YtkdjdhflhlbelaaI5
import Derived.Test.YtkdjdhflhlbelaaF4
import Derived.Test.YtkdjdhflhlbelaaRefE
import Derived.Test.YtkdjdhflhlbelaaTrF
set_option linter.unusedVariables false
set_option linter.unusedSimpArgs false
/- I8 -/
namespace Go.Proofs.Ytkdjdhflhlbelaa
open Go Go.RowKit
set_option maxRecDepth 100000 in
set_option maxHeartbeats 2000000 in
theorem solve_inv (x : Int) (vd vt vb : Value) (Ld : LD) (Lt : LT) (Lb : LS) (W : World) (h : YAt No W vd vt vb Ld Lt Lb) (hn : ¬ VS x Ld Lt Lb) :
  Calls Try.prog 15 #[.agg #[.int .i64 x, vd, vt, vb]] W fun e w' => e = .returned (.tuple #[.slice none 0 0, .int .i64 0, .int .i64 1]) ∧ Ext No W w' := by
 have H := Lib.hid h
 obtain ⟨ad, cd, rfl⟩ := h.d.slice
 obtain ⟨at1, ct, rfl⟩ := h.t.slice
 obtain ⟨ab, cb, rfl⟩ := h.b.slice
 clear h
 go_enter Try.func15, Try.ntmps15
 go_wp2_with fail
 have hx0 : Ext No W (W.alloc (.cells #[.int .i64 x, .slice ad Ld.length cd, .slice at1 Lt.length ct, .slice ab Lb.length cb] 29)) := (Ext.refl _ _).alloc _
 refine (sysValid_any x _ _ _ Ld Lt Lb _ (H.out.extNo hx0)).mono ?_
 rintro e1 w1 ⟨b1, rfl, hb1, hx1⟩
 obtain rfl := tells_f hb1 hn
 have hx := hx0.transNo hx1
 clear hb1 hx0 hx1
 go_wp2_with fail
 refine ret_ex rfl ?_
 simp [results, Try.results15, go_sem]
 exact hx
end Go.Proofs.Ytkdjdhflhlbelaa

/- I7 -/
namespace Go.Proofs.Ytkdjdhflhlbelaa
open Go Go.RowKit
set_option maxRecDepth 100000 in
set_option maxHeartbeats 2000000 in
theorem rSolve_inv (x : Int) (vd vt vb : Value) (Ld : LD) (Lt : LT) (Lb : LS) (W : World) (h : YAt No W vd vt vb Ld Lt Lb) (hn : ¬ VS x Ld Lt Lb) :
  Calls Try.prog 21 #[.agg #[.int .i64 x, vd, vt, vb]] W fun e w' => e = .returned (.tuple #[.slice none 0 0, .int .i64 0, .int .i64 1]) ∧ Ext No W w' := by
 have H := Lib.hid h
 obtain ⟨ad, cd, rfl⟩ := h.d.slice
 obtain ⟨at1, ct, rfl⟩ := h.t.slice
 obtain ⟨ab, cb, rfl⟩ := h.b.slice
 clear h
 go_enter Try.func21, Try.ntmps21
 go_wp2_with fail
 have hx0 : Ext No W (W.alloc (.cells #[.int .i64 x, .slice ad Ld.length cd, .slice at1 Lt.length ct, .slice ab Lb.length cb] 29)) := (Ext.refl _ _).alloc _
 refine (rvalidSys_any x _ _ _ Ld Lt Lb _ (H.out.extNo hx0)).mono ?_
 rintro e1 w1 ⟨b1, rfl, hb1, hx1⟩
 obtain rfl := tells_f hb1 hn
 have hx := hx0.transNo hx1
 clear hb1 hx0 hx1
 go_wp2_with fail
 refine ret_ex rfl ?_
 simp [results, Try.results21, go_sem]
 exact hx
set_option maxRecDepth 100000 in
set_option maxHeartbeats 4000000 in
theorem rSolve_any (M : Nat → Prop) (S : SysD) (vd vt vb : Value) (W : World) (hM : ∀ b, M b → b < W.heap.size) (h : SysAt M W vd vt vb S) :
  Calls Try.prog 21 #[.agg #[.int .i64 (S.w : Int), vd, vt, vb]] W (SolvePost M S W) := by
 have H := Lib.hid h
 have HM := Lib.hid hM
 have hok := h.ok
 have hn := hok.n2
 have HOK := Lib.hid hok
 obtain ⟨R, hR, hRle⟩ := fix_ex hok
 have HR := Lib.hid hR
 have hRb : R ≤ 65536 := Nat.le_trans hRle (Nat.le_trans (Nat.mul_le_mul hn hok.w) (by decide))
 obtain ⟨ad, cd, at1, ct, ab, cb, rfl, rfl, rfl⟩ := h.slices
 clear h hM hok hR hRle
 go_enter Try.func21, Try.ntmps21
 go_wp2_with fail
 have hx0 : Ext No W (W.alloc (.cells #[.int .i64 (S.w : Int), .slice ad S.deps.length cd, .slice at1 S.deps.length ct, .slice ab S.deps.length cb] 29)) := (Ext.refl _ _).alloc _
 refine (rvalidSys_yes S _ _ _ _ (H.out.no.extNo hx0)).mono ?_
 rintro e1 w1 ⟨rfl, hx1⟩
 have HA := Lib.hid (hx1.blk (alloc_top (w := W) (o := (.cells #[.int .i64 (S.w : Int), .slice ad S.deps.length cd, .slice at1 S.deps.length ct, .slice ab S.deps.length cb] 29)) rfl) no_no)
 have HX := Lib.hid (hx0.transNo hx1)
 clear hx0 hx1
 have cA := cellOf HA.out
 go_wp2_with fail
 clear cA
 refine (rEmptyV_any M S _ _ _ _ (fun b hb => Nat.lt_of_lt_of_le (HM.out b hb) HX.out.size) (H.out.no.extNo HX.out)).mono ?_
 rintro e2 w2 ⟨a2, c2, rfl, hs2, hx2⟩
 rw [show (zerosD S).length = S.deps.length from by simp [zerosD]] at hs2 ⊢
 have HS2 := Lib.hid (show SetsV M w2 _ S.w (iterD S 0) from hs2.out)
 have HA2 := Lib.hid (hx2.blk HA.out no_no)
 have HX2 := Lib.hid (HX.out.transNo hx2)
 clear hs2 hx2 HA HX
 go_wp2_with fail
 go_loopw [5, 6, 7, 8] (fun s5 s6 _ _ wr => ∃ (k : Nat) (a : Option Addr) (c : Nat), s5 = .slice a S.deps.length c ∧ s6 = .int .i64 k ∧ k ≤ R ∧ Hid (SetsV M wr (.slice a S.deps.length c) S.w (iterD S k)) ∧ Hid (∀ j, j < k → iterD S (j + 1) ≠ iterD S j) ∧ Hid (Ext No W wr) ∧ Hid (wr.heap[W.heap.size]? = some (.cells #[.int .i64 (S.w : Int), .slice ad S.deps.length cd, .slice at1 S.deps.length ct, .slice ab S.deps.length cb] 29 (0, 0)))) (fun _ s6 _ _ _ => R - (intOf s6).toNat)
 case atStart => exact ⟨0, a2, c2, rfl, rfl, Nat.zero_le _, HS2, Lib.hid (fun j hj => absurd hj (Nat.not_lt_zero _)), HX2, HA2⟩
 case round =>
  clear HS2 HX2 HA2
  obtain ⟨k, a3, c3, rfl, rfl, hk, hs3, hne, hx, hA⟩ := hrel
  rename World => wr
  have cA := cellOf hA.out
  go_wp2_with fail
  clear cA
  refine (rNext_any M S _ _ _ _ (iterD S k) _ (fun b hb => Nat.lt_of_lt_of_le (HM.out b hb) hx.out.size) (H.out.extNo hx.out) hs3.out.no (good_iter HOK.out k).len).mono ?_
  rintro e4 w4 ⟨a4, c4, rfl, hs4, hx4⟩
  rw [show (nextD S (iterD S k)).length = S.deps.length from nextTo_len _ _ _] at hs4 ⊢
  have HS4 := Lib.hid (show SetsV M w4 _ S.w (iterD S (k + 1)) from hs4.out)
  have HS3 := Lib.hid (hs3.out.extNo hx4)
  have HX4 := Lib.hid (hx.out.transNo hx4)
  have HA4 := Lib.hid (hx4.blk hA.out no_no)
  have hl1 := (good_iter HOK.out (k + 1)).len
  have HL1 := Lib.hid hl1
  clear hs4 hs3 hx hx4 hA hl1
  go_wp2_with fail
  refine (rsameSets_any S.w (iterD S (k + 1)) (iterD S k) _ _ _ HS4.out.no HS3.out.no (by rw [HL1.out]; omega)).mono ?_
  rintro e5 w5 ⟨rfl, hx5⟩
  by_cases he : iterD S (k + 1) = iterD S k
  ·rw [decide_eq_true he]
   have HE := Lib.hid he
   clear he
   go_wp2_with fail
   have hRk : k = R := HR.out.eq hne.out HE.out
   subst hRk
   refine ret_ex rfl ?_
   simp [results, Try.results21, go_sem]
   exact ⟨k, a3, c3, HR.out, rfl, Lib.hid (HS3.out.extNo hx5), HX4.out.transNo hx5⟩
  ·rw [decide_eq_false he]
   have HE := Lib.hid he
   have hkR : k < R := by
    rcases Nat.lt_or_ge k R with h | h
    ·exact h
    ·exfalso
     have : k = R := by omega
     subst this
     exact he HR.out.fix
   clear he
   have hadd : IntKind.i64.wrap ((k : Int) + 1) = ((k + 1 : Nat) : Int) := by rw [IntWalk.i64_in _ (by omega)]; omega
   go_wp2_with fail
   go_roundw
   case rel => exact ⟨k + 1, a4, c4, rfl, by go_num, by omega, Lib.hid (HS4.out.extNo hx5), Lib.hid (fun j hj => by
    by_cases e : j = k
    ·subst e; exact HE.out
    ·exact hne.out j (by omega)), Lib.hid (HX4.out.transNo hx5), Lib.hid (hx5.blk HA4.out no_no)⟩
   case measure => simp [intOf]; omega
end Go.Proofs.Ytkdjdhflhlbelaa

/- SameProof of the reference, and what the sanity check of flqlaw17 computes. -/
import Derived.Test.YtjeohlooaiociaaGreatDoorP14
import Derived.Test.YtjeohlooaiociaaGreatDoorK11
set_option linter.unusedVariables false
set_option linter.unusedSimpArgs false
namespace Go.Proofs.YtjeohlooaiociaaGreatDoor
open Go Go.RowKit Tj
set_option maxRecDepth 100000 in
set_option maxHeartbeats 2000000 in
theorem sameProof_any (w : Nat) (us vs : List Nat) (L1 L2 : List (List Nat)) (D1 D2 : LD) (s1 s2 r1 r2 : Value) (W : World) (h1 : SetsV No W s1 w us) (h2 : SetsV No W s2 w vs) (hb : us.length ≤ 1048576)
  (k1 : LAt kD No W r1 D1) (e1 : D1.map Prod.fst = L1.map natsZ) (k2 : LAt kD No W r2 D2) (e2 : D2.map Prod.fst = L2.map natsZ) :
  Calls Tryz.prog 14 #[.agg #[s1, r1], .agg #[s2, r2]] W (BoolPost (decide (us = vs ∧ L1 = L2)) W) := by
 have H1 := Lib.hid h1
 have H2 := Lib.hid h2
 have K1 := Lib.hid k1
 have K2 := Lib.hid k2
 have E1 := Lib.hid e1
 have E2 := Lib.hid e2
 have HB := Lib.hid hb
 obtain ⟨a1, c1, rfl⟩ := h1.slice
 obtain ⟨a2, c2, rfl⟩ := h2.slice
 obtain ⟨b1, d1, rfl⟩ := k1.slice
 obtain ⟨b2, d2, rfl⟩ := k2.slice
 clear h1 h2 k1 k2 e1 e2 hb
 go_enter Tryz.func14, Tryz.ntmps14
 go_wp2_with fail
 have hx0 : Ext No W ((W.alloc (.cells #[.slice a1 us.length c1, .slice b1 D1.length d1] 29)).alloc (.cells #[.slice a2 vs.length c2, .slice b2 D2.length d2] 29)) := ((Ext.refl _ _).alloc _).alloc _
 have HA := Lib.hid (show ((W.alloc (.cells #[.slice a1 us.length c1, .slice b1 D1.length d1] 29)).alloc (.cells #[.slice a2 vs.length c2, .slice b2 D2.length d2] 29)).heap[W.heap.size]? = some (.cells #[.slice a1 us.length c1, .slice b1 D1.length d1] 29 (0, 0)) from alloc_under (alloc_top rfl))
 have HC := Lib.hid (show ((W.alloc (.cells #[.slice a1 us.length c1, .slice b1 D1.length d1] 29)).alloc (.cells #[.slice a2 vs.length c2, .slice b2 D2.length d2] 29)).heap[W.heap.size + 1]? = some (.cells #[.slice a2 vs.length c2, .slice b2 D2.length d2] 29 (0, 0)) from alloc_top (by simp <;> omega))
 generalize ((W.alloc (.cells #[.slice a1 us.length c1, .slice b1 D1.length d1] 29)).alloc (.cells #[.slice a2 vs.length c2, .slice b2 D2.length d2] 29)) = V at *
 generalize W.heap.size = A at *
 have cA := cellOf HA.out
 have cC := cellOf HC.out
 go_wp2_with fail
 clear cA cC
 refine (rsameSets_any w us vs _ _ _ (H1.out.extNo hx0) (H2.out.extNo hx0) HB.out).mono ?_
 rintro e5 w5 ⟨rfl, hx5⟩
 have HX := Lib.hid (hx0.transNo hx5)
 replace HA := Lib.hid (hx5.blk HA.out no_no)
 replace HC := Lib.hid (hx5.blk HC.out no_no)
 clear hx5 hx0
 by_cases he : us = vs
 ·rw [decide_eq_true he]
  have HE := Lib.hid he
  clear he
  have cA := cellOf HA.out
  have cC := cellOf HC.out
  go_wp2_with fail
  clear cA cC
  refine (rsameLists_any _ _ L1 L2 D1 D2 _ (K1.out.extNo HX.out) E1.out (K2.out.extNo HX.out) E2.out).mono ?_
  rintro e6 w6 ⟨rfl, hx6⟩
  go_wp2_with fail
  go_ret
  have hd : decide (us = vs ∧ L1 = L2) = decide (L1 = L2) := by simp [HE.out]
  exact ⟨by rw [hd]; rfl, HX.out.transNo hx6⟩
 ·rw [decide_eq_false he]
  have HE := Lib.hid he
  clear he
  go_wp2_with fail
  go_ret
  have hd : decide (us = vs ∧ L1 = L2) = false := by simp [HE.out]
  exact ⟨by rw [hd]; rfl, HX.out⟩
def oneP : SysD := ⟨2, [[]], [⟨2, 0, 0, []⟩], [2]⟩
def loopP : SysD := ⟨2, [[0]], [⟨2, 0, 0, []⟩], [0]⟩
theorem idOkP : TrOk ⟨2, 0, 0, []⟩ := ⟨by decide, by decide, by decide, by decide, fun i h => by simp at h, fun i h => by simp at h⟩
theorem oneP_ok : SysOk oneP := ⟨by decide, by decide, by decide, by decide, by decide, fun l hl => by
 simp only [oneP, List.mem_singleton] at hl
 subst hl
 intro i hi
 simp [natsZ] at hi, by decide, fun t ht => by
 simp only [oneP, List.mem_singleton] at ht
 subst ht
 exact ⟨idOkP, rfl⟩, fun m hm => by
 simp only [oneP, List.mem_singleton] at hm
 subst hm
 decide⟩
theorem loopP_ok : SysOk loopP := ⟨by decide, by decide, by decide, by decide, by decide, fun l hl => by
 simp only [loopP, List.mem_singleton] at hl
 subst hl
 intro i hi
 obtain rfl : i = 0 := by simp [natsZ] at hi; omega
 exact ⟨by simp [natsZ], by simp [natsZ, loopP], fun h => absurd h (Nat.lt_irrefl _)⟩, by decide, fun t ht => by
 simp only [loopP, List.mem_singleton] at ht
 subst ht
 exact ⟨idOkP, rfl⟩, fun m hm => by
 simp only [loopP, List.mem_singleton] at hm
 subst hm
 decide⟩
theorem oneP_iter {R : Nat} (hF : FixAt oneP R) : iterD oneP R = [2] := by
 rw [← hF.fix]; rfl
theorem loopP_iter : ∀ R, iterD loopP R = [0]
 | 0 => rfl
 | R + 1 => by
  show nextD loopP (iterD loopP R) = [0]
  rw [loopP_iter R]
  decide
theorem oneP_rank {R : Nat} (hF : FixAt oneP R) {Rk : LD} (hl : Rk.length = 1) (hk : ∀ n, n < oneP.deps.length → rkD Rk n = natsZ ((List.range (memD oneP (iterD oneP R) n).length).map fun i => rkI oneP (iterD oneP R) n i R)) : Rk.map Prod.fst = [[0]].map natsZ := by
 have h0 := hk 0 (by decide)
 rw [oneP_iter hF] at h0
 have h1 : rkI oneP [2] 0 0 R = 0 := by
  have h2 : inI oneP 0 1 R = true := by unfold inI; rw [oneP_iter hF]; decide
  exact rk_uniq (inI_zero _ _ _) (inI_up oneP_ok) h2 (by decide) (by decide)
 have h3 : (memD oneP [2] 0).length = 1 := by decide
 rw [h3, show List.range 1 = [0] from rfl] at h0
 simp only [List.map_cons, List.map_nil, h1] at h0
 match Rk, hl with
 | [p], _ =>
  have : rkD [p] 0 = p.1 := rfl
  rw [this] at h0
  simp [h0]
theorem loopP_no (Lv : LS) (Rk : LD) (hv : Lv.map Prod.fst = [1].map (setN 2)) : ¬ AccP loopP Lv Rk := fun ⟨hr, vs, ha, hd⟩ => by
 obtain ⟨R, hF, -⟩ := fix_ex loopP_ok
 have h := acc_least loopP_ok hF ha hr hd
 rw [loopP_iter] at h
 subst h
 have := map_setN_inj (w := 2) (us := [1]) (vs := [0]) (by decide) (by decide) (hv.symm.trans ha.1)
 cases this
theorem crc_check : crcF [49, 50, 51, 52, 53, 54, 55, 56, 57] = 3421780262 := by kernel_rfl
end Go.Proofs.YtjeohlooaiociaaGreatDoor

/- The sanity check of chapter 19. -/
import Derived.Test.YtfejidihocoboaaN23
set_option linter.unusedVariables false
set_option linter.unusedSimpArgs false
namespace Go.Proofs.Ytfejidihocoboaa
open Go Go.RowKit
open Go.Maps (Keyed)
def sS (i : Nat) : RawSet := setN 4 (2 ^ (i % 4))
def sE (k : Nat) : List Ent := (List.range k).map (fun i : Nat => ⟨(0, 1, (i : Int)), sS i, (i : Int) + 1⟩)
theorem sput0 : putM 2 0 (sE 0) (0, 1, 0) (sS 0) = ⟨0, 1, sE 1⟩ := by kernel_rfl
theorem sput1 : putM 2 1 (sE 1) (0, 1, 1) (sS 1) = ⟨0, 2, sE 2⟩ := by kernel_rfl
def sT : List Ent := [⟨(0, 1, 0), sS 0, 3⟩, ⟨(0, 1, 1), sS 1, 2⟩]
def sF : List Ent := [⟨(0, 1, 0), sS 0, 3⟩, ⟨(0, 1, 2), sS 2, 4⟩]
theorem stouch : touchE (0, 1, 0) 2 (sE 2) = sT ∧ touchC (0, 1, 0) 2 (sE 2) = 3 ∧ decide ((0, 1, 0) ∈ keysE (sE 2)) = true := ⟨by kernel_rfl, by kernel_rfl, by kernel_rfl⟩
theorem sput2 : putM 2 3 sT (0, 1, 2) (sS 2) = ⟨0, 4, sF⟩ := by kernel_rfl
theorem pairD {K : List Key3} (h : decide (K.Pairwise ltK) = true) : K.Pairwise ltK := of_decide_eq_true h
theorem sputs {k : Nat} (h : k < 2) : putM 2 k (sE k) (0, 1, k) (sS k) = ⟨0, (k : Int) + 1, sE (k + 1)⟩ := by
  rcases (by omega : k = 0 ∨ k = 1) with rfl | rfl
  · exact sput0
  · exact sput1
theorem sE_sorted {k : Nat} (h : k ≤ 2) : (keysE (sE k)).Pairwise ltK := by
  rcases (by omega : k = 0 ∨ k = 1 ∨ k = 2) with rfl | rfl | rfl
  · exact pairD (by kernel_rfl)
  · exact pairD (by kernel_rfl)
  · exact pairD (by kernel_rfl)
theorem sE_len (k : Nat) : (sE k).length = k := by simp [sE]
theorem sE_valid (es : List Ent) (h : ∀ e ∈ es, ∃ i, e.s = sS i) : ∀ e ∈ es, validB e.s = true := fun e he => by
  obtain ⟨i, hi⟩ := h e he
  rw [hi]
  exact validB_set (by omega) (Nat.pow_lt_pow_right (by decide) (Nat.mod_lt _ (by decide)))
theorem sF_s : ∀ e ∈ sF, ∃ i, e.s = sS i := fun e he => by
  unfold sF at he
  rcases List.mem_cons.1 he with rfl | he
  · exact ⟨0, rfl⟩
  · rw [List.mem_singleton.1 he]; exact ⟨2, rfl⟩
theorem setW {M : Nat → Prop} {w : World} {g i : Nat} (h : BlkW w g 4 (2 ^ (i % 4))) (hM : ¬ M g) : WordsAt M w (.slice (some ⟨g, 0, none⟩) (nw 4) (nw 4)) (sS i).words :=
  (BlkW.set h (by omega) (Nat.pow_lt_pow_right (by decide) (Nat.mod_lt _ (by decide))) hM).words
theorem keyS {x : Key3} (h : 0 ≤ x.1 ∧ x.1 ≤ 1000 ∧ 0 ≤ x.2.1 ∧ x.2.1 ≤ 1000 ∧ 0 ≤ x.2.2 ∧ x.2.2 ≤ 1000) : KeyOk x := by unfold KeyOk; omega
theorem pts_keys {es : List Ent} {L : List PE} (h : L.map Prod.fst = es) (hs : (keysE es).Pairwise ltK) : (keysOf L).Pairwise ltK := by rw [← keysOf_fst, h]; exact hs
theorem pts_len {es : List Ent} {L : List PE} (h : L.map Prod.fst = es) : L.length = es.length := by rw [← h, List.length_map]
set_option maxRecDepth 100000 in
set_option maxHeartbeats 4000000 in
theorem sane19_any (W : World) : Calls Try.prog 15 #[] W (BoolPost true W) := by
  go_enter Try.func15, Try.ntmps15
  go_wp2_with fail
  refine (mnew_any 2 W).mono ?_
  rintro e1 w1 ⟨-, hn, hx1⟩
  obtain ⟨T, bm, rfl, hP⟩ := hn (by omega)
  have HX1 := Lib.hid hx1
  clear hn hx1
  unfold ptrV
  go_wp2_with fail
  go_loopw [3] (fun s3 wr => ∃ (k bm : Nat) (vk : Value) (L : List PE), s3 = .int .i64 k ∧ k ≤ 2 ∧ Hid (PTab (Lo W.heap.size) wr T 2 k bm vk L) ∧ Hid (L.map Prod.fst = sE k) ∧ Hid (Ext No W wr) ∧ Hid (∀ b, POwn T bm vk L b → W.heap.size ≤ b)) (fun s3 _ => 2 - (intOf s3).toNat)
  case atStart => exact ⟨0, bm, _, [], rfl, by omega, hP, Lib.hid rfl, HX1, Lib.hid (fun b hb => Nat.not_lt.1 (hP.out.t.out b hb))⟩
  case round =>
    clear hP
    obtain ⟨k, bm, vk, L, rfl, hk, hP, hL, hX, hO⟩ := hrel
    rename World => wr
    by_cases hlt : k < 2
    · have hlz : (k : Int) < 2 := by omega
      have HKK : Hid (Value.int .i64 ((k : Int) + 1) = .int .i64 ((k + 1 : Nat) : Int)) := Lib.hid (by rw [show ((k + 1 : Nat) : Int) = (k : Int) + 1 from by omega])
      go_wp2_with fail
      refine (lset_any k (by omega) wr).mono ?_
      rintro e2 w2 ⟨g, rfl, hb, hg, hx2⟩
      have hlen := (pts_len hL.out).trans (sE_len k)
      have hput := mput_any (0, 1, (k : Int)) (sS k) (keyS (by simp only; omega)) (setW hb.out (fun e => by have := hP.out.ownLt e; omega)) (fun b hb => by have := hX.out.size; have := hx2.size; unfold Lo at hb; omega) (hP.out.stepNo hx2) (pts_keys hL.out (sE_sorted hk)) (by omega)
      rw [hL.out, sputs hlt] at hput
      have HPUT := Lib.hid hput
      have HX2 := Lib.hid (hX.out.transNo hx2)
      clear hput hb hlen hx2
      go_wp2_with fail
      refine HPUT.out.mono ?_
      rintro e3 w3 ⟨bm3, vk3, L3, rfl, hP3, hL3, hX3, hO3⟩
      go_wp2_with fail
      go_roundw
      case rel => exact ⟨k + 1, bm3, vk3, L3, HKK.out, by omega, Lib.hid (by have h9 := hP3.out; rw [show (k : Int) + 1 = ((k + 1 : Nat) : Int) from by omega] at h9; exact h9), hL3, Lib.hid (HX2.out.trans2 hX3 (fun i hi e => by have := hO.out i e; omega)), Lib.hid (fun b hb => (hO3.out b hb).elim (hO.out b) (fun h => Nat.le_trans HX2.out.size h))⟩
      case measure => simp [intOf]; omega
    · obtain rfl : k = 2 := by omega
      have htch := mtouch_any (0, 1, 0) (keyS (by simp)) hP.out
      obtain ⟨t1, t2, t3⟩ := stouch
      rw [hL.out, show ((2 : Nat) : Int) = 2 from rfl, t1, t2, t3] at htch
      have HTC := Lib.hid htch
      clear htch t1 t2 t3
      unfold ptrV at HTC
      go_wp2_with fail
      refine HTC.out.mono ?_
      rintro e4 w4 ⟨bm4, vk4, L4, rfl, hP4, hL4, hX4, hO4⟩
      have HO4 := Lib.hid (show ∀ b, POwn T bm4 vk4 L4 b → W.heap.size ≤ b from fun b hb => (hO4.out b hb).elim (hO.out b) (fun h => Nat.le_trans hX.out.size h))
      have HX4 := Lib.hid (show Ext No W w4 from hX.out.trans2 hX4 (fun i hi e => by have := hO.out i e; omega))
      clear hP hL hX hO hX4 hO4 HTC
      go_wp2_with fail
      refine (lset_any 2 (by omega) w4).mono ?_
      rintro e5 w5 ⟨g, rfl, hb, hg, hx5⟩
      have hlen : L4.length = 2 := (pts_len hL4.out).trans rfl
      have hput := mput_any (0, 1, 2) (sS 2) (keyS (by simp)) (setW (i := 2) hb.out (fun e => by have := hP4.out.ownLt e; omega)) (fun b hb => by have := HX4.out.size; have := hx5.size; unfold Lo at hb; omega) (hP4.out.stepNo hx5) (pts_keys hL4.out (pairD (by kernel_rfl))) (by omega)
      rw [hL4.out, sput2] at hput
      have HPUT := Lib.hid hput
      have HX5 := Lib.hid (HX4.out.transNo hx5)
      clear hput hb hlen hx5 hP4 hL4
      unfold ptrV at HPUT
      go_wp2_with fail
      refine HPUT.out.mono ?_
      rintro e6 w6 ⟨bm6, vk6, L6, rfl, hP6, hL6, hX6, hO6⟩
      have HX6 := Lib.hid (show Ext No W w6 from HX5.out.trans2 hX6 (fun i hi e => by have := HO4.out i e; omega))
      clear hX6 hO6 HPUT HO4
      go_wp2_with fail
      refine (mentries_any hP6.out (by rw [pts_len hL6.out]; decide) (fun e he => sE_valid sF sF_s e.1 (by rw [← hL6.out]; exact List.mem_map_of_mem he))).mono ?_
      rintro e7 w7 ⟨v7, LL, rfl, hO7, hLL, hX7⟩
      rw [hL6.out] at hLL
      obtain ⟨p1, p2, hpp⟩ : ∃ p1 p2, LL = [p1, p2] := by
        have h1 := congrArg List.length hLL.out
        simp only [List.length_map] at h1
        match LL, h1 with
        | [p1, p2], _ => exact ⟨p1, p2, rfl⟩
      subst hpp
      obtain ⟨g7, c7, rfl, -, -⟩ := hO7.out.shape (by simp)
      have h1 : p1.1 = ⟨(0, 1, 0), sS 0, 3⟩ := by
        have h9 := hLL.out
        simp only [List.map_cons, List.map_nil, sF, List.cons.injEq, and_true] at h9
        exact h9.1
      have h2 : p2.1 = ⟨(0, 1, 2), sS 2, 4⟩ := by
        have h9 := hLL.out
        simp only [List.map_cons, List.map_nil, sF, List.cons.injEq, and_true] at h9
        exact h9.2
      have q0 : w7.cell? ⟨g7, 2, none⟩ = some (.int .i64 0) := hO7.out.cellAt (i := 0) (j := 2) (by simp) (by decide) (show (kE.cells p1)[2]? = _ from by simp [kE, h1])
      have q1 : w7.cell? ⟨g7, 8, none⟩ = some (.int .i64 2) := hO7.out.cellAt (i := 1) (j := 2) (by simp) (by decide) (show (kE.cells p2)[2]? = _ from by simp [kE, h2])
      have q2 : w7.cell? ⟨g7, 5, none⟩ = some (.int .i64 3) := hO7.out.cellAt (i := 0) (j := 5) (by simp) (by decide) (show (kE.cells p1)[5]? = _ from by simp [kE, h1])
      have HX7 := Lib.hid (HX6.out.transNo hX7)
      have HP7 := Lib.hid (hP6.out.stepNo hX7)
      clear hO7 hLL h1 h2 hP6 hX7
      go_wp2_with fail
      refine (mclock_any HP7.out).mono ?_
      rintro e8 w8 ⟨rfl, hw8⟩
      go_wp2_with fail
      go_ret

      exact ⟨rfl, HX7.out⟩
end Go.Proofs.Ytfejidihocoboaa

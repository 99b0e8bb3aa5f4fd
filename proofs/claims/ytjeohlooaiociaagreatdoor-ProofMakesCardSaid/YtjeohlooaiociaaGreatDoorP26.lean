
import Derived.Test.YtjeohlooaiociaaGreatDoorP25
set_option linter.unusedVariables false
set_option linter.unusedSimpArgs false
namespace Go.Proofs.YtjeohlooaiociaaGreatDoor
open Go Go.RowKit
set_option maxRecDepth 100000 in
set_option maxHeartbeats 2000000 in
theorem rFollowsP_any (t : TrD) (sg sk sc : Value) (a b : Int) (W : World) (h : TrAt No W sg sk sc t) : Calls Tryz.prog 100 #[.agg #[.int .i64 (t.w : Int), sg, .int .i64 (t.w : Int), sk, sc], .int .i64 a, .int .i64 b] W (BoolPost (followsX t a b) W) := by
 have H := Lib.hid h
 obtain ⟨ag, ng, cg, rfl⟩ := h.gen.shaped
 obtain ⟨ak, nk, ck, rfl⟩ := h.kill.shaped
 obtain ⟨ac, nc, cc, rfl⟩ := h.copies.shaped
 clear h
 by_cases h1 : 0 ≤ a
 ·by_cases h2 : a < (t.w : Int)
  ·by_cases h3 : 0 ≤ b
   ·by_cases h4 : b < (t.w : Int)
    ·rw [show followsX t a b = followsB t a b by simp [followsX, inB, h1, h2, h3, h4]]
     go_enter Tryz.func100, Tryz.ntmps100
     go_wp2_with fail
     refine (rvalidTr_any t _ _ _ _ _ rfl (H.out.extNo ((Ext.refl _ _).alloc _))).mono ?_
     rintro e1 w1 ⟨rfl, hx1⟩
     have hB := hx1.blk (alloc_top (w := W) rfl) no_no
     have hxa : Ext No W w1 := ((Ext.refl _ _).alloc _).transNo hx1
     have cB := cellOf hB
     clear hx1
     go_wp2_with fail
     refine (rfollows_any t _ _ _ _ a b _ rfl (H.out.extNo hxa)).mono ?_
     rintro e2 w2 ⟨rfl, hx2⟩
     clear cB
     go_wp2_with fail
     all_goals
      go_ret
      exact ⟨rfl, hxa.transNo hx2⟩
    rw [show followsX t a b = false by simp [followsX, inB, h4]]
    go_enter Tryz.func100, Tryz.ntmps100
    go_wp2_with fail
    refine (rvalidTr_any t _ _ _ _ _ rfl (H.out.extNo ((Ext.refl _ _).alloc _))).mono ?_
    rintro e1 w1 ⟨rfl, hx1⟩
    have hB := hx1.blk (alloc_top (w := W) rfl) no_no
    have hxa : Ext No W w1 := ((Ext.refl _ _).alloc _).transNo hx1
    have cB := cellOf hB
    clear hx1
    go_wp2_with fail
    go_ret
    exact ⟨rfl, hxa⟩
   rw [show followsX t a b = false by simp [followsX, inB, h3]]
   go_enter Tryz.func100, Tryz.ntmps100
   go_wp2_with fail
   refine (rvalidTr_any t _ _ _ _ _ rfl (H.out.extNo ((Ext.refl _ _).alloc _))).mono ?_
   rintro e1 w1 ⟨rfl, hx1⟩
   have hB := hx1.blk (alloc_top (w := W) rfl) no_no
   have hxa : Ext No W w1 := ((Ext.refl _ _).alloc _).transNo hx1
   have cB := cellOf hB
   clear hx1
   go_wp2_with fail
   go_ret
   exact ⟨rfl, hxa⟩
  rw [show followsX t a b = false by simp [followsX, inB, h2]]
  go_enter Tryz.func100, Tryz.ntmps100
  go_wp2_with fail
  refine (rvalidTr_any t _ _ _ _ _ rfl (H.out.extNo ((Ext.refl _ _).alloc _))).mono ?_
  rintro e1 w1 ⟨rfl, hx1⟩
  have hB := hx1.blk (alloc_top (w := W) rfl) no_no
  have hxa : Ext No W w1 := ((Ext.refl _ _).alloc _).transNo hx1
  have cB := cellOf hB
  clear hx1
  go_wp2_with fail
  go_ret
  exact ⟨rfl, hxa⟩
 rw [show followsX t a b = false by simp [followsX, inB, h1]]
 go_enter Tryz.func100, Tryz.ntmps100
 go_wp2_with fail
 refine (rvalidTr_any t _ _ _ _ _ rfl (H.out.extNo ((Ext.refl _ _).alloc _))).mono ?_
 rintro e1 w1 ⟨rfl, hx1⟩
 have hB := hx1.blk (alloc_top (w := W) rfl) no_no
 have hxa : Ext No W w1 := ((Ext.refl _ _).alloc _).transNo hx1
 have cB := cellOf hB
 clear hx1
 go_wp2_with fail
 go_ret
 exact ⟨rfl, hxa⟩
def PlaceP (l : List Int) (x z : Int) : Prop := (z = -1 ∧ ∀ i (h : i < l.length), l[i] ≠ x) ∨ ∃ i, ∃ h : i < l.length, z = (i : Int) ∧ l[i] = x
def PlacePost (l : List Int) (x : Int) (W : World) (e : Ending) (w' : World) : Prop := ∃ z : Int, e = .returned (.int .i64 z) ∧ PlaceP l x z ∧ Ext No W w'
set_option maxRecDepth 100000 in
theorem rplace_any (sl : Value) (l : List Int) (x : Int) (W : World) (h : Ints No W .i64 sl l) : Calls Tryz.prog 126 #[sl, .int .i64 x] W (PlacePost l x W) := by
 have H := Lib.hid h
 obtain ⟨a, c, rfl⟩ := Row.slice h
 have hlen := h.2.1
 clear h
 go_enter Tryz.func126, Tryz.ntmps126
 go_wp2_with fail
 go_loopw [5] (fun i wr => ∃ k : Nat, k ≤ l.length ∧ i = .int .i64 k ∧ wr = W ∧ Hid (∀ q (hq : q < l.length), q < k → l[q] ≠ x)) (fun i _ => l.length - (intOf i).toNat)
 case atStart => exact ⟨0, Nat.zero_le _, rfl, rfl, Lib.hid (fun _ _ hj => absurd hj (Nat.not_lt_zero _))⟩
 obtain ⟨k, hk, rfl, rfl, hall⟩ := hrel
 by_cases hlt : k < l.length
 ·have hlz : (k : Int) < (l.length : Int) := by omega
  have HKK : Hid (Value.int .i64 ((k : Int) + 1) = .int .i64 ((k + 1 : Nat) : Int)) := Lib.hid (by rw [show ((k + 1 : Nat) : Int) = (k : Int) + 1 from by omega])
  obtain ⟨b, o, c', he, -, -, hc⟩ := Ints.at H.out hlt
  simp only [Value.slice.injEq] at he
  obtain ⟨rfl, -, rfl⟩ := he
  have q0 := hc k hlt
  obtain ⟨y, hy⟩ : ∃ y, y = l[k] := ⟨_, rfl⟩
  rw [← hy] at q0
  have HY := Lib.hid hy
  clear hc hy
  by_cases hx : y = x
  ·subst hx
   have hb : (y == y) = true := by simp
   go_wp2_with fail
   go_ret
   exact ⟨_, rfl, .inr ⟨k, hlt, rfl, HY.out.symm⟩, Ext.refl _ _⟩
  have hb : (y == x) = false := by simp [hx]
  have HXN := Lib.hid hx
  clear hx
  go_wp2_with fail
  clear q0 hb
  go_roundw
  case rel => exact ⟨k + 1, by omega, HKK.out, by first | rfl | trivial, Lib.hid (fun q hq hqk => by
   by_cases e : q = k
   ·subst e; rw [← HY.out]; exact HXN.out
   exact hall.out q hq (by omega))⟩
  case measure => simp [intOf]; omega
 go_wp2_with fail
 go_ret
 exact ⟨-1, rfl, .inl ⟨by first | rfl | trivial, fun i hi => hall.out i hi (by omega)⟩, Ext.refl _ _⟩
theorem memD_inj {S : SysD} {vs : List Nat} {n i j : Nat} (hi : i < (memD S vs n).length) (hj : j < (memD S vs n).length) (h : (memD S vs n)[i] = (memD S vs n)[j]) : i = j := by
 have hp : (memD S vs n).Pairwise (· < ·) := by
  unfold memD membersN
  refine List.pairwise_map.2 ?_
  refine List.Pairwise.imp (R := (· < ·)) (fun h => by omega) ?_
  exact List.Pairwise.filter _ (List.pairwise_lt_range)
 rcases Nat.lt_trichotomy i j with e | e | e
 ·have := List.pairwise_iff_getElem.1 hp i j hi hj e; omega
 ·exact e
 have := List.pairwise_iff_getElem.1 hp j i hj hi e; omega
def RankV (S : SysD) (vs : List Nat) (R : LD) (n : Nat) (x z : Int) : Prop := ∃ i, ∃ h : i < (memD S vs n).length, ∃ h2 : i < (rkD R n).length, (memD S vs n)[i] = x ∧ z = (rkD R n)[i]
def RankPost (S : SysD) (vs : List Nat) (R : LD) (n : Nat) (x : Int) (W : World) (e : Ending) (w' : World) : Prop := ∃ z : Int, e = .returned (.int .i64 z) ∧ RankV S vs R n x z ∧ Ext No W w'
set_option maxRecDepth 100000 in
set_option maxHeartbeats 4000000 in
theorem rrank_any (S : SysD) (vv vr : Value) (vs : List Nat) (R : LD) (n : Nat) (x : Int) (W : World) (hnn : S.deps.length ≤ 256) (hww : S.w ≤ 256) (hp : PrfAt No W S vv vr vs R) (hm : n < S.deps.length) (hx : x ∈ memD S vs n) :
  Calls Tryz.prog 99 #[.agg #[vv, vr], .int .i64 (n : Int), .int .i64 x] W (RankPost S vs R n x W) := by
 have HP := Lib.hid hp
 have HXM := Lib.hid hx
 obtain ⟨av, cv, rfl⟩ := hp.vals.slice
 obtain ⟨ar, cr, rfl⟩ := hp.rk.slice
 have hl1 := hp.l1
 have hl2 := hp.l2
 have HL3 := Lib.hid (hp.l3 n hm)
 rw [hl1, hl2] at HP ⊢
 obtain ⟨nn, hnn2⟩ : ∃ nn, nn = S.deps.length := ⟨_, rfl⟩
 rw [← hnn2] at HP hm hnn ⊢
 have HNN := Lib.hid hnn2
 have HL1 := Lib.hid hl1
 have HL2 := Lib.hid hl2
 clear hp hx hl1 hl2 hnn2
 have hmz : (n : Int) < (nn : Int) := by omega
 go_enter Tryz.func99, Tryz.ntmps99
 go_upto_region 1 with (fail)
 have hx0 : Ext No W (W.alloc (.cells #[.slice av nn cv, .slice ar nn cr] 29)) := (Ext.refl _ _).alloc _
 have HB := Lib.hid (alloc_top (w := W) (o := (.cells #[.slice av nn cv, .slice ar nn cr] 29)) rfl)
 generalize (W.alloc (.cells #[.slice av nn cv, .slice ar nn cr] 29)) = V at *
 generalize W.heap.size = A at *
 obtain ⟨b0, o0, k0, a0, c0, hve, ⟨g0, g1⟩, hset⟩ := (HP.out.extNo hx0).vals.cells (i := n) (by rw [HL1.out, ← HNN.out]; exact hm)
 rw [HL1.out, ← HNN.out] at hve
 simp only [Value.slice.injEq] at hve
 obtain ⟨rfl, -, rfl⟩ := hve
 have cB := cellOf HB.out
 have HX := Lib.hid hx0
 clear hx0
 go_wp2_with fail
 refine (rmemL_any No S.w (rowD vs n) _ _ (fun _ e => e.elim) hset.out).mono ?_
 rintro e1 w1 ⟨a1, c1, rfl, hrow, hx1⟩
 obtain ⟨ms, hms⟩ : ∃ ms, ms = rmT (rowD vs n) S.w := ⟨_, rfl⟩
 rw [← hms] at hrow ⊢
 have HMS := Lib.hid (show memD S vs n = ms from hms.symm)
 have hml : ms.length ≤ 256 := by rw [hms]; exact memD_len hww vs n
 have HX1 := Lib.hid (HX.out.transNo hx1)
 have HB1 := Lib.hid (hx1.blk HB.out no_no)
 clear hms hx1 HX HB cB g0 g1 hset
 go_wp2_with fail
 refine (rplace_any _ ms x w1 hrow.out).mono ?_
 rintro e2 w2 ⟨z, rfl, hz, hx2⟩
 obtain ⟨i, hi, rfl, hiv⟩ : ∃ i, ∃ h : i < ms.length, z = (i : Int) ∧ ms[i] = x := by
  rcases hz with ⟨_, hno⟩ | h
  ·have h5 := HXM.out
   rw [HMS.out] at h5
   obtain ⟨q, hq, e⟩ := List.mem_iff_getElem.1 h5
   exact absurd e (hno q hq)
  exact h
 have HX2 := Lib.hid (HX1.out.transNo hx2)
 have HIV := Lib.hid hiv
 have hil : i < (rkD R n).length := by rw [HL3.out, HMS.out]; exact hi
 have hilz : (i : Int) < ((rkD R n).length : Int) := by omega
 have hneg : ¬ ((i : Int) < 0) := by omega
 obtain ⟨br, or, kr, ak, ck, hre, gr, hri⟩ := (HP.out.extNo HX2.out).rank (n := n) (by rw [← HNN.out]; exact hm)
 rw [HL2.out, ← HNN.out] at hre
 simp only [Value.slice.injEq] at hre
 obtain ⟨rfl, -, rfl⟩ := hre
 obtain ⟨bi, oi, ki, hie, -, -, hci⟩ := Ints.at hri.out hil
 simp only [Value.slice.injEq] at hie
 obtain ⟨rfl, -, rfl⟩ := hie
 have q1 := hci i hil
 have cB := cellOf (hx2.blk HB1.out no_no)
 clear hci hri hx2 HX1 HB1 hrow hz hiv
 go_wp2_with fail
 go_ret
 exact ⟨_, rfl, ⟨i, by rw [HMS.out]; exact hi, hil, by simp only [HMS.out]; exact HIV.out, rfl⟩, HX2.out⟩
theorem dep_len {S : SysD} (h : SysOk S) (n : Nat) : (depD S n).length ≤ 1024 := by
 by_cases hn : n < S.deps.length
 ·have h1 := h.asc (S.deps[n]) (List.getElem_mem hn)
  have e : depD S n = S.deps[n] := by unfold depD; simp [hn]
  rw [e]
  rcases Nat.eq_zero_or_pos (S.deps[n]).length with h0 | h0
  ·omega
  have h2 := asc_len h1 (by simpa [natsZ] using h0)
  have h3 := h.n2
  simp [natsZ] at h2
  omega
 have e : depD S n = [] := by unfold depD; simp [hn]
 rw [e]; simp
def OrigP (S : SysD) (n : Nat) (b : Int) : Prop := hasZ S.w (rowD S.bnd n) b = true ∨ ∃ j, ∃ h : j < (depD S n).length, hasZ S.w (trD S (depD S n)[j]).gen b = true
set_option maxRecDepth 100000 in
set_option maxHeartbeats 4000000 in
theorem rorigin_any (S : SysD) (vd vt vb : Value) (n : Nat) (x : Int) (W : World) (h : SysAt No W vd vt vb S) (hm : n < S.deps.length) :
  Calls Tryz.prog 98 #[.agg #[.int .i64 (S.w : Int), vd, vt, vb], .agg #[.int .i64 (n : Int), .int .i64 x]] W (Tells (OrigP S n x) W) := by
 have H := Lib.hid h
 have HOK := Lib.hid h.ok
 have hnn := h.ok.n2
 obtain ⟨ad, cd, at1, ct, ab, cb, rfl, rfl, rfl⟩ := h.slices
 have hmz : (n : Int) < (S.deps.length : Int) := by omega
 clear h
 go_enter Tryz.func98, Tryz.ntmps98
 go_upto_region 1 with (fail)
 have hx0 : Ext No W ((W.alloc (.cells #[.int .i64 (S.w : Int), .slice ad S.deps.length cd, .slice at1 S.deps.length ct, .slice ab S.deps.length cb] 27)).alloc (.cells #[.int .i64 (n : Int), .int .i64 x] 120)) := ((Ext.refl _ _).alloc _).alloc _
 have HA := Lib.hid (show ((W.alloc (.cells #[.int .i64 (S.w : Int), .slice ad S.deps.length cd, .slice at1 S.deps.length ct, .slice ab S.deps.length cb] 27)).alloc (.cells #[.int .i64 (n : Int), .int .i64 x] 120)).heap[W.heap.size]? = some (.cells #[.int .i64 (S.w : Int), .slice ad S.deps.length cd, .slice at1 S.deps.length ct, .slice ab S.deps.length cb] 27 (0, 0)) from alloc_under (alloc_top rfl))
 have HB := Lib.hid (show ((W.alloc (.cells #[.int .i64 (S.w : Int), .slice ad S.deps.length cd, .slice at1 S.deps.length ct, .slice ab S.deps.length cb] 27)).alloc (.cells #[.int .i64 (n : Int), .int .i64 x] 120)).heap[W.heap.size + 1]? = some (.cells #[.int .i64 (n : Int), .int .i64 x] 120 (0, 0)) from alloc_top (by simp))
 generalize ((W.alloc (.cells #[.int .i64 (S.w : Int), .slice ad S.deps.length cd, .slice at1 S.deps.length ct, .slice ab S.deps.length cb] 27)).alloc (.cells #[.int .i64 (n : Int), .int .i64 x] 120)) = V at *
 generalize W.heap.size = A at *
 have HX := Lib.hid hx0
 have HS := Lib.hid (H.out.extNo hx0)
 clear hx0
 obtain ⟨bb, ob, kb, abn, cbn, hbe, b0', b1', hbs⟩ := HS.out.bn hm
 simp only [Value.slice.injEq] at hbe
 obtain ⟨rfl, -, rfl⟩ := hbe
 have HB0 := Lib.hid b0'
 have HB1 := Lib.hid b1'
 clear b0' b1'
 cases hf : hasZ S.w (rowD S.bnd n) x with
 | true =>
  have HF := Lib.hid hf
  clear hf
  refine wp_region_held_drew (S := (fun w' => Ext No V w')) (by kernel_rfl) ?_ (fun hHeld => ?_)
  ·exact (Ext.refl _ _).drew
  have HE := Lib.hid (show Ext No V V.drew from (Ext.refl No _).drew)
  generalize V.drew = v0 at *
  refine hHs [0, 1, 2] ?_
  iterate 3
   refine hTn ?_ hHeld (fun w hSw => ?_) ?_
   rotate_left
   ·(have q0 := cellOf ((show Ext No V _ from hSw).blk HA.out no_no)); go_simp; (try with_reducible rfl)
   simp only [Act.put, nzA, nzB, nzC]
  refine hHe ?_
  refine hHs [3, 4] ?_
  iterate 2
   refine hTn ?_ hHeld (fun w hSw => ?_) ?_
   rotate_left
   ·(have q0 := cellOf ((show Ext No V _ from hSw).blk HB.out no_no)); go_simp; (try with_reducible rfl)
   simp only [Act.put, nzA, nzB, nzC]
  refine hHe ?_
  refine hHs [5, 6] ?_
  iterate 2
   refine hTn ?_ hHeld (fun w hSw => ?_) ?_
   rotate_left
   ·(have q0 := (show Ext No V _ from hSw).keep HB0.out); (have q1 := (show Ext No V _ from hSw).keep HB1.out); go_simp; (try with_reducible rfl)
   simp only [Act.put, nzA, nzB, nzC]
  refine hHe ?_
  refine hTk 7 ?_ hHeld (fun w hSw => ?_) ?_
  rotate_left
  ·(have x0 := cellOf ((show Ext No V _ from hSw).blk HB.out no_no)); go_simp; (try with_reducible rfl)
  simp only [Act.put, nzA, nzB, nzC]
  refine hHc 8 fun K hK => ?_
  (go_simp; (go_at_call 44); (refine (rhas_any S.w (rowD S.bnd n) _ x _ (hbs.out.extNo HE.out)).mono ?_); (rintro e7 v1 ⟨rfl, hyA⟩); (rw [HF.out]); go_simp)
  refine hK.out _ _ ?_ ?_
  ·exact HE.out.transNo hyA
  clear hK K hHeld
  intro hHeld
  replace HE := Lib.hid (HE.out.transNo hyA)
  clear hyA
  try simp only [Act.put, nzA, nzB, nzC]
  refine wpAnyH_done (by kernel_rfl) ?_ _
  go_wp2_with fail
  go_ret
  exact ⟨true, rfl, ⟨fun _ => .inl HF.out, fun _ => rfl⟩, HX.out.transNo HE.out⟩
 | false =>
  have HF := Lib.hid hf
  clear hf
  refine wp_region_held_drew (S := (fun w' => Ext No V w')) (by kernel_rfl) ?_ (fun hHeld => ?_)
  ·exact (Ext.refl _ _).drew
  have HE := Lib.hid (show Ext No V V.drew from (Ext.refl No _).drew)
  generalize V.drew = v0 at *
  refine hHs [0, 1, 2] ?_
  iterate 3
   refine hTn ?_ hHeld (fun w hSw => ?_) ?_
   rotate_left
   ·(have q0 := cellOf ((show Ext No V _ from hSw).blk HA.out no_no)); go_simp; (try with_reducible rfl)
   simp only [Act.put, nzA, nzB, nzC]
  refine hHe ?_
  refine hHs [3, 4] ?_
  iterate 2
   refine hTn ?_ hHeld (fun w hSw => ?_) ?_
   rotate_left
   ·(have q0 := cellOf ((show Ext No V _ from hSw).blk HB.out no_no)); go_simp; (try with_reducible rfl)
   simp only [Act.put, nzA, nzB, nzC]
  refine hHe ?_
  refine hHs [5, 6] ?_
  iterate 2
   refine hTn ?_ hHeld (fun w hSw => ?_) ?_
   rotate_left
   ·(have q0 := (show Ext No V _ from hSw).keep HB0.out); (have q1 := (show Ext No V _ from hSw).keep HB1.out); go_simp; (try with_reducible rfl)
   simp only [Act.put, nzA, nzB, nzC]
  refine hHe ?_
  refine hTk 7 ?_ hHeld (fun w hSw => ?_) ?_
  rotate_left
  ·(have x0 := cellOf ((show Ext No V _ from hSw).blk HB.out no_no)); go_simp; (try with_reducible rfl)
  simp only [Act.put, nzA, nzB, nzC]
  refine hHc 8 fun K hK => ?_
  (go_simp; (go_at_call 44); (refine (rhas_any S.w (rowD S.bnd n) _ x _ (hbs.out.extNo HE.out)).mono ?_); (rintro e7 v1 ⟨rfl, hyA⟩); (rw [HF.out]); go_simp)
  refine hK.out _ _ ?_ ?_
  ·exact HE.out.transNo hyA
  clear hK K hHeld
  intro hHeld
  replace HE := Lib.hid (HE.out.transNo hyA)
  clear hyA
  try simp only [Act.put, nzA, nzB, nzC]
  refine wpAnyH_done (by kernel_rfl) ?_ _
  have HA1 := Lib.hid (HE.out.blk HA.out no_no)
  have HBB1 := Lib.hid (HE.out.blk HB.out no_no)
  have HX1 := Lib.hid (HX.out.transNo HE.out)
  obtain ⟨bd, od, kd, adn, cdn, hde, d0, hds⟩ := (H.out.extNo HX1.out).dep hm
  simp only [Value.slice.injEq] at hde
  obtain ⟨rfl, -, rfl⟩ := hde
  have hdl : (depD S n).length ≤ 1024 := dep_len HOK.out n
  obtain ⟨dl, hdle⟩ : ∃ dl, dl = depD S n := ⟨_, rfl⟩
  rw [← hdle] at d0 hds hdl
  have HDL := Lib.hid hdle
  have HD0 := Lib.hid d0
  have HDS := Lib.hid hds.out
  have hdzl : (natsZ dl).length = dl.length := by simp [natsZ]
  clear d0 hds hdle HA HB HX HB0 HB1 hbs
  go_wp2_with fail
  go_loopw [5] (fun i wr => ∃ k : Nat, k ≤ dl.length ∧ i = .int .i64 k ∧ Hid (Ext No v1 wr) ∧ Hid (∀ j (h : j < dl.length), j < k → ¬ hasZ S.w (trD S dl[j]).gen x = true)) (fun i _ => dl.length - (intOf i).toNat)
  case atStart => exact ⟨0, Nat.zero_le _, rfl, Lib.hid (Ext.refl _ _), Lib.hid (fun _ _ hj => absurd hj (Nat.not_lt_zero _))⟩
  obtain ⟨k, hk, rfl, hx, hall⟩ := hrel
  rename World => wr
  have HAr := Lib.hid (hx.out.blk HA1.out no_no)
  have HBr := Lib.hid (hx.out.blk HBB1.out no_no)
  have HDr := Lib.hid (hx.out.keep HD0.out)
  have HXR := Lib.hid (HX1.out.transNo hx.out)
  have cA := cellOf HAr.out
  have cB := cellOf HBr.out
  have d0 := HDr.out
  by_cases hlt : k < dl.length
  ·have hlz : (k : Int) < (dl.length : Int) := by omega
   have HKK : Hid (Value.int .i64 ((k : Int) + 1) = .int .i64 ((k + 1 : Nat) : Int)) := Lib.hid (by rw [show ((k + 1 : Nat) : Int) = (k : Int) + 1 from by omega])
   obtain ⟨bi, oi, ki, hie, -, -, hci⟩ := IntsP.at (show Ints No wr .i64 (.slice adn dl.length cdn) (natsZ dl) from Row.extNo HDS.out hx.out) hlt
   simp only [Value.slice.injEq] at hie
   obtain ⟨rfl, -, rfl⟩ := hie
   have HQ1 := Lib.hid (hci k hlt)
   have hmem : dl[k] ∈ depD S n := by rw [← HDL.out]; exact List.getElem_mem hlt
   have hmN := HOK.out.dep hmem
   obtain ⟨m, hme⟩ : ∃ m, m = dl[k] := ⟨_, rfl⟩
   rw [← hme] at HQ1 hmN
   have HME := Lib.hid hme
   have hmNz : (m : Int) < (S.deps.length : Int) := by omega
   obtain ⟨bt, ot, kt, ag, cg, ak, ck, ac, nc, cc, hte, ⟨t0, t1, -, -, -⟩, htr, htw⟩ := (H.out.extNo HXR.out).tr hmN
   simp only [Value.slice.injEq] at hte
   obtain ⟨rfl, -, rfl⟩ := hte
   have HT0 := Lib.hid t0
   have HT1 := Lib.hid t1
   have HTG := Lib.hid (show SetAt No wr (.slice ag (nw S.w) cg) S.w (trD S m).gen from by have h := htr.out.gen; rw [htw.out] at h; exact h)
   clear hci hmem hme t0 t1 htr htw
   cases hf2 : hasZ S.w (trD S m).gen x with
   | true =>
    have HF2 := Lib.hid hf2
    clear hf2
    go_upto_region 6 with (fail)
    clear cA cB d0
    refine wp_region_held_drew (S := (fun w' => Ext No wr w')) (by kernel_rfl) ?_ (fun hHeld => ?_)
    ·exact (Ext.refl _ _).drew
    have HE := Lib.hid (show Ext No wr wr.drew from (Ext.refl No _).drew)
    generalize wr.drew = v0 at *
    refine hHs [0, 1, 2, 3, 4] ?_
    iterate 5
     refine hTn ?_ hHeld (fun w hSw => ?_) ?_
     rotate_left
     ·(have q0 := cellOf ((show Ext No wr _ from hSw).blk HAr.out no_no)); go_simp; (try with_reducible rfl)
     simp only [Act.put, nzA, nzB, nzC]
    refine hHe ?_
    refine hHs [5, 6] ?_
    iterate 2
     refine hTn ?_ hHeld (fun w hSw => ?_) ?_
     rotate_left
     ·(have q0 := cellOf ((show Ext No wr _ from hSw).blk HBr.out no_no)); go_simp; (try with_reducible rfl)
     simp only [Act.put, nzA, nzB, nzC]
    refine hHe ?_
    refine hHs [7, 8, 9] ?_
    iterate 3
     refine hTn ?_ hHeld (fun w hSw => ?_) ?_
     rotate_left
     ·(have q0 := (show Ext No wr _ from hSw).keep HDr.out); go_simp; (try with_reducible rfl)
     simp only [Act.put, nzA, nzB, nzC]
    refine hHe ?_
    refine hHs [10, 11, 12] ?_
    iterate 3
     refine hTn ?_ hHeld (fun w hSw => ?_) ?_
     rotate_left
     ·(have q0 := (show Ext No wr _ from hSw).keep HQ1.out); go_simp; (try with_reducible rfl)
     simp only [Act.put, nzA, nzB, nzC]
    refine hHe ?_
    refine hHs [13, 14] ?_
    iterate 2
     refine hTn ?_ hHeld (fun w hSw => ?_) ?_
     rotate_left
     ·(have q0 := (show Ext No wr _ from hSw).keep HT0.out); (have q1 := (show Ext No wr _ from hSw).keep HT1.out); go_simp; (try with_reducible rfl)
     simp only [Act.put, nzA, nzB, nzC]
    refine hHe ?_
    refine hTk 15 ?_ hHeld (fun w hSw => ?_) ?_
    rotate_left
    ·(have x0 := cellOf ((show Ext No wr _ from hSw).blk HBr.out no_no)); go_simp; (try with_reducible rfl)
    simp only [Act.put, nzA, nzB, nzC]
    refine hHc 16 fun K hK => ?_
    (go_simp; (go_at_call 44); (refine (rhas_any S.w ((trD S m).gen) _ x _ (HTG.out.extNo HE.out)).mono ?_); (rintro e7 v1 ⟨rfl, hyA⟩); (rw [HF2.out]); go_simp)
    refine hK.out _ _ ?_ ?_
    ·exact HE.out.transNo hyA
    clear hK K hHeld
    intro hHeld
    replace HE := Lib.hid (HE.out.transNo hyA)
    clear hyA
    try simp only [Act.put, nzA, nzB, nzC]
    refine wpAnyH_done (by kernel_rfl) ?_ _
    go_wp2_with fail
    go_ret
    exact ⟨true, rfl, ⟨fun _ => .inr ⟨k, by rw [← HDL.out]; exact hlt, by simp only [← HDL.out]; rw [← HME.out]; exact HF2.out⟩, fun _ => rfl⟩, HXR.out.transNo HE.out⟩
   | false =>
    have HF2 := Lib.hid hf2
    clear hf2
    go_upto_region 6 with (fail)
    clear cA cB d0
    refine wp_region_held_drew (S := (fun w' => Ext No wr w')) (by kernel_rfl) ?_ (fun hHeld => ?_)
    ·exact (Ext.refl _ _).drew
    have HE := Lib.hid (show Ext No wr wr.drew from (Ext.refl No _).drew)
    generalize wr.drew = v0 at *
    refine hHs [0, 1, 2, 3, 4] ?_
    iterate 5
     refine hTn ?_ hHeld (fun w hSw => ?_) ?_
     rotate_left
     ·(have q0 := cellOf ((show Ext No wr _ from hSw).blk HAr.out no_no)); go_simp; (try with_reducible rfl)
     simp only [Act.put, nzA, nzB, nzC]
    refine hHe ?_
    refine hHs [5, 6] ?_
    iterate 2
     refine hTn ?_ hHeld (fun w hSw => ?_) ?_
     rotate_left
     ·(have q0 := cellOf ((show Ext No wr _ from hSw).blk HBr.out no_no)); go_simp; (try with_reducible rfl)
     simp only [Act.put, nzA, nzB, nzC]
    refine hHe ?_
    refine hHs [7, 8, 9] ?_
    iterate 3
     refine hTn ?_ hHeld (fun w hSw => ?_) ?_
     rotate_left
     ·(have q0 := (show Ext No wr _ from hSw).keep HDr.out); go_simp; (try with_reducible rfl)
     simp only [Act.put, nzA, nzB, nzC]
    refine hHe ?_
    refine hHs [10, 11, 12] ?_
    iterate 3
     refine hTn ?_ hHeld (fun w hSw => ?_) ?_
     rotate_left
     ·(have q0 := (show Ext No wr _ from hSw).keep HQ1.out); go_simp; (try with_reducible rfl)
     simp only [Act.put, nzA, nzB, nzC]
    refine hHe ?_
    refine hHs [13, 14] ?_
    iterate 2
     refine hTn ?_ hHeld (fun w hSw => ?_) ?_
     rotate_left
     ·(have q0 := (show Ext No wr _ from hSw).keep HT0.out); (have q1 := (show Ext No wr _ from hSw).keep HT1.out); go_simp; (try with_reducible rfl)
     simp only [Act.put, nzA, nzB, nzC]
    refine hHe ?_
    refine hTk 15 ?_ hHeld (fun w hSw => ?_) ?_
    rotate_left
    ·(have x0 := cellOf ((show Ext No wr _ from hSw).blk HBr.out no_no)); go_simp; (try with_reducible rfl)
    simp only [Act.put, nzA, nzB, nzC]
    refine hHc 16 fun K hK => ?_
    (go_simp; (go_at_call 44); (refine (rhas_any S.w ((trD S m).gen) _ x _ (HTG.out.extNo HE.out)).mono ?_); (rintro e7 v1 ⟨rfl, hyA⟩); (rw [HF2.out]); go_simp)
    refine hK.out _ _ ?_ ?_
    ·exact HE.out.transNo hyA
    clear hK K hHeld
    intro hHeld
    replace HE := Lib.hid (HE.out.transNo hyA)
    clear hyA
    try simp only [Act.put, nzA, nzB, nzC]
    refine wpAnyH_done (by kernel_rfl) ?_ _
    go_wp2_with fail
    go_roundw
    case rel => exact ⟨k + 1, by omega, HKK.out, Lib.hid (hx.out.transNo HE.out), Lib.hid (fun j hj hjk => by
     by_cases e : j = k
     ·subst e; rw [← HME.out, HF2.out]; simp
     exact hall.out j hj (by omega))⟩
    case measure => simp [intOf]; omega
  have hge : ¬ (k : Int) < (dl.length : Int) := by omega
  go_wp2_with fail
  go_ret
  exact ⟨false, rfl, ⟨fun e => (by cases e), fun h => by
   rcases h with h | ⟨j, hj, h⟩
   ·rw [HF.out] at h; cases h
   simp only [← HDL.out] at hj h
   exact absurd h (hall.out j hj (by omega))⟩, HXR.out⟩

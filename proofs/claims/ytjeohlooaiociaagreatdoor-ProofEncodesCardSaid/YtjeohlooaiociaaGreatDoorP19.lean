
import Derived.Test.YtjeohlooaiociaaGreatDoorP10
set_option linter.unusedVariables false
set_option linter.unusedSimpArgs false
namespace Go.Proofs.YtjeohlooaiociaaGreatDoor
open Go Go.RowKit Tj
theorem inI_zero (S : SysD) (n b : Nat) : inI S n b 0 = false := by
 unfold inI
 show (rowD (List.replicate S.deps.length 0) n).testBit b = false
 have e : rowD (List.replicate S.deps.length 0) n = 0 := by
  unfold rowD
  rw [List.getElem?_replicate]
  split <;> rfl
 rw [e, Nat.zero_testBit]
theorem inI_up {S : SysD} (hS : SysOk S) {n b : Nat} : ∀ r, inI S n b r = true → inI S n b (r + 1) = true := fun r h => by
 by_cases hn : n < S.deps.length
 ·exact iter_up hS r n hn b h
 have e : rowD (iterD S r) n = 0 := by
  unfold rowD
  rw [List.getElem?_eq_none (by rw [(good_iter hS r).len]; omega)]; rfl
 unfold inI at h
 rw [e, Nat.zero_testBit] at h
 cases h
theorem inI_le {S : SysD} (hS : SysOk S) {n b r : Nat} (h : inI S n b r = true) : ∀ d, inI S n b (r + d) = true
 | 0 => h
 | d + 1 => inI_up hS _ (inI_le hS h d)
theorem mem_inI {S : SysD} {R n : Nat} {x : Int} : x ∈ memD S (iterD S R) n ↔ ∃ b : Nat, x = b ∧ b < S.w ∧ inI S n b R = true := by
 unfold memD
 rw [membersP_mem]
 rfl
theorem ranks_lt {S : SysD} (hS : SysOk S) {R n i : Nat} (hi : i < (memD S (iterD S R) n).length) : rkI S (iterD S R) n i R < R := by
 have hx := List.getElem_mem hi
 obtain ⟨b, e, hb, hin⟩ := mem_inI.1 hx
 unfold rkI
 rw [show (memD S (iterD S R) n).getD i 0 = ((b : Nat) : Int) from by rw [← e]; simp [hi]]
 exact (rk_mem (inI_zero S n b) (inI_up hS) hin).1
theorem rounds_le {S : SysD} (hS : SysOk S) {R : Nat} (hF : FixAt S R) : R ≤ S.deps.length * S.w := by
 obtain ⟨R2, h1, h2⟩ := fix_ex hS
 have := hF.eq h1.first h1.fix
 omega
end Go.Proofs.YtjeohlooaiociaaGreatDoor

namespace Go.Proofs.YtjeohlooaiociaaGreatDoor
open Go Go.RowKit Tj
theorem ranked_facts {S : SysD} {Lv : LS} {R : LD} {vs : List Nat} (h : AboveL S Lv vs) (k : RankedP Lv R) {n : Nat} (hn : n < S.deps.length) : (rkD R n).length = (memD S vs n).length ∧ ∀ i (hi : i < (rkD R n).length), ¬ RkBad (rkD R n)[i] := by
 have hll : Lv.length = vs.length := by have := congrArg List.length h.1; simpa using this
 have h1 : n < Lv.length := by rw [hll, h.2.1]; exact hn
 have h2 : n < R.length := by rw [← k.1]; exact h1
 have h3 : n < vs.length := by rw [h.2.1]; exact hn
 obtain ⟨w, m, hw', hm, he, hl, hb⟩ := k.2 n h1 h2
 have e1 : Lv[n].1 = setN S.w vs[n] := by
  have := congrArg (fun l => l[n]?) h.1
  simpa [h1, h3] using this
 obtain ⟨e2, e3⟩ := setN_inj2 hm (h.2.2.1 _ (List.getElem_mem h3)) (he.symm.trans e1)
 subst e2
 have e4 : rkD R n = R[n].1 := rkD_get h2
 refine ⟨by rw [e4, hl]; unfold memD; rw [rowD_get h3, ← e3], fun i hi => ?_⟩
 simp only [e4] at hi ⊢
 exact hb i hi
theorem acc_bit {S : SysD} (hS : SysOk S) {R : Nat} (hF : FixAt S R) {Lv : LS} {Rk : LD} {vs : List Nat} (hA : AboveL S Lv vs) (hR : RankedP Lv Rk) (hD : ∀ n, n < S.deps.length → DerP S vs Rk n) :
  ∀ k : Nat, ∀ n, n < S.deps.length → ∀ i (hi : i < (memD S vs n).length) (h2 : i < (rkD Rk n).length), (rkD Rk n)[i] < (k : Int) → ∃ b : Nat, (memD S vs n)[i] = (b : Int) ∧ b < S.w ∧ inI S n b R = true
 | 0, n, hn, i, hi, h2, hlt => by
  have := (ranked_facts hA hR hn).2 i h2
  unfold RkBad at this
  omega
 | k + 1, n, hn, i, hi, h2, hlt => by
  obtain ⟨b, e, hb, _⟩ := membersP_mem.1 (List.getElem_mem hi)
  refine ⟨b, e, hb, ?_⟩
  have hc := hD n hn i hi h2
  have er : rowD (iterD S R) n = rightD S (iterD S R) n := by
   have h3 : iterD S (R + 1) = iterD S R := hF.fix
   have h4 : iterD S (R + 1) = nextTo S (iterD S R) S.deps.length := rfl
   have h5 : rowD (nextTo S (iterD S R) S.deps.length) n = rightD S (iterD S R) n := nextTo_row hn
   rw [← h4, h3] at h5
   exact h5
  unfold inI
  rw [er, right_bit]
  have hz : ∀ m, hasZ S.w m (memD S vs n)[i] = true → m.testBit b = true := fun m h => by
   rw [e] at h
   unfold hasZ at h
   simp only [Bool.and_eq_true] at h
   simpa using h.2
  rcases hc with h | ⟨j, hj, h⟩
  ·exact .inl (hz _ h)
  have hmd := List.getElem_mem hj
  have hmN := hS.dep hmd
  obtain ⟨ho, hw⟩ := hS.tr hmN
  refine .inr ⟨_, hmd, (appT_bit ho (by rw [hw]; exact hb)).2 ?_⟩
  rcases h with h | ⟨i', hi', h2', hlt', hfo⟩
  ·exact .inl (hz _ h)
  obtain ⟨a, ea, ha, hin⟩ := acc_bit hS hF hA hR hD k _ hmN i' hi' h2' (by omega)
  rw [ea, e] at hfo
  unfold followsX at hfo
  simp only [Bool.and_eq_true] at hfo
  exact .inr ⟨a, by rw [hw]; exact ha, hin, hfo.2.2⟩
theorem acc_least {S : SysD} (hS : SysOk S) {R : Nat} (hF : FixAt S R) {Lv : LS} {Rk : LD} {vs : List Nat} (hA : AboveL S Lv vs) (hR : RankedP Lv Rk) (hD : ∀ n, n < S.deps.length → DerP S vs Rk n) : vs = iterD S R := by
 refine LeV.anti ⟨hA.2.1, hA.2.2.1⟩ (good_iter hS R) (fun n hn b hb => ?_) (iter_least hS hA.2.2.2 R)
 have hbw : b < S.w := by
  rcases Nat.lt_or_ge b S.w with h | h
  ·exact h
  have h3 : n < vs.length := by rw [hA.2.1]; exact hn
  have hlt : rowD vs n < 2 ^ S.w := by rw [rowD_get h3]; exact hA.2.2.1 _ (List.getElem_mem h3)
  rw [Nat.testBit_lt_two_pow (Nat.lt_of_lt_of_le hlt (Nat.pow_le_pow_right (by decide) h))] at hb
  cases hb
 have h5 : ((b : Nat) : Int) ∈ memD S vs n := membersP_mem.2 ⟨b, rfl, hbw, hb⟩
 obtain ⟨i, hi, e⟩ := List.mem_iff_getElem.1 h5
 obtain ⟨hl, hp⟩ := ranked_facts hA hR hn
 have h2 : i < (rkD Rk n).length := by rw [hl]; exact hi
 obtain ⟨b', e', _, hin⟩ := acc_bit hS hF hA hR hD ((rkD Rk n)[i].toNat + 1) n hn i hi h2 (by have := hp i h2; unfold RkBad at this; omega)
 have : b' = b := by rw [e] at e'; omega
 rw [this] at hin
 exact hin
end Go.Proofs.YtjeohlooaiociaaGreatDoor

namespace Go.Proofs.YtjeohlooaiociaaGreatDoor
open Go Go.RowKit Tj
theorem mk_bit {S : SysD} (hS : SysOk S) {R : Nat} {Rk : LD} (hk : ∀ n, n < S.deps.length → rkD Rk n = natsZ ((List.range (memD S (iterD S R) n).length).map fun i => rkI S (iterD S R) n i R)) {n : Nat} (hn : n < S.deps.length) {b : Nat} (hb : b < S.w) (h : inI S n b R = true) :
  ∃ i, ∃ hi : i < (memD S (iterD S R) n).length, ∃ h2 : i < (rkD Rk n).length, (memD S (iterD S R) n)[i] = (b : Int) ∧ (rkD Rk n)[i] = (rkTo S n b R : Nat) := by
 have h5 : ((b : Nat) : Int) ∈ memD S (iterD S R) n := mem_inI.2 ⟨b, rfl, hb, h⟩
 obtain ⟨i, hi, e⟩ := List.mem_iff_getElem.1 h5
 have h2 : i < (rkD Rk n).length := by rw [hk n hn]; simpa [natsZ] using hi
 refine ⟨i, hi, h2, e, ?_⟩
 have e2 : (rkD Rk n)[i] = ((rkI S (iterD S R) n i R : Nat) : Int) := by
  simp only [hk n hn, natsZ]
  simp
 rw [e2]
 unfold rkI
 rw [show (memD S (iterD S R) n).getD i 0 = ((b : Nat) : Int) from by rw [← e]; simp [hi]]
 rfl
theorem mk_acc {S : SysD} (hS : SysOk S) {R : Nat} (hF : FixAt S R) {Rk : LD} (hl : Rk.length = S.deps.length) (hk : ∀ n, n < S.deps.length → rkD Rk n = natsZ ((List.range (memD S (iterD S R) n).length).map fun i => rkI S (iterD S R) n i R))
  {Lv : LS} (hv : Lv.map Prod.fst = (iterD S R).map (setN S.w)) : AccP S Lv Rk := by
 have hG := good_iter hS R
 have hll : Lv.length = S.deps.length := by have := congrArg List.length hv; simpa [hG.len] using this
 have hR := rounds_le hS hF
 have hRB : R ≤ 65536 := Nat.le_trans hR (Nat.le_trans (Nat.mul_le_mul hS.n2 hS.w) (by decide))
 refine ⟨⟨by rw [hll, hl], fun n h1 h2 => ?_⟩, iterD S R, ⟨hv, hG.len, hG.lt, ?_⟩, fun n hn i hi h2 => ?_⟩
 ·have hn : n < S.deps.length := by omega
  have h3 : n < (iterD S R).length := by rw [hG.len]; exact hn
  have e1 : Lv[n].1 = setN S.w (iterD S R)[n] := by
   have := congrArg (fun l => l[n]?) hv
   simpa [h1, h3] using this
  have e4 : Rk[n].1 = natsZ ((List.range (memD S (iterD S R) n).length).map fun i => rkI S (iterD S R) n i R) := by rw [← hk n hn, rkD_get h2]
  refine ⟨S.w, (iterD S R)[n], hS.w, hG.lt _ (List.getElem_mem h3), e1, ?_, fun k hk2 => ?_⟩
  ·rw [e4]
   unfold memD natsZ
   rw [rowD_get h3]; simp
  simp only [e4] at hk2 ⊢
  have hk3 : k < (memD S (iterD S R) n).length := by simpa [natsZ] using hk2
  have := ranks_lt hS hk3
  unfold RkBad natsZ
  simp
  omega
 ·have h3 : nextD S (iterD S R) = iterD S R := hF.fix
  rw [h3]; exact LeV.refl _ _
 obtain ⟨b, e, hb, hin⟩ := mem_inI.1 (List.getElem_mem hi)
 obtain ⟨h5, h6, h7⟩ := rk_mem (inI_zero S n b) (inI_up hS) hin
 have e2 : (rkD Rk n)[i] = ((rkTo S n b R : Nat) : Int) := by
  have e3 : (rkD Rk n)[i] = ((rkI S (iterD S R) n i R : Nat) : Int) := by
   simp only [hk n hn, natsZ]
   simp
  rw [e3]
  unfold rkI
  rw [show (memD S (iterD S R) n).getD i 0 = ((b : Nat) : Int) from by rw [← e]; simp [hi]]
  rfl
 rw [e2, e]
 have h8 : rowD (nextTo S (iterD S (rkTo S n b R)) S.deps.length) n = rightD S (iterD S (rkTo S n b R)) n := nextTo_row hn
 have h9 : (rightD S (iterD S (rkTo S n b R)) n).testBit b = true := by rw [← h8]; exact h6
 have hz : ∀ m, m.testBit b = true → hasZ S.w m (b : Int) = true := fun m h => by
  unfold hasZ inB
  simp [h, hb]
 rcases (right_bit _ _ _ _).1 h9 with h | ⟨m, hm, h⟩
 ·exact .inl (hz _ h)
 obtain ⟨j, hj, ej⟩ := List.mem_iff_getElem.1 hm
 have hmN := hS.dep hm
 obtain ⟨ho, hw⟩ := hS.tr hmN
 refine .inr ⟨j, hj, ?_⟩
 rw [ej]
 rcases (appT_bit ho (by rw [hw]; exact hb)).1 h with h | ⟨a, ha, hta, hf⟩
 ·exact .inl (hz _ h)
 rw [hw] at ha
 have hinR : inI S m a R = true := by
  have := inI_le hS (S := S) (n := m) (b := a) (r := rkTo S n b R) hta (R - rkTo S n b R)
  rwa [show rkTo S n b R + (R - rkTo S n b R) = R from by omega] at this
 obtain ⟨i', hi', h2', e1', e2'⟩ := mk_bit hS hk hmN ha hinR
 refine .inr ⟨i', hi', h2', ?_, ?_⟩
 ·rw [e2']
  have : rkTo S m a R < rkTo S n b R := by
   obtain ⟨g1, g2, g3⟩ := rk_mem (inI_zero S m a) (inI_up hS) hinR
   rcases Nat.lt_or_ge (rkTo S m a R) (rkTo S n b R) with h | h
   ·exact h
   have := inI_le hS (S := S) (n := m) (b := a) (r := rkTo S n b R) hta (rkTo S m a R - rkTo S n b R)
   rw [show rkTo S n b R + (rkTo S m a R - rkTo S n b R) = rkTo S m a R from by omega, g3] at this
   cases this
  omega
 rw [e1']
 unfold followsX inB
 simp [hw, ha, hb, hf]
end Go.Proofs.YtjeohlooaiociaaGreatDoor

namespace Go.Proofs.YtjeohlooaiociaaGreatDoor
open Go Go.RowKit
def RMemL (M : Nat → Prop) (m w : Nat) (W : World) (e : Ending) (w' : World) : Prop := ∃ a c, e = .returned (.slice a (rmT m w).length c) ∧ Hid (Ints M w' .i64 (.slice a (rmT m w).length c) (rmT m w)) ∧ Ext No W w'
set_option maxRecDepth 100000 in
set_option maxHeartbeats 4000000 in
theorem rmemL_any (M : Nat → Prop) (w m : Nat) (sl : Value) (W : World) (hM : ∀ b, M b → b < W.heap.size) (h : SetAt No W sl w m) :
  Calls Tryz.prog 22 #[.agg #[.int .i64 (w : Int), sl]] W (RMemL M m w W) := by
 obtain ⟨i0, hi0, hz0, hz1, hz2⟩ := info_parts infoI6m
 have H := Lib.hid h
 have hww := h.hw
 have HM := Lib.hid hM
 have HMM := Lib.hid h.hm
 have hval := validB_set h.hw h.hm
 obtain ⟨a1, c1, rfl⟩ := h.slice
 clear h hM
 go_enter Tryz.func22, Tryz.ntmps22
 go_upto_region 1 with (fail)
 have HX := Lib.hid (show Ext No W (W.alloc (.cells #[.int .i64 (w : Int), .slice a1 (nw w) c1] 50)) from (Ext.refl _ _).alloc _)
 have HA := Lib.hid (alloc_top (w := W) (o := (.cells #[.int .i64 (w : Int), .slice a1 (nw w) c1] 50)) rfl)
 generalize (W.alloc (.cells #[.int .i64 (w : Int), .slice a1 (nw w) c1] 50)) = V at *
 have hVs := lt_of_block HA.out
 go_wp2_with fail
 go_loopw [3, 4] (fun s3 i wr => ∃ k : Nat, i = .int .i64 k ∧ k ≤ w ∧ Hid (wr.ownsRow V.heap.size 3 1 s3 (rmT m k).length ((rmT m k).map (.int .i64))) ∧ Hid (Ext No V wr)) (fun _ i _ => w - (intOf i).toNat)
 case atStart => exact ⟨0, rfl, Nat.zero_le _, Lib.hid (by simpa [rmT] using World.ownsRow_nil _ _ _ _), Lib.hid (Ext.refl _ _)⟩
 obtain ⟨k, rfl, hk, hown, hx⟩ := hrel
 rename World => wr
 obtain ⟨s1, t1, hs3⟩ := (Row.ofOwns (M := No) hown.out (fun _ _ x => x)).slice
 subst hs3
 have cA := cellOf (hx.out.blk HA.out no_no)
 have hlen := rmT_len m k
 by_cases hlt : k < w
 ·have hlz : (k : Int) < (w : Int) := by omega
  go_wp2_with ((go_at_call 61); (refine (rvalid_any _ (setN w m) _ ⟨_, rfl, (H.out.extNo (HX.out.transNo hx.out)).words⟩).mono ?_); (rintro e7 w7 ⟨rfl, hx7⟩); (rw [hval]); (have hE7 := Lib.hid (hx.out.transNo hx7)); (have HO7 := Lib.hid (row_keep hown.out hx7 (fun _ _ x => x))); (clear cA); (have cA := cellOf (hE7.out.blk HA.out no_no)); (clear hx7))
  refine (rhas_any w m _ _ _ (H.out.extNo (HX.out.transNo hE7.out))).mono ?_
  rintro e8 w8 ⟨rfl, hx8⟩
  rw [hasZ_nat hlt]
  have HE8 := Lib.hid (hE7.out.transNo hx8)
  have HO8 := Lib.hid (row_keep HO7.out hx8 (fun _ _ x => x))
  have hsn := rmT_snoc m k
  have hsz8 := HE8.out.size
  clear cA hx8 HO7 hE7
  cases hb : m.testBit k with
  | true =>
   have HSN := Lib.hid (show (rmT m (k + 1)) = rmT m k ++ [(k : Int)] from by rw [hsn, hb]; rfl)
   clear hb hsn
   go_wp2_with (at_builtin; (refine wpList_app _ rfl (.tmp 18) (.tmp 20) 22 rfl V.heap.size 3 i0 _ 1 8 Tryz.underlying22 hi0 hz0 hz1 hz2 rfl (by omega) (.slice s1 (rmT m k).length t1) (rmT m k).length ((rmT m k).map (.int .i64)) rfl (row_keep HO8.out ((Ext.refl No _).alloc _) (fun _ _ x => x)) No (some ⟨w8.heap.size, 0, none⟩) 1 1 [.int .i64 (k : Int)] rfl (Row.block (alloc_top rfl) rfl no_no (by omega)) (by simp [Value.oneCell']) (by omega) (by omega) (by simp; omega) ?_); (intro v1 w9 hown1 hg1 hv1); (have hm9 := Lib.hid (own_ext HE8.out hg1 (fun b hb => (World.ownsRow.lt HO8.out b hb).1) (Nat.le_refl _))); (have ho9 := Lib.hid hown1); (clear hown1 hg1 hv1))
   go_roundw
   case rel => exact ⟨k + 1, by go_num, by omega, Lib.hid (by rw [HSN.out, List.length_append, List.map_append]; exact ho9.out), hm9⟩
   case measure => simp [intOf]; omega
  | false =>
   have HSN := Lib.hid (show (rmT m (k + 1)) = rmT m k from by rw [hsn, hb]; simp)
   clear hb hsn
   go_wp2_with fail
   go_roundw
   case rel => exact ⟨k + 1, by go_num, by omega, Lib.hid (by rw [HSN.out]; exact HO8.out), HE8⟩
   case measure => simp [intOf]; omega
 have hge : ¬ (k : Int) < (w : Int) := by omega
 have hkw : k = w := by omega
 have HKW := Lib.hid hkw
 clear hkw
 go_wp2_with ((go_at_call 61); (refine (rvalid_any _ (setN w m) _ ⟨_, rfl, (H.out.extNo (HX.out.transNo hx.out)).words⟩).mono ?_); (rintro e7 w7 ⟨rfl, hx7⟩); (rw [hval]); (have hE7 := Lib.hid (hx.out.transNo hx7)); (clear cA); (have cA := cellOf (hE7.out.blk HA.out no_no)); (have hx7' := hx7); (clear hx7))
 go_ret
 exact ⟨s1, t1, by rw [← HKW.out]; rfl, by rw [← HKW.out]; exact Lib.hid (Row.extNo (Row.ofOwns (M := M) hown.out (fun b hb e => by have h1 := HM.out b e; have h2 := HX.out.size; omega)) hx7'), HX.out.transNo hE7.out⟩
def memR (s : RawSet) : List Int := if validB s = true then membersN s.width.toNat (joinN s.words) else []
theorem memR_set {w m : Nat} (hw : w ≤ 256) (hm : m < 2 ^ w) : memR (setN w m) = membersN w m := by
 unfold memR
 rw [if_pos (validB_set hw hm)]
 show membersN ((w : Int)).toNat (joinN (wordsN w m)) = _
 rw [Int.toNat_natCast, joinN_words _ _ hm]
theorem memR_len (s : RawSet) : (memR s).length ≤ 256 := by
 unfold memR
 split
 ·next h =>
  have : s.width.toNat ≤ 256 := by
   simp only [validB, cleanB, Bool.and_eq_true, decide_eq_true_eq] at h
   omega
  exact Nat.le_trans (rmT_len _ _) this
 simp
def RMemR (M : Nat → Prop) (l : List Int) (W : World) (e : Ending) (w' : World) : Prop := ∃ a c, e = .returned (.slice a l.length c) ∧ Hid (Ints M w' .i64 (.slice a l.length c) l) ∧ Ext No W w'
set_option maxRecDepth 100000 in
set_option maxHeartbeats 4000000 in
theorem rmemR_any (M : Nat → Prop) (s : RawSet) (sl : Value) (W : World) (hM : ∀ b, M b → b < W.heap.size) (h : WordsAt No W sl s.words) :
  Calls Tryz.prog 22 #[.agg #[.int .i64 s.width, sl]] W (RMemR M (memR s) W) := by
 by_cases hv : validB s = true
 ·obtain ⟨w, m, hw, hm, rfl⟩ := (validB_iff h.lt).1 hv
  rw [memR_set hw hm]
  exact rmemL_any M w m sl W hM ⟨h, hw, hm⟩
 have hv0 : validB s = false := by simpa using hv
 have e0 : memR s = [] := by unfold memR; rw [if_neg hv]
 rw [e0]
 have H := Lib.hid h
 have HV := Lib.hid hv0
 obtain ⟨a, c, rfl⟩ := h.slice
 clear h hv hv0 e0
 go_enter Tryz.func22, Tryz.ntmps22
 go_upto_region 1 with (fail)
 have HX := Lib.hid (show Ext No W (W.alloc (.cells #[.int .i64 s.width, .slice a s.words.length c] 50)) from (Ext.refl _ _).alloc _)
 have HA := Lib.hid (alloc_top (w := W) (o := (.cells #[.int .i64 s.width, .slice a s.words.length c] 50)) rfl)
 generalize (W.alloc (.cells #[.int .i64 s.width, .slice a s.words.length c] 50)) = V at *
 go_wp2_with fail
 go_loopw [3, 4] (fun s3 i wr => s3 = .slice none 0 0 ∧ i = .int .i64 ((0 : Nat) : Int) ∧ wr = V) (fun _ _ _ => 0)
 case atStart => exact ⟨rfl, rfl, rfl⟩
 obtain ⟨rfl, rfl, rfl⟩ := hrel
 have cA := cellOf HA.out
 have hv0 := HV.out
 clear HV
 go_wp2_with ((go_at_call 61); (refine (rvalid_any _ s _ ⟨_, rfl, H.out.extNo HX.out⟩).mono ?_); (rintro e7 w7 ⟨rfl, hx7⟩); (rw [hv0]))
 go_ret
 exact ⟨none, 0, rfl, Lib.hid (Row.nil _ _ _ _ _ (by omega)), HX.out.transNo hx7⟩

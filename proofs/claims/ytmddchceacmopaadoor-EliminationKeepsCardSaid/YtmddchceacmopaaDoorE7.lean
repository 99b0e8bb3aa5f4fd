
import Derived.Test.YtmddchceacmopaaDoorE5
set_option linter.unusedVariables false
set_option linter.unusedSimpArgs false
namespace Go.Proofs.YtmddchceacmopaaDoor
open Go Go.RowKit
def RoundsPostW (M : Nat → Prop) (S : WebD) (W : World) (e : Ending) (w' : World) : Prop :=
 ∃ (R : Nat) (a : Option Addr) (c : Nat), FixW S R ∧ e = .returned (.tuple #[.slice a S.ins.length c, .int .i64 (R : Int)]) ∧ Hid (SetsV M w' (.slice a S.ins.length c) S.w (iterW S R)) ∧ Ext No W w'
set_option maxRecDepth 100000 in
set_option maxHeartbeats 2000000 in
theorem wrounds_any (M : Nat → Prop) (S : WebD) (vb vi : Value) (g : Nat) (W : World) (hM : ∀ b, M b → b < W.heap.size) (hg : W.heap[g]? = some (.cells #[.int .i64 (S.w : Int), vb, vi] 37 (0, 0))) (h : WbAt No W vb vi S) :
  Calls Tryd.prog 32 #[.int .i64 (S.w : Int), .int .i64 (S.ins.length : Int), .func (.func 33) #[] #[.pointer (some ⟨g, 0, none⟩)]] W (RoundsPostW M S W) := by
 have H := Lib.hid h
 have HM := Lib.hid hM
 have HG := Lib.hid hg
 have hok := h.ok
 have hw := hok.w
 have hn := hok.n2
 have HOK := Lib.hid hok
 obtain ⟨R, hR, hRle⟩ := fixW_ex hok
 have HR := Lib.hid hR
 have hRb : R ≤ 65536 := Nat.le_trans hRle (Nat.le_trans (Nat.mul_le_mul hn hw) (by decide))
 clear h hM hg hok hR hRle
 go_enter Tryd.func32, Tryd.ntmps32
 go_wp2_with fail
 refine (emptyV_any M S.w S.ins.length _ HM.out hw hn).mono ?_
 rintro e1 w1 ⟨a1, c1, rfl, hs1, hx1⟩
 rw [List.length_replicate] at hs1 ⊢
 have HX1 := Lib.hid hx1
 have HS1 := Lib.hid (show SetsV M w1 _ S.w (iterW S 0) from hs1.out)
 clear hs1 hx1
 go_wp2_with fail
 go_at_call 33
 refine (wsolve1_any M S _ _ _ (iterW S 0) g _ (fun b hb => Nat.lt_of_lt_of_le (HM.out b hb) HX1.out.size) (HX1.out.blk HG.out no_no) (H.out.extNo HX1.out) HS1.out.no (goodw_iter HOK.out 0).len).mono ?_
 rintro e2 w2 ⟨a2, c2, rfl, hs2, hx2⟩
 rw [show (nextW S (iterW S 0)).length = S.ins.length from nextToW_len _ _ _] at hs2 ⊢
 have HX2 := Lib.hid (HX1.out.transNo hx2)
 have HS2 := Lib.hid (show SetsV M w2 _ S.w (iterW S 1) from hs2.out)
 have HS12 := Lib.hid (HS1.out.extNo hx2)
 clear hs2 hx2 HS1 HX1
 go_wp2_with fail
 go_loopw [8, 9, 10] (fun s8 s9 s10 wr => ∃ (k : Nat) (a : Option Addr) (c : Nat) (a' : Option Addr) (c' : Nat), s8 = .slice a S.ins.length c ∧ s9 = .slice a' S.ins.length c' ∧ s10 = .int .i64 k ∧ k ≤ R ∧ Hid (SetsV M wr (.slice a S.ins.length c) S.w (iterW S k)) ∧ Hid (SetsV M wr (.slice a' S.ins.length c') S.w (iterW S (k + 1))) ∧ Hid (∀ j, j < k → iterW S (j + 1) ≠ iterW S j) ∧ Hid (Ext No W wr)) (fun _ _ s10 _ => R - (intOf s10).toNat)
 case atStart => exact ⟨0, a1, c1, a2, c2, rfl, rfl, rfl, Nat.zero_le _, HS12, HS2, Lib.hid (fun j hj => absurd hj (Nat.not_lt_zero _)), HX2⟩
 clear HS12 HS2 HX2
 obtain ⟨k, a3, c3, a4, c4, rfl, rfl, rfl, hk, hs3, hs4, hne, hx⟩ := hrel
 rename World => wr
 have hl1 : Hid ((iterW S k).length = (iterW S (k + 1)).length) := Lib.hid (by rw [(goodw_iter HOK.out k).len, (goodw_iter HOK.out (k + 1)).len])
 go_wp2_with fail
 refine (fequal_any S.w (iterW S k) (iterW S (k + 1)) _ _ _ hs3.out.no hs4.out.no hl1.out).mono ?_
 rintro e5 w5 ⟨rfl, hx5⟩
 by_cases he : iterW S k = iterW S (k + 1)
 ·rw [decide_eq_true he]
  have HE := Lib.hid he
  clear he
  go_wp2_with fail
  refine ret_ex rfl ?_
  simp [results, Tryd.results32, go_sem]
  refine ⟨k, a3, c3, ⟨HE.out.symm, hne.out⟩, rfl, Lib.hid (hs3.out.extNo hx5), hx.out.transNo hx5⟩
 rw [decide_eq_false he]
 have HE := Lib.hid he
 have hkR : k < R := by
  rcases Nat.lt_or_ge k R with h | h
  ·exact h
  exfalso
  have : k = R := by omega
  subst this
  exact he HR.out.fix.symm
 clear he
 have hadd : IntKind.i64.wrap ((k : Int) + 1) = ((k + 1 : Nat) : Int) := by rw [IntWalk.i64_in _ (by omega)]; omega
 go_wp2_with fail
 go_at_call 33
 refine (wsolve1_any M S _ _ _ (iterW S (k + 1)) g _ (fun b hb => Nat.lt_of_lt_of_le (HM.out b hb) (hx.out.transNo hx5).size) ((hx.out.transNo hx5).blk HG.out no_no) (H.out.extNo (hx.out.transNo hx5)) (hs4.out.no.extNo hx5) (goodw_iter HOK.out (k + 1)).len).mono ?_
 rintro e6 w6 ⟨a6, c6, rfl, hs6, hx6⟩
 rw [show (nextW S (iterW S (k + 1))).length = S.ins.length from nextToW_len _ _ _] at hs6 ⊢
 have HS6 := Lib.hid (show SetsV M w6 _ S.w (iterW S (k + 1 + 1)) from hs6.out)
 clear hs6
 go_wp2_with fail
 go_roundw
 case rel => exact ⟨k + 1, a4, c4, a6, c6, rfl, rfl, by go_num, by omega, Lib.hid ((hs4.out.extNo hx5).extNo hx6), HS6, Lib.hid (fun j hj => by
  by_cases e : j = k
  ·subst e; exact fun e2 => HE.out e2.symm
  exact hne.out j (by omega)), Lib.hid ((hx.out.transNo hx5).transNo hx6)⟩
 case measure => simp [intOf]; omega
end Go.Proofs.YtmddchceacmopaaDoor

namespace Go.Proofs.YtmddchceacmopaaDoor
open Go Go.RowKit
theorem infoE7 : (Tryd.prog.info? 3).map (fun i => (i.zero, i.size, i.bytes)) = some (some (.int .i64 0), 1, 8) := by kernel_rfl
def sumW (S : WebD) (k : Nat) : Nat := ((S.ins.take k).map List.length).sum
theorem sumW_succ {S : WebD} {k : Nat} (hk : k < S.ins.length) : sumW S (k + 1) = sumW S k + (arcW S k).length := by
 unfold sumW
 rw [List.take_succ_eq_append_getElem hk, List.map_append, List.sum_append]
 simp [arcW, hk]
theorem sumW_le {S : WebD} (hS : WebOk S) (k : Nat) : sumW S k ≤ 1024 := by
 have h := hS.tot
 have h2 : (S.ins.map List.length).sum = sumW S k + ((S.ins.drop k).map List.length).sum := by
  unfold sumW
  rw [← List.sum_append, ← List.map_append, List.take_append_drop]
 omega
theorem asc_row {S : WebD} (hS : WebOk S) {k : Nat} (hk : k < S.ins.length) : AscL (natsZ (froms (arcW S k))) S.ins.length := fun i h => by
 have hi : i < (froms (arcW S k)).length := by simpa [natsZ] using h
 have e : ∀ j (hj : j < (froms (arcW S k)).length), (natsZ (froms (arcW S k)))[j]'(by simpa [natsZ] using hj) = (((froms (arcW S k))[j] : Nat) : Int) := fun j hj => by simp [natsZ]
 have h1 : (froms (arcW S k)).Pairwise (· < ·) := by rw [arcW_get hk]; exact hS.asc _ (List.getElem_mem hk)
 rw [e i hi]
 have h2 : (froms (arcW S k))[i] < S.ins.length := by
  have := List.getElem_mem hi
  obtain ⟨p, hp, h3⟩ := List.mem_map.1 this
  rw [← h3]
  exact hS.dep hp
 refine ⟨by omega, by omega, fun h0 => ?_⟩
 rw [e (i - 1) (by omega)]
 have := List.pairwise_iff_getElem.1 h1 (i - 1) i (by omega) hi (by omega)
 omega
theorem fit_row {S : WebD} (hS : WebOk S) {L : LA} {i : Nat} (h : L.map cutA = arcsRow (arcW S i)) : ¬ ∃ (k : Nat) (hk : k < L.length), ¬ FitT (S.w : Int) L[k].2.1 := fun ⟨k, hk, e⟩ => e (by
 have h1 : cutA L[k] ∈ arcsRow (arcW S i) := by rw [← h]; exact List.mem_map.2 ⟨_, List.getElem_mem hk, rfl⟩
 obtain ⟨p, hp, he⟩ := List.mem_map.1 h1
 obtain ⟨h2, h3⟩ := hS.tr hp
 have h4 : L[k].2.1 = rawT p.2 := (congrArg Prod.snd he).symm
 rw [h4]
 exact ⟨validT_ok h2, by show ((p.2.w : Nat) : Int) = _; rw [h3]⟩)
set_option maxRecDepth 100000 in
set_option maxHeartbeats 8000000 in
theorem wvalid_yes (S : WebD) (vb vi : Value) (W : World) (h : WbAt No W vb vi S) :
  Calls Tryd.prog 17 #[.agg #[.int .i64 (S.w : Int), vb, vi]] W (BoolPost true W) := by
 obtain ⟨i0, hi0, hz0, hz1, hz2⟩ := info_parts infoE7
 have H := Lib.hid h
 obtain ⟨ab, cb, ai, ci, rfl, rfl⟩ := h.slices
 have hok := h.ok
 have HOK := Lib.hid hok
 have hnn := hok.n2
 have hn1 := hok.n1
 have hww := hok.w
 clear h hok
 go_enter Tryd.func17, Tryd.ntmps17
 go_wp2_with fail
 have hx0 : Ext No W (W.alloc (.cells #[.int .i64 (S.w : Int), .slice ab S.ins.length cb, .slice ai S.ins.length ci] 37)) := (Ext.refl _ _).alloc _
 have HB := Lib.hid (alloc_top (w := W) (o := .cells #[.int .i64 (S.w : Int), .slice ab S.ins.length cb, .slice ai S.ins.length ci] 37) rfl)
 have HX := Lib.hid hx0
 clear hx0
 generalize (W.alloc (.cells #[.int .i64 (S.w : Int), .slice ab S.ins.length cb, .slice ai S.ins.length ci] 37)) = V at *
 have hVs := lt_of_block HB.out
 refine (sized_any _ _ _).mono ?_
 rintro e1 w1 ⟨b1, rfl, hb1, hx1⟩
 cases b1 with
 | false => exact absurd ⟨by omega, by omega⟩ (tells_no hb1)
 | true =>
 clear hb1
 have HX1 := Lib.hid hx1
 have cB := cellOf (hx1.blk HB.out no_no)
 clear hx1
 go_wp2_with fail
 clear cB
 obtain ⟨Lb, hLb, hLm, hLl⟩ := (H.out.bnd.extNo (HX.out.transNo HX1.out)).list
 refine (sets_any _ _ Lb _ (by rw [HOK.out.lb] at *; exact hLb)).mono ?_
 rintro e2 w2 ⟨b2, rfl, hb2, hx2⟩
 cases b2 with
 | false => exact absurd (set_of_map hLm H.out.bnd.hw H.out.bnd.hm) (tells_no hb2)
 | true =>
 clear hb2 hLb hLm hLl
 have HX2 := Lib.hid (HX1.out.transNo hx2)
 clear hx2 HX1
 have cB := cellOf (HX2.out.blk HB.out no_no)
 go_wp2_with fail
 clear cB
 go_loopw [4, 6, 7, 9, 36] (fun s4 _ _ _ s36 wr => ∃ k : Nat, s36 = .int .i64 k ∧ s4 = .int .i64 (sumW S k : Int) ∧ k ≤ S.ins.length ∧ Hid (Ext No V wr)) (fun _ _ _ _ s36 _ => S.ins.length - (intOf s36).toNat)
 case atStart => exact ⟨0, rfl, rfl, Nat.zero_le _, HX2⟩
 clear HX2
 obtain ⟨k, rfl, rfl, hk, hx⟩ := hrel
 rename World => wr
 by_cases hlt : k < S.ins.length
 ·have hlz : (k : Int) < (S.ins.length : Int) := by omega
  have HKK : Hid (Value.int .i64 ((k : Int) + 1) = .int .i64 ((k + 1 : Nat) : Int)) := Lib.hid (by rw [show ((k + 1 : Nat) : Int) = (k : Int) + 1 from by omega])
  obtain ⟨bi, oi, ki, aA, cA, hve, ga, harc⟩ := (H.out.extNo HX.out).arcs hlt
  simp only [Value.slice.injEq] at hve
  obtain ⟨rfl, -, rfl⟩ := hve
  obtain ⟨n, hn⟩ : ∃ n, n = (arcW S k).length := ⟨_, rfl⟩
  have HN := Lib.hid hn
  rw [← hn] at harc ga
  replace ga := hx.out.keep ga
  have hs1 := sumW_succ hlt
  rw [← hn] at hs1
  have hs2 := sumW_le HOK.out (k + 1)
  clear hn
  go_wp2_with fail
  clear ga
  have hbs := hx.out.size
  go_loopw [7, 9, 42] (fun s7 _ i wx => ∃ j : Nat, i = .int .i64 j ∧ j ≤ n ∧ Hid (wx.ownsRow V.heap.size 3 1 s7 j (((natsZ (froms (arcW S k))).take j).map (.int .i64))) ∧ Hid (Ext No V wx)) (fun _ _ i _ => n - (intOf i).toNat)
  case atStart => exact ⟨0, rfl, Nat.zero_le _, Lib.hid (by simpa using World.ownsRow_nil _ _ _ _), hx⟩
  clear hx hbs
  obtain ⟨j, rfl, hj, hown, hx⟩ := hrel
  rename World => wx
  obtain ⟨s1, t1, hs7⟩ := (Row.ofOwns (M := No) hown.out (fun _ _ x => x)).slice
  subst hs7
  by_cases hlt2 : j < n
  ·have hjz : (j : Int) < (n : Int) := by omega
   have HJJ : Hid (Value.int .i64 ((j : Int) + 1) = .int .i64 ((j + 1 : Nat) : Int)) := Lib.hid (by rw [show ((j + 1 : Nat) : Int) = (j : Int) + 1 from by omega])
   have hjd : j < (arcW S k).length := by have := HN.out; omega
   obtain ⟨⟨m, f⟩, hmj⟩ : ∃ q : Nat × TrD, q = (arcW S k)[j] := ⟨_, rfl⟩
   have hmm : m = (froms (arcW S k))[j]'(by simpa [froms] using hjd) := by simp [froms, ← hmj]
   have HTK := Lib.hid (show ((natsZ (froms (arcW S k))).take (j + 1)).map (Value.int .i64) = ((natsZ (froms (arcW S k))).take j).map (Value.int .i64) ++ [.int .i64 (m : Int)] by
    rw [List.take_succ_eq_append_getElem (by simp [natsZ, froms]; exact hjd), List.map_append]
    simp [natsZ, hmm])
   obtain ⟨ba, oa, ka, ag, cg, ak, ck, ac, nc, cc, hve, gt, -, -⟩ := ArcsW.at (fun p hp => HOK.out.tr (i := k) hp) (harc.out.extNo hx.out) hjd hmj
   simp only [Value.slice.injEq] at hve
   obtain ⟨rfl, -, rfl⟩ := hve
   obtain ⟨q0, q1, q2, q3, q4, q5⟩ := gt
   clear hmj hmm
   go_upto_region 12 with (fail)
   clear q0 q1 q2 q3 q4 q5
   have hxF := hx.out.transNo ((Ext.refl No wx).alloc (.cells #[.int .i64 (m : Int), .int .i64 (S.w : Int), .slice ag (nw S.w) cg, .int .i64 (S.w : Int), .slice ak (nw S.w) ck, .slice ac nc cc] 33))
   have HF := Lib.hid (alloc_top (w := wx) (o := .cells #[.int .i64 (m : Int), .int .i64 (S.w : Int), .slice ag (nw S.w) cg, .int .i64 (S.w : Int), .slice ak (nw S.w) ck, .slice ac nc cc] 33) rfl)
   have HOWN := Lib.hid (row_keep hown.out ((Ext.refl No wx).alloc (.cells #[.int .i64 (m : Int), .int .i64 (S.w : Int), .slice ag (nw S.w) cg, .int .i64 (S.w : Int), .slice ak (nw S.w) ck, .slice ac nc cc] 33)) (fun _ _ x => x))
   have hbb := hxF.size
   have HXF := Lib.hid hxF
   clear hown hx hxF
   generalize (wx.alloc (.cells #[.int .i64 (m : Int), .int .i64 (S.w : Int), .slice ag (nw S.w) cg, .int .i64 (S.w : Int), .slice ak (nw S.w) ck, .slice ac nc cc] 33)) = wf at *
   generalize wx.heap.size = B6 at *
   have cF := cellOf HF.out
   go_wp2_with (at_builtin; (refine wpList_app _ rfl (.tmp 46) (.tmp 49) 45 rfl V.heap.size 3 i0 _ 1 8 Tryd.underlying45 hi0 hz0 hz1 hz2 rfl (by omega) (.slice s1 j t1) j (((natsZ (froms (arcW S k))).take j).map (.int .i64)) rfl (row_keep HOWN.out ((Ext.refl No _).alloc _) (fun _ _ x => x)) No (some ⟨wf.heap.size, 0, none⟩) 1 1 [.int .i64 (m : Int)] rfl (Row.block (alloc_top rfl) rfl no_no (by omega)) (by simp [Value.oneCell']) (by omega) (by omega) ?_ ?_); (first | exact hbb | (simp; omega)); (intro v1 w9 hown1 hg1 hv1); (have hm9 := Lib.hid (own_ext HXF.out hg1 (fun b hb => (World.ownsRow.lt HOWN.out b hb).1) (Nat.le_refl _))); (have ho9 := Lib.hid hown1); (clear hown1 hg1 hv1))
   go_roundw
   case rel => exact ⟨j + 1, HJJ.out, by omega, Lib.hid (by rw [HTK.out]; exact ho9.out), hm9⟩
   case measure => simp [intOf]; omega
  have hge : ¬ (j : Int) < (n : Int) := by omega
  have hjn : j = n := by omega
  have HI := Lib.hid (show Ints No wx .i64 (.slice s1 n t1) (natsZ (froms (arcW S k))) from by
   have h := Row.ofOwns (M := No) hown.out (fun _ _ x => x)
   have e2 := HN.out
   rw [hjn, List.take_of_length_le (by simp [natsZ, froms]; omega)] at h
   have e : (natsZ (froms (arcW S k))).length = n := by simp [natsZ, froms, e2]
   unfold Ints
   rw [e]
   exact h)
  have hadd : IntKind.i64.wrap ((sumW S k : Int) + (n : Int)) = (sumW S (k + 1) : Int) := by rw [IntWalk.i64_in _ (by omega)]; omega
  have HADD := Lib.hid (show Value.int .i64 ((sumW S k : Int) + (n : Int)) = .int .i64 (sumW S (k + 1) : Int) from by rw [show ((sumW S (k + 1) : Nat) : Int) = (sumW S k : Int) + (n : Int) from by omega])
  have hle : ¬ ((1024 : Int) < (sumW S (k + 1) : Int)) := by omega
  have cB := cellOf (hx.out.blk HB.out no_no)
  clear hown
  go_wp2_with fail
  clear cB
  refine (ascending_any _ _ _ _ HI.out).mono ?_
  rintro e3 w3 ⟨b3, rfl, hb3, hx3⟩
  cases b3 with
  | false => exact absurd (asc_row HOK.out hlt) (tells_no hb3)
  | true =>
  clear hb3
  have HX3 := Lib.hid (hx.out.transNo hx3)
  obtain ⟨La, hLa, hLc⟩ := harc.out.extNo HX3.out
  have cB := cellOf (HX3.out.blk HB.out no_no)
  have cB0 := cB 0
  have c0 := Lib.hid (show w3.cell? ⟨W.heap.size, 0, none⟩ = some (.int .i64 (S.w : Int)) from cellOf (HX3.out.blk HB.out no_no) 0)
  clear cB hx3 hx cB0
  go_wp2_with fail
  refine (containsA_any (S.w : Int) W.heap.size _ La _ hLa c0.out).mono ?_
  rintro e4 w4 ⟨b4, rfl, hb4, hx4⟩
  cases b4 with
  | true => exact absurd (tells_yes hb4) (fit_row HOK.out hLc)
  | false =>
  clear hb4
  have HX4 := Lib.hid (HX3.out.transNo hx4)
  clear hx4 hLa hLc
  go_wp2_with fail
  go_roundw
  case rel => exact ⟨k + 1, HKK.out, HADD.out, by omega, HX4⟩
  case measure => simp [intOf]; omega
 have hge : ¬ (k : Int) < (S.ins.length : Int) := by omega
 go_wp2_with fail
 go_ret
 exact ⟨rfl, HX.out.transNo hx.out⟩

/- Merged: H5 H6 -/
import Derived.Test.YtkdjdhflhlbelaaH4
set_option linter.unusedVariables false
set_option linter.unusedSimpArgs false
/- H5 -/
namespace Go.Proofs.Ytkdjdhflhlbelaa
open Go Go.RowKit
set_option maxRecDepth 100000 in
set_option maxHeartbeats 2000000 in
theorem roundsW_any (M : Nat → Prop) (S : SysD) (vb vi : Value) (g : Nat) (W : World) (hM : ∀ b, M b → b < W.heap.size) (hg : W.heap[g]? = some (.cells #[.int .i64 (S.w : Int), vb, vi] 56 (0, 0))) (h : WebAt No W vb vi S) :
  Calls Try.prog 47 #[.int .i64 (S.w : Int), .int .i64 (S.deps.length : Int), .func (.func 72) #[] #[.pointer (some ⟨g, 0, none⟩)]] W (RoundsPost M S W) := by
 have H := Lib.hid h
 have HM := Lib.hid hM
 have HG := Lib.hid hg
 have hok := h.ok
 have hw := hok.w
 have hn := hok.n2
 have HOK := Lib.hid hok
 obtain ⟨R, hR, hRle⟩ := fix_ex hok
 have HR := Lib.hid hR
 have hRb : R ≤ 65536 := Nat.le_trans hRle (Nat.le_trans (Nat.mul_le_mul hn hw) (by decide))
 clear h hM hg hok hR hRle
 go_enter Try.func47, Try.ntmps47
 go_wp2_with fail
 refine (emptyV_any M S.w S.deps.length _ HM.out hw hn).mono ?_
 rintro e1 w1 ⟨a1, c1, rfl, hs1, hx1⟩
 rw [List.length_replicate] at hs1 ⊢
 have HX1 := Lib.hid hx1
 have HS1 := Lib.hid (show SetsV M w1 _ S.w (iterD S 0) from hs1.out)
 clear hs1 hx1
 go_wp2_with fail
 go_at_call 72
 refine (solveW1_any M S _ _ _ (iterD S 0) g _ (fun b hb => Nat.lt_of_lt_of_le (HM.out b hb) HX1.out.size) (HX1.out.blk HG.out no_no) (H.out.extNo HX1.out) HS1.out.no (good_iter HOK.out 0).len).mono ?_
 rintro e2 w2 ⟨a2, c2, rfl, hs2, hx2⟩
 rw [show (nextD S (iterD S 0)).length = S.deps.length from nextTo_len _ _ _] at hs2 ⊢
 have HX2 := Lib.hid (HX1.out.transNo hx2)
 have HS2 := Lib.hid (show SetsV M w2 _ S.w (iterD S 1) from hs2.out)
 have HS12 := Lib.hid (HS1.out.extNo hx2)
 clear hs2 hx2 HS1 HX1
 go_wp2_with fail
 go_loopw [8, 9, 10] (fun s8 s9 s10 wr => ∃ (k : Nat) (a : Option Addr) (c : Nat) (a' : Option Addr) (c' : Nat), s8 = .slice a S.deps.length c ∧ s9 = .slice a' S.deps.length c' ∧ s10 = .int .i64 k ∧ k ≤ R ∧ Hid (SetsV M wr (.slice a S.deps.length c) S.w (iterD S k)) ∧ Hid (SetsV M wr (.slice a' S.deps.length c') S.w (iterD S (k + 1))) ∧ Hid (∀ j, j < k → iterD S (j + 1) ≠ iterD S j) ∧ Hid (Ext No W wr)) (fun _ _ s10 _ => R - (intOf s10).toNat)
 case atStart => exact ⟨0, a1, c1, a2, c2, rfl, rfl, rfl, Nat.zero_le _, HS12, HS2, Lib.hid (fun j hj => absurd hj (Nat.not_lt_zero _)), HX2⟩
 case round =>
  clear HS12 HS2 HX2
  obtain ⟨k, a3, c3, a4, c4, rfl, rfl, rfl, hk, hs3, hs4, hne, hx⟩ := hrel
  rename World => wr
  have hl1 : Hid ((iterD S k).length = (iterD S (k + 1)).length) := Lib.hid (by rw [(good_iter HOK.out k).len, (good_iter HOK.out (k + 1)).len])
  go_wp2_with fail
  refine (fequal_any S.w (iterD S k) (iterD S (k + 1)) _ _ _ hs3.out.no hs4.out.no hl1.out).mono ?_
  rintro e5 w5 ⟨rfl, hx5⟩
  by_cases he : iterD S k = iterD S (k + 1)
  ·rw [decide_eq_true he]
   have HE := Lib.hid he
   clear he
   go_wp2_with fail
   refine ret_ex rfl ?_
   simp [results, Try.results47, go_sem]
   refine ⟨k, a3, c3, ⟨HE.out.symm, hne.out⟩, rfl, Lib.hid (hs3.out.extNo hx5), hx.out.transNo hx5⟩
  ·rw [decide_eq_false he]
   have HE := Lib.hid he
   have hkR : k < R := by
    rcases Nat.lt_or_ge k R with h | h
    ·exact h
    ·exfalso
     have : k = R := by omega
     subst this
     exact he HR.out.fix.symm
   clear he
   have hadd : IntKind.i64.wrap ((k : Int) + 1) = ((k + 1 : Nat) : Int) := by rw [IntWalk.i64_in _ (by omega)]; omega
   go_wp2_with fail
   go_at_call 72
   refine (solveW1_any M S _ _ _ (iterD S (k + 1)) g _ (fun b hb => Nat.lt_of_lt_of_le (HM.out b hb) (hx.out.transNo hx5).size) ((hx.out.transNo hx5).blk HG.out no_no) (H.out.extNo (hx.out.transNo hx5)) (hs4.out.no.extNo hx5) (good_iter HOK.out (k + 1)).len).mono ?_
   rintro e6 w6 ⟨a6, c6, rfl, hs6, hx6⟩
   rw [show (nextD S (iterD S (k + 1))).length = S.deps.length from nextTo_len _ _ _] at hs6 ⊢
   have HS6 := Lib.hid (show SetsV M w6 _ S.w (iterD S (k + 1 + 1)) from hs6.out)
   clear hs6
   go_wp2_with fail
   go_roundw
   case rel => exact ⟨k + 1, a4, c4, a6, c6, rfl, rfl, by go_num, by omega, Lib.hid ((hs4.out.extNo hx5).extNo hx6), HS6, Lib.hid (fun j hj => by
    by_cases e : j = k
    ·subst e; exact fun e2 => HE.out e2.symm
    ·exact hne.out j (by omega)), Lib.hid ((hx.out.transNo hx5).transNo hx6)⟩
   case measure => simp [intOf]; omega
end Go.Proofs.Ytkdjdhflhlbelaa

/- H6 -/
namespace Go.Proofs.Ytkdjdhflhlbelaa
open Go Go.RowKit
theorem infoI6 : (Try.prog.info? 3).map (fun i => (i.zero, i.size, i.bytes)) = some (some (.int .i64 0), 1, 8) := by kernel_rfl
def sumTo (S : SysD) (k : Nat) : Nat := ((S.deps.take k).map List.length).sum
theorem sumTo_succ {S : SysD} {k : Nat} (hk : k < S.deps.length) : sumTo S (k + 1) = sumTo S k + (depD S k).length := by
 unfold sumTo
 rw [List.take_succ_eq_append_getElem hk, List.map_append, List.sum_append]
 simp [depD, hk]
theorem sumTo_le {S : SysD} (hS : SysOk S) (k : Nat) : sumTo S k ≤ 1024 := by
 have h := hS.tot
 have h2 : (S.deps.map List.length).sum = sumTo S k + ((S.deps.drop k).map List.length).sum := by
  unfold sumTo
  rw [← List.sum_append, ← List.map_append, List.take_append_drop]
 omega
theorem asc_dep {S : SysD} (hS : SysOk S) {k : Nat} (hk : k < S.deps.length) : AscL (natsZ (depD S k)) S.deps.length :=
 hS.asc _ (by simp [depD, hk])
theorem fit_arcs {S : SysD} (hS : SysOk S) {L : LA} {i : Nat} (h : L.map cutA = arcsR S i) : ¬ ∃ (k : Nat) (hk : k < L.length), ¬ FitT (S.w : Int) L[k].2.1 := fun ⟨k, hk, e⟩ => e (by
 have h1 : cutA L[k] ∈ arcsR S i := by rw [← h]; exact List.mem_map.2 ⟨_, List.getElem_mem hk, rfl⟩
 obtain ⟨m, hm, he⟩ := List.mem_map.1 h1
 obtain ⟨h2, h3⟩ := hS.tr (hS.dep hm)
 have h4 : L[k].2.1 = rawT (trD S m) := (congrArg Prod.snd he).symm
 rw [h4]
 exact ⟨validT_ok h2, by show (((trD S m).w : Nat) : Int) = _; rw [h3]⟩)
set_option maxRecDepth 100000 in
set_option maxHeartbeats 8000000 in
theorem validWeb_yes (S : SysD) (vb vi : Value) (W : World) (h : WebAt No W vb vi S) :
  Calls Try.prog 71 #[.agg #[.int .i64 (S.w : Int), vb, vi]] W (BoolPost true W) := by
 obtain ⟨i0, hi0, hz0, hz1, hz2⟩ := info_parts infoI6
 have H := Lib.hid h
 obtain ⟨ab, cb, ai, ci, rfl, rfl⟩ := h.slices
 have hok := h.ok
 have HOK := Lib.hid hok
 have hnn := hok.n2
 have hn1 := hok.n1
 have hww := hok.w
 clear h hok
 go_enter Try.func71, Try.ntmps71
 go_wp2_with fail
 have hx0 : Ext No W (W.alloc (.cells #[.int .i64 (S.w : Int), .slice ab S.deps.length cb, .slice ai S.deps.length ci] 56)) := (Ext.refl _ _).alloc _
 have HB := Lib.hid (alloc_top (w := W) (o := .cells #[.int .i64 (S.w : Int), .slice ab S.deps.length cb, .slice ai S.deps.length ci] 56) rfl)
 have HX := Lib.hid hx0
 clear hx0
 generalize (W.alloc (.cells #[.int .i64 (S.w : Int), .slice ab S.deps.length cb, .slice ai S.deps.length ci] 56)) = V at *
 have hVs := lt_of_block HB.out
 refine (sized_any _ _ _).mono ?_
 rintro e1 w1 ⟨b1, rfl, hb1, hx1⟩
 cases b1 with
 | false => exact absurd ⟨by omega, by omega⟩ (tells_no hb1)
 | true =>
 clear hb1
 have HX1 := Lib.hid hx1
 have cB := cellOf (hx1.blk HB.out no_no)
 clear hx1
 go_wp2_with fail
 clear cB
 obtain ⟨Lb, hLb, hLm, hLl⟩ := (H.out.bnd.extNo (HX.out.transNo HX1.out)).list
 refine (sets_any _ _ Lb _ (by rw [HOK.out.lb] at *; exact hLb)).mono ?_
 rintro e2 w2 ⟨b2, rfl, hb2, hx2⟩
 cases b2 with
 | false => exact absurd (set_of_map hLm H.out.bnd.hw H.out.bnd.hm) (tells_no hb2)
 | true =>
 clear hb2 hLb hLm hLl
 have HX2 := Lib.hid (HX1.out.transNo hx2)
 clear hx2 HX1
 have cB := cellOf (HX2.out.blk HB.out no_no)
 go_wp2_with fail
 clear cB
 go_loopw [4, 6, 7, 9, 36] (fun s4 _ _ _ s36 wr => ∃ k : Nat, s36 = .int .i64 k ∧ s4 = .int .i64 (sumTo S k : Int) ∧ k ≤ S.deps.length ∧ Hid (Ext No V wr)) (fun _ _ _ _ s36 _ => S.deps.length - (intOf s36).toNat)
 case atStart => exact ⟨0, rfl, rfl, Nat.zero_le _, HX2⟩
 case round =>
  clear HX2
  obtain ⟨k, rfl, rfl, hk, hx⟩ := hrel
  rename World => wr
  by_cases hlt : k < S.deps.length
  ·have hlz : (k : Int) < (S.deps.length : Int) := by omega
   have HKK : Hid (Value.int .i64 ((k : Int) + 1) = .int .i64 ((k + 1 : Nat) : Int)) := Lib.hid (by rw [show ((k + 1 : Nat) : Int) = (k : Int) + 1 from by omega])
   obtain ⟨bi, oi, ki, aA, cA, hve, ga, harc⟩ := (H.out.extNo HX.out).arcs hlt
   simp only [Value.slice.injEq] at hve
   obtain ⟨rfl, -, rfl⟩ := hve
   obtain ⟨n, hn⟩ : ∃ n, n = (depD S k).length := ⟨_, rfl⟩
   have HN := Lib.hid hn
   rw [← hn] at harc ga
   replace ga := hx.out.keep ga
   have hs1 := sumTo_succ hlt
   rw [← hn] at hs1
   have hs2 := sumTo_le HOK.out (k + 1)
   clear hn
   go_wp2_with fail
   clear ga
   have hbs := hx.out.size
   go_loopw [7, 9, 42] (fun s7 _ i wx => ∃ j : Nat, i = .int .i64 j ∧ j ≤ n ∧ Hid (wx.ownsRow V.heap.size 3 1 s7 j (((natsZ (depD S k)).take j).map (.int .i64))) ∧ Hid (Ext No V wx)) (fun _ _ i _ => n - (intOf i).toNat)
   case atStart => exact ⟨0, rfl, Nat.zero_le _, Lib.hid (by simpa using World.ownsRow_nil _ _ _ _), hx⟩
   case round =>
    clear hx hbs
    obtain ⟨j, rfl, hj, hown, hx⟩ := hrel
    rename World => wx
    obtain ⟨s1, t1, hs7⟩ := (Row.ofOwns (M := No) hown.out (fun _ _ x => x)).slice
    subst hs7
    by_cases hlt2 : j < n
    ·have hjz : (j : Int) < (n : Int) := by omega
     have HJJ : Hid (Value.int .i64 ((j : Int) + 1) = .int .i64 ((j + 1 : Nat) : Int)) := Lib.hid (by rw [show ((j + 1 : Nat) : Int) = (j : Int) + 1 from by omega])
     have hjd : j < (depD S k).length := by have := HN.out; omega
     obtain ⟨m, hmj⟩ : ∃ m, m = (depD S k)[j] := ⟨_, rfl⟩
     have HTK := Lib.hid (show ((natsZ (depD S k)).take (j + 1)).map (Value.int .i64) = ((natsZ (depD S k)).take j).map (Value.int .i64) ++ [.int .i64 (m : Int)] by
      rw [List.take_succ_eq_append_getElem (by simp [natsZ]; exact hjd), List.map_append]
      simp [natsZ, hmj])
     obtain ⟨ba, oa, ka, ag, cg, ak, ck, ac, nc, cc, hve, gt, -, -⟩ := ArcsAt.at HOK.out (harc.out.extNo hx.out) hjd hmj
     simp only [Value.slice.injEq] at hve
     obtain ⟨rfl, -, rfl⟩ := hve
     obtain ⟨q0, q1, q2, q3, q4, q5⟩ := gt
     clear hmj
     go_upto_region 12 with (fail)
     clear q0 q1 q2 q3 q4 q5
     have hxF := hx.out.transNo ((Ext.refl No wx).alloc (.cells #[.int .i64 (m : Int), .int .i64 (S.w : Int), .slice ag (nw S.w) cg, .int .i64 (S.w : Int), .slice ak (nw S.w) ck, .slice ac nc cc] 92))
     have HF := Lib.hid (alloc_top (w := wx) (o := .cells #[.int .i64 (m : Int), .int .i64 (S.w : Int), .slice ag (nw S.w) cg, .int .i64 (S.w : Int), .slice ak (nw S.w) ck, .slice ac nc cc] 92) rfl)
     have HOWN := Lib.hid (row_keep hown.out ((Ext.refl No wx).alloc (.cells #[.int .i64 (m : Int), .int .i64 (S.w : Int), .slice ag (nw S.w) cg, .int .i64 (S.w : Int), .slice ak (nw S.w) ck, .slice ac nc cc] 92)) (fun _ _ x => x))
     have hbb := hxF.size
     have HXF := Lib.hid hxF
     clear hown hx hxF
     generalize (wx.alloc (.cells #[.int .i64 (m : Int), .int .i64 (S.w : Int), .slice ag (nw S.w) cg, .int .i64 (S.w : Int), .slice ak (nw S.w) ck, .slice ac nc cc] 92)) = wf at *
     generalize wx.heap.size = B6 at *
     have cF := cellOf HF.out
     go_wp2_with (at_builtin; (refine wpList_app _ rfl (.tmp 46) (.tmp 49) 22 rfl V.heap.size 3 i0 _ 1 8 Try.underlying22 hi0 hz0 hz1 hz2 rfl (by omega) (.slice s1 j t1) j (((natsZ (depD S k)).take j).map (.int .i64)) rfl (row_keep HOWN.out ((Ext.refl No _).alloc _) (fun _ _ x => x)) No (some ⟨wf.heap.size, 0, none⟩) 1 1 [.int .i64 (m : Int)] rfl (Row.block (alloc_top rfl) rfl no_no (by omega)) (by simp [Value.oneCell']) (by omega) (by omega) ?_ ?_); (first | exact hbb | (simp; omega)); (intro v1 w9 hown1 hg1 hv1); (have hm9 := Lib.hid (own_ext HXF.out hg1 (fun b hb => (World.ownsRow.lt HOWN.out b hb).1) (Nat.le_refl _))); (have ho9 := Lib.hid hown1); (clear hown1 hg1 hv1))
     go_roundw
     case rel => exact ⟨j + 1, HJJ.out, by omega, Lib.hid (by rw [HTK.out]; exact ho9.out), hm9⟩
     case measure => simp [intOf]; omega
    ·have hge : ¬ (j : Int) < (n : Int) := by omega
     have hjn : j = n := by omega
     have HI := Lib.hid (show Ints No wx .i64 (.slice s1 n t1) (natsZ (depD S k)) from by
      have h := Row.ofOwns (M := No) hown.out (fun _ _ x => x)
      have e2 := HN.out
      rw [hjn, List.take_of_length_le (by simp [natsZ]; omega)] at h
      have e : (natsZ (depD S k)).length = n := by simp [natsZ, e2]
      unfold Ints
      rw [e]
      exact h)
     have hadd : IntKind.i64.wrap ((sumTo S k : Int) + (n : Int)) = (sumTo S (k + 1) : Int) := by rw [IntWalk.i64_in _ (by omega)]; omega
     have HADD := Lib.hid (show Value.int .i64 ((sumTo S k : Int) + (n : Int)) = .int .i64 (sumTo S (k + 1) : Int) from by rw [show ((sumTo S (k + 1) : Nat) : Int) = (sumTo S k : Int) + (n : Int) from by omega])
     have hle : ¬ ((1024 : Int) < (sumTo S (k + 1) : Int)) := by omega
     have cB := cellOf (hx.out.blk HB.out no_no)
     clear hown
     go_wp2_with fail
     clear cB
     refine (ascending_any _ _ _ _ HI.out).mono ?_
     rintro e3 w3 ⟨b3, rfl, hb3, hx3⟩
     cases b3 with
     | false => exact absurd (asc_dep HOK.out hlt) (tells_no hb3)
     | true =>
     clear hb3
     have HX3 := Lib.hid (hx.out.transNo hx3)
     obtain ⟨La, hLa, hLc⟩ := harc.out.extNo HX3.out
     have cB := cellOf (HX3.out.blk HB.out no_no)
     have cB0 := cB 0
     have c0 := Lib.hid (show w3.cell? ⟨W.heap.size, 0, none⟩ = some (.int .i64 (S.w : Int)) from cellOf (HX3.out.blk HB.out no_no) 0)
     clear cB hx3 hx cB0
     go_wp2_with fail
     refine (containsA_any (S.w : Int) W.heap.size _ La _ hLa c0.out).mono ?_
     rintro e4 w4 ⟨b4, rfl, hb4, hx4⟩
     cases b4 with
     | true => exact absurd (tells_yes hb4) (fit_arcs HOK.out hLc)
     | false =>
     clear hb4
     have HX4 := Lib.hid (HX3.out.transNo hx4)
     clear hx4 hLa hLc
     go_wp2_with fail
     go_roundw
     case rel => exact ⟨k + 1, HKK.out, HADD.out, by omega, HX4⟩
     case measure => simp [intOf]; omega
  ·have hge : ¬ (k : Int) < (S.deps.length : Int) := by omega
   go_wp2_with fail
   go_ret
   exact ⟨rfl, HX.out.transNo hx.out⟩
end Go.Proofs.Ytkdjdhflhlbelaa

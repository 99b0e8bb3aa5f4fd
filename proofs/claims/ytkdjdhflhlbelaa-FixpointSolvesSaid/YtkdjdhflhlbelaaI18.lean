/- ValidWeb of the reference at the web of a valid system, and at the empty web. -/
import Derived.Test.YtkdjdhflhlbelaaRefB
import Derived.Test.YtkdjdhflhlbelaaTrF
import Derived.Test.YtkdjdhflhlbelaaH6
set_option linter.unusedVariables false
set_option linter.unusedSimpArgs false
namespace Go.Proofs.Ytkdjdhflhlbelaa
open Go Go.RowKit
theorem wasc_ge {l : List Int} {n : Int} (h : AscL l n) : ∀ i (hi : i < l.length), (i : Int) ≤ l[i] := fun i => by
 induction i with
 | zero => exact fun hi => (h 0 hi).1
 | succ i ih =>
  intro hi
  have h1 := ih (by omega)
  have h2 := (h (i + 1) hi).2.2 (by omega)
  simp only [Nat.add_sub_cancel] at h2
  omega
theorem wasc_len {l : List Int} {n : Nat} (h : AscL l n) : l.length ≤ n := by
 rcases Nat.eq_zero_or_pos l.length with e | e
 ·omega
 ·have h1 := wasc_ge h (l.length - 1) (by omega)
  have h2 := (h (l.length - 1) (by omega)).2.1
  omega
theorem asc_nats {d : List Nat} {n : Nat} (h : AscL (natsZ d) n) {j : Nat} (hj : j < d.length) (h0 : 0 < j) : ((d[j - 1]'(by omega) : Nat) : Int) < ((d[j] : Nat) : Int) := by
 have := (h j (by simpa [natsZ] using hj)).2.2 h0
 simpa [natsZ] using this
theorem rvalidWeb_zero (W : World) : Calls Try.prog 99 #[.agg #[.int .i64 0, .slice none 0 0, .slice none 0 0]] W (BoolPost false W) := by
 go_enter Try.func99, Try.ntmps99
 go_wp2_with fail
 go_ret
 exact ⟨rfl, (Ext.refl _ _).alloc _⟩
set_option maxRecDepth 100000 in
set_option maxHeartbeats 8000000 in
theorem rvalidWeb_yes (S : SysD) (vb vi : Value) (W : World) (h : WebAt No W vb vi S) :
  Calls Try.prog 99 #[.agg #[.int .i64 (S.w : Int), vb, vi]] W (BoolPost true W) := by
 have H := Lib.hid h
 obtain ⟨ab, cb, ai, ci, rfl, rfl⟩ := h.slices
 have hok := h.ok
 have HOK := Lib.hid hok
 have hnn := hok.n2
 have hn1 := hok.n1
 have hww := hok.w
 have c1 : ¬ ((S.w : Int) < 0) := by omega
 have c2 : ¬ ((256 : Int) < (S.w : Int)) := by omega
 have c3 : ¬ ((S.deps.length : Int) < 1) := by omega
 have c4 : ¬ ((256 : Int) < (S.deps.length : Int)) := by omega
 clear h hok
 go_enter Try.func99, Try.ntmps99
 go_wp2_with fail
 have HB := Lib.hid (alloc_top (w := W) (o := .cells #[.int .i64 (S.w : Int), .slice ab S.deps.length cb, .slice ai S.deps.length ci] 56) rfl)
 have HX := Lib.hid (show Ext No W (W.alloc (.cells #[.int .i64 (S.w : Int), .slice ab S.deps.length cb, .slice ai S.deps.length ci] 56)) from (Ext.refl _ _).alloc _)
 generalize (W.alloc (.cells #[.int .i64 (S.w : Int), .slice ab S.deps.length cb, .slice ai S.deps.length ci] 56)) = V at *
 go_loopw [4, 5, 6, 7] (fun s4 s5 _ _ wr => ∃ k : Nat, s5 = .int .i64 k ∧ s4 = .int .i64 (sumTo S k : Int) ∧ k ≤ S.deps.length ∧ Hid (Ext No V wr)) (fun _ s5 _ _ _ => S.deps.length - (intOf s5).toNat)
 case atStart => exact ⟨0, rfl, rfl, Nat.zero_le _, Lib.hid (Ext.refl _ _)⟩
 case round =>
  obtain ⟨k, rfl, rfl, hk, hx⟩ := hrel
  rename World => wr
  by_cases hlt : k < S.deps.length
  ·have hlz : (k : Int) < (S.deps.length : Int) := by omega
   have HKK : Hid (Value.int .i64 ((k : Int) + 1) = .int .i64 ((k + 1 : Nat) : Int)) := Lib.hid (by rw [show ((k + 1 : Nat) : Int) = (k : Int) + 1 from by omega])
   obtain ⟨bi, oi, ki, aA, cA, hve, ga, harc⟩ := (H.out.extNo (HX.out.transNo hx.out)).arcs hlt
   simp only [Value.slice.injEq] at hve
   obtain ⟨rfl, -, rfl⟩ := hve
   obtain ⟨bb, ob, kb, aq0, cq0, hve, gb, hset⟩ := ((H.out.extNo (HX.out.transNo hx.out)).bnd).cells (i := k) (by rw [HOK.out.lb]; exact hlt)
   rw [HOK.out.lb] at hve
   simp only [Value.slice.injEq] at hve
   obtain ⟨rfl, -, rfl⟩ := hve
   have hal : (depD S k).length ≤ S.deps.length := by have := wasc_len (asc_dep HOK.out hlt); simpa [natsZ] using this
   obtain ⟨n, hn⟩ : ∃ n, n = (depD S k).length := ⟨_, rfl⟩
   have HN := Lib.hid hn
   rw [← hn] at harc ga hal
   have hal2 : ¬ ((S.deps.length : Int) < (n : Int)) := by omega
   have hs1 := sumTo_succ hlt
   rw [← hn] at hs1
   have hs2 := sumTo_le HOK.out (k + 1)
   have HGA := Lib.hid ga
   have HGB := Lib.hid gb
   have HB2 := Lib.hid (hx.out.blk HB.out no_no)
   have HQ := Lib.hid (validB_set hset.out.hw hset.out.hm)
   clear hn ga gb
   go_upto_region 8 with (fail)
   refine wp_region_held_drew (S := (fun w' => Ext No wr w')) (by kernel_rfl) ?_ (fun hHeld => ?_)
   ·exact (Ext.refl _ _).drew
   refine hTk (i := 0) (v := ?_) rfl (by kernel_rfl) (fun _ _ _ h => h) rfl (fun w hSw => ?_) hHeld ?_
   rotate_left
   ·go_simp; (try with_reducible rfl)
   try simp only [Act.put, nzA, nzB, nzC]
   refine hTk (i := 1) (v := ?_) rfl (by kernel_rfl) (fun _ _ _ h => h) rfl (fun w hSw => ?_) hHeld ?_
   rotate_left
   ·(have hEs : Ext No wr _ := hSw); (have x0 := cellOf (hEs.blk HB2.out no_no)); go_simp; (try with_reducible rfl)
   try simp only [Act.put, nzA, nzB, nzC]
   refine hTk (i := 2) (v := ?_) rfl (by kernel_rfl) (fun _ _ _ h => h) rfl (fun w hSw => ?_) hHeld ?_
   rotate_left
   ·go_simp; (try with_reducible rfl)
   try simp only [Act.put, nzA, nzB, nzC]
   refine hTk (i := 3) (v := ?_) rfl (by kernel_rfl) (fun _ _ _ h => h) rfl (fun w hSw => ?_) hHeld ?_
   rotate_left
   ·go_simp; (try with_reducible rfl)
   try simp only [Act.put, nzA, nzB, nzC]
   refine hTk (i := 4) (v := ?_) rfl (by kernel_rfl) (fun _ _ _ h => h) rfl (fun w hSw => ?_) hHeld ?_
   rotate_left
   ·(have hEs : Ext No wr _ := hSw); (obtain ⟨p0, p1⟩ := HGB.out); (have x0 := hEs.keep p0); (have x1 := hEs.keep p1); go_simp; (try with_reducible rfl)
   try simp only [Act.put, nzA, nzB, nzC]
   refine held_call (i := 5) rfl (by kernel_rfl) rfl (fun K hK => ?_)
   ((have hEx : Ext No wr _ := hHeld); go_simp; (go_at_call 27); (refine (rvalid_any _ (setN S.w (rowD S.bnd k)) _ ⟨_, rfl, (hset.out.extNo hEx).words⟩).mono ?_); (rintro e9 w9 ⟨rfl, hyA⟩); (rw [HQ.out]); go_simp)
   refine hK.out _ _ ?_ (fun hNew => ?_)
   ·exact Ext.transNo (show Ext No wr _ from hHeld) hyA
   clear hK K hHeld
   have hHeld := hNew
   clear hNew
   try simp only [Act.put, nzA, nzB, nzC]
   refine hTk (i := 6) (v := ?_) rfl (by kernel_rfl) (fun _ _ _ h => h) rfl (fun w hSw => ?_) hHeld ?_
   rotate_left
   ·go_simp; (try with_reducible rfl)
   try simp only [Act.put, nzA, nzB, nzC]
   refine hTk (i := 7) (v := ?_) rfl (by kernel_rfl) (fun _ _ _ h => h) rfl (fun w hSw => ?_) hHeld ?_
   rotate_left
   ·go_simp; (try with_reducible rfl)
   try simp only [Act.put, nzA, nzB, nzC]
   refine hTk (i := 8) (v := ?_) rfl (by kernel_rfl) (fun _ _ _ h => h) rfl (fun w hSw => ?_) hHeld ?_
   rotate_left
   ·go_simp; (try with_reducible rfl)
   try simp only [Act.put, nzA, nzB, nzC]
   refine hTk (i := 9) (v := ?_) rfl (by kernel_rfl) (fun _ _ _ h => h) rfl (fun w hSw => ?_) hHeld ?_
   rotate_left
   ·(have hEs : Ext No wr _ := hSw); (have x0 := cellOf (hEs.blk HB2.out no_no)); go_simp; (try with_reducible rfl)
   try simp only [Act.put, nzA, nzB, nzC]
   refine hTk (i := 10) (v := ?_) rfl (by kernel_rfl) (fun _ _ _ h => h) rfl (fun w hSw => ?_) hHeld ?_
   rotate_left
   ·go_simp; (try with_reducible rfl)
   try simp only [Act.put, nzA, nzB, nzC]
   refine hTk (i := 11) (v := ?_) rfl (by kernel_rfl) (fun _ _ _ h => h) rfl (fun w hSw => ?_) hHeld ?_
   rotate_left
   ·go_simp; (try with_reducible rfl)
   try simp only [Act.put, nzA, nzB, nzC]
   refine hTk (i := 12) (v := ?_) rfl (by kernel_rfl) (fun _ _ _ h => h) rfl (fun w hSw => ?_) hHeld ?_
   rotate_left
   ·go_simp; (try with_reducible rfl)
   try simp only [Act.put, nzA, nzB, nzC]
   refine hTk (i := 13) (v := ?_) rfl (by kernel_rfl) (fun _ _ _ h => h) rfl (fun w hSw => ?_) hHeld ?_
   rotate_left
   ·(have hEs : Ext No wr _ := hSw); (obtain ⟨p0, p1⟩ := HGB.out); (have x0 := hEs.keep p0); go_simp; (try with_reducible rfl)
   try simp only [Act.put, nzA, nzB, nzC]
   refine hTk (i := 14) (v := ?_) rfl (by kernel_rfl) (fun _ _ _ h => h) rfl (fun w hSw => ?_) hHeld ?_
   rotate_left
   ·go_simp; (try with_reducible rfl)
   try simp only [Act.put, nzA, nzB, nzC]
   refine hTk (i := 15) (v := ?_) rfl (by kernel_rfl) (fun _ _ _ h => h) rfl (fun w hSw => ?_) hHeld ?_
   rotate_left
   ·(have hEs : Ext No wr _ := hSw); (have x0 := cellOf (hEs.blk HB2.out no_no)); go_simp; (try with_reducible rfl)
   try simp only [Act.put, nzA, nzB, nzC]
   refine hTk (i := 16) (v := ?_) rfl (by kernel_rfl) (fun _ _ _ h => h) rfl (fun w hSw => ?_) hHeld ?_
   rotate_left
   ·go_simp; (try with_reducible rfl)
   try simp only [Act.put, nzA, nzB, nzC]
   refine hTk (i := 17) (v := ?_) rfl (by kernel_rfl) (fun _ _ _ h => h) rfl (fun w hSw => ?_) hHeld ?_
   rotate_left
   ·go_simp; (try with_reducible rfl)
   try simp only [Act.put, nzA, nzB, nzC]
   refine hTk (i := 18) (v := ?_) rfl (by kernel_rfl) (fun _ _ _ h => h) rfl (fun w hSw => ?_) hHeld ?_
   rotate_left
   ·go_simp; (try with_reducible rfl)
   try simp only [Act.put, nzA, nzB, nzC]
   refine hTk (i := 19) (v := ?_) rfl (by kernel_rfl) (fun _ _ _ h => h) rfl (fun w hSw => ?_) hHeld ?_
   rotate_left
   ·go_simp; (try with_reducible rfl)
   try simp only [Act.put, nzA, nzB, nzC]
   refine hTk (i := 20) (v := ?_) rfl (by kernel_rfl) (fun _ _ _ h => h) rfl (fun w hSw => ?_) hHeld ?_
   rotate_left
   ·(have hEs : Ext No wr _ := hSw); (have x0 := cellOf (hEs.blk HB2.out no_no)); go_simp; (try with_reducible rfl)
   try simp only [Act.put, nzA, nzB, nzC]
   refine hTk (i := 21) (v := ?_) rfl (by kernel_rfl) (fun _ _ _ h => h) rfl (fun w hSw => ?_) hHeld ?_
   rotate_left
   ·go_simp; (try with_reducible rfl)
   try simp only [Act.put, nzA, nzB, nzC]
   refine hTk (i := 22) (v := ?_) rfl (by kernel_rfl) (fun _ _ _ h => h) rfl (fun w hSw => ?_) hHeld ?_
   rotate_left
   ·go_simp; (try with_reducible rfl)
   try simp only [Act.put, nzA, nzB, nzC]
   refine hTk (i := 23) (v := ?_) rfl (by kernel_rfl) (fun _ _ _ h => h) rfl (fun w hSw => ?_) hHeld ?_
   rotate_left
   ·(have hEs : Ext No wr _ := hSw); (have x0 := hEs.keep HGA.out); go_simp; (try with_reducible rfl)
   try simp only [Act.put, nzA, nzB, nzC]
   refine hTk (i := 24) (v := ?_) rfl (by kernel_rfl) (fun _ _ _ h => h) rfl (fun w hSw => ?_) hHeld ?_
   rotate_left
   ·go_simp; (try with_reducible rfl)
   try simp only [Act.put, nzA, nzB, nzC]
   refine hTk (i := 25) (v := ?_) rfl (by kernel_rfl) (fun _ _ _ h => h) rfl (fun w hSw => ?_) hHeld ?_
   rotate_left
   ·go_simp; (try with_reducible rfl)
   try simp only [Act.put, nzA, nzB, nzC]
   refine hTk (i := 26) (v := ?_) rfl (by kernel_rfl) (fun _ _ _ h => h) rfl (fun w hSw => ?_) hHeld ?_
   rotate_left
   ·go_simp; (try with_reducible rfl)
   try simp only [Act.put, nzA, nzB, nzC]
   refine hTk (i := 27) (v := ?_) rfl (by kernel_rfl) (fun _ _ _ h => h) rfl (fun w hSw => ?_) hHeld ?_
   rotate_left
   ·go_simp; (try with_reducible rfl)
   try simp only [Act.put, nzA, nzB, nzC]
   refine wpAnyH_done (by kernel_rfl) ?_ _
   have hEx : Ext No wr _ := hHeld
   have HXY := Lib.hid (hx.out.transNo hEx)
   have harc2 := Lib.hid (harc.out.extNo hEx)
   have HGA2 := Lib.hid (hEx.keep HGA.out)
   have HB3 := Lib.hid (hEx.blk HB2.out no_no)
   go_wp2_with fail
   clear hEx hHeld HGA HGB HB2 harc hx HQ hset
   go_loopw [6, 7] (fun i _ wx => ∃ j : Nat, i = .int .i64 j ∧ j ≤ n ∧ Hid (Ext No V wx) ∧ Hid (ArcsAt No wx (.slice aA n cA) S k) ∧ Hid (wx.cell? ⟨bi, oi + k, none⟩ = some (.slice aA n cA)) ∧ Hid (wx.heap[W.heap.size]? = some (.cells #[.int .i64 (S.w : Int), .slice (some ⟨bb, ob, none⟩) S.deps.length cb, .slice (some ⟨bi, oi, none⟩) S.deps.length ci] 56 (0, 0)))) (fun i _ _ => n - (intOf i).toNat)
   case atStart => exact ⟨0, rfl, Nat.zero_le _, HXY, harc2, HGA2, HB3⟩
   case round =>
    clear HXY harc2 HGA2 HB3
    obtain ⟨j, rfl, hj, hx, harc, hga, hB⟩ := hrel
    rename World => wx
    have cB := cellOf hB.out
    have ga := hga.out
    by_cases hlt2 : j < n
    ·have hjz : (j : Int) < (n : Int) := by omega
     have HJJ : Hid (Value.int .i64 ((j : Int) + 1) = .int .i64 ((j + 1 : Nat) : Int)) := Lib.hid (by rw [show ((j + 1 : Nat) : Int) = (j : Int) + 1 from by omega])
     have hjd : j < (depD S k).length := by have := HN.out; omega
     obtain ⟨m, hmj⟩ : ∃ m, m = (depD S k)[j] := ⟨_, rfl⟩
     have hmd : m < S.deps.length := HOK.out.dep (i := k) (by rw [hmj]; exact List.getElem_mem hjd)
     have hm0 : ¬ ((m : Int) < 0) := by omega
     have hm1 : ¬ ((S.deps.length : Int) ≤ (m : Int)) := by omega
     obtain ⟨ba, oa, ka, ag, cg, ak, ck, ac, nc, cc, hve, gt, htr, htw⟩ := ArcsAt.at HOK.out harc.out hjd hmj
     simp only [Value.slice.injEq] at hve
     obtain ⟨rfl, -, rfl⟩ := hve
     have HGT := Lib.hid gt
     obtain ⟨q0, q1, q2, q3, q4, q5⟩ := gt
     by_cases hj0 : 0 < j
     ·have hj0z : (0 : Int) < (j : Int) := by omega
      obtain ⟨m', hmj'⟩ : ∃ m', m' = (depD S k)[j - 1]'(by omega) := ⟨_, rfl⟩
      have hlm : ¬ ((m : Int) ≤ (m' : Int)) := by have := asc_nats (asc_dep HOK.out hlt) hjd hj0; rw [← hmj, ← hmj'] at this; omega
      obtain ⟨ba', oa', ka', ag', cg', ak', ck', ac', nc', cc', hve, gt', -, -⟩ := ArcsAt.at HOK.out harc.out (by omega) hmj'
      simp only [Value.slice.injEq, Option.some.injEq, Addr.mk.injEq] at hve
      obtain ⟨⟨rfl, rfl, -⟩, -, rfl⟩ := hve
      have HGP := Lib.hid gt'.1
      have hlj : IntKind.i64.wrap ((j : Int) - 1) = ((j - 1 : Nat) : Int) := by rw [IntWalk.i64_in _ (by omega)]; omega
      have hlp : 0 ≤ ((j - 1 : Nat) : Int) := by omega
      have hlq : ((j - 1 : Nat) : Int) < (n : Int) := by omega
      clear gt' hmj hmj'
      go_upto_region 14 with (fail)
      clear q0 q1 q2 q3 q4 q5 cB ga
      have hxF := Lib.hid (show Ext No wx (wx.alloc (.cells #[.int .i64 (m : Int), .int .i64 (S.w : Int), .slice ag (nw S.w) cg, .int .i64 (S.w : Int), .slice ak (nw S.w) ck, .slice ac nc cc] 92)) from (Ext.refl _ _).alloc _)
      have HF := Lib.hid (alloc_top (w := wx) (o := .cells #[.int .i64 (m : Int), .int .i64 (S.w : Int), .slice ag (nw S.w) cg, .int .i64 (S.w : Int), .slice ak (nw S.w) ck, .slice ac nc cc] 92) rfl)
      have htr1 := Lib.hid (htr.out.extNo hxF.out)
      have HGAF := Lib.hid (hxF.out.keep hga.out)
      have HBF := Lib.hid (hxF.out.blk hB.out no_no)
      have HGPF := Lib.hid (hxF.out.keep HGP.out)
      generalize (wx.alloc (.cells #[.int .i64 (m : Int), .int .i64 (S.w : Int), .slice ag (nw S.w) cg, .int .i64 (S.w : Int), .slice ak (nw S.w) ck, .slice ac nc cc] 92)) = wf at *
      generalize wx.heap.size = B6 at *
      refine wp_region_held_drew (S := (fun w' => Ext No wf w')) (by kernel_rfl) ?_ (fun hHeld => ?_)
      ·exact (Ext.refl _ _).drew
      refine hTk (i := 0) (v := ?_) rfl (by kernel_rfl) (fun _ _ _ h => h) rfl (fun w hSw => ?_) hHeld ?_
      rotate_left
      ·go_simp; (try with_reducible rfl)
      try simp only [Act.put, nzA, nzB, nzC]
      refine hTk (i := 1) (v := ?_) rfl (by kernel_rfl) (fun _ _ _ h => h) rfl (fun w hSw => ?_) hHeld ?_
      rotate_left
      ·(have hEs : Ext No wf _ := hSw); (have x0 := cellOf (hEs.blk HF.out no_no)); go_simp; (try with_reducible rfl)
      try simp only [Act.put, nzA, nzB, nzC]
      refine hTk (i := 2) (v := ?_) rfl (by kernel_rfl) (fun _ _ _ h => h) rfl (fun w hSw => ?_) hHeld ?_
      rotate_left
      ·go_simp; (try with_reducible rfl)
      try simp only [Act.put, nzA, nzB, nzC]
      refine hTk (i := 3) (v := ?_) rfl (by kernel_rfl) (fun _ _ _ h => h) rfl (fun w hSw => ?_) hHeld ?_
      rotate_left
      ·go_simp; (try with_reducible rfl)
      try simp only [Act.put, nzA, nzB, nzC]
      refine hTk (i := 4) (v := ?_) rfl (by kernel_rfl) (fun _ _ _ h => h) rfl (fun w hSw => ?_) hHeld ?_
      rotate_left
      ·go_simp; (try with_reducible rfl)
      try simp only [Act.put, nzA, nzB, nzC]
      refine hTk (i := 5) (v := ?_) rfl (by kernel_rfl) (fun _ _ _ h => h) rfl (fun w hSw => ?_) hHeld ?_
      rotate_left
      ·(have hEs : Ext No wf _ := hSw); (have x0 := cellOf (hEs.blk HF.out no_no)); go_simp; (try with_reducible rfl)
      try simp only [Act.put, nzA, nzB, nzC]
      refine hTk (i := 6) (v := ?_) rfl (by kernel_rfl) (fun _ _ _ h => h) rfl (fun w hSw => ?_) hHeld ?_
      rotate_left
      ·go_simp; (try with_reducible rfl)
      try simp only [Act.put, nzA, nzB, nzC]
      refine hTk (i := 7) (v := ?_) rfl (by kernel_rfl) (fun _ _ _ h => h) rfl (fun w hSw => ?_) hHeld ?_
      rotate_left
      ·go_simp; (try with_reducible rfl)
      try simp only [Act.put, nzA, nzB, nzC]
      refine hTk (i := 8) (v := ?_) rfl (by kernel_rfl) (fun _ _ _ h => h) rfl (fun w hSw => ?_) hHeld ?_
      rotate_left
      ·go_simp; (try with_reducible rfl)
      try simp only [Act.put, nzA, nzB, nzC]
      refine hTk (i := 9) (v := ?_) rfl (by kernel_rfl) (fun _ _ _ h => h) rfl (fun w hSw => ?_) hHeld ?_
      rotate_left
      ·go_simp; (try with_reducible rfl)
      try simp only [Act.put, nzA, nzB, nzC]
      refine hTk (i := 10) (v := ?_) rfl (by kernel_rfl) (fun _ _ _ h => h) rfl (fun w hSw => ?_) hHeld ?_
      rotate_left
      ·go_simp; (try with_reducible rfl)
      try simp only [Act.put, nzA, nzB, nzC]
      refine hTk (i := 11) (v := ?_) rfl (by kernel_rfl) (fun _ _ _ h => h) rfl (fun w hSw => ?_) hHeld ?_
      rotate_left
      ·go_simp; (try with_reducible rfl)
      try simp only [Act.put, nzA, nzB, nzC]
      refine hTk (i := 12) (v := ?_) rfl (by kernel_rfl) (fun _ _ _ h => h) rfl (fun w hSw => ?_) hHeld ?_
      rotate_left
      ·go_simp; (try with_reducible rfl)
      try simp only [Act.put, nzA, nzB, nzC]
      refine hTk (i := 13) (v := ?_) rfl (by kernel_rfl) (fun _ _ _ h => h) rfl (fun w hSw => ?_) hHeld ?_
      rotate_left
      ·go_simp; (try with_reducible rfl)
      try simp only [Act.put, nzA, nzB, nzC]
      refine hTk (i := 14) (v := ?_) rfl (by kernel_rfl) (fun _ _ _ h => h) rfl (fun w hSw => ?_) hHeld ?_
      rotate_left
      ·(have hEs : Ext No wf _ := hSw); (have x0 := cellOf (hEs.blk HBF.out no_no)); go_simp; (try with_reducible rfl)
      try simp only [Act.put, nzA, nzB, nzC]
      refine hTk (i := 15) (v := ?_) rfl (by kernel_rfl) (fun _ _ _ h => h) rfl (fun w hSw => ?_) hHeld ?_
      rotate_left
      ·go_simp; (try with_reducible rfl)
      try simp only [Act.put, nzA, nzB, nzC]
      refine hTk (i := 16) (v := ?_) rfl (by kernel_rfl) (fun _ _ _ h => h) rfl (fun w hSw => ?_) hHeld ?_
      rotate_left
      ·go_simp; (try with_reducible rfl)
      try simp only [Act.put, nzA, nzB, nzC]
      refine hTk (i := 17) (v := ?_) rfl (by kernel_rfl) (fun _ _ _ h => h) rfl (fun w hSw => ?_) hHeld ?_
      rotate_left
      ·(have hEs : Ext No wf _ := hSw); (have x0 := hEs.keep HGAF.out); go_simp; (try with_reducible rfl)
      try simp only [Act.put, nzA, nzB, nzC]
      refine hTk (i := 18) (v := ?_) rfl (by kernel_rfl) (fun _ _ _ h => h) rfl (fun w hSw => ?_) hHeld ?_
      rotate_left
      ·go_simp; (try with_reducible rfl)
      try simp only [Act.put, nzA, nzB, nzC]
      refine hTk (i := 19) (v := ?_) rfl (by kernel_rfl) (fun _ _ _ h => h) rfl (fun w hSw => ?_) hHeld ?_
      rotate_left
      ·go_simp; (try with_reducible rfl)
      try simp only [Act.put, nzA, nzB, nzC]
      refine hTk (i := 20) (v := ?_) rfl (by kernel_rfl) (fun _ _ _ h => h) rfl (fun w hSw => ?_) hHeld ?_
      rotate_left
      ·go_simp; (try with_reducible rfl)
      try simp only [Act.put, nzA, nzB, nzC]
      refine hTk (i := 21) (v := ?_) rfl (by kernel_rfl) (fun _ _ _ h => h) rfl (fun w hSw => ?_) hHeld ?_
      rotate_left
      ·go_simp; (try with_reducible rfl)
      try simp only [Act.put, nzA, nzB, nzC]
      refine hTk (i := 22) (v := ?_) rfl (by kernel_rfl) (fun _ _ _ h => h) rfl (fun w hSw => ?_) hHeld ?_
      rotate_left
      ·(have hEs : Ext No wf _ := hSw); (have x0 := hEs.keep HGPF.out); go_simp; (try with_reducible rfl)
      try simp only [Act.put, nzA, nzB, nzC]
      refine hTk (i := 23) (v := ?_) rfl (by kernel_rfl) (fun _ _ _ h => h) rfl (fun w hSw => ?_) hHeld ?_
      rotate_left
      ·go_simp; (try with_reducible rfl)
      try simp only [Act.put, nzA, nzB, nzC]
      refine hTk (i := 24) (v := ?_) rfl (by kernel_rfl) (fun _ _ _ h => h) rfl (fun w hSw => ?_) hHeld ?_
      rotate_left
      ·(have hEs : Ext No wf _ := hSw); (have x0 := cellOf (hEs.blk HF.out no_no)); go_simp; (try with_reducible rfl)
      try simp only [Act.put, nzA, nzB, nzC]
      refine hTk (i := 25) (v := ?_) rfl (by kernel_rfl) (fun _ _ _ h => h) rfl (fun w hSw => ?_) hHeld ?_
      rotate_left
      ·go_simp; (try with_reducible rfl)
      try simp only [Act.put, nzA, nzB, nzC]
      refine hTk (i := 26) (v := ?_) rfl (by kernel_rfl) (fun _ _ _ h => h) rfl (fun w hSw => ?_) hHeld ?_
      rotate_left
      ·go_simp; (try with_reducible rfl)
      try simp only [Act.put, nzA, nzB, nzC]
      refine hTk (i := 27) (v := ?_) rfl (by kernel_rfl) (fun _ _ _ h => h) rfl (fun w hSw => ?_) hHeld ?_
      rotate_left
      ·go_simp; (try with_reducible rfl)
      try simp only [Act.put, nzA, nzB, nzC]
      refine hTk (i := 28) (v := ?_) rfl (by kernel_rfl) (fun _ _ _ h => h) rfl (fun w hSw => ?_) hHeld ?_
      rotate_left
      ·go_simp; (try with_reducible rfl)
      try simp only [Act.put, nzA, nzB, nzC]
      refine hTk (i := 29) (v := ?_) rfl (by kernel_rfl) (fun _ _ _ h => h) rfl (fun w hSw => ?_) hHeld ?_
      rotate_left
      ·go_simp; (try with_reducible rfl)
      try simp only [Act.put, nzA, nzB, nzC]
      refine hTk (i := 30) (v := ?_) rfl (by kernel_rfl) (fun _ _ _ h => h) rfl (fun w hSw => ?_) hHeld ?_
      rotate_left
      ·(have hEs : Ext No wf _ := hSw); (have x0 := cellOf (hEs.blk HF.out no_no)); go_simp; (try with_reducible rfl)
      try simp only [Act.put, nzA, nzB, nzC]
      refine held_call (i := 31) rfl (by kernel_rfl) rfl (fun K hK => ?_)
      ((have hEx : Ext No wf _ := hHeld); go_simp; (go_at_call 102); (refine (rvalidTr_any (trD S m) S.w _ _ _ _ htw.out (htr1.out.extNo hEx)).mono ?_); (rintro e9 w9 ⟨rfl, hyA⟩); go_simp)
      refine hK.out _ _ ?_ (fun hNew => ?_)
      ·exact Ext.transNo (show Ext No wf _ from hHeld) hyA
      clear hK K hHeld
      have hHeld := hNew
      clear hNew
      try simp only [Act.put, nzA, nzB, nzC]
      refine hTk (i := 32) (v := ?_) rfl (by kernel_rfl) (fun _ _ _ h => h) rfl (fun w hSw => ?_) hHeld ?_
      rotate_left
      ·go_simp; (try with_reducible rfl)
      try simp only [Act.put, nzA, nzB, nzC]
      refine hTk (i := 33) (v := ?_) rfl (by kernel_rfl) (fun _ _ _ h => h) rfl (fun w hSw => ?_) hHeld ?_
      rotate_left
      ·go_simp; (try with_reducible rfl)
      try simp only [Act.put, nzA, nzB, nzC]
      refine hTk (i := 34) (v := ?_) rfl (by kernel_rfl) (fun _ _ _ h => h) rfl (fun w hSw => ?_) hHeld ?_
      rotate_left
      ·go_simp; (try with_reducible rfl)
      try simp only [Act.put, nzA, nzB, nzC]
      refine hTk (i := 35) (v := ?_) rfl (by kernel_rfl) (fun _ _ _ h => h) rfl (fun w hSw => ?_) hHeld ?_
      rotate_left
      ·go_simp; (try with_reducible rfl)
      try simp only [Act.put, nzA, nzB, nzC]
      refine hTk (i := 36) (v := ?_) rfl (by kernel_rfl) (fun _ _ _ h => h) rfl (fun w hSw => ?_) hHeld ?_
      rotate_left
      ·go_simp; (try with_reducible rfl)
      try simp only [Act.put, nzA, nzB, nzC]
      refine hTk (i := 37) (v := ?_) rfl (by kernel_rfl) (fun _ _ _ h => h) rfl (fun w hSw => ?_) hHeld ?_
      rotate_left
      ·go_simp; (try with_reducible rfl)
      try simp only [Act.put, nzA, nzB, nzC]
      refine hTk (i := 38) (v := ?_) rfl (by kernel_rfl) (fun _ _ _ h => h) rfl (fun w hSw => ?_) hHeld ?_
      rotate_left
      ·(have hEs : Ext No wf _ := hSw); (have x0 := cellOf (hEs.blk HF.out no_no)); go_simp; (try with_reducible rfl)
      try simp only [Act.put, nzA, nzB, nzC]
      refine hTk (i := 39) (v := ?_) rfl (by kernel_rfl) (fun _ _ _ h => h) rfl (fun w hSw => ?_) hHeld ?_
      rotate_left
      ·go_simp; (try with_reducible rfl)
      try simp only [Act.put, nzA, nzB, nzC]
      refine hTk (i := 40) (v := ?_) rfl (by kernel_rfl) (fun _ _ _ h => h) rfl (fun w hSw => ?_) hHeld ?_
      rotate_left
      ·(have hEs : Ext No wf _ := hSw); (have x0 := cellOf (hEs.blk HBF.out no_no)); go_simp; (try with_reducible rfl)
      try simp only [Act.put, nzA, nzB, nzC]
      refine hTk (i := 41) (v := ?_) rfl (by kernel_rfl) (fun _ _ _ h => h) rfl (fun w hSw => ?_) hHeld ?_
      rotate_left
      ·go_simp; (try with_reducible rfl)
      try simp only [Act.put, nzA, nzB, nzC]
      refine hTk (i := 42) (v := ?_) rfl (by kernel_rfl) (fun _ _ _ h => h) rfl (fun w hSw => ?_) hHeld ?_
      rotate_left
      ·go_simp; (try with_reducible rfl)
      try simp only [Act.put, nzA, nzB, nzC]
      refine wpAnyH_done (by kernel_rfl) ?_ _
      have hEx : Ext No wf _ := hHeld
      have hxx := Lib.hid (hxF.out.transNo hEx)
      have hx2 := Lib.hid (hx.out.transNo hxx.out)
      have harc2 := Lib.hid (harc.out.extNo hxx.out)
      have hga2 := Lib.hid (hxx.out.keep hga.out)
      have hB2 := Lib.hid (hxx.out.blk hB.out no_no)
      go_wp2_with fail
      go_roundw
      case rel => exact ⟨j + 1, HJJ.out, by omega, hx2, harc2, hga2, hB2⟩
      case measure => simp [intOf]; omega
     ·have hj00 : j = 0 := by omega
      subst hj00
      simp only [Nat.zero_mul, Nat.add_zero] at q0 q1 q2 q3 q4 q5
      clear hmj
      go_upto_region 14 with (fail)
      clear q0 q1 q2 q3 q4 q5 cB ga
      have hxF := Lib.hid (show Ext No wx (wx.alloc (.cells #[.int .i64 (m : Int), .int .i64 (S.w : Int), .slice ag (nw S.w) cg, .int .i64 (S.w : Int), .slice ak (nw S.w) ck, .slice ac nc cc] 92)) from (Ext.refl _ _).alloc _)
      have HF := Lib.hid (alloc_top (w := wx) (o := .cells #[.int .i64 (m : Int), .int .i64 (S.w : Int), .slice ag (nw S.w) cg, .int .i64 (S.w : Int), .slice ak (nw S.w) ck, .slice ac nc cc] 92) rfl)
      have htr1 := Lib.hid (htr.out.extNo hxF.out)
      have HGAF := Lib.hid (hxF.out.keep hga.out)
      have HBF := Lib.hid (hxF.out.blk hB.out no_no)
      generalize (wx.alloc (.cells #[.int .i64 (m : Int), .int .i64 (S.w : Int), .slice ag (nw S.w) cg, .int .i64 (S.w : Int), .slice ak (nw S.w) ck, .slice ac nc cc] 92)) = wf at *
      generalize wx.heap.size = B6 at *
      refine wp_region_held_drew (S := (fun w' => Ext No wf w')) (by kernel_rfl) ?_ (fun hHeld => ?_)
      ·exact (Ext.refl _ _).drew
      refine hTk (i := 0) (v := ?_) rfl (by kernel_rfl) (fun _ _ _ h => h) rfl (fun w hSw => ?_) hHeld ?_
      rotate_left
      ·go_simp; (try with_reducible rfl)
      try simp only [Act.put, nzA, nzB, nzC]
      refine hTk (i := 1) (v := ?_) rfl (by kernel_rfl) (fun _ _ _ h => h) rfl (fun w hSw => ?_) hHeld ?_
      rotate_left
      ·(have hEs : Ext No wf _ := hSw); (have x0 := cellOf (hEs.blk HF.out no_no)); go_simp; (try with_reducible rfl)
      try simp only [Act.put, nzA, nzB, nzC]
      refine hTk (i := 2) (v := ?_) rfl (by kernel_rfl) (fun _ _ _ h => h) rfl (fun w hSw => ?_) hHeld ?_
      rotate_left
      ·go_simp; (try with_reducible rfl)
      try simp only [Act.put, nzA, nzB, nzC]
      refine hTk (i := 3) (v := ?_) rfl (by kernel_rfl) (fun _ _ _ h => h) rfl (fun w hSw => ?_) hHeld ?_
      rotate_left
      ·go_simp; (try with_reducible rfl)
      try simp only [Act.put, nzA, nzB, nzC]
      refine hTk (i := 4) (v := ?_) rfl (by kernel_rfl) (fun _ _ _ h => h) rfl (fun w hSw => ?_) hHeld ?_
      rotate_left
      ·go_simp; (try with_reducible rfl)
      try simp only [Act.put, nzA, nzB, nzC]
      refine hTk (i := 5) (v := ?_) rfl (by kernel_rfl) (fun _ _ _ h => h) rfl (fun w hSw => ?_) hHeld ?_
      rotate_left
      ·(have hEs : Ext No wf _ := hSw); (have x0 := cellOf (hEs.blk HF.out no_no)); go_simp; (try with_reducible rfl)
      try simp only [Act.put, nzA, nzB, nzC]
      refine hTk (i := 6) (v := ?_) rfl (by kernel_rfl) (fun _ _ _ h => h) rfl (fun w hSw => ?_) hHeld ?_
      rotate_left
      ·go_simp; (try with_reducible rfl)
      try simp only [Act.put, nzA, nzB, nzC]
      refine hTk (i := 7) (v := ?_) rfl (by kernel_rfl) (fun _ _ _ h => h) rfl (fun w hSw => ?_) hHeld ?_
      rotate_left
      ·go_simp; (try with_reducible rfl)
      try simp only [Act.put, nzA, nzB, nzC]
      refine hTk (i := 8) (v := ?_) rfl (by kernel_rfl) (fun _ _ _ h => h) rfl (fun w hSw => ?_) hHeld ?_
      rotate_left
      ·go_simp; (try with_reducible rfl)
      try simp only [Act.put, nzA, nzB, nzC]
      refine hTk (i := 9) (v := ?_) rfl (by kernel_rfl) (fun _ _ _ h => h) rfl (fun w hSw => ?_) hHeld ?_
      rotate_left
      ·go_simp; (try with_reducible rfl)
      try simp only [Act.put, nzA, nzB, nzC]
      refine hTk (i := 10) (v := ?_) rfl (by kernel_rfl) (fun _ _ _ h => h) rfl (fun w hSw => ?_) hHeld ?_
      rotate_left
      ·go_simp; (try with_reducible rfl)
      try simp only [Act.put, nzA, nzB, nzC]
      refine hTk (i := 11) (v := ?_) rfl (by kernel_rfl) (fun _ _ _ h => h) rfl (fun w hSw => ?_) hHeld ?_
      rotate_left
      ·go_simp; (try with_reducible rfl)
      try simp only [Act.put, nzA, nzB, nzC]
      refine hTk (i := 12) (v := ?_) rfl (by kernel_rfl) (fun _ _ _ h => h) rfl (fun w hSw => ?_) hHeld ?_
      rotate_left
      ·go_simp; (try with_reducible rfl)
      try simp only [Act.put, nzA, nzB, nzC]
      refine held_skip (i := 13) rfl (by kernel_rfl) (by kernel_rfl) (by kernel_rfl) (fun _ _ _ h => h) rfl hHeld ?_
      try simp only [Act.put, nzA, nzB, nzC]
      refine held_skip (i := 14) rfl (by kernel_rfl) (by kernel_rfl) (by kernel_rfl) (fun _ _ _ h => h) rfl hHeld ?_
      try simp only [Act.put, nzA, nzB, nzC]
      refine held_skip (i := 15) rfl (by kernel_rfl) (by kernel_rfl) (by kernel_rfl) (fun _ _ _ h => h) rfl hHeld ?_
      try simp only [Act.put, nzA, nzB, nzC]
      refine held_skip (i := 16) rfl (by kernel_rfl) (by kernel_rfl) (by kernel_rfl) (fun _ _ _ h => h) rfl hHeld ?_
      try simp only [Act.put, nzA, nzB, nzC]
      refine held_skip (i := 17) rfl (by kernel_rfl) (by kernel_rfl) (by kernel_rfl) (fun _ _ _ h => h) rfl hHeld ?_
      try simp only [Act.put, nzA, nzB, nzC]
      refine held_skip (i := 18) rfl (by kernel_rfl) (by kernel_rfl) (by kernel_rfl) (fun _ _ _ h => h) rfl hHeld ?_
      try simp only [Act.put, nzA, nzB, nzC]
      refine held_skip (i := 19) rfl (by kernel_rfl) (by kernel_rfl) (by kernel_rfl) (fun _ _ _ h => h) rfl hHeld ?_
      try simp only [Act.put, nzA, nzB, nzC]
      refine held_skip (i := 20) rfl (by kernel_rfl) (by kernel_rfl) (by kernel_rfl) (fun _ _ _ h => h) rfl hHeld ?_
      try simp only [Act.put, nzA, nzB, nzC]
      refine held_skip (i := 21) rfl (by kernel_rfl) (by kernel_rfl) (by kernel_rfl) (fun _ _ _ h => h) rfl hHeld ?_
      try simp only [Act.put, nzA, nzB, nzC]
      refine held_skip (i := 22) rfl (by kernel_rfl) (by kernel_rfl) (by kernel_rfl) (fun _ _ _ h => h) rfl hHeld ?_
      try simp only [Act.put, nzA, nzB, nzC]
      refine held_skip (i := 23) rfl (by kernel_rfl) (by kernel_rfl) (by kernel_rfl) (fun _ _ _ h => h) rfl hHeld ?_
      try simp only [Act.put, nzA, nzB, nzC]
      refine held_skip (i := 24) rfl (by kernel_rfl) (by kernel_rfl) (by kernel_rfl) (fun _ _ _ h => h) rfl hHeld ?_
      try simp only [Act.put, nzA, nzB, nzC]
      refine held_skip (i := 25) rfl (by kernel_rfl) (by kernel_rfl) (by kernel_rfl) (fun _ _ _ h => h) rfl hHeld ?_
      try simp only [Act.put, nzA, nzB, nzC]
      refine hTk (i := 26) (v := ?_) rfl (by kernel_rfl) (fun _ _ _ h => h) rfl (fun w hSw => ?_) hHeld ?_
      rotate_left
      ·go_simp; (try with_reducible rfl)
      try simp only [Act.put, nzA, nzB, nzC]
      refine hTk (i := 27) (v := ?_) rfl (by kernel_rfl) (fun _ _ _ h => h) rfl (fun w hSw => ?_) hHeld ?_
      rotate_left
      ·go_simp; (try with_reducible rfl)
      try simp only [Act.put, nzA, nzB, nzC]
      refine hTk (i := 28) (v := ?_) rfl (by kernel_rfl) (fun _ _ _ h => h) rfl (fun w hSw => ?_) hHeld ?_
      rotate_left
      ·go_simp; (try with_reducible rfl)
      try simp only [Act.put, nzA, nzB, nzC]
      refine hTk (i := 29) (v := ?_) rfl (by kernel_rfl) (fun _ _ _ h => h) rfl (fun w hSw => ?_) hHeld ?_
      rotate_left
      ·go_simp; (try with_reducible rfl)
      try simp only [Act.put, nzA, nzB, nzC]
      refine hTk (i := 30) (v := ?_) rfl (by kernel_rfl) (fun _ _ _ h => h) rfl (fun w hSw => ?_) hHeld ?_
      rotate_left
      ·(have hEs : Ext No wf _ := hSw); (have x0 := cellOf (hEs.blk HF.out no_no)); go_simp; (try with_reducible rfl)
      try simp only [Act.put, nzA, nzB, nzC]
      refine held_call (i := 31) rfl (by kernel_rfl) rfl (fun K hK => ?_)
      ((have hEx : Ext No wf _ := hHeld); go_simp; (go_at_call 102); (refine (rvalidTr_any (trD S m) S.w _ _ _ _ htw.out (htr1.out.extNo hEx)).mono ?_); (rintro e9 w9 ⟨rfl, hyA⟩); go_simp)
      refine hK.out _ _ ?_ (fun hNew => ?_)
      ·exact Ext.transNo (show Ext No wf _ from hHeld) hyA
      clear hK K hHeld
      have hHeld := hNew
      clear hNew
      try simp only [Act.put, nzA, nzB, nzC]
      refine hTk (i := 32) (v := ?_) rfl (by kernel_rfl) (fun _ _ _ h => h) rfl (fun w hSw => ?_) hHeld ?_
      rotate_left
      ·go_simp; (try with_reducible rfl)
      try simp only [Act.put, nzA, nzB, nzC]
      refine hTk (i := 33) (v := ?_) rfl (by kernel_rfl) (fun _ _ _ h => h) rfl (fun w hSw => ?_) hHeld ?_
      rotate_left
      ·go_simp; (try with_reducible rfl)
      try simp only [Act.put, nzA, nzB, nzC]
      refine hTk (i := 34) (v := ?_) rfl (by kernel_rfl) (fun _ _ _ h => h) rfl (fun w hSw => ?_) hHeld ?_
      rotate_left
      ·go_simp; (try with_reducible rfl)
      try simp only [Act.put, nzA, nzB, nzC]
      refine hTk (i := 35) (v := ?_) rfl (by kernel_rfl) (fun _ _ _ h => h) rfl (fun w hSw => ?_) hHeld ?_
      rotate_left
      ·go_simp; (try with_reducible rfl)
      try simp only [Act.put, nzA, nzB, nzC]
      refine hTk (i := 36) (v := ?_) rfl (by kernel_rfl) (fun _ _ _ h => h) rfl (fun w hSw => ?_) hHeld ?_
      rotate_left
      ·go_simp; (try with_reducible rfl)
      try simp only [Act.put, nzA, nzB, nzC]
      refine hTk (i := 37) (v := ?_) rfl (by kernel_rfl) (fun _ _ _ h => h) rfl (fun w hSw => ?_) hHeld ?_
      rotate_left
      ·go_simp; (try with_reducible rfl)
      try simp only [Act.put, nzA, nzB, nzC]
      refine hTk (i := 38) (v := ?_) rfl (by kernel_rfl) (fun _ _ _ h => h) rfl (fun w hSw => ?_) hHeld ?_
      rotate_left
      ·(have hEs : Ext No wf _ := hSw); (have x0 := cellOf (hEs.blk HF.out no_no)); go_simp; (try with_reducible rfl)
      try simp only [Act.put, nzA, nzB, nzC]
      refine hTk (i := 39) (v := ?_) rfl (by kernel_rfl) (fun _ _ _ h => h) rfl (fun w hSw => ?_) hHeld ?_
      rotate_left
      ·go_simp; (try with_reducible rfl)
      try simp only [Act.put, nzA, nzB, nzC]
      refine hTk (i := 40) (v := ?_) rfl (by kernel_rfl) (fun _ _ _ h => h) rfl (fun w hSw => ?_) hHeld ?_
      rotate_left
      ·(have hEs : Ext No wf _ := hSw); (have x0 := cellOf (hEs.blk HBF.out no_no)); go_simp; (try with_reducible rfl)
      try simp only [Act.put, nzA, nzB, nzC]
      refine hTk (i := 41) (v := ?_) rfl (by kernel_rfl) (fun _ _ _ h => h) rfl (fun w hSw => ?_) hHeld ?_
      rotate_left
      ·go_simp; (try with_reducible rfl)
      try simp only [Act.put, nzA, nzB, nzC]
      refine hTk (i := 42) (v := ?_) rfl (by kernel_rfl) (fun _ _ _ h => h) rfl (fun w hSw => ?_) hHeld ?_
      rotate_left
      ·go_simp; (try with_reducible rfl)
      try simp only [Act.put, nzA, nzB, nzC]
      refine wpAnyH_done (by kernel_rfl) ?_ _
      have hEx : Ext No wf _ := hHeld
      have hxx := Lib.hid (hxF.out.transNo hEx)
      have hx2 := Lib.hid (hx.out.transNo hxx.out)
      have harc2 := Lib.hid (harc.out.extNo hxx.out)
      have hga2 := Lib.hid (hxx.out.keep hga.out)
      have hB2 := Lib.hid (hxx.out.blk hB.out no_no)
      go_wp2_with fail
      go_roundw
      case rel => exact ⟨1, rfl, by omega, hx2, harc2, hga2, hB2⟩
      case measure => simp [intOf]; omega
    ·have hge : ¬ (j : Int) < (n : Int) := by omega
     have hadd : IntKind.i64.wrap ((sumTo S k : Int) + (n : Int)) = (sumTo S (k + 1) : Int) := by rw [IntWalk.i64_in _ (by omega)]; omega
     have HADD := Lib.hid (show Value.int .i64 ((sumTo S k : Int) + (n : Int)) = .int .i64 (sumTo S (k + 1) : Int) from by rw [show ((sumTo S (k + 1) : Nat) : Int) = (sumTo S k : Int) + (n : Int) from by omega])
     go_wp2_with fail
     go_roundw
     case rel => exact ⟨k + 1, HKK.out, HADD.out, by omega, hx⟩
     case measure => simp [intOf]; omega
  ·have hge : ¬ (k : Int) < (S.deps.length : Int) := by omega
   have hs2 := sumTo_le HOK.out k
   have hs3 : ((sumTo S k : Nat) : Int) ≤ 1024 := by omega
   go_wp2_with fail
   go_ret
   exact ⟨rfl, HX.out.transNo hx.out⟩
end Go.Proofs.Ytkdjdhflhlbelaa

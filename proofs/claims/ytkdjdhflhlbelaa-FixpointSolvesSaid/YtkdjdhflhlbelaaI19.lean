/- SolveWeb of the reference at the web of a valid system; both at the empty web. -/
import Derived.Test.YtkdjdhflhlbelaaI3
import Derived.Test.YtkdjdhflhlbelaaI5
import Derived.Test.YtkdjdhflhlbelaaI18
import Derived.Test.YtkdjdhflhlbelaaI16
import Derived.Test.YtkdjdhflhlbelaaH10
import Derived.Deep.LoopGhost
set_option linter.unusedVariables false
set_option linter.unusedSimpArgs false
namespace Go.Proofs.Ytkdjdhflhlbelaa
open Go Go.RowKit
theorem rSolveWeb_zero (W : World) : Calls Try.prog 55 #[.agg #[.int .i64 0, .slice none 0 0, .slice none 0 0]] W (ErrPost (.slice none 0 0) 1 W) := by
 go_enter Try.func55, Try.ntmps55
 go_wp2_with fail
 refine (rvalidWeb_zero _).mono ?_
 rintro e1 w1 ⟨rfl, hx1⟩
 go_wp2_with fail
 refine ret_ex rfl ?_
 simp [results, Try.results55, go_sem]
 exact ⟨rfl, ((Ext.refl No _).alloc _).transNo hx1⟩
set_option maxHeartbeats 2000000 in
theorem validWeb_zero (W : World) : Calls Try.prog 71 #[.agg #[.int .i64 0, .slice none 0 0, .slice none 0 0]] W (BoolPost false W) := by
 go_enter Try.func71, Try.ntmps71
 go_wp2_with fail
 refine (sized_any _ _ _).mono ?_
 rintro e1 w1 ⟨b1, rfl, hb1, hx1⟩
 cases b1 with
 | true => exact absurd (tells_yes hb1) (by omega)
 | false =>
 clear hb1
 go_wp2_with fail
 go_ret
 exact ⟨rfl, ((Ext.refl No _).alloc _).transNo hx1⟩
theorem solveWeb_zero (W : World) : Calls Try.prog 32 #[.agg #[.int .i64 0, .slice none 0 0, .slice none 0 0]] W (ErrPost (.slice none 0 0) 1 W) := by
 go_enter Try.func32, Try.ntmps32
 go_wp2_with fail
 refine (validWeb_zero _).mono ?_
 rintro e1 w1 ⟨rfl, hx1⟩
 go_wp2_with fail
 refine ret_ex rfl ?_
 simp [results, Try.results32, go_sem]
 exact ⟨rfl, ((Ext.refl No _).alloc _).transNo hx1⟩
set_option maxRecDepth 100000 in
set_option maxHeartbeats 16000000 in
theorem rSolveWeb_any (M : Nat → Prop) (S : SysD) (vb vi : Value) (W : World) (hM : ∀ b, M b → b < W.heap.size) (h : WebAt M W vb vi S) :
  Calls Try.prog 55 #[.agg #[.int .i64 (S.w : Int), vb, vi]] W (SolveWPost M S W) := by
 obtain ⟨i0, hi0, hz0, hz1, hz2⟩ := info_parts infoS
 have H := Lib.hid h
 have HM := Lib.hid hM
 obtain ⟨ab, cb, ai, ci, rfl, rfl⟩ := h.slices
 have hok := h.ok
 have HOK := Lib.hid hok
 have hnn := hok.n2
 have hww := hok.w
 obtain ⟨R, hR, hRle⟩ := fix_ex hok
 have HR := Lib.hid hR
 clear h hM hok hR hRle
 go_enter Try.func55, Try.ntmps55
 go_wp2_with fail
 have hx0 : Ext No W (W.alloc (.cells #[.int .i64 (S.w : Int), .slice ab S.deps.length cb, .slice ai S.deps.length ci] 56)) := (Ext.refl _ _).alloc _
 refine (rvalidWeb_yes S _ _ _ (H.out.no.extNo hx0)).mono ?_
 rintro e1 w1 ⟨rfl, hx1⟩
 have HA := Lib.hid (hx1.blk (alloc_top (w := W) (o := (.cells #[.int .i64 (S.w : Int), .slice ab S.deps.length cb, .slice ai S.deps.length ci] 56)) rfl) no_no)
 have HX := Lib.hid (hx0.transNo hx1)
 clear hx0 hx1
 go_wp2_with fail
 go_loopw [4, 5] (fun s4 i wr => ∃ k : Nat, i = .int .i64 k ∧ k ≤ S.deps.length ∧ Hid (LnM M W wr (W.heap.size + 1) S.w s4 (List.replicate k 0)) ∧ Hid (wr.heap[W.heap.size]? = some (.cells #[.int .i64 (S.w : Int), .slice ab S.deps.length cb, .slice ai S.deps.length ci] 56 (0, 0)))) (fun _ i _ => S.deps.length - (intOf i).toNat)
 case atStart => exact ⟨0, rfl, Nat.zero_le _, Lib.hid ⟨HX.out, ⟨[], LOwn.nil _ _ _ _, rfl⟩, by omega, hww, fun m hm => by cases hm⟩, HA⟩
 case round =>
  clear HX HA
  obtain ⟨k, rfl, hk, hm, hA⟩ := hrel
  rename World => wr
  obtain ⟨a0, c0, hs0⟩ := hm.out.slice
  rw [List.length_replicate] at hs0
  subst hs0
  have cA := cellOf hA.out
  by_cases hlt : k < S.deps.length
  ·have hlz : (k : Int) < (S.deps.length : Int) := by omega
   go_wp2_with (first | ((go_at_call 41); (refine (rempty_any S.w _ hww).mono ?_); (rintro e2 w2 ⟨g, rfl, hb2, hlo2, hx2⟩); (have hs2 := Lib.hid (hb2.out.set (M := fun b => M b ∨ (Value.slice a0 k c0).ownBlock = some b) hww (Nat.two_pow_pos _) (fun e => by have := hm.out.hM HM.out g e; omega))); (have hm2 := Lib.hid (hm.out.step hx2)); (have hA2 := Lib.hid (hx2.blk hA.out no_no)); (obtain ⟨xs, hown, happ⟩ := hm2.out.own (m := 0)); (rw [List.length_replicate] at hown happ); (have HAPP := Lib.hid happ); (have HLT := Lib.hid hm2.out.lt); (have hlw : W.heap.size + 1 ≤ w2.heap.size := lt_of_block hA2.out); (clear cA happ hx2 hb2 hlo2)) | (at_builtin; (refine wpList_app _ rfl (.tmp 22) (.tmp 26) 27 rfl (W.heap.size + 1) 33 i0 _ 2 32 Try.underlying27 hi0 hz0 hz1 hz2 rfl (by omega) (.slice a0 k c0) k xs rfl (row_keep hown ((Ext.refl No _).alloc _) (fun _ _ x => x)) No (some ⟨w2.heap.size, 0, none⟩) 1 1 [.int .i64 (S.w : Int), .slice (some ⟨g, 0, none⟩) (nw S.w) (nw S.w)] rfl (Row.block (alloc_top rfl) rfl no_no (by omega)) (by simp [Value.oneCell']) (by omega) (by omega) (by simp; omega) ?_); (intro v1 w9 hown1 hg1 hv1); (have hm9 := Lib.hid (HAPP.out v1 _ _ _ w9 hs2.out hown1 hg1 hv1 (own_ext hm2.out.ext hg1 (fun b hb => (HLT.out b hb).1) (Nat.le_succ _)))); (have hA9 := Lib.hid (own_blk hA2.out hg1 (fun b hb => (HLT.out b hb).1) (Nat.lt_succ_self _))); (obtain ⟨a9, c9, hs9⟩ := hm9.out.slice); (rw [List.length_append, List.length_replicate] at hs9); (subst hs9); (clear hown1 hg1 hv1 hown)))
   go_roundw
   case rel => exact ⟨k + 1, by go_num, by omega, by rw [List.replicate_succ']; exact hm9, hA9⟩
   case measure => simp [intOf]; omega
  ·have hkk : k = S.deps.length := by omega
   have hge : ¬ (k : Int) < (S.deps.length : Int) := by omega
   subst hkk
   have HS0 := Lib.hid (show SetsV M wr (.slice a0 S.deps.length c0) S.w (iterD S 0) from hm.out.fin HM.out)
   have HX1 := Lib.hid hm.out.ext
   have HB1 := hA
   go_wp2_with fail
   clear hm hA cA
   go_loopg [4] R (fun g s4 wx => ∃ (k : Nat) (a : Option Addr) (c : Nat), s4 = .slice a S.deps.length c ∧ k + g = R ∧ Hid (SetsV M wx (.slice a S.deps.length c) S.w (iterD S k)) ∧ Hid (∀ j, j < k → iterD S (j + 1) ≠ iterD S j) ∧ Hid (Ext No W wx) ∧ Hid (wx.heap[W.heap.size]? = some (.cells #[.int .i64 (S.w : Int), .slice ab S.deps.length cb, .slice ai S.deps.length ci] 56 (0, 0))))
   case atStart => exact ⟨0, a0, c0, rfl, by omega, HS0, Lib.hid (fun j hj => absurd hj (Nat.not_lt_zero _)), HX1, HB1⟩
   case round =>
    clear HS0 HX1 HB1
    obtain ⟨k, a3, c3, rfl, hkg, hs3, hne, hx, hA⟩ := hrel
    have HKG := Lib.hid hkg
    have hHM := Lib.hid (show ∀ b, M b → b < wr.heap.size from fun b hb => Nat.lt_of_lt_of_le (HM.out b hb) hx.out.size)
    obtain ⟨vs, hvs⟩ : ∃ vs, vs = iterD S k := ⟨_, rfl⟩
    have HL := Lib.hid (show vs.length = S.deps.length by rw [hvs]; exact (good_iter HOK.out k).len)
    have HVS := Lib.hid hvs
    rw [← hvs] at hs3
    clear hvs hkg
    go_wp2_with fail
    go_loopw [6, 7, 8, 9, 10, 11] (fun s6 i _ _ _ _ wx => ∃ n : Nat, i = .int .i64 n ∧ n ≤ S.deps.length ∧ Hid (LnM M wr wx wr.heap.size S.w s6 (nextTo S vs n))) (fun _ i _ _ _ _ _ => S.deps.length - (intOf i).toNat)
    case atStart => exact ⟨0, rfl, Nat.zero_le _, Lib.hid ⟨Ext.refl _ _, ⟨[], LOwn.nil _ _ _ _, rfl⟩, Nat.le_refl _, hww, fun m hm => by cases hm⟩⟩
    case round =>
     obtain ⟨n, rfl, hn, hm⟩ := hrel
     rename World => wx
     obtain ⟨a0, c0, hs0⟩ := hm.out.slice
     rw [nextTo_len] at hs0
     subst hs0
     have hA1 := Lib.hid (hm.out.ext.blk hA.out no_no)
     by_cases hlt : n < S.deps.length
     ·have hlz : (n : Int) < (S.deps.length : Int) := by omega
      have HKK : Hid (Value.int .i64 ((n : Int) + 1) = .int .i64 ((n + 1 : Nat) : Int)) := Lib.hid (by rw [show ((n + 1 : Nat) : Int) = (n : Int) + 1 from by omega])
      obtain ⟨bb, ob, kb, aq0, cq0, hve, gb, hset⟩ := (H.out.bnd).cells (i := n) (by rw [HOK.out.lb]; exact hlt)
      rw [HOK.out.lb] at hve
      simp only [Value.slice.injEq] at hve
      obtain ⟨rfl, -, rfl⟩ := hve
      obtain ⟨bi, oi, ki, aA, cA, hve, ga, harc⟩ := H.out.arcs hlt
      simp only [Value.slice.injEq] at hve
      obtain ⟨rfl, -, rfl⟩ := hve
      have HXM := Lib.hid (hx.out.transNo hm.out.ext)
      have HGA := Lib.hid (HXM.out.keep ga)
      obtain ⟨g0, g1⟩ := gb
      replace g0 := HXM.out.keep g0
      replace g1 := HXM.out.keep g1
      have harc1 := Lib.hid (harc.out.extNo HXM.out)
      have HQ := Lib.hid (hm.out.hM hHM.out)
      have hHL := Lib.hid hm.out.lt
      have hWr := hx.out.size
      have hwrx := hm.out.ext.size
      have cA1 := cellOf hA1.out
      go_upto_region 13 with (fail)
      clear cA1 g0 g1 ga
      have hxd : Ext No wx (wx.alloc (.cells #[.int .i64 (S.w : Int), .slice aq0 (nw S.w) cq0] 33)) := (Ext.refl _ _).alloc _
      have hd0 := Lib.hid (show WdM (fun b => M b ∨ (Value.slice a0 n c0).ownBlock = some b) wx (wx.alloc (.cells #[.int .i64 (S.w : Int), .slice aq0 (nw S.w) cq0] 33)) wx.heap.size S.w (rowD S.bnd n) aq0 cq0 from ⟨hxd, alloc_top rfl, ((hset.out.mono (M' := fun b => (fun b => M b ∨ (Value.slice a0 n c0).ownBlock = some b) b ∨ b = wx.heap.size) (fun i hi e => by
       rcases e with (e | e) | e
       ·exact e
       ·exfalso
        have := (hHL.out i e).1
        omega
       ·omega)).extNo HXM.out).extNo hxd, Nat.le_refl _⟩)
      clear hxd hset harc
      generalize (wx.alloc (.cells #[.int .i64 (S.w : Int), .slice aq0 (nw S.w) cq0] 33)) = wq at *
      obtain ⟨D, hDD⟩ : ∃ D, D = wx.heap.size := ⟨_, rfl⟩
      rw [← hDD] at hd0 ⊢
      clear hDD
      obtain ⟨d, hd⟩ : ∃ d, d = (depD S n).length := ⟨_, rfl⟩
      have HD := Lib.hid hd
      rw [← hd] at harc1 HGA
      have hdb : d ≤ 9223372036854775807 := by
       obtain ⟨L0, h0, h1⟩ := harc1.out
       have h2 := h0.row.2.1
       have e := congrArg List.length h1
       simp only [List.length_map, arcsR] at e
       omega
      clear hd
      go_wp2_with fail
      go_loopw [9, 10, 11] (fun i _ _ wz => ∃ (j : Nat) (a : Option Addr) (c : Nat), i = .int .i64 j ∧ j ≤ d ∧ Hid (WdM (fun b => M b ∨ (Value.slice a0 n c0).ownBlock = some b) wx wz D S.w (rightK S vs n j) a c)) (fun i _ _ _ => d - (intOf i).toNat)
      case atStart => exact ⟨0, aq0, cq0, rfl, Nat.zero_le _, hd0⟩
      case round =>
       clear hd0
       obtain ⟨j, a1, c1, rfl, hj, hd⟩ := hrel
       rename World => wz
       have hBz := Lib.hid (hd.out.ext.blk hA1.out no_no)
       have hGz := Lib.hid (hd.out.ext.keep HGA.out)
       have cA := cellOf hBz.out
       have ga := hGz.out
       by_cases hlt2 : j < d
       ·have hjz : (j : Int) < (d : Int) := by omega
        have HJJ : Hid (Value.int .i64 ((j : Int) + 1) = .int .i64 ((j + 1 : Nat) : Int)) := Lib.hid (by rw [show ((j + 1 : Nat) : Int) = (j : Int) + 1 from by omega])
        have hjd : j < (depD S n).length := by have := HD.out; omega
        obtain ⟨m, hmj⟩ : ∃ m, m = (depD S n)[j] := ⟨_, rfl⟩
        have hmd : m < S.deps.length := HOK.out.dep (i := n) (by rw [hmj]; exact List.getElem_mem hjd)
        have HRS := Lib.hid (show rightK S vs n (j + 1) = orN (rightK S vs n j) (applyT (trD S m) (rowD vs m)) by rw [rightK_succ hjd, hmj])
        obtain ⟨ba, oa, ka, ag, cg, ak, ck, ac, nc, cc, hve, gt, htr, htw⟩ := ArcsAt.at HOK.out (harc1.out.extNo hd.out.ext) hjd hmj
        simp only [Value.slice.injEq] at hve
        obtain ⟨rfl, -, rfl⟩ := hve
        obtain ⟨bv, ov, kv, a9, c9, hve, gv, hvs⟩ := ((hs3.out.extNo hm.out.ext).extNo hd.out.ext).cells (i := m) (by rw [HL.out]; exact hmd)
        rw [HL.out] at hve
        simp only [Value.slice.injEq] at hve
        obtain ⟨rfl, -, rfl⟩ := hve
        have HGV := Lib.hid gv
        have HGT := Lib.hid gt
        have hmV : (m : Int) < (S.deps.length : Int) := by omega
        clear gv gt hmj
        go_upto_region 16 with (fail)
        clear cA ga
        go_cut [10, 11] (fun s10 s11 wy => ∃ (E : Nat) (a2 : Option Addr) (c2 : Nat), s10 = .pointer (some ⟨E, 0, none⟩) ∧ Hid (Ext No wz wy) ∧ Hid (wy.heap[E]? = some (.cells #[.int .i64 (S.w : Int), .slice a2 (nw S.w) c2] 33 (0, 0))) ∧ Hid (SetAt No wy (.slice a2 (nw S.w) c2) S.w (applyT (trD S m) (rowD vs m))))
        case first =>
         refine wp_region_held_drew (S := (fun w' => Ext No wz w')) (by kernel_rfl) ?_ (fun hHeld => ?_)
         ·exact (Ext.refl _ _).drew
         generalize wz.drew = v0 at *
         refine hTk (i := 0) (v := ?_) rfl (by kernel_rfl) (fun _ _ _ h => h) rfl (fun w hSw => ?_) hHeld ?_
         rotate_left
         ·go_simp; (try with_reducible rfl)
         try simp only [Act.put, nzA, nzB, nzC]
         refine hTk (i := 1) (v := ?_) rfl (by kernel_rfl) (fun _ _ _ h => h) rfl (fun w hSw => ?_) hHeld ?_
         rotate_left
         ·(have hEs : Ext No wz _ := hSw); (have x0 := cellOf (hEs.blk hBz.out no_no)); go_simp; (try with_reducible rfl)
         try simp only [Act.put, nzA, nzB, nzC]
         refine hTk (i := 2) (v := ?_) rfl (by kernel_rfl) (fun _ _ _ h => h) rfl (fun w hSw => ?_) hHeld ?_
         rotate_left
         ·go_simp; (try with_reducible rfl)
         try simp only [Act.put, nzA, nzB, nzC]
         refine hTk (i := 3) (v := ?_) rfl (by kernel_rfl) (fun _ _ _ h => h) rfl (fun w hSw => ?_) hHeld ?_
         rotate_left
         ·go_simp; (try with_reducible rfl)
         try simp only [Act.put, nzA, nzB, nzC]
         refine hTk (i := 4) (v := ?_) rfl (by kernel_rfl) (fun _ _ _ h => h) rfl (fun w hSw => ?_) hHeld ?_
         rotate_left
         ·(have hEs : Ext No wz _ := hSw); (have x0 := hEs.keep hGz.out); go_simp; (try with_reducible rfl)
         try simp only [Act.put, nzA, nzB, nzC]
         refine hTk (i := 5) (v := ?_) rfl (by kernel_rfl) (fun _ _ _ h => h) rfl (fun w hSw => ?_) hHeld ?_
         rotate_left
         ·go_simp; (try with_reducible rfl)
         try simp only [Act.put, nzA, nzB, nzC]
         refine hTk (i := 6) (v := ?_) rfl (by kernel_rfl) (fun _ _ _ h => h) rfl (fun w hSw => ?_) hHeld ?_
         rotate_left
         ·go_simp; (try with_reducible rfl)
         try simp only [Act.put, nzA, nzB, nzC]
         refine hTk (i := 7) (v := ?_) rfl (by kernel_rfl) (fun _ _ _ h => h) rfl (fun w hSw => ?_) hHeld ?_
         rotate_left
         ·go_simp; (try with_reducible rfl)
         try simp only [Act.put, nzA, nzB, nzC]
         refine hTk (i := 8) (v := ?_) rfl (by kernel_rfl) (fun _ _ _ h => h) rfl (fun w hSw => ?_) hHeld ?_
         rotate_left
         ·(have hEs : Ext No wz _ := hSw); (obtain ⟨p0, p1, p2, p3, p4, p5⟩ := HGT.out); (have x0 := hEs.keep p0); (have x1 := hEs.keep p1); (have x2 := hEs.keep p2); (have x3 := hEs.keep p3); (have x4 := hEs.keep p4); (have x5 := hEs.keep p5); go_simp; (try with_reducible rfl)
         try simp only [Act.put, nzA, nzB, nzC]
         refine hTk (i := 9) (v := ?_) rfl (by kernel_rfl) (fun _ _ _ h => h) rfl (fun w hSw => ?_) hHeld ?_
         rotate_left
         ·go_simp; (try with_reducible rfl)
         try simp only [Act.put, nzA, nzB, nzC]
         refine hTk (i := 10) (v := ?_) rfl (by kernel_rfl) (fun _ _ _ h => h) rfl (fun w hSw => ?_) hHeld ?_
         rotate_left
         ·go_simp; (try with_reducible rfl)
         try simp only [Act.put, nzA, nzB, nzC]
         refine hTk (i := 11) (v := ?_) rfl (by kernel_rfl) (fun _ _ _ h => h) rfl (fun w hSw => ?_) hHeld ?_
         rotate_left
         ·(have hEs : Ext No wz _ := hSw); (have x0 := cellOf (hEs.blk hBz.out no_no)); go_simp; (try with_reducible rfl)
         try simp only [Act.put, nzA, nzB, nzC]
         refine hTk (i := 12) (v := ?_) rfl (by kernel_rfl) (fun _ _ _ h => h) rfl (fun w hSw => ?_) hHeld ?_
         rotate_left
         ·go_simp; (try with_reducible rfl)
         try simp only [Act.put, nzA, nzB, nzC]
         refine hTk (i := 13) (v := ?_) rfl (by kernel_rfl) (fun _ _ _ h => h) rfl (fun w hSw => ?_) hHeld ?_
         rotate_left
         ·go_simp; (try with_reducible rfl)
         try simp only [Act.put, nzA, nzB, nzC]
         refine hTk (i := 14) (v := ?_) rfl (by kernel_rfl) (fun _ _ _ h => h) rfl (fun w hSw => ?_) hHeld ?_
         rotate_left
         ·(have hEs : Ext No wz _ := hSw); (have x0 := hEs.keep hGz.out); go_simp; (try with_reducible rfl)
         try simp only [Act.put, nzA, nzB, nzC]
         refine hTk (i := 15) (v := ?_) rfl (by kernel_rfl) (fun _ _ _ h => h) rfl (fun w hSw => ?_) hHeld ?_
         rotate_left
         ·go_simp; (try with_reducible rfl)
         try simp only [Act.put, nzA, nzB, nzC]
         refine hTk (i := 16) (v := ?_) rfl (by kernel_rfl) (fun _ _ _ h => h) rfl (fun w hSw => ?_) hHeld ?_
         rotate_left
         ·go_simp; (try with_reducible rfl)
         try simp only [Act.put, nzA, nzB, nzC]
         refine hTk (i := 17) (v := ?_) rfl (by kernel_rfl) (fun _ _ _ h => h) rfl (fun w hSw => ?_) hHeld ?_
         rotate_left
         ·go_simp; (try with_reducible rfl)
         try simp only [Act.put, nzA, nzB, nzC]
         refine hTk (i := 18) (v := ?_) rfl (by kernel_rfl) (fun _ _ _ h => h) rfl (fun w hSw => ?_) hHeld ?_
         rotate_left
         ·(have hEs : Ext No wz _ := hSw); (obtain ⟨p0, p1, p2, p3, p4, p5⟩ := HGT.out); (have x0 := hEs.keep p0); (have x1 := hEs.keep p1); (have x2 := hEs.keep p2); (have x3 := hEs.keep p3); (have x4 := hEs.keep p4); (have x5 := hEs.keep p5); go_simp; (try with_reducible rfl)
         try simp only [Act.put, nzA, nzB, nzC]
         refine hTk (i := 19) (v := ?_) rfl (by kernel_rfl) (fun _ _ _ h => h) rfl (fun w hSw => ?_) hHeld ?_
         rotate_left
         ·go_simp; (try with_reducible rfl)
         try simp only [Act.put, nzA, nzB, nzC]
         refine hTk (i := 20) (v := ?_) rfl (by kernel_rfl) (fun _ _ _ h => h) rfl (fun w hSw => ?_) hHeld ?_
         rotate_left
         ·(have hEs : Ext No wz _ := hSw); (obtain ⟨p0, p1⟩ := HGV.out); (have x0 := hEs.keep p0); (have x1 := hEs.keep p1); go_simp; (try with_reducible rfl)
         try simp only [Act.put, nzA, nzB, nzC]
         refine held_next2 (i := 21) (j := 25) (by kernel_rfl) (NextOp.mk rfl rfl (fun K hK => ?_)) (NextOp.mk rfl rfl (fun K hK => ?_))
         ·((have hEx : Ext No wz _ := hHeld); go_simp; (go_at_call 100); (refine (rapply_w (fun b => wz.heap.size ≤ b ∧ b < v0.heap.size) (trD S m) S.w (rowD vs m) _ _ _ _ _ htw.out (fun _ e => e.2) ((htr.out.no.mono (M' := (fun b => wz.heap.size ≤ b ∧ b < v0.heap.size)) (fun i hi e => by omega)).extNo hEx) (hvs.out.no.extNo hEx)).mono ?_); (rintro e9 v1 ⟨aq, cq, rfl, hsq, hyA⟩); go_simp)
          refine hK.out _ _ ?_ (fun hNew => ?_)
          ·exact Ext.transNo (show Ext No wz _ from hHeld) hyA
          clear hK K hHeld
          have hHeld := hNew
          clear hNew
          have hS := Lib.hid hsq.out.no
          clear hEx hsq hyA
          try simp only [Act.put, nzA, nzB, nzC]
          refine hTk (i := 22) (v := ?_) rfl (by kernel_rfl) (fun _ _ _ h => h) rfl (fun w hSw => ?_) hHeld ?_
          rotate_left
          ·go_simp; (try with_reducible rfl)
          try simp only [Act.put, nzA, nzB, nzC]
          refine hTk (i := 23) (v := ?_) rfl (by kernel_rfl) (fun _ _ _ h => h) rfl (fun w hSw => ?_) hHeld ?_
          rotate_left
          ·go_simp; (try with_reducible rfl)
          try simp only [Act.put, nzA, nzB, nzC]
          refine hTk (i := 24) (v := ?_) rfl (by kernel_rfl) (fun _ _ _ h => h) rfl (fun w hSw => ?_) hHeld ?_
          rotate_left
          ·go_simp; (try with_reducible rfl)
          try simp only [Act.put, nzA, nzB, nzC]
          refine held_call (i := 25) rfl (by kernel_rfl) rfl (fun K hK => ?_)
          ((have hEV : wz.heap.size ≤ v1.heap.size := (show Ext No wz _ from hHeld).size); go_simp)
          refine hK.out _ _ ?_ (fun hNew => ?_)
          ·exact Ext.alloc (show Ext No wz _ from hHeld) _
          clear hK K hHeld
          have hHeld := hNew
          clear hNew
          have hBE := Lib.hid (alloc_top (w := v1) (o := (.cells #[.int .i64 0, .slice none 0 0] 33)) rfl)
          replace hS := Lib.hid ((hS.out.mono (M' := fun b => b = v1.heap.size) (fun i hi e => by omega)).extNo ((Ext.refl No v1).alloc (.cells #[.int .i64 0, .slice none 0 0] 33)))
          generalize (v1.alloc (.cells #[.int .i64 0, .slice none 0 0] 33)) = v2 at *
          generalize v1.heap.size = E at *
          try simp only [Act.put, nzA, nzB, nzC]
          refine held_call (i := 26) rfl (by kernel_rfl) rfl (fun K hK => ?_)
          ((have cS := cellOf hBE.out); (have fS := freeOf hBE.out); go_simp; (clear cS fS))
          refine hK.out _ _ ?_ (fun hNew => ?_)
          ·exact ext2 (show Ext No wz _ from hHeld) hEV
          clear hK K hHeld
          have hHeld := hNew
          clear hNew
          try simp only [Act.put, nzA, nzB, nzC]
          refine hTk (i := 27) (v := ?_) rfl (by kernel_rfl) (fun _ _ _ h => h) rfl (fun w hSw => ?_) hHeld ?_
          rotate_left
          ·go_simp; (try with_reducible rfl)
          try simp only [Act.put, nzA, nzB, nzC]
          refine wpAnyH_done (by kernel_rfl) ?_ _
          have hEx : Ext No wz _ := hHeld
          go_wp2_with fail
          go_meet
          have hE2 : Ext (At E) v2 _ := ext_two (Ext.refl No v2) E (u0 := .int .i64 (S.w : Int)) (u1 := .slice aq (nw S.w) cq)
          exact ⟨E, aq, cq, rfl, Lib.hid hEx, Lib.hid ((set_same (j := 1) (set_same (j := 0) hBE.out)).trans rfl), Lib.hid (hS.out.ext hE2 (fun i _ e => e)).no⟩
         ·((have hEV : wz.heap.size ≤ v0.heap.size := (show Ext No wz _ from hHeld).size); go_simp)
          refine hK.out _ _ ?_ (fun hNew => ?_)
          ·exact Ext.alloc (show Ext No wz _ from hHeld) _
          clear hK K hHeld
          have hHeld := hNew
          clear hNew
          have hBE := Lib.hid (alloc_top (w := v0) (o := (.cells #[.int .i64 0, .slice none 0 0] 33)) rfl)
          generalize (v0.alloc (.cells #[.int .i64 0, .slice none 0 0] 33)) = v1 at *
          generalize v0.heap.size = E at *
          try simp only [Act.put, nzA, nzB, nzC]
          refine held_call (i := 21) rfl (by kernel_rfl) rfl (fun K hK => ?_)
          ((have hEx : Ext No wz _ := hHeld); go_simp; (go_at_call 100); (refine (rapply_w (fun b => wz.heap.size ≤ b ∧ b < v1.heap.size) (trD S m) S.w (rowD vs m) _ _ _ _ _ htw.out (fun _ e => e.2) ((htr.out.no.mono (M' := (fun b => wz.heap.size ≤ b ∧ b < v1.heap.size)) (fun i hi e => by omega)).extNo hEx) (hvs.out.no.extNo hEx)).mono ?_); (rintro e9 v2 ⟨aq, cq, rfl, hsq, hyA⟩); go_simp)
          refine hK.out _ _ ?_ (fun hNew => ?_)
          ·exact Ext.transNo (show Ext No wz _ from hHeld) hyA
          clear hK K hHeld
          have hHeld := hNew
          clear hNew
          have hS := Lib.hid (hsq.out.mono (M' := fun b => b = E) (fun i hi e => by have := lt_of_block hBE.out; omega))
          replace hBE := Lib.hid (hyA.blk hBE.out no_no)
          clear hEx hsq hyA
          try simp only [Act.put, nzA, nzB, nzC]
          refine hTk (i := 22) (v := ?_) rfl (by kernel_rfl) (fun _ _ _ h => h) rfl (fun w hSw => ?_) hHeld ?_
          rotate_left
          ·go_simp; (try with_reducible rfl)
          try simp only [Act.put, nzA, nzB, nzC]
          refine hTk (i := 23) (v := ?_) rfl (by kernel_rfl) (fun _ _ _ h => h) rfl (fun w hSw => ?_) hHeld ?_
          rotate_left
          ·go_simp; (try with_reducible rfl)
          try simp only [Act.put, nzA, nzB, nzC]
          refine hTk (i := 24) (v := ?_) rfl (by kernel_rfl) (fun _ _ _ h => h) rfl (fun w hSw => ?_) hHeld ?_
          rotate_left
          ·go_simp; (try with_reducible rfl)
          try simp only [Act.put, nzA, nzB, nzC]
          refine held_call (i := 26) rfl (by kernel_rfl) rfl (fun K hK => ?_)
          ((have cS := cellOf hBE.out); (have fS := freeOf hBE.out); go_simp; (clear cS fS))
          refine hK.out _ _ ?_ (fun hNew => ?_)
          ·exact ext2 (show Ext No wz _ from hHeld) hEV
          clear hK K hHeld
          have hHeld := hNew
          clear hNew
          try simp only [Act.put, nzA, nzB, nzC]
          refine hTk (i := 27) (v := ?_) rfl (by kernel_rfl) (fun _ _ _ h => h) rfl (fun w hSw => ?_) hHeld ?_
          rotate_left
          ·go_simp; (try with_reducible rfl)
          try simp only [Act.put, nzA, nzB, nzC]
          refine wpAnyH_done (by kernel_rfl) ?_ _
          have hEx : Ext No wz _ := hHeld
          go_wp2_with fail
          go_meet
          have hE2 : Ext (At E) v2 _ := ext_two (Ext.refl No v2) E (u0 := .int .i64 (S.w : Int)) (u1 := .slice aq (nw S.w) cq)
          exact ⟨E, aq, cq, rfl, Lib.hid hEx, Lib.hid ((set_same (j := 1) (set_same (j := 0) hBE.out)).trans rfl), Lib.hid (hS.out.ext hE2 (fun i _ e => e)).no⟩
        case rest =>
         obtain ⟨E, a2, c2, rfl, hx2, hE, hs2⟩ := hcut
         rename World => wy
         have hd2 := Lib.hid (hd.out.step hx2.out)
         clear hd HGV HGT htr hvs hBz hGz
         have cD := cellOf hd2.out.box
         have cE := cellOf hE.out
         go_wp2_with fail
         clear cD cE
         refine (rjoin_any (fun b => (fun b => M b ∨ (Value.slice a0 n c0).ownBlock = some b) b ∨ b = D) S.w (rightK S vs n j) (applyT (trD S m) (rowD vs m)) _ _ _ (hd2.out.hM HQ.out) hd2.out.set.no hs2.out).mono ?_
         rintro e9 w9 ⟨a5, c5, rfl, hs5, hx9⟩
         have hd3 := Lib.hid (hd2.out.step hx9)
         have hd4 := Lib.hid (hd3.out.put hs5.out)
         have cD := cellOf hd3.out.box
         have fD := freeOf hd3.out.box
         clear hs5 hx9 hd2 hE hs2
         go_wp2_with fail
         clear cD fD
         go_roundw
         case rel => exact ⟨j + 1, a5, c5, HJJ.out, by omega, by rw [HRS.out]; exact hd4⟩
         case measure => simp [intOf]; omega
       ·have hge : ¬ (j : Int) < (d : Int) := by omega
        have hjn : j = d := by omega
        have HRD := Lib.hid (show SetAt (fun b => (fun b => M b ∨ (Value.slice a0 n c0).ownBlock = some b) b ∨ b = D) wz (.slice a1 (nw S.w) c1) S.w (rightD S vs n) by
         have h := hd.out.set
         rw [hjn, HD.out, rightK_all] at h
         exact h)
        clear hjn
        have cD := cellOf hd.out.box
        have hm2 := Lib.hid (hm.out.step hd.out.ext)
        obtain ⟨xs, hown, happ⟩ := hm2.out.own (m := rightD S vs n)
        rw [nextTo_len] at hown happ
        have HAPP := Lib.hid happ
        have HLT := Lib.hid hm2.out.lt
        have hbase : wr.heap.size ≤ wz.heap.size := hm2.out.ext.size
        clear happ
        go_wp2_with (at_builtin; (refine wpList_app _ rfl (.tmp 77) (.tmp 79) 27 rfl wr.heap.size 33 i0 _ 2 32 Try.underlying27 hi0 hz0 hz1 hz2 rfl (by omega) (.slice a0 n c0) n xs rfl (row_keep hown ((Ext.refl No _).alloc _) (fun _ _ x => x)) No (some ⟨wz.heap.size, 0, none⟩) 1 1 [.int .i64 (S.w : Int), .slice a1 (nw S.w) c1] rfl (Row.block (alloc_top rfl) rfl no_no (by omega)) (by simp [Value.oneCell']) (by omega) (by omega) (by simp; omega) ?_); (intro v1 w9 hown1 hg1 hv1); (have hm9 := Lib.hid (HAPP.out v1 a1 c1 _ w9 (HRD.out.mono (fun i _ e => .inl e)) hown1 hg1 hv1 (own_ext hm2.out.ext hg1 (fun b hb => (HLT.out b hb).1) (Nat.le_refl _)))); (obtain ⟨a9, c9, hs9⟩ := hm9.out.slice); (rw [List.length_append, nextTo_len] at hs9); (subst hs9); (clear hown1 hg1 hv1 hown cD))
        go_roundw
        case rel => exact ⟨n + 1, HKK.out, by omega, by rw [nextTo_snoc]; exact hm9⟩
        case measure => simp [intOf]; omega
     ·have hkk : n = S.deps.length := by omega
      have hge : ¬ (n : Int) < (S.deps.length : Int) := by omega
      subst hkk
      have HS4 := Lib.hid (show SetsV M wx (.slice a0 S.deps.length c0) S.w (nextD S vs) from hm.out.fin hHM.out)
      have HS3 := Lib.hid (hs3.out.extNo hm.out.ext)
      have HX4 := Lib.hid (hx.out.transNo hm.out.ext)
      have hl2 : (nextD S vs).length = S.deps.length := nextTo_len _ _ _
      have HL2 := Lib.hid hl2
      clear hm hs3 hx hl2
      go_wp2_with fail
      refine (rsameSets_any S.w (nextD S vs) vs _ _ _ HS4.out.no HS3.out.no (by rw [HL2.out]; omega)).mono ?_
      rintro e5 w5 ⟨rfl, hx5⟩
      by_cases he : nextD S vs = vs
      ·rw [decide_eq_true he]
       have HE := Lib.hid he
       clear he
       go_wp2_with fail
       refine ret_ex rfl ?_
       simp [results, Try.results55, go_sem]
       have hRk : k = R := HR.out.eq hne.out (by have := HE.out; rw [HVS.out] at this; exact this)
       exact ⟨k, a3, c3, by rw [hRk]; exact HR.out, rfl, Lib.hid (by rw [← HVS.out]; exact HS3.out.extNo hx5), HX4.out.transNo hx5⟩
      ·rw [decide_eq_false he]
       have HE := Lib.hid he
       have hkR : k < R := by
        have h1 := HKG.out
        rcases Nat.lt_or_ge k R with h | h
        ·exact h
        ·exfalso
         have : k = R := by omega
         subst this
         exact he (by rw [HVS.out]; exact HR.out.fix)
       clear he
       go_wp2_with fail
       go_roundg (gk - 1)
       case rel => exact ⟨k + 1, a0, c0, rfl, by have := HKG.out; omega, Lib.hid (by have h9 := HS4.out.extNo hx5; rw [HVS.out] at h9; exact h9), Lib.hid (fun j hj => by
        by_cases e : j = k
        ·subst e; intro e2; exact HE.out (by rw [HVS.out]; exact e2)
        ·exact hne.out j (by omega)), Lib.hid (HX4.out.transNo hx5), Lib.hid (hx5.blk hA1.out no_no)⟩
       case measure => have := HKG.out; omega
end Go.Proofs.Ytkdjdhflhlbelaa


import Derived.Test.YtmddchceacmopaaDoorE23
import Derived.Test.YtmddchceacmopaaDoorRefE
set_option linter.unusedVariables false
set_option linter.unusedSimpArgs false
namespace Go.Proofs.YtmddchceacmopaaDoor
open Go Go.RowKit
theorem Ints.slice {M : Nat → Prop} {w : World} {sl : Value} {l : List Int} (h : Ints M w .i64 sl l) : ∃ a c, sl = .slice a l.length c := Row.slice h
theorem Ints.len {M : Nat → Prop} {w : World} {sl : Value} {l : List Int} (h : Ints M w .i64 sl l) : l.length ≤ 9223372036854775807 := by
 exact h.2.1
def UnkP (n : Int) (N : Nat) : Prop := 0 ≤ n ∧ n < (N : Int)
set_option maxHeartbeats 1000000 in
theorem unknown_any (x n : Int) (vb : Value) (a : Option Addr) (N c : Nat) (W : World) :
  Calls Tryd.prog 18 #[.agg #[.int .i64 x, vb, .slice a N c], .int .i64 n] W (Tells (UnkP n N) W) := by
 have hx0 : Ext No W (W.alloc (.cells #[.int .i64 x, vb, .slice a N c] 37)) := (Ext.refl _ _).alloc _
 by_cases h1 : 0 ≤ n
 ·by_cases h2 : n < (N : Int)
  ·go_enter Tryd.func18, Tryd.ntmps18
   go_wp2_with fail
   go_ret
   exact tells_true ⟨h1, h2⟩ hx0
  go_enter Tryd.func18, Tryd.ntmps18
  go_wp2_with fail
  go_ret
  exact tells_false (fun e => by have := e.2; omega) hx0
 go_enter Tryd.func18, Tryd.ntmps18
 go_wp2_with fail
 go_ret
 exact tells_false (fun e => by have := e.1; omega) hx0
def ChkW (x : Nat) (vb vi : Value) (W : World) (e : Ending) (w' : World) : Prop := e = .returned (.tuple #[.agg #[.int .i64 (x : Int), vb, vi], .int .i64 0]) ∧ Ext No W w'
set_option maxRecDepth 100000 in
set_option maxHeartbeats 4000000 in
theorem checked_any (x : Nat) (S : WebD) (vb vi : Value) (W : World) (h : WbAt No W vb vi S) :
  Calls Tryd.prog 20 #[.agg #[.int .i64 (x : Int), vb, vi], .int .i64 0] W (ChkW x vb vi W) := by
 have H := Lib.hid h
 obtain ⟨ab, cb, ai, ci, rfl, rfl⟩ := h.slices
 have HOK := Lib.hid h.ok
 have hnn := h.ok.n2
 clear h
 go_enter Tryd.func20, Tryd.ntmps20
 go_upto_region 2 with (fail)
 have hx0 : Ext No W ((W.alloc (.cells #[.int .i64 (x : Int), .slice ab S.ins.length cb, .slice ai S.ins.length ci] 37)).alloc (.cells #[.int .i64 0, .slice none 0 0, .slice none 0 0] 37)) := ((Ext.refl _ _).alloc _).alloc _
 have HA := Lib.hid (show ((W.alloc (.cells #[.int .i64 (x : Int), .slice ab S.ins.length cb, .slice ai S.ins.length ci] 37)).alloc (.cells #[.int .i64 0, .slice none 0 0, .slice none 0 0] 37)).heap[W.heap.size]? = some (.cells #[.int .i64 (x : Int), .slice ab S.ins.length cb, .slice ai S.ins.length ci] 37 (0, 0)) from alloc_under (alloc_top rfl))
 have HC := Lib.hid (show ((W.alloc (.cells #[.int .i64 (x : Int), .slice ab S.ins.length cb, .slice ai S.ins.length ci] 37)).alloc (.cells #[.int .i64 0, .slice none 0 0, .slice none 0 0] 37)).heap[W.heap.size + 1]? = some (.cells #[.int .i64 0, .slice none 0 0, .slice none 0 0] 37 (0, 0)) from alloc_top (by simp))
 have HX := Lib.hid hx0
 clear hx0
 generalize ((W.alloc (.cells #[.int .i64 (x : Int), .slice ab S.ins.length cb, .slice ai S.ins.length ci] 37)).alloc (.cells #[.int .i64 0, .slice none 0 0, .slice none 0 0] 37)) = V at *
 have cA := cellOf HA.out
 go_wp2_with fail
 clear cA
 go_loopw [6, 8, 12] (fun s6 _ s12 wr => ∃ k : Nat, s12 = .int .i64 k ∧ s6 = .int .i64 (sumW S k : Int) ∧ k ≤ S.ins.length ∧ Hid (Ext No V wr)) (fun _ _ s12 _ => S.ins.length - (intOf s12).toNat)
 case atStart => exact ⟨0, rfl, rfl, Nat.zero_le _, Lib.hid (Ext.refl _ _)⟩
 obtain ⟨k, rfl, rfl, hk, hx⟩ := hrel
 rename World => wr
 by_cases hlt : k < S.ins.length
 ·have hlz : (k : Int) < (S.ins.length : Int) := by omega
  have HKK : Hid (Value.int .i64 ((k : Int) + 1) = .int .i64 ((k + 1 : Nat) : Int)) := Lib.hid (by rw [show ((k + 1 : Nat) : Int) = (k : Int) + 1 from by omega])
  obtain ⟨bi, oi, ki, aA, cA, hve, ga, harc⟩ := (H.out.extNo HX.out).arcs hlt
  simp only [Value.slice.injEq] at hve
  obtain ⟨rfl, -, rfl⟩ := hve
  obtain ⟨n, hn⟩ : ∃ n, n = (arcW S k).length := ⟨_, rfl⟩
  have HN := Lib.hid hn
  rw [← hn] at harc ga
  replace ga := hx.out.keep ga
  have hs1 := sumW_succ hlt
  rw [← hn] at hs1
  have hs2 := sumW_le HOK.out (k + 1)
  have hadd : IntKind.i64.wrap ((sumW S k : Int) + (n : Int)) = (sumW S (k + 1) : Int) := by rw [IntWalk.i64_in _ (by omega)]; omega
  have HADD := Lib.hid (show Value.int .i64 ((sumW S k : Int) + (n : Int)) = .int .i64 (sumW S (k + 1) : Int) from by rw [show ((sumW S (k + 1) : Nat) : Int) = (sumW S k : Int) + (n : Int) from by omega])
  clear hn harc
  go_wp2_with fail
  clear ga
  go_roundw
  case rel => exact ⟨k + 1, HKK.out, by first | exact HADD.out | rfl, by omega, hx⟩
  case measure => simp [intOf]; omega
 have hge : ¬ (k : Int) < (S.ins.length : Int) := by omega
 have hs2 := sumW_le HOK.out k
 have hle : ¬ ((1024 : Int) < (sumW S k : Int)) := by omega
 have hA := hx.out.blk HA.out no_no
 have hC := hx.out.blk HC.out no_no
 have cA := cellOf hA
 have cC := cellOf hC
 have fC := freeOf hC
 have hE3 : Ext (At (W.heap.size + 1)) wr (((wr.setCell ⟨W.heap.size + 1, 0, none⟩ (.int .i64 (x : Int))).setCell ⟨W.heap.size + 1, 1, none⟩ (.slice ab S.ins.length cb)).setCell ⟨W.heap.size + 1, 2, none⟩ (.slice ai S.ins.length ci)) := ext3E _ _ _ _ _
 have hbF := (set_same (j := 2) (u := .slice ai S.ins.length ci) (set_same (j := 1) (u := .slice ab S.ins.length cb) (set_same (j := 0) (u := .int .i64 (x : Int)) hC))).trans rfl
 go_wp2_with fail
 generalize (((wr.setCell ⟨W.heap.size + 1, 0, none⟩ (.int .i64 (x : Int))).setCell ⟨W.heap.size + 1, 1, none⟩ (.slice ab S.ins.length cb)).setCell ⟨W.heap.size + 1, 2, none⟩ (.slice ai S.ins.length ci)) = WF at *
 have cF := cellOf hbF
 refine ret_ex rfl ?_
 simp [results, Tryd.results20, go_sem, cF]
 exact ⟨rfl, (HX.out.transNo hx.out).trans2 hE3 (fun i hi e => by unfold At at e; omega)⟩
end Go.Proofs.YtmddchceacmopaaDoor

namespace Go.Proofs.YtmddchceacmopaaDoor
open Go Go.RowKit
def HA (X : Nat) (vB vC : Value) : Nat → Prop := fun b => b ≤ X ∨ vB.ownBlock = some b ∨ vC.ownBlock = some b
end Go.Proofs.YtmddchceacmopaaDoor

namespace Go.Proofs.YtmddchceacmopaaDoor
open Go Go.RowKit
theorem tells_t {p : Prop} {b : Bool} (h : b = true ↔ p) (hp : p) : b = true := h.2 hp
end Go.Proofs.YtmddchceacmopaaDoor

namespace Go.Proofs.YtmddchceacmopaaDoor
open Go Go.RowKit
def HP (P : Nat → Prop) (vB vC : Value) : Nat → Prop := fun b => P b ∨ vB.ownBlock = some b ∨ vC.ownBlock = some b
end Go.Proofs.YtmddchceacmopaaDoor

namespace Go.Proofs.YtmddchceacmopaaDoor
open Go Go.RowKit
def EWPost (S' : WebD) (W : World) (e : Ending) (w' : World) : Prop := ∃ (vb vi : Value), e = .returned (.tuple #[.agg #[.int .i64 (S'.w : Int), vb, vi], .int .i64 0]) ∧ Hid (WbAt No w' vb vi S') ∧ Ext No W w'
set_option maxRecDepth 100000 in
set_option maxHeartbeats 4000000 in
theorem resolveW_any (S : WebD) (n : Nat) (vb vi : Value) (W : World) (h8 : WebOk8 S) (h : WbAt No W vb vi S) (hT : TabW W) (hn : n < S.ins.length) :
  Calls Tryd.prog 27 #[.agg #[.int .i64 (S.w : Int), vb, vi], .int .i64 (n : Int)] W (EWPost (resolveW S n) W) := by
 have H := Lib.hid h
 have HT := Lib.hid hT
 have H8 := Lib.hid h8
 obtain ⟨ab, cb, ai, ci, rfl, rfl⟩ := h.slices
 clear h hT h8
 go_enter Tryd.func27, Tryd.ntmps27
 go_upto_region 1 with (fail)
 have hx0 : Ext No W ((W.alloc (.cells #[.int .i64 (S.w : Int), .slice ab S.ins.length cb, .slice ai S.ins.length ci] 37)).alloc (.cells #[.int .i64 0, .slice none 0 0, .slice none 0 0] 37)) := ((Ext.refl _ _).alloc _).alloc _
 have HA := Lib.hid (show ((W.alloc (.cells #[.int .i64 (S.w : Int), .slice ab S.ins.length cb, .slice ai S.ins.length ci] 37)).alloc (.cells #[.int .i64 0, .slice none 0 0, .slice none 0 0] 37)).heap[W.heap.size]? = some (.cells #[.int .i64 (S.w : Int), .slice ab S.ins.length cb, .slice ai S.ins.length ci] 37 (0, 0)) from alloc_under (alloc_top rfl))
 have HC := Lib.hid (show ((W.alloc (.cells #[.int .i64 (S.w : Int), .slice ab S.ins.length cb, .slice ai S.ins.length ci] 37)).alloc (.cells #[.int .i64 0, .slice none 0 0, .slice none 0 0] 37)).heap[W.heap.size + 1]? = some (.cells #[.int .i64 0, .slice none 0 0, .slice none 0 0] 37 (0, 0)) from alloc_top (by simp))
 have HX := Lib.hid hx0
 have HVW := Lib.hid (show ((W.alloc (.cells #[.int .i64 (S.w : Int), .slice ab S.ins.length cb, .slice ai S.ins.length ci] 37)).alloc (.cells #[.int .i64 0, .slice none 0 0, .slice none 0 0] 37)).heap.size = W.heap.size + 2 from by simp)
 clear hx0
 generalize ((W.alloc (.cells #[.int .i64 (S.w : Int), .slice ab S.ins.length cb, .slice ai S.ins.length ci] 37)).alloc (.cells #[.int .i64 0, .slice none 0 0, .slice none 0 0] 37)) = V at *
 have cA := cellOf HA.out
 go_wp2_with fail
 refine (wvalid_yes S _ _ _ (H.out.extNo HX.out)).mono ?_
 rintro e1 w1 ⟨rfl, hx1⟩
 clear cA
 have HX1 := Lib.hid hx1
 clear hx1
 have cA := cellOf (HX1.out.blk HA.out no_no)
 go_wp2_with fail
 clear cA
 refine (unknown_any (S.w : Int) (n : Int) _ _ S.ins.length ci _).mono ?_
 rintro e2 w2 ⟨b2, rfl, hb2, hx2⟩
 obtain rfl := tells_t hb2 ⟨by omega, by omega⟩
 clear hb2
 have HX2 := Lib.hid (HX1.out.transNo hx2)
 clear hx2
 have cA := cellOf (HX2.out.blk HA.out no_no)
 go_wp2_with fail
 clear cA
 refine (elclone_any S _ _ _ H8.out (H.out.extNo (HX.out.transNo HX2.out))).mono ?_
 rintro e3 w3 ⟨gB, cB, gI, cI, lim, LB, RL, rfl, hMW, hx3⟩
 have HX3 := Lib.hid (HX2.out.transNo hx3)
 go_upto_region 6 with (fail)
 have HO := Lib.hid (alloc_top (w := w3) (o := .cells #[.int .i64 (S.w : Int), .slice (some ⟨gB, 0, none⟩) S.ins.length cB, .slice (some ⟨gI, 0, none⟩) S.ins.length cI] 37) rfl)
 have hx4 : Ext No w3 (w3.alloc (.cells #[.int .i64 (S.w : Int), .slice (some ⟨gB, 0, none⟩) S.ins.length cB, .slice (some ⟨gI, 0, none⟩) S.ins.length cI] 37)) := (Ext.refl _ _).alloc _
 have HMW := Lib.hid (hMW.out.stepNo hx4)
 have HX4 := Lib.hid (HX3.out.transNo hx4)
 have hlm := hMW.out.x.lh
 have HnO := Lib.hid (show ¬ (OwnB13 (.slice (some ⟨gB, 0, none⟩) S.ins.length cB) (.slice (some ⟨gI, 0, none⟩) S.ins.length cI) RL) w3.heap.size from fun e => by have := (hMW.out.x.own e).2; omega)
 have HT2 := Lib.hid ((HT.out.ext (HX.out.transNo HX2.out)).pos)
 have HT4 := Lib.hid (HT.out.ext (HX.out.transNo HX4.out))
 have HC4 := Lib.hid (HX4.out.blk HC.out no_no)
 have hC2 := lt_of_block (HX2.out.blk HC.out no_no)
 have HnC := Lib.hid (show ¬ (OwnB13 (.slice (some ⟨gB, 0, none⟩) S.ins.length cB) (.slice (some ⟨gI, 0, none⟩) S.ins.length cI) RL) (W.heap.size + 1) from fun e => by have := (hMW.out.x.own e).1; omega)
 have HXX := Lib.hid (HX.out.transNo HX4.out)
 clear HX3 hx3 hx4 hMW
 generalize (w3.alloc (.cells #[.int .i64 (S.w : Int), .slice (some ⟨gB, 0, none⟩) S.ins.length cB, .slice (some ⟨gI, 0, none⟩) S.ins.length cI] 37)) = w4 at *
 generalize w3.heap.size = bO at *
 refine wp_region_heldL [7] (fun w' => Ext (OwnB13 (.slice (some ⟨gB, 0, none⟩) S.ins.length cB) (.slice (some ⟨gI, 0, none⟩) S.ins.length cI) RL) w4 w') (by kernel_rfl) ?_ (fun hHeld => ?_)
 ·exact (Ext.refl _ _).drew
 have HE := Lib.hid (show Ext No w4 w4.drew from (Ext.refl _ _).drew)
 generalize w4.drew = v0 at *
 refine hHs [0, 1] (hHl hHeld ?_)
 clear hHeld
 iterate 2
  refine hHn ?_ (fun w hSw => ?_) ?_
  rotate_left
  ·(have q0 := cellOf ((show Ext (OwnB13 (.slice (some ⟨gB, 0, none⟩) S.ins.length cB) (.slice (some ⟨gI, 0, none⟩) S.ins.length cI) RL) w4 _ from hSw).blk HO.out HnO.out)); go_simp; (try with_reducible rfl)
  simp only [Act.put, nzA, nzB, nzC]
 refine hHe fun hHeld => ?_
 refine hHs [2] (hHl hHeld ?_)
 clear hHeld
 refine hFn ?_ (fun w => ?_) ?_
 rotate_left
 ·go_simp; (try with_reducible rfl)
 simp only [Act.put, nzA, nzB, nzC]
 refine hHe fun hHeld => ?_
 refine heldL_next1 (i := 3) (by kernel_rfl) (NextL.mk rfl rfl (fun K hK => ?_))
 go_simp
 go_at_call 43
 refine (resolve_any S n w2.heap.size lim gB cB gI cI S.ins.length LB RL v0 rfl (HMW.out.stepNo HE.out) (HT4.out.ext HE.out) HT2.out hn).mono ?_
 rintro e1 va ⟨rfl, lim1, LB1, RL1, hMW1, hx5, hown1⟩
 go_simp
 refine hK.out _ _ ?_ ?_
 ·intro _; exact HE.out.ofNo.trans hx5.out
 clear hK K hHeld
 intro hHeld
 replace HE := Lib.hid (HE.out.ofNo.trans hx5.out)
 clear hx5
 try simp only [Act.put, nzA, nzB, nzC]
 refine heldL_next1 (i := 4) (by kernel_rfl) (NextL.mk rfl rfl (fun K hK => ?_))
 go_simp
 go_at_call 20
 refine (checked_any S.w (resolveW S n) _ _ va hMW1.out.at.no).mono ?_
 rintro e2 vb ⟨rfl, hx6⟩
 go_simp
 refine hK.out _ _ ?_ ?_
 ·intro _; exact HE.out.transNo hx6
 clear hK K hHeld
 intro hHeld
 replace hMW1 := Lib.hid (hMW1.out.stepNo hx6)
 replace HE := Lib.hid (HE.out.transNo hx6)
 clear hx6
 have HCb := Lib.hid (HE.out.blk HC4.out HnC.out)
 try simp only [Act.put, nzA, nzB, nzC]
 refine hHs [5, 6] (hHl hHeld ?_)
 clear hHeld
 iterate 2
  refine hFn ?_ (fun w => ?_) ?_
  rotate_left
  ·go_simp; (try with_reducible rfl)
  simp only [Act.put, nzA, nzB, nzC]
 refine hHe fun hHeld => ?_
 refine heldL_next1 (i := 7) (by kernel_rfl) (NextL.mk rfl rfl (fun K hK => ?_))
 ((have cS := cellOf HCb.out); (have fS := freeOf HCb.out); go_simp; (clear cS fS))
 refine hK.out _ _ ?_ ?_
 ·exact fun h => absurd h (by decide)
 clear hK K hHeld
 intro hHeld
 have hE3 : Ext (At (W.heap.size + 1)) vb (((vb.setCell ⟨W.heap.size + 1, 0, none⟩ (.int .i64 (S.w : Int))).setCell ⟨W.heap.size + 1, 1, none⟩ (.slice (some ⟨gB, 0, none⟩) S.ins.length cB)).setCell ⟨W.heap.size + 1, 2, none⟩ (.slice (some ⟨gI, 0, none⟩) S.ins.length cI)) := ext3E _ _ _ _ _
 have hbF := (set_same (j := 2) (u := (.slice (some ⟨gI, 0, none⟩) S.ins.length cI)) (set_same (j := 1) (u := (.slice (some ⟨gB, 0, none⟩) S.ins.length cB)) (set_same (j := 0) (u := .int .i64 (S.w : Int)) HCb.out))).trans rfl
 generalize (((vb.setCell ⟨W.heap.size + 1, 0, none⟩ (.int .i64 (S.w : Int))).setCell ⟨W.heap.size + 1, 1, none⟩ (.slice (some ⟨gB, 0, none⟩) S.ins.length cB)).setCell ⟨W.heap.size + 1, 2, none⟩ (.slice (some ⟨gI, 0, none⟩) S.ins.length cI)) = WF at *
 try simp only [Act.put, nzA, nzB, nzC]
 refine hHs [8] (hHl hHeld ?_)
 clear hHeld
 refine hFn ?_ (fun w => ?_) ?_
 rotate_left
 ·go_simp; (try with_reducible rfl)
 simp only [Act.put, nzA, nzB, nzC]
 refine hHe fun hHeld => ?_
 refine heldL_done (by kernel_rfl) ?_ _
 go_wp2_with fail
 have cF := cellOf hbF
 refine ret_ex rfl ?_
 simp [results, Tryd.results27, go_sem, cF]
 have hVW := HVW.out
 have hs1 := HX1.out.size
 have hs2 := HX2.out.size
 have hok := resolve_ok H8.out hn
 exact ⟨_, _, by rw [hok.2.1], Lib.hid ((hMW1.out.at.ext hE3 (fun i _ e => by unfold At at e; show i < _; omega)).no), (HXX.out.trans2 HE.out (fun i hi e => by have := (HMW.out.x.own e).1; omega)).trans2 hE3 (fun i hi e => by unfold At at e; omega)⟩
set_option maxRecDepth 100000 in
set_option maxHeartbeats 4000000 in
theorem eliminateW_any (S : WebD) (n : Nat) (vb vi : Value) (W : World) (h8 : WebOk8 S) (h : WbAt No W vb vi S) (hT : TabW W) (hn : n < S.ins.length) :
  Calls Tryd.prog 7 #[.agg #[.int .i64 (S.w : Int), vb, vi], .int .i64 (n : Int)] W (EWPost (elimW S n) W) := by
 have H := Lib.hid h
 have HT := Lib.hid hT
 have H8 := Lib.hid h8
 obtain ⟨ab, cb, ai, ci, rfl, rfl⟩ := h.slices
 clear h hT h8
 go_enter Tryd.func7, Tryd.ntmps7
 go_upto_region 1 with (fail)
 have hx0 : Ext No W ((W.alloc (.cells #[.int .i64 (S.w : Int), .slice ab S.ins.length cb, .slice ai S.ins.length ci] 37)).alloc (.cells #[.int .i64 0, .slice none 0 0, .slice none 0 0] 37)) := ((Ext.refl _ _).alloc _).alloc _
 have HA := Lib.hid (show ((W.alloc (.cells #[.int .i64 (S.w : Int), .slice ab S.ins.length cb, .slice ai S.ins.length ci] 37)).alloc (.cells #[.int .i64 0, .slice none 0 0, .slice none 0 0] 37)).heap[W.heap.size]? = some (.cells #[.int .i64 (S.w : Int), .slice ab S.ins.length cb, .slice ai S.ins.length ci] 37 (0, 0)) from alloc_under (alloc_top rfl))
 have HC := Lib.hid (show ((W.alloc (.cells #[.int .i64 (S.w : Int), .slice ab S.ins.length cb, .slice ai S.ins.length ci] 37)).alloc (.cells #[.int .i64 0, .slice none 0 0, .slice none 0 0] 37)).heap[W.heap.size + 1]? = some (.cells #[.int .i64 0, .slice none 0 0, .slice none 0 0] 37 (0, 0)) from alloc_top (by simp))
 have HX := Lib.hid hx0
 have HVW := Lib.hid (show ((W.alloc (.cells #[.int .i64 (S.w : Int), .slice ab S.ins.length cb, .slice ai S.ins.length ci] 37)).alloc (.cells #[.int .i64 0, .slice none 0 0, .slice none 0 0] 37)).heap.size = W.heap.size + 2 from by simp)
 clear hx0
 generalize ((W.alloc (.cells #[.int .i64 (S.w : Int), .slice ab S.ins.length cb, .slice ai S.ins.length ci] 37)).alloc (.cells #[.int .i64 0, .slice none 0 0, .slice none 0 0] 37)) = V at *
 have cA := cellOf HA.out
 go_wp2_with fail
 refine (wvalid_yes S _ _ _ (H.out.extNo HX.out)).mono ?_
 rintro e1 w1 ⟨rfl, hx1⟩
 clear cA
 have HX1 := Lib.hid hx1
 clear hx1
 have cA := cellOf (HX1.out.blk HA.out no_no)
 go_wp2_with fail
 clear cA
 refine (unknown_any (S.w : Int) (n : Int) _ _ S.ins.length ci _).mono ?_
 rintro e2 w2 ⟨b2, rfl, hb2, hx2⟩
 obtain rfl := tells_t hb2 ⟨by omega, by omega⟩
 clear hb2
 have HX2 := Lib.hid (HX1.out.transNo hx2)
 clear hx2
 have cA := cellOf (HX2.out.blk HA.out no_no)
 go_wp2_with fail
 clear cA
 refine (elclone_any S _ _ _ H8.out (H.out.extNo (HX.out.transNo HX2.out))).mono ?_
 rintro e3 w3 ⟨gB, cB, gI, cI, lim, LB, RL, rfl, hMW, hx3⟩
 have HX3 := Lib.hid (HX2.out.transNo hx3)
 go_upto_region 6 with (fail)
 have HO := Lib.hid (alloc_top (w := w3) (o := .cells #[.int .i64 (S.w : Int), .slice (some ⟨gB, 0, none⟩) S.ins.length cB, .slice (some ⟨gI, 0, none⟩) S.ins.length cI] 37) rfl)
 have hx4 : Ext No w3 (w3.alloc (.cells #[.int .i64 (S.w : Int), .slice (some ⟨gB, 0, none⟩) S.ins.length cB, .slice (some ⟨gI, 0, none⟩) S.ins.length cI] 37)) := (Ext.refl _ _).alloc _
 have HMW := Lib.hid (hMW.out.stepNo hx4)
 have HX4 := Lib.hid (HX3.out.transNo hx4)
 have hlm := hMW.out.x.lh
 have HnO := Lib.hid (show ¬ (OwnB13 (.slice (some ⟨gB, 0, none⟩) S.ins.length cB) (.slice (some ⟨gI, 0, none⟩) S.ins.length cI) RL) w3.heap.size from fun e => by have := (hMW.out.x.own e).2; omega)
 have HT2 := Lib.hid ((HT.out.ext (HX.out.transNo HX2.out)).pos)
 have HT4 := Lib.hid (HT.out.ext (HX.out.transNo HX4.out))
 have HC4 := Lib.hid (HX4.out.blk HC.out no_no)
 have hC2 := lt_of_block (HX2.out.blk HC.out no_no)
 have HnC := Lib.hid (show ¬ (OwnB13 (.slice (some ⟨gB, 0, none⟩) S.ins.length cB) (.slice (some ⟨gI, 0, none⟩) S.ins.length cI) RL) (W.heap.size + 1) from fun e => by have := (hMW.out.x.own e).1; omega)
 have HXX := Lib.hid (HX.out.transNo HX4.out)
 clear HX3 hx3 hx4 hMW
 generalize (w3.alloc (.cells #[.int .i64 (S.w : Int), .slice (some ⟨gB, 0, none⟩) S.ins.length cB, .slice (some ⟨gI, 0, none⟩) S.ins.length cI] 37)) = w4 at *
 generalize w3.heap.size = bO at *
 refine wp_region_heldL [7] (fun w' => Ext (OwnB13 (.slice (some ⟨gB, 0, none⟩) S.ins.length cB) (.slice (some ⟨gI, 0, none⟩) S.ins.length cI) RL) w4 w') (by kernel_rfl) ?_ (fun hHeld => ?_)
 ·exact (Ext.refl _ _).drew
 have HE := Lib.hid (show Ext No w4 w4.drew from (Ext.refl _ _).drew)
 generalize w4.drew = v0 at *
 refine hHs [0, 1] (hHl hHeld ?_)
 clear hHeld
 iterate 2
  refine hHn ?_ (fun w hSw => ?_) ?_
  rotate_left
  ·(have q0 := cellOf ((show Ext (OwnB13 (.slice (some ⟨gB, 0, none⟩) S.ins.length cB) (.slice (some ⟨gI, 0, none⟩) S.ins.length cI) RL) w4 _ from hSw).blk HO.out HnO.out)); go_simp; (try with_reducible rfl)
  simp only [Act.put, nzA, nzB, nzC]
 refine hHe fun hHeld => ?_
 refine hHs [2] (hHl hHeld ?_)
 clear hHeld
 refine hFn ?_ (fun w => ?_) ?_
 rotate_left
 ·go_simp; (try with_reducible rfl)
 simp only [Act.put, nzA, nzB, nzC]
 refine hHe fun hHeld => ?_
 refine heldL_next1 (i := 3) (by kernel_rfl) (NextL.mk rfl rfl (fun K hK => ?_))
 go_simp
 go_at_call 21
 refine (eliminate_any S n w2.heap.size lim gB cB gI cI S.ins.length LB RL v0 rfl (HMW.out.stepNo HE.out) (HT4.out.ext HE.out) HT2.out hn).mono ?_
 rintro e1 va ⟨rfl, lim1, LB1, RL1, hMW1, hx5, hown1⟩
 go_simp
 refine hK.out _ _ ?_ ?_
 ·intro _; exact HE.out.ofNo.trans hx5.out
 clear hK K hHeld
 intro hHeld
 replace HE := Lib.hid (HE.out.ofNo.trans hx5.out)
 clear hx5
 try simp only [Act.put, nzA, nzB, nzC]
 refine heldL_next1 (i := 4) (by kernel_rfl) (NextL.mk rfl rfl (fun K hK => ?_))
 go_simp
 go_at_call 20
 refine (checked_any S.w (elimW S n) _ _ va hMW1.out.at.no).mono ?_
 rintro e2 vb ⟨rfl, hx6⟩
 go_simp
 refine hK.out _ _ ?_ ?_
 ·intro _; exact HE.out.transNo hx6
 clear hK K hHeld
 intro hHeld
 replace hMW1 := Lib.hid (hMW1.out.stepNo hx6)
 replace HE := Lib.hid (HE.out.transNo hx6)
 clear hx6
 have HCb := Lib.hid (HE.out.blk HC4.out HnC.out)
 try simp only [Act.put, nzA, nzB, nzC]
 refine hHs [5, 6] (hHl hHeld ?_)
 clear hHeld
 iterate 2
  refine hFn ?_ (fun w => ?_) ?_
  rotate_left
  ·go_simp; (try with_reducible rfl)
  simp only [Act.put, nzA, nzB, nzC]
 refine hHe fun hHeld => ?_
 refine heldL_next1 (i := 7) (by kernel_rfl) (NextL.mk rfl rfl (fun K hK => ?_))
 ((have cS := cellOf HCb.out); (have fS := freeOf HCb.out); go_simp; (clear cS fS))
 refine hK.out _ _ ?_ ?_
 ·exact fun h => absurd h (by decide)
 clear hK K hHeld
 intro hHeld
 have hE3 : Ext (At (W.heap.size + 1)) vb (((vb.setCell ⟨W.heap.size + 1, 0, none⟩ (.int .i64 (S.w : Int))).setCell ⟨W.heap.size + 1, 1, none⟩ (.slice (some ⟨gB, 0, none⟩) S.ins.length cB)).setCell ⟨W.heap.size + 1, 2, none⟩ (.slice (some ⟨gI, 0, none⟩) S.ins.length cI)) := ext3E _ _ _ _ _
 have hbF := (set_same (j := 2) (u := (.slice (some ⟨gI, 0, none⟩) S.ins.length cI)) (set_same (j := 1) (u := (.slice (some ⟨gB, 0, none⟩) S.ins.length cB)) (set_same (j := 0) (u := .int .i64 (S.w : Int)) HCb.out))).trans rfl
 generalize (((vb.setCell ⟨W.heap.size + 1, 0, none⟩ (.int .i64 (S.w : Int))).setCell ⟨W.heap.size + 1, 1, none⟩ (.slice (some ⟨gB, 0, none⟩) S.ins.length cB)).setCell ⟨W.heap.size + 1, 2, none⟩ (.slice (some ⟨gI, 0, none⟩) S.ins.length cI)) = WF at *
 try simp only [Act.put, nzA, nzB, nzC]
 refine hHs [8] (hHl hHeld ?_)
 clear hHeld
 refine hFn ?_ (fun w => ?_) ?_
 rotate_left
 ·go_simp; (try with_reducible rfl)
 simp only [Act.put, nzA, nzB, nzC]
 refine hHe fun hHeld => ?_
 refine heldL_done (by kernel_rfl) ?_ _
 go_wp2_with fail
 have cF := cellOf hbF
 refine ret_ex rfl ?_
 simp [results, Tryd.results7, go_sem, cF]
 have hVW := HVW.out
 have hs1 := HX1.out.size
 have hs2 := HX2.out.size
 have hok := elim_ok H8.out hn
 exact ⟨_, _, by rw [hok.2.1], Lib.hid ((hMW1.out.at.ext hE3 (fun i _ e => by unfold At at e; show i < _; omega)).no), (HXX.out.trans2 HE.out (fun i hi e => by have := (HMW.out.x.own e).1; omega)).trans2 hE3 (fun i hi e => by unfold At at e; omega)⟩


import Derived.Test.YtmddchceacmopaaGreatDoorE23
set_option linter.unusedVariables false
set_option linter.unusedSimpArgs false
namespace Go.Proofs.YtmddchceacmopaaGreatDoor
open Go Go.RowKit
theorem Ints.slice {M : Nat → Prop} {w : World} {sl : Value} {l : List Int} (h : Ints M w .i64 sl l) : ∃ a c, sl = .slice a l.length c := Row.slice h
theorem Ints.len {M : Nat → Prop} {w : World} {sl : Value} {l : List Int} (h : Ints M w .i64 sl l) : l.length ≤ 9223372036854775807 := by
 exact h.2.1
def UnkP (n : Int) (N : Nat) : Prop := 0 ≤ n ∧ n < (N : Int)
set_option maxHeartbeats 1000000 in
theorem unknown_any (x n : Int) (vb : Value) (a : Option Addr) (N c : Nat) (W : World) :
  Calls Tryz.prog 45 #[.agg #[.int .i64 x, vb, .slice a N c], .int .i64 n] W (Tells (UnkP n N) W) := by
 have hx0 : Ext No W (W.alloc (.cells #[.int .i64 x, vb, .slice a N c] 26)) := (Ext.refl _ _).alloc _
 by_cases h1 : 0 ≤ n
 ·by_cases h2 : n < (N : Int)
  ·go_enter Tryz.func45, Tryz.ntmps45
   go_wp2_with fail
   go_ret
   exact tells_true ⟨h1, h2⟩ hx0
  go_enter Tryz.func45, Tryz.ntmps45
  go_wp2_with fail
  go_ret
  exact tells_false (fun e => by have := e.2; omega) hx0
 go_enter Tryz.func45, Tryz.ntmps45
 go_wp2_with fail
 go_ret
 exact tells_false (fun e => by have := e.1; omega) hx0
def ChkW (x : Nat) (vb vi : Value) (W : World) (e : Ending) (w' : World) : Prop := e = .returned (.tuple #[.agg #[.int .i64 (x : Int), vb, vi], .int .i64 0]) ∧ Ext No W w'
set_option maxRecDepth 100000 in
set_option maxHeartbeats 4000000 in
theorem checked_any (x : Nat) (S : WebD) (vb vi : Value) (W : World) (h : WbAt No W vb vi S) :
  Calls Tryz.prog 48 #[.agg #[.int .i64 (x : Int), vb, vi], .int .i64 0] W (ChkW x vb vi W) := by
 have H := Lib.hid h
 obtain ⟨ab, cb, ai, ci, rfl, rfl⟩ := h.slices
 have HOK := Lib.hid h.ok
 have hnn := h.ok.n2
 clear h
 go_enter Tryz.func48, Tryz.ntmps48
 go_upto_region 2 with (fail)
 have hx0 : Ext No W ((W.alloc (.cells #[.int .i64 (x : Int), .slice ab S.ins.length cb, .slice ai S.ins.length ci] 26)).alloc (.cells #[.int .i64 0, .slice none 0 0, .slice none 0 0] 26)) := ((Ext.refl _ _).alloc _).alloc _
 have HA := Lib.hid (show ((W.alloc (.cells #[.int .i64 (x : Int), .slice ab S.ins.length cb, .slice ai S.ins.length ci] 26)).alloc (.cells #[.int .i64 0, .slice none 0 0, .slice none 0 0] 26)).heap[W.heap.size]? = some (.cells #[.int .i64 (x : Int), .slice ab S.ins.length cb, .slice ai S.ins.length ci] 26 (0, 0)) from alloc_under (alloc_top rfl))
 have HC := Lib.hid (show ((W.alloc (.cells #[.int .i64 (x : Int), .slice ab S.ins.length cb, .slice ai S.ins.length ci] 26)).alloc (.cells #[.int .i64 0, .slice none 0 0, .slice none 0 0] 26)).heap[W.heap.size + 1]? = some (.cells #[.int .i64 0, .slice none 0 0, .slice none 0 0] 26 (0, 0)) from alloc_top (by simp))
 have HX := Lib.hid hx0
 clear hx0
 generalize ((W.alloc (.cells #[.int .i64 (x : Int), .slice ab S.ins.length cb, .slice ai S.ins.length ci] 26)).alloc (.cells #[.int .i64 0, .slice none 0 0, .slice none 0 0] 26)) = V at *
 have cA := cellOf HA.out
 go_wp2_with fail
 clear cA
 go_loopw [6, 8, 12] (fun s6 _ s12 wr => ∃ k : Nat, s12 = .int .i64 k ∧ s6 = .int .i64 (sumW S k : Int) ∧ k ≤ S.ins.length ∧ Hid (Ext No V wr)) (fun _ _ s12 _ => S.ins.length - (intOf s12).toNat)
 case atStart => exact ⟨0, rfl, rfl, Nat.zero_le _, Lib.hid (Ext.refl _ _)⟩
 obtain ⟨k, rfl, rfl, hk, hx⟩ := hrel
 rename World => wr
 by_cases hlt : k < S.ins.length
 ·have hlz : (k : Int) < (S.ins.length : Int) := by omega
  have HKK : Hid (Value.int .i64 ((k : Int) + 1) = .int .i64 ((k + 1 : Nat) : Int)) := Lib.hid (by rw [show ((k + 1 : Nat) : Int) = (k : Int) + 1 from by omega])
  obtain ⟨bi, oi, ki, aA, cA, hve, ga, harc⟩ := (H.out.extNo HX.out).arcs hlt
  simp only [Value.slice.injEq] at hve
  obtain ⟨rfl, -, rfl⟩ := hve
  obtain ⟨n, hn⟩ : ∃ n, n = (arcW S k).length := ⟨_, rfl⟩
  have HN := Lib.hid hn
  rw [← hn] at harc ga
  replace ga := hx.out.keep ga
  have hs1 := sumW_succ hlt
  rw [← hn] at hs1
  have hs2 := sumW_le HOK.out (k + 1)
  have hadd : IntKind.i64.wrap ((sumW S k : Int) + (n : Int)) = (sumW S (k + 1) : Int) := by rw [IntWalk.i64_in _ (by omega)]; omega
  have HADD := Lib.hid (show Value.int .i64 ((sumW S k : Int) + (n : Int)) = .int .i64 (sumW S (k + 1) : Int) from by rw [show ((sumW S (k + 1) : Nat) : Int) = (sumW S k : Int) + (n : Int) from by omega])
  clear hn harc
  go_wp2_with fail
  clear ga
  go_roundw
  case rel => exact ⟨k + 1, HKK.out, by first | exact HADD.out | rfl, by omega, hx⟩
  case measure => simp [intOf]; omega
 have hge : ¬ (k : Int) < (S.ins.length : Int) := by omega
 have hs2 := sumW_le HOK.out k
 have hle : ¬ ((1024 : Int) < (sumW S k : Int)) := by omega
 have hA := hx.out.blk HA.out no_no
 have hC := hx.out.blk HC.out no_no
 have cA := cellOf hA
 have cC := cellOf hC
 have fC := freeOf hC
 have hE3 : Ext (At (W.heap.size + 1)) wr (((wr.setCell ⟨W.heap.size + 1, 0, none⟩ (.int .i64 (x : Int))).setCell ⟨W.heap.size + 1, 1, none⟩ (.slice ab S.ins.length cb)).setCell ⟨W.heap.size + 1, 2, none⟩ (.slice ai S.ins.length ci)) := ext3E _ _ _ _ _
 have hbF := (set_same (j := 2) (u := .slice ai S.ins.length ci) (set_same (j := 1) (u := .slice ab S.ins.length cb) (set_same (j := 0) (u := .int .i64 (x : Int)) hC))).trans rfl
 go_wp2_with fail
 generalize (((wr.setCell ⟨W.heap.size + 1, 0, none⟩ (.int .i64 (x : Int))).setCell ⟨W.heap.size + 1, 1, none⟩ (.slice ab S.ins.length cb)).setCell ⟨W.heap.size + 1, 2, none⟩ (.slice ai S.ins.length ci)) = WF at *
 have cF := cellOf hbF
 refine ret_ex rfl ?_
 simp [results, Tryz.results48, go_sem, cF]
 exact ⟨rfl, (HX.out.transNo hx.out).trans2 hE3 (fun i hi e => by unfold At at e; omega)⟩
set_option maxHeartbeats 2000000 in
theorem indexZ_any (n : Int) (sl : Value) (l : List Int) (W : World) (h : Ints No W .i64 sl l) :
  Calls Tryz.prog 82 #[sl, .int .i64 n] W (fun e w' => ∃ z : Int, e = .returned (.int .i64 z) ∧ Hid (0 ≤ z ↔ n ∈ l) ∧ Ext No W w') := by
 have H := Lib.hid h
 obtain ⟨a, cap, rfl⟩ := Ints.slice h
 have hlen := Ints.len h
 clear h
 go_enter Tryz.func82, Tryz.ntmps82
 go_wp2_with fail
 go_loopw [5, 8] (fun _ i wr => ∃ k : Nat, i = .int .i64 k ∧ k ≤ l.length ∧ Hid (Ext No W wr) ∧ Hid (∀ j (hj : j < l.length), j < k → l[j] ≠ n)) (fun _ i _ => l.length - (intOf i).toNat)
 case atStart => exact ⟨0, rfl, Nat.zero_le _, Lib.hid (Ext.refl _ _), Lib.hid (fun j _ hj => absurd hj (Nat.not_lt_zero _))⟩
 obtain ⟨k, rfl, hk, hx, hm⟩ := hrel
 rename World => wr
 by_cases hlt : k < l.length
 ·have hlz : (k : Int) < (l.length : Int) := by omega
  have HKK : Hid (Value.int .i64 ((k : Int) + 1) = .int .i64 ((k + 1 : Nat) : Int)) := Lib.hid (by rw [show ((k + 1 : Nat) : Int) = (k : Int) + 1 from by omega])
  obtain ⟨b, off, cap', hsl, hb1, _, hcell⟩ := Ints.at H.out hlt
  simp only [Value.slice.injEq] at hsl
  obtain ⟨rfl, _, rfl⟩ := hsl
  have q0 := hx.out.keep (hcell k hlt)
  obtain ⟨y, hy⟩ : ∃ y, y = l[k] := ⟨_, rfl⟩
  rw [← hy] at q0
  have HY := Lib.hid hy
  clear hcell hb1 hy
  by_cases he : n = y
  ·have HE := Lib.hid he
   have hb : (n == y) = true := by simpa using he
   clear he
   go_wp2_with fail
   go_ret
   exact ⟨(k : Int), rfl, Lib.hid ⟨fun _ => by rw [HE.out, HY.out]; exact List.getElem_mem _, fun _ => by omega⟩, hx.out⟩
  have HE := Lib.hid he
  have hb : (n == y) = false := by simpa using he
  go_wp2_with fail
  go_roundw
  case rel => exact ⟨k + 1, HKK.out, by omega, hx, Lib.hid (fun j hj hjk => by
   by_cases e : j = k
   ·subst e; rw [← HY.out]; exact fun e => HE.out e.symm
   exact hm.out j hj (by omega))⟩
  case measure => simp [intOf]; omega
 have hge : ¬ (k : Int) < (l.length : Int) := by omega
 go_wp2_with fail
 go_ret
 exact ⟨-1, rfl, Lib.hid ⟨fun e => absurd e (by decide), fun e => by
  obtain ⟨j, hj, h9⟩ := List.getElem_of_mem e
  exact absurd h9 (hm.out j hj (by omega))⟩, hx.out⟩
theorem containsZ_any (n : Int) (sl : Value) (l : List Int) (W : World) (h : Ints No W .i64 sl l) :
  Calls Tryz.prog 47 #[sl, .int .i64 n] W (Tells (n ∈ l) W) := by
 have H := Lib.hid (indexZ_any n sl l W h)
 obtain ⟨a, cap, rfl⟩ := Ints.slice h
 clear h
 go_enter Tryz.func47, Tryz.ntmps47
 go_wp2_with fail
 refine H.out.mono ?_
 rintro e w1 ⟨z, rfl, hz, hx⟩
 go_wp2_with fail
 go_ret
 exact ⟨decide (0 ≤ z), rfl, by rw [decide_eq_true_iff]; exact hz.out, hx⟩
theorem reduce1_any (x n : Int) (vb : Value) (a : Option Addr) (N c g : Nat) (W : World) (hg : W.heap[g]? = some (.cells #[.int .i64 x, vb, .slice a N c] 26 (0, 0))) :
  Calls Tryz.prog 44 #[.int .i64 n, .pointer (some ⟨g, 0, none⟩)] W (Tells (¬ UnkP n N) W) := by
 have cA := cellOf hg
 clear hg
 go_enter Tryz.func44, Tryz.ntmps44
 go_wp2_with fail
 refine (unknown_any x n vb a N c _).mono ?_
 rintro e w1 ⟨b, rfl, hb, hx⟩
 cases b with
 | true =>
  have HB := Lib.hid (tells_yes hb)
  clear hb
  go_wp2_with fail
  go_ret
  exact tells_false (fun e => e HB.out) hx
 | false =>
  have HB := Lib.hid (tells_no hb)
  clear hb
  go_wp2_with fail
  go_ret
  exact tells_true HB.out hx
set_option maxHeartbeats 2000000 in
theorem indexR13_any (x : Int) (vb : Value) (a : Option Addr) (N c g : Nat) (sl : Value) (l : List Int) (W : World) (h : Ints No W .i64 sl l) (hg : W.heap[g]? = some (.cells #[.int .i64 x, vb, .slice a N c] 26 (0, 0))) :
  Calls Tryz.prog 80 #[sl, .func (.func 44) #[] #[.pointer (some ⟨g, 0, none⟩)]] W (fun e w' => ∃ z : Int, e = .returned (.int .i64 z) ∧ Hid (0 ≤ z ↔ ∃ n ∈ l, ¬ UnkP n N) ∧ Ext No W w') := by
 have H := Lib.hid h
 have HG := Lib.hid hg
 obtain ⟨al, cap, rfl⟩ := Ints.slice h
 have hlen := Ints.len h
 clear h hg
 go_enter Tryz.func80, Tryz.ntmps80
 go_wp2_with fail
 go_loopw [5, 8] (fun _ i wr => ∃ k : Nat, i = .int .i64 k ∧ k ≤ l.length ∧ Hid (Ext No W wr) ∧ Hid (∀ j (hj : j < l.length), j < k → UnkP l[j] N)) (fun _ i _ => l.length - (intOf i).toNat)
 case atStart => exact ⟨0, rfl, Nat.zero_le _, Lib.hid (Ext.refl _ _), Lib.hid (fun j _ hj => absurd hj (Nat.not_lt_zero _))⟩
 obtain ⟨k, rfl, hk, hx, hm⟩ := hrel
 rename World => wr
 by_cases hlt : k < l.length
 ·have hlz : (k : Int) < (l.length : Int) := by omega
  have HKK : Hid (Value.int .i64 ((k : Int) + 1) = .int .i64 ((k + 1 : Nat) : Int)) := Lib.hid (by rw [show ((k + 1 : Nat) : Int) = (k : Int) + 1 from by omega])
  obtain ⟨b, off, cap', hsl, hb1, _, hcell⟩ := Ints.at H.out hlt
  simp only [Value.slice.injEq] at hsl
  obtain ⟨rfl, _, rfl⟩ := hsl
  have q0 := hx.out.keep (hcell k hlt)
  obtain ⟨y, hy⟩ : ∃ y, y = l[k] := ⟨_, rfl⟩
  rw [← hy] at q0
  have HY := Lib.hid hy
  clear hcell hb1 hy
  go_wp2_with fail
  go_at_call 44
  refine (reduce1_any x y vb a N c g _ (hx.out.blk HG.out no_no)).mono ?_
  rintro e1 w1 ⟨bb, rfl, hbb, hx1⟩
  clear q0
  cases bb with
  | true =>
   have HB := Lib.hid (tells_yes hbb)
   clear hbb
   go_wp2_with fail
   go_ret
   exact ⟨(k : Int), rfl, Lib.hid ⟨fun _ => ⟨_, List.getElem_mem hlt, by rw [← HY.out]; exact HB.out⟩, fun _ => by omega⟩, hx.out.transNo hx1⟩
  | false =>
   have HB := Lib.hid (Classical.not_not.1 (tells_no hbb))
   clear hbb
   go_wp2_with fail
   go_roundw
   case rel => exact ⟨k + 1, HKK.out, by omega, Lib.hid (hx.out.transNo hx1), Lib.hid (fun j hj hjk => by
    by_cases e : j = k
    ·subst e; rw [← HY.out]; exact HB.out
    exact hm.out j hj (by omega))⟩
   case measure => simp [intOf]; omega
 have hge : ¬ (k : Int) < (l.length : Int) := by omega
 go_wp2_with fail
 go_ret
 exact ⟨-1, rfl, Lib.hid ⟨fun e => absurd e (by decide), fun ⟨n, hn, e⟩ => by
  obtain ⟨j, hj, h9⟩ := List.getElem_of_mem hn
  exact absurd (hm.out j hj (by omega)) (by rw [h9]; exact e)⟩, hx.out⟩
theorem containsR13_any (x : Int) (vb : Value) (a : Option Addr) (N c g : Nat) (sl : Value) (l : List Int) (W : World) (h : Ints No W .i64 sl l) (hg : W.heap[g]? = some (.cells #[.int .i64 x, vb, .slice a N c] 26 (0, 0))) :
  Calls Tryz.prog 43 #[sl, .func (.func 44) #[] #[.pointer (some ⟨g, 0, none⟩)]] W (Tells (∃ n ∈ l, ¬ UnkP n N) W) := by
 have H := Lib.hid (indexR13_any x vb a N c g sl l W h hg)
 obtain ⟨al, cap, rfl⟩ := Ints.slice h
 clear h hg
 go_enter Tryz.func43, Tryz.ntmps43
 go_wp2_with fail
 refine H.out.mono ?_
 rintro e w1 ⟨z, rfl, hz, hx⟩
 go_wp2_with fail
 go_ret
 exact ⟨decide (0 ≤ z), rfl, by rw [decide_eq_true_iff]; exact hz.out, hx⟩

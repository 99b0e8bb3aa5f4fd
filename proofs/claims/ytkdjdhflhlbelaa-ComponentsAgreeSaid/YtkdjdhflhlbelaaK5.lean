/- Order's closures. -/
import Derived.Test.YtkdjdhflhlbelaaK4
set_option linter.unusedVariables false
set_option linter.unusedSimpArgs false
namespace Go.Proofs.Ytkdjdhflhlbelaa
open Go Go.RowKit Tj
def badE (g : Nat → Nat) (D : Nat → Bool) (c m : Nat) : Bool := (g m != c) && !D (g m)
def readyB (S : SysD) (g : Nat → Nat) (D : Nat → Bool) (c : Nat) : Bool := (List.range S.deps.length).all fun n => !(g n == c && (depD S n).any (badE g D c))
def goodB (S : SysD) (g : Nat → Nat) (D : Nat → Bool) (c : Nat) : Bool := !D c && readyB S g D c
/-- what the closures see: of and done -/
structure OeM (N oB bo dB bD : Nat) (g : Nat → Nat) (D : Nat → Bool) (w : World) : Prop where
 o : w.heap[oB]? = some (.cells #[.slice (some ⟨bo, 0, none⟩) N N] 22 (0, 0))
 ob : BlkF w bo 3 N (fun i => .int .i64 (g i : Int))
 d : w.heap[dB]? = some (.cells #[.slice (some ⟨bD, 0, none⟩) N N] 99 (0, 0))
 db : BlkF w bD 4 N (fun i => .bool (D i))
theorem OeM.extNo {N oB bo dB bD : Nat} {g : Nat → Nat} {D : Nat → Bool} {w w' : World} (h : OeM N oB bo dB bD g D w) (hx : Ext No w w') : OeM N oB bo dB bD g D w' :=
 ⟨hx.blk h.o no_no, h.ob.ext hx no_no, hx.blk h.d no_no, h.db.ext hx no_no⟩
set_option maxHeartbeats 1000000 in
theorem ord11_any (N oB bo dB bD lB c m : Nat) (g : Nat → Nat) (D : Nat → Bool) (W : World) (h : OeM N oB bo dB bD g D W) (hl : W.heap[lB]? = some (.cells #[.int .i64 (c : Int)] 3 (0, 0))) (hm : m < N) (hg : g m < N) (hN : N ≤ 1000) :
  Calls Try.prog 83 #[.int .i64 (m : Int), .pointer (some ⟨oB, 0, none⟩), .pointer (some ⟨lB, 0, none⟩), .pointer (some ⟨dB, 0, none⟩)] W (BoolPost (badE g D c m) W) := by
 have HO := Lib.hid h.o
 have HB := Lib.hid (h.ob.cell hm)
 have HD := Lib.hid h.d
 have HE := Lib.hid (h.db.cell hg)
 have HL := Lib.hid hl
 have hmz : (m : Int) < (N : Int) := by omega
 have hmz0 : (0 : Int) ≤ (m : Int) := by omega
 have hgz : (g m : Int) < (N : Int) := by omega
 have hgz0 : (0 : Int) ≤ (g m : Int) := by omega
 clear h hl
 by_cases hc : g m = c
 ·have hc1 : ((g m : Int) != (c : Int)) = false := by simp [hc]
  have hc2 : (g m : Int) = (c : Int) := by omega
  have HR : Hid (badE g D c m = false) := Lib.hid (by simp [badE, hc])
  clear hc
  go_enter Try.func83, Try.ntmps83
  go_upto_region 1 with (fail)
  refine wp_region_held_drew (S := (fun w' => Ext No W w')) (by kernel_rfl) ?_ (fun hHeld => ?_)
  ·exact (Ext.refl _ _).drew
  refine hTk (i := 0) (v := ?_) hHeld (fun w hSw => ?_) ?_
  rotate_left
  ·(have hEs : Ext No W _ := hSw); (have x0 := cellOf (hEs.blk HO.out no_no)); go_simp; (try with_reducible rfl)
  try simp only [Act.put, nzA, nzB, nzC]
  refine hTk (i := 1) (v := ?_) hHeld (fun w hSw => ?_) ?_
  rotate_left
  ·go_simp; (try with_reducible rfl)
  try simp only [Act.put, nzA, nzB, nzC]
  refine hTk (i := 2) (v := ?_) hHeld (fun w hSw => ?_) ?_
  rotate_left
  ·go_simp; (try with_reducible rfl)
  try simp only [Act.put, nzA, nzB, nzC]
  refine hTk (i := 3) (v := ?_) hHeld (fun w hSw => ?_) ?_
  rotate_left
  ·(have hEs : Ext No W _ := hSw); (have x0 := hEs.keep HB.out); go_simp; (try with_reducible rfl)
  try simp only [Act.put, nzA, nzB, nzC]
  refine hTk (i := 4) (v := ?_) hHeld (fun w hSw => ?_) ?_
  rotate_left
  ·(have hEs : Ext No W _ := hSw); (have x0 := cellOf (hEs.blk HL.out no_no)); go_simp; (try with_reducible rfl)
  try simp only [Act.put, nzA, nzB, nzC]
  refine hTk (i := 5) (v := ?_) hHeld (fun w hSw => ?_) ?_
  rotate_left
  ·go_simp; (try with_reducible rfl)
  try simp only [Act.put, nzA, nzB, nzC]
  refine hTk (i := 6) (v := ?_) hHeld (fun w hSw => ?_) ?_
  rotate_left
  ·go_simp; (try with_reducible rfl)
  try simp only [Act.put, nzA, nzB, nzC]
  refine hSk (i := 7) hHeld ?_
  try simp only [Act.put, nzA, nzB, nzC]
  refine hSk (i := 8) hHeld ?_
  try simp only [Act.put, nzA, nzB, nzC]
  refine hSk (i := 9) hHeld ?_
  try simp only [Act.put, nzA, nzB, nzC]
  refine hSk (i := 10) hHeld ?_
  try simp only [Act.put, nzA, nzB, nzC]
  refine hSk (i := 11) hHeld ?_
  try simp only [Act.put, nzA, nzB, nzC]
  refine hSk (i := 12) hHeld ?_
  try simp only [Act.put, nzA, nzB, nzC]
  refine hSk (i := 13) hHeld ?_
  try simp only [Act.put, nzA, nzB, nzC]
  refine hSk (i := 14) hHeld ?_
  try simp only [Act.put, nzA, nzB, nzC]
  refine hTk (i := 15) (v := ?_) hHeld (fun w hSw => ?_) ?_
  rotate_left
  ·go_simp; (try with_reducible rfl)
  try simp only [Act.put, nzA, nzB, nzC]
  refine hTk (i := 16) (v := ?_) hHeld (fun w hSw => ?_) ?_
  rotate_left
  ·go_simp; (try with_reducible rfl)
  try simp only [Act.put, nzA, nzB, nzC]
  refine wpAnyH_done (by kernel_rfl) ?_ _
  have hEx : Ext No W _ := hHeld
  go_wp2_with fail
  go_ret
  exact ⟨by rw [HR.out]; rfl, hEx⟩
 ·have hc1 : ((g m : Int) != (c : Int)) = true := by simp; omega
  have hc2 : ¬ ((g m : Int) = (c : Int)) := by omega
  have HR : Hid (badE g D c m = !D (g m)) := Lib.hid (by simp [badE, hc])
  clear hc
  go_enter Try.func83, Try.ntmps83
  go_upto_region 1 with (fail)
  refine wp_region_held_drew (S := (fun w' => Ext No W w')) (by kernel_rfl) ?_ (fun hHeld => ?_)
  ·exact (Ext.refl _ _).drew
  refine hTk (i := 0) (v := ?_) hHeld (fun w hSw => ?_) ?_
  rotate_left
  ·(have hEs : Ext No W _ := hSw); (have x0 := cellOf (hEs.blk HO.out no_no)); go_simp; (try with_reducible rfl)
  try simp only [Act.put, nzA, nzB, nzC]
  refine hTk (i := 1) (v := ?_) hHeld (fun w hSw => ?_) ?_
  rotate_left
  ·go_simp; (try with_reducible rfl)
  try simp only [Act.put, nzA, nzB, nzC]
  refine hTk (i := 2) (v := ?_) hHeld (fun w hSw => ?_) ?_
  rotate_left
  ·go_simp; (try with_reducible rfl)
  try simp only [Act.put, nzA, nzB, nzC]
  refine hTk (i := 3) (v := ?_) hHeld (fun w hSw => ?_) ?_
  rotate_left
  ·(have hEs : Ext No W _ := hSw); (have x0 := hEs.keep HB.out); go_simp; (try with_reducible rfl)
  try simp only [Act.put, nzA, nzB, nzC]
  refine hTk (i := 4) (v := ?_) hHeld (fun w hSw => ?_) ?_
  rotate_left
  ·(have hEs : Ext No W _ := hSw); (have x0 := cellOf (hEs.blk HL.out no_no)); go_simp; (try with_reducible rfl)
  try simp only [Act.put, nzA, nzB, nzC]
  refine hTk (i := 5) (v := ?_) hHeld (fun w hSw => ?_) ?_
  rotate_left
  ·go_simp; (try with_reducible rfl)
  try simp only [Act.put, nzA, nzB, nzC]
  refine hTk (i := 6) (v := ?_) hHeld (fun w hSw => ?_) ?_
  rotate_left
  ·go_simp; (try with_reducible rfl)
  try simp only [Act.put, nzA, nzB, nzC]
  refine hTk (i := 7) (v := ?_) hHeld (fun w hSw => ?_) ?_
  rotate_left
  ·(have hEs : Ext No W _ := hSw); (have x0 := cellOf (hEs.blk HD.out no_no)); go_simp; (try with_reducible rfl)
  try simp only [Act.put, nzA, nzB, nzC]
  refine hTk (i := 8) (v := ?_) hHeld (fun w hSw => ?_) ?_
  rotate_left
  ·(have hEs : Ext No W _ := hSw); (have x0 := cellOf (hEs.blk HO.out no_no)); go_simp; (try with_reducible rfl)
  try simp only [Act.put, nzA, nzB, nzC]
  refine hTk (i := 9) (v := ?_) hHeld (fun w hSw => ?_) ?_
  rotate_left
  ·go_simp; (try with_reducible rfl)
  try simp only [Act.put, nzA, nzB, nzC]
  refine hTk (i := 10) (v := ?_) hHeld (fun w hSw => ?_) ?_
  rotate_left
  ·go_simp; (try with_reducible rfl)
  try simp only [Act.put, nzA, nzB, nzC]
  refine hTk (i := 11) (v := ?_) hHeld (fun w hSw => ?_) ?_
  rotate_left
  ·(have hEs : Ext No W _ := hSw); (have x0 := hEs.keep HB.out); go_simp; (try with_reducible rfl)
  try simp only [Act.put, nzA, nzB, nzC]
  refine hTk (i := 12) (v := ?_) hHeld (fun w hSw => ?_) ?_
  rotate_left
  ·go_simp; (try with_reducible rfl)
  try simp only [Act.put, nzA, nzB, nzC]
  refine hTk (i := 13) (v := ?_) hHeld (fun w hSw => ?_) ?_
  rotate_left
  ·(have hEs : Ext No W _ := hSw); (have x0 := hEs.keep HE.out); go_simp; (try with_reducible rfl)
  try simp only [Act.put, nzA, nzB, nzC]
  refine hTk (i := 14) (v := ?_) hHeld (fun w hSw => ?_) ?_
  rotate_left
  ·go_simp; (try with_reducible rfl)
  try simp only [Act.put, nzA, nzB, nzC]
  refine hTk (i := 15) (v := ?_) hHeld (fun w hSw => ?_) ?_
  rotate_left
  ·go_simp; (try with_reducible rfl)
  try simp only [Act.put, nzA, nzB, nzC]
  refine hTk (i := 16) (v := ?_) hHeld (fun w hSw => ?_) ?_
  rotate_left
  ·go_simp; (try with_reducible rfl)
  try simp only [Act.put, nzA, nzB, nzC]
  refine wpAnyH_done (by kernel_rfl) ?_ _
  have hEx : Ext No W _ := hHeld
  go_wp2_with fail
  go_ret
  exact ⟨by rw [HR.out]; rfl, hEx⟩
def FirstPost (l : List Nat) (p : Nat → Bool) (W : World) (e : Ending) (w' : World) : Prop :=
 ∃ z : Int, e = .returned (.int .i64 z) ∧ Hid ((z = -1 ∧ ∀ x ∈ l, p x = false) ∨ ∃ (k : Nat) (hk : k < l.length), z = (k : Int) ∧ p l[k] = true ∧ ∀ j (hj : j < k), p (l[j]'(by omega)) = false) ∧ Ext No W w'
set_option maxRecDepth 100000 in
set_option maxHeartbeats 2000000 in
theorem index11_any (N oB bo dB bD lB c : Nat) (g : Nat → Nat) (D : Nat → Bool) (W : World) (h : OeM N oB bo dB bD g D W) (hlb : W.heap[lB]? = some (.cells #[.int .i64 (c : Int)] 3 (0, 0))) (hg : ∀ x, x < N → g x < N) (hN : N ≤ 1000) (sl : Value) (l : List Nat) (hl : ∀ x ∈ l, x < N) (hs : Ints No W .i64 sl (natsZ l)) :
  Calls Try.prog 84 #[sl, .func (.func 83) #[] #[.pointer (some ⟨oB, 0, none⟩), .pointer (some ⟨lB, 0, none⟩), .pointer (some ⟨dB, 0, none⟩)]] W (FirstPost l (badE g D c) W) := by
 have H := Lib.hid hs
 have HEV := Lib.hid (And.intro h (And.intro hlb hg))
 clear h hlb hg
 have HLL := Lib.hid hl
 obtain ⟨a, cap, rfl⟩ := IntsN.slice hs
 have hlen := IntsN.len hs
 clear hs hl
 go_enter Try.func84, Try.ntmps84
 go_wp2_with fail
 go_loopw [5, 8] (fun _ i wr => ∃ k : Nat, i = .int .i64 k ∧ k ≤ l.length ∧ Hid (Ext No W wr) ∧ Hid (∀ j (hj : j < l.length), j < k → (badE g D c) l[j] = false)) (fun _ i _ => l.length - (intOf i).toNat)
 case atStart => exact ⟨0, rfl, Nat.zero_le _, Lib.hid (Ext.refl _ _), Lib.hid (fun j _ hj => absurd hj (Nat.not_lt_zero _))⟩
 case round =>
  obtain ⟨k, rfl, hk, hx, hm⟩ := hrel
  rename World => wr
  by_cases hlt : k < l.length
  ·have hlz : (k : Int) < (l.length : Int) := by omega
   have HKK : Hid (Value.int .i64 ((k : Int) + 1) = .int .i64 ((k + 1 : Nat) : Int)) := Lib.hid (by rw [show ((k + 1 : Nat) : Int) = (k : Int) + 1 from by omega])
   obtain ⟨b, off, cap', hsl, hb1, _, hcell⟩ := IntsN.at H.out hlt
   simp only [Value.slice.injEq] at hsl
   obtain ⟨rfl, _, rfl⟩ := hsl
   have q0 := hx.out.keep (hcell k hlt)
   obtain ⟨y, hy⟩ : ∃ y, y = l[k] := ⟨_, rfl⟩
   rw [← hy] at q0
   have hyN := HLL.out l[k] (List.getElem_mem hlt)
   rw [← hy] at hyN
   have HY := Lib.hid hy
   clear hcell hb1 hy
   go_wp2_with fail
   go_at_call 83
   refine (ord11_any N oB bo dB bD lB c y g D _ (HEV.out.1.extNo hx.out) (hx.out.blk HEV.out.2.1 no_no) hyN (HEV.out.2.2 y hyN) hN).mono ?_
   rintro e1 w1 ⟨rfl, hx1⟩
   clear q0
   cases hb : (badE g D c) y with
   | true =>
    have HB := Lib.hid hb
    clear hb
    go_wp2_with fail
    go_ret
    exact ⟨(k : Int), rfl, Lib.hid (.inr ⟨k, hlt, rfl, by rw [← HY.out]; exact HB.out, fun j hj => hm.out j (by omega) hj⟩), hx.out.transNo hx1⟩
   | false =>
    have HB := Lib.hid hb
    clear hb
    go_wp2_with fail
    go_roundw
    case rel => exact ⟨k + 1, HKK.out, by omega, Lib.hid (hx.out.transNo hx1), Lib.hid (fun j hj hjk => by
     by_cases e : j = k
     ·subst e; rw [← HY.out]; exact HB.out
     ·exact hm.out j hj (by omega))⟩
    case measure => simp [intOf]; omega
  ·have hge : ¬ (k : Int) < (l.length : Int) := by omega
   go_wp2_with fail
   go_ret
   exact ⟨-1, rfl, Lib.hid (.inl ⟨rfl, fun x hx2 => by
    obtain ⟨j, hj, rfl⟩ := List.getElem_of_mem hx2
    exact hm.out j hj (by omega)⟩), hx.out⟩
theorem contains11_any (N oB bo dB bD lB c : Nat) (g : Nat → Nat) (D : Nat → Bool) (W : World) (h : OeM N oB bo dB bD g D W) (hlb : W.heap[lB]? = some (.cells #[.int .i64 (c : Int)] 3 (0, 0))) (hg : ∀ x, x < N → g x < N) (hN : N ≤ 1000) (sl : Value) (l : List Nat) (hl : ∀ x ∈ l, x < N) (hs : Ints No W .i64 sl (natsZ l)) :
  Calls Try.prog 82 #[sl, .func (.func 83) #[] #[.pointer (some ⟨oB, 0, none⟩), .pointer (some ⟨lB, 0, none⟩), .pointer (some ⟨dB, 0, none⟩)]] W (BoolPost (l.any (badE g D c)) W) := by
 have H := Lib.hid (index11_any N oB bo dB bD lB c g D W h hlb hg hN sl l hl hs)
 obtain ⟨a, cap, rfl⟩ := IntsN.slice hs
 clear h hlb hg hl hs
 go_enter Try.func82, Try.ntmps82
 go_wp2_with fail
 refine H.out.mono ?_
 rintro e w1 ⟨z, rfl, hz, hx⟩
 go_wp2_with fail
 go_ret
 refine ⟨?_, hx⟩
 rcases hz.out with ⟨rfl, h2⟩ | ⟨k, hk, rfl, h2, h3⟩
 ·rw [List.any_eq_false.2 (fun x hx => by simp [h2 x hx])]
  rfl
 ·rw [List.any_eq_true.2 ⟨_, List.getElem_mem hk, h2⟩]
  simp
set_option maxRecDepth 100000 in
set_option maxHeartbeats 4000000 in
theorem ord1_any (S : SysD) (oB bo dB bD sB c : Nat) (g : Nat → Nat) (D : Nat → Bool) (vd vt vb : Value) (W : World) (h : OeM S.deps.length oB bo dB bD g D W) (hg : ∀ x, x < S.deps.length → g x < S.deps.length) (hS : SysAt No W vd vt vb S) (hsb : W.heap[sB]? = some (.cells #[.int .i64 (S.w : Int), vd, vt, vb] 29 (0, 0))) :
  Calls Try.prog 81 #[.int .i64 (c : Int), .pointer (some ⟨oB, 0, none⟩), .pointer (some ⟨sB, 0, none⟩), .pointer (some ⟨dB, 0, none⟩)] W (BoolPost (readyB S g D c) W) := by
 have HEV := Lib.hid (And.intro h hg)
 have HS := Lib.hid hS
 have HSB := Lib.hid hsb
 have hnn := hS.ok.n2
 have HOK := Lib.hid hS.ok
 obtain ⟨ad, cd, at1, ct, ab, cb, rfl, rfl, rfl⟩ := hS.slices
 have hO0 := cellOf h.o
 clear h hg hS hsb
 go_enter Try.func81, Try.ntmps81
 have hx0 : Ext No W (W.alloc (.cells #[.int .i64 (c : Int)] 3)) := (Ext.refl _ _).alloc _
 have HL := Lib.hid (alloc_top (w := W) (o := (.cells #[.int .i64 (c : Int)] 3)) rfl)
 go_upto_region 1 with (fail)
 generalize (W.alloc (.cells #[.int .i64 (c : Int)] 3)) = V at *
 generalize W.heap.size = lB at *
 have HX := Lib.hid hx0
 clear hO0 hx0
 have hO0 := cellOf (HX.out.blk HEV.out.1.o no_no)
 go_wp2_with fail
 clear hO0
 go_loopw [6, 7, 10] (fun _ _ i wr => ∃ k : Nat, i = .int .i64 k ∧ k ≤ S.deps.length ∧ Hid (Ext No V wr) ∧ Hid (∀ n, n < k → (g n == c && (depD S n).any (badE g D c)) = false)) (fun _ _ i _ => S.deps.length - (intOf i).toNat)
 case atStart => exact ⟨0, rfl, Nat.zero_le _, Lib.hid (Ext.refl _ _), Lib.hid (fun j hj => absurd hj (Nat.not_lt_zero _))⟩
 case round =>
  obtain ⟨k, rfl, hk, hx, hm⟩ := hrel
  rename World => wr
  have HXX := Lib.hid (HX.out.transNo hx.out)
  by_cases hlt : k < S.deps.length
  ·have hlz : (k : Int) < (S.deps.length : Int) := by omega
   have HKK : Hid (Value.int .i64 ((k : Int) + 1) = .int .i64 ((k + 1 : Nat) : Int)) := Lib.hid (by rw [show ((k + 1 : Nat) : Int) = (k : Int) + 1 from by omega])
   have q0 := (HEV.out.1.extNo HXX.out).ob.cell hlt
   have hL0 := cellOf (hx.out.blk HL.out no_no)
   by_cases hc : g k = c
   ·have hc1 : ((g k : Int) == (c : Int)) = true := by simp [hc]
    have hc2 : (g k : Int) = (c : Int) := by omega
    have HC := Lib.hid hc
    clear hc
    obtain ⟨bd, od, kd, aq, cq, hve, gd0, hint⟩ := (HS.out.extNo HXX.out).dep hlt
    simp only [Value.slice.injEq] at hve
    obtain ⟨rfl, -, rfl⟩ := hve
    have hS0 := cellOf (HXX.out.blk HSB.out no_no)
    go_wp2_with fail
    clear hL0 hS0 q0 gd0
    refine (contains11_any S.deps.length oB bo dB bD lB c g D wr (HEV.out.1.extNo HXX.out) (hx.out.blk HL.out no_no) HEV.out.2 (by omega) _ (depD S k) (fun x hx2 => HOK.out.dep (i := k) hx2) hint.out).mono ?_
    rintro e1 w1 ⟨rfl, hx1⟩
    cases hb : (depD S k).any (badE g D c) with
    | true =>
     have HB := Lib.hid hb
     clear hb
     go_wp2_with fail
     go_ret
     refine ⟨?_, HXX.out.transNo hx1⟩
     have : readyB S g D c = false := by
      unfold readyB
      rw [List.all_eq_false]
      exact ⟨k, List.mem_range.2 hlt, by simp [HC.out, HB.out]⟩
     rw [this]; rfl
    | false =>
     have HB := Lib.hid hb
     clear hb
     go_wp2_with fail
     go_roundw
     case rel => exact ⟨k + 1, HKK.out, by omega, Lib.hid (hx.out.transNo hx1), Lib.hid (fun j hj => by
      by_cases e : j = k
      ·subst e; rw [HB.out]; simp
      ·exact hm.out j (by omega))⟩
     case measure => simp [intOf]; omega
   ·have hc1 : ((g k : Int) == (c : Int)) = false := by simp; omega
    have hc2 : ¬ ((g k : Int) = (c : Int)) := by omega
    have HC := Lib.hid hc
    clear hc
    go_wp2_with fail
    clear hL0 q0
    go_roundw
    case rel => exact ⟨k + 1, HKK.out, by omega, hx, Lib.hid (fun j hj => by
     by_cases e : j = k
     ·subst e; simp [HC.out]
     ·exact hm.out j (by omega))⟩
    case measure => simp [intOf]; omega
  ·have hge : ¬ (k : Int) < (S.deps.length : Int) := by omega
   go_wp2_with fail
   go_ret
   refine ⟨?_, HXX.out⟩
   have : readyB S g D c = true := by
    unfold readyB
    rw [List.all_eq_true]
    exact fun n hn => by rw [hm.out n (by have := List.mem_range.1 hn; omega)]; rfl
   rw [this]; rfl
set_option maxHeartbeats 1000000 in
theorem ord2_any (S : SysD) (oB bo dB bD sB rB c : Nat) (g : Nat → Nat) (D : Nat → Bool) (vd vt vb : Value) (W : World) (h : OeM S.deps.length oB bo dB bD g D W) (hg : ∀ x, x < S.deps.length → g x < S.deps.length) (hS : SysAt No W vd vt vb S) (hsb : W.heap[sB]? = some (.cells #[.int .i64 (S.w : Int), vd, vt, vb] 29 (0, 0)))
  (hr : W.heap[rB]? = some (.cells #[.func (.func 81) #[] #[.pointer (some ⟨oB, 0, none⟩), .pointer (some ⟨sB, 0, none⟩), .pointer (some ⟨dB, 0, none⟩)]] 101 (0, 0))) (hc : c < S.deps.length) :
  Calls Try.prog 85 #[.int .i64 (c : Int), .pointer (some ⟨dB, 0, none⟩), .pointer (some ⟨rB, 0, none⟩)] W (BoolPost (goodB S g D c) W) := by
 have HEV := Lib.hid (And.intro h hg)
 have HS := Lib.hid hS
 have HSB := Lib.hid hsb
 have hnn := hS.ok.n2
 have hD0 := cellOf h.d
 have hD1 := h.db.cell hc
 have hR0 := cellOf hr
 have hcz : (c : Int) < (S.deps.length : Int) := by omega
 have hcz0 : (0 : Int) ≤ (c : Int) := by omega
 clear h hg hS hsb hr
 cases hd : D c with
 | true =>
  rw [hd] at hD1
  have HD := Lib.hid hd
  clear hd
  go_enter Try.func85, Try.ntmps85
  go_wp2_with fail
  go_ret
  exact ⟨by simp [goodB, HD.out], Ext.refl _ _⟩
 | false =>
  rw [hd] at hD1
  have HD := Lib.hid hd
  clear hd
  go_enter Try.func85, Try.ntmps85
  go_wp2_with fail
  go_at_call 81
  refine (ord1_any S oB bo dB bD sB c g D vd vt vb W HEV.out.1 HEV.out.2 HS.out HSB.out).mono ?_
  rintro e1 w1 ⟨rfl, hx1⟩
  go_wp2_with fail
  go_ret
  exact ⟨by simp [goodB, HD.out], hx1⟩
set_option maxRecDepth 100000 in
set_option maxHeartbeats 2000000 in
theorem index2_any (S : SysD) (N oB bo dB bD sB rB : Nat) (g : Nat → Nat) (D : Nat → Bool) (vd vt vb : Value) (W : World) (hN : N = S.deps.length) (h : OeM S.deps.length oB bo dB bD g D W) (hg : ∀ x, x < S.deps.length → g x < S.deps.length) (hS : SysAt No W vd vt vb S) (hsb : W.heap[sB]? = some (.cells #[.int .i64 (S.w : Int), vd, vt, vb] 29 (0, 0))) (hr : W.heap[rB]? = some (.cells #[.func (.func 81) #[] #[.pointer (some ⟨oB, 0, none⟩), .pointer (some ⟨sB, 0, none⟩), .pointer (some ⟨dB, 0, none⟩)]] 101 (0, 0))) (sl : Value) (l : List Nat) (hl : ∀ x ∈ l, x < N) (hs : Ints No W .i64 sl (natsZ l)) :
  Calls Try.prog 84 #[sl, .func (.func 85) #[] #[.pointer (some ⟨dB, 0, none⟩), .pointer (some ⟨rB, 0, none⟩)]] W (FirstPost l (goodB S g D) W) := by
 have H := Lib.hid hs
 have HEV := Lib.hid (And.intro h (And.intro hg (And.intro hS (And.intro hsb (And.intro hr hN)))))
 clear h hg hS hsb hr
 have HLL := Lib.hid hl
 obtain ⟨a, cap, rfl⟩ := IntsN.slice hs
 have hlen := IntsN.len hs
 clear hs hl hN
 go_enter Try.func84, Try.ntmps84
 go_wp2_with fail
 go_loopw [5, 8] (fun _ i wr => ∃ k : Nat, i = .int .i64 k ∧ k ≤ l.length ∧ Hid (Ext No W wr) ∧ Hid (∀ j (hj : j < l.length), j < k → (goodB S g D) l[j] = false)) (fun _ i _ => l.length - (intOf i).toNat)
 case atStart => exact ⟨0, rfl, Nat.zero_le _, Lib.hid (Ext.refl _ _), Lib.hid (fun j _ hj => absurd hj (Nat.not_lt_zero _))⟩
 case round =>
  obtain ⟨k, rfl, hk, hx, hm⟩ := hrel
  rename World => wr
  by_cases hlt : k < l.length
  ·have hlz : (k : Int) < (l.length : Int) := by omega
   have HKK : Hid (Value.int .i64 ((k : Int) + 1) = .int .i64 ((k + 1 : Nat) : Int)) := Lib.hid (by rw [show ((k + 1 : Nat) : Int) = (k : Int) + 1 from by omega])
   obtain ⟨b, off, cap', hsl, hb1, _, hcell⟩ := IntsN.at H.out hlt
   simp only [Value.slice.injEq] at hsl
   obtain ⟨rfl, _, rfl⟩ := hsl
   have q0 := hx.out.keep (hcell k hlt)
   obtain ⟨y, hy⟩ : ∃ y, y = l[k] := ⟨_, rfl⟩
   rw [← hy] at q0
   have hyN := HLL.out l[k] (List.getElem_mem hlt)
   rw [← hy] at hyN
   have HY := Lib.hid hy
   clear hcell hb1 hy
   go_wp2_with fail
   go_at_call 85
   refine (ord2_any S oB bo dB bD sB rB y g D vd vt vb _ (HEV.out.1.extNo hx.out) HEV.out.2.1 (HEV.out.2.2.1.extNo hx.out) (hx.out.blk HEV.out.2.2.2.1 no_no) (hx.out.blk HEV.out.2.2.2.2.1 no_no) (by rw [← HEV.out.2.2.2.2.2]; exact hyN)).mono ?_
   rintro e1 w1 ⟨rfl, hx1⟩
   clear q0
   cases hb : (goodB S g D) y with
   | true =>
    have HB := Lib.hid hb
    clear hb
    go_wp2_with fail
    go_ret
    exact ⟨(k : Int), rfl, Lib.hid (.inr ⟨k, hlt, rfl, by rw [← HY.out]; exact HB.out, fun j hj => hm.out j (by omega) hj⟩), hx.out.transNo hx1⟩
   | false =>
    have HB := Lib.hid hb
    clear hb
    go_wp2_with fail
    go_roundw
    case rel => exact ⟨k + 1, HKK.out, by omega, Lib.hid (hx.out.transNo hx1), Lib.hid (fun j hj hjk => by
     by_cases e : j = k
     ·subst e; rw [← HY.out]; exact HB.out
     ·exact hm.out j hj (by omega))⟩
    case measure => simp [intOf]; omega
  ·have hge : ¬ (k : Int) < (l.length : Int) := by omega
   go_wp2_with fail
   go_ret
   exact ⟨-1, rfl, Lib.hid (.inl ⟨rfl, fun x hx2 => by
    obtain ⟨j, hj, rfl⟩ := List.getElem_of_mem hx2
    exact hm.out j hj (by omega)⟩), hx.out⟩
end Go.Proofs.Ytkdjdhflhlbelaa

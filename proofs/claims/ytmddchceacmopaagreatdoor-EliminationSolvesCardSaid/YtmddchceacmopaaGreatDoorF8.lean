
import Derived.Test.YtmddchceacmopaaGreatDoorF7
set_option linter.unusedVariables false
set_option linter.unusedSimpArgs false
namespace Go.Proofs.YtmddchceacmopaaGreatDoor
open Go Go.RowKit
theorem infoT : (Tryz.prog.info? 47).map (fun i => (i.zero, i.size, i.bytes)) = some (some (.agg #[.int .i64 0, .slice none 0 0, .int .i64 0, .slice none 0 0, .slice none 0 0]), 5, 88) := by kernel_rfl
theorem infoD : (Tryz.prog.info? 22).map (fun i => (i.zero, i.size, i.bytes)) = some (some (.slice none 0 0), 1, 24) := by kernel_rfl
theorem GyM.sl {tb : Nat} {W wr : World} {X : Nat} {cx : Array Value} {vd vt vb : Value} {Ld : LD} {Lt : LT} {Lb : LS} (h : GyM tb W wr X cx vd vt vb Ld Lt Lb) : ∃ a1 c1 a2 c2 a3 c3, vd = .slice a1 Ld.length c1 ∧ vt = .slice a2 Lt.length c2 ∧ vb = .slice a3 Lb.length c3 := by
 obtain ⟨a1, c1, e1⟩ := h.d.slice
 obtain ⟨a2, c2, e2⟩ := h.t.slice
 obtain ⟨a3, c3, e3⟩ := h.b.slice
 exact ⟨a1, c1, a2, c2, a3, c3, e1, e2, e3⟩
theorem set4 (w : World) (C : Nat) (a b c d : Value) : Ext (At C) w ((((w.setCell ⟨C, 0, none⟩ a).setCell ⟨C, 1, none⟩ b).setCell ⟨C, 2, none⟩ c).setCell ⟨C, 3, none⟩ d) := ((((Ext.refl (At C) w).setAt 0 a).setAt 1 b).setAt 2 c).setAt 3 d
theorem fin4 {w : World} {C : Nat} {T : TypeId} {x0 x1 x2 x3 : Value} (h : w.heap[C]? = some (.cells #[x0, x1, x2, x3] T (0, 0))) (a b c d : Value) : ((((w.setCell ⟨C, 0, none⟩ a).setCell ⟨C, 1, none⟩ b).setCell ⟨C, 2, none⟩ c).setCell ⟨C, 3, none⟩ d).heap[C]? = some (.cells #[a, b, c, d] T (0, 0)) :=
 (set_same (j := 3) (set_same (j := 2) (set_same (j := 1) (set_same (j := 0) h)))).trans rfl
theorem asc_nil (N : Int) : AscL [] N := fun i h => absurd h (Nat.not_lt_zero _)
theorem GyM.box {tb : Nat} {W wr : World} {X E : Nat} {cx : Array Value} {vd vt vb : Value} {Ld : LD} {Lt : LT} {Lb : LS} {o : Obj} (h : GyM tb W wr X cx vd vt vb Ld Lt Lb) (hE : wr.heap.size ≤ E) :
  (vd.ownBlock ≠ some E ∧ vt.ownBlock ≠ some E ∧ vb.ownBlock ≠ some E) ∧ X < E ∧
  ∀ w', Ext No wr w' → (∀ p ∈ Ld, kD.ok (fun b => (GA X vd vt vb b ∨ vd.ownBlock = some b) ∨ b = E) w' p) ∧ (∀ p ∈ Lt, kT.ok (fun b => (GA X vd vt vb b ∨ vt.ownBlock = some b) ∨ b = E) w' p) ∧ (∀ p ∈ Lb, kS.ok (fun b => (GA X vd vt vb b ∨ vb.ownBlock = some b) ∨ b = E) w' p) := by
 have hX := lt_of_block h.boxX
 refine ⟨⟨fun e => ?_, fun e => ?_, fun e => ?_⟩, by omega, fun w' hx => ⟨fun p hp => ?_, fun p hp => ?_, fun p hp => ?_⟩⟩
 ·have := (h.d.lt E e).2; omega
 ·have := (h.t.lt E e).2; omega
 ·have := (h.b.lt E e).2; omega
 ·exact kD.ext (kD.mono (h.d.ok p hp) (fun i hi e => by rcases e with e | e; exact e; omega)) hx (fun _ _ x => x.elim)
 ·exact kT.ext (kT.mono (h.t.ok p hp) (fun i hi e => by rcases e with e | e; exact e; omega)) hx (fun _ _ x => x.elim)
 exact kS.ext (kS.mono (h.b.ok p hp) (fun i hi e => by rcases e with e | e; exact e; omega)) hx (fun _ _ x => x.elim)
theorem GyM.carryS {tb : Nat} {W wr w' : World} {X : Nat} {cx : Array Value} {vd vt vb v' sl : Value} {Ld : LD} {Lt : LT} {Lb : LS} {w0 m : Nat} (h : GyM tb W wr X cx vd vt vb Ld Lt Lb) (hs : SetAt (GA X vd vt vb) wr sl w0 m) (hg : wr.grownBy w' vd.ownBlock) (hv : v'.ownBlock = vd.ownBlock ∨ v'.ownBlock = some wr.heap.size) : SetAt (GA X v' vt vb) w' sl w0 m := by
 have hE : Ext (fun k => vd.ownBlock = some k) wr w' := (Ext.refl _ wr).grown hg (fun k hk _ => hk)
 refine ((hs.mono (M' := fun b => GA X v' vt vb b ∨ vd.ownBlock = some b) (fun i hi e => ?_)).ext hE (fun i _ e => .inr e)).mono (fun i _ e => .inl e)
 rcases e with (e | e | e | e) | e
 ·exact .inl e
 ·rcases hv with hv | hv
  ·rw [hv] at e; exact .inr (.inl e)
  rw [hv] at e; simp only [Option.some.injEq] at e; omega
 ·exact .inr (.inr (.inl e))
 ·exact .inr (.inr (.inr e))
 exact .inr (.inl e)
structure OY (M : Nat → Prop) (x : Int) (w : World) (base : Nat) (vd vt vb : Value) (Ld : LD) (Lt : LT) (Lb : LS) : Prop where
 vs : VS x Ld Lt Lb
 d : LOwn kD M w base vd Ld
 t : LAt kT (fun b => M b ∨ vd.ownBlock = some b) w vt Lt
 b : LAt kS (fun b => M b ∨ vd.ownBlock = some b) w vb Lb
def GenSysO (tb n : Nat) (W : World) (e : Ending) (w' : World) : Prop :=
 ∃ (w base : Nat) (vd vt vb : Value) (Ld : LD) (Lt : LT) (Lb : LS), e = .returned (.agg #[.int .i64 (w : Int), vd, vt, vb]) ∧ w ≤ 4 ∧ Ld.length ≤ n ∧ Hid (YAt (Lo W.heap.size) w' vd vt vb Ld Lt Lb) ∧ Hid (OY (Lo W.heap.size) (w : Int) w' base vd vt vb Ld Lt Lb) ∧ W.heap.size ≤ base ∧ TapeOk w' tb ∧ Ext (At tb) W w'
set_option maxRecDepth 100000 in
set_option maxHeartbeats 16000000 in
theorem sysgen_own (tb n : Nat) (W : World) (hn : 1 ≤ n) (hn2 : n ≤ 100) (ht : TapeOk W tb) : Calls Tryz.prog 17 #[.pointer (some ⟨tb, 0, none⟩), .int .i64 (n : Int)] W (GenSysO tb n W) := by
 obtain ⟨iT, hiT, hT0, hT1, hT2⟩ := info_parts infoT
 obtain ⟨iS, hiS, hS0, hS1, hS2⟩ := info_parts infoS
 obtain ⟨iD, hiD, hD0, hD1, hD2⟩ := info_parts infoD
 have HT := Lib.hid ht
 have hlt0 := ht.lt
 clear ht
 go_enter Tryz.func17, Tryz.ntmps17
 go_wp2_with fail
 have hx0 : Ext No W (W.alloc (.cells #[.int .i64 0, .slice none 0 0, .slice none 0 0, .slice none 0 0] 55)) := (Ext.refl _ _).alloc _
 have hC0 := alloc_top (w := W) (o := (.cells #[.int .i64 0, .slice none 0 0, .slice none 0 0, .slice none 0 0] 55)) rfl
 refine (width_any _ _ (HT.out.ext hx0)).mono ?_
 rintro e1 w1 ⟨W8, hw8, rfl, ht1, hx1⟩
 obtain ⟨w, hw, hw4⟩ : ∃ w : Nat, ((W8 : Int) % 5) = (w : Int) ∧ w ≤ 4 := ⟨W8 % 5, by omega, by omega⟩
 go_wp2_with fail
 have hE1 : Ext (At tb) W w1 := (hx0.ofNo (M := At tb)).trans hx1
 have hxa : Ext No w1 (w1.alloc (.cells #[.int .i64 (w : Int), .slice none 0 0, .slice none 0 0, .slice none 0 0] 55)) := (Ext.refl _ _).alloc _
 have hlow1 : W.heap.size < w1.heap.size := by
  have h1 := hx1.size
  have h2 : (W.alloc (.cells #[.int .i64 0, .slice none 0 0, .slice none 0 0, .slice none 0 0] 55)).heap.size = W.heap.size + 1 := by simp
  omega
 have hm0 : GyM tb W (w1.alloc (.cells #[.int .i64 (w : Int), .slice none 0 0, .slice none 0 0, .slice none 0 0] 55)) w1.heap.size #[.int .i64 (w : Int), .slice none 0 0, .slice none 0 0, .slice none 0 0] (.slice none 0 0) (.slice none 0 0) (.slice none 0 0) [] [] [] :=
  ⟨hE1.transNo hxa, ht1.ext hxa, hxa.blk (hx1.blk hC0 (by unfold At; omega)) no_no, alloc_top rfl, LOwn.nil _ _ _ _, LOwn.nil _ _ _ _, LOwn.nil _ _ _ _, fun k e => (by cases e), fun k e => (by cases e), fun k e => (by cases e), hlt0, hlow1⟩
 have HM0 := Lib.hid hm0
 clear hx0 hC0 hE1 hxa hm0 ht1 hx1 HT hw
 generalize (w1.alloc (.cells #[.int .i64 (w : Int), .slice none 0 0, .slice none 0 0, .slice none 0 0] 55)) = V1 at *
 generalize w1.heap.size = X at *
 refine (next_lt tb n (by omega) (by omega) _ HM0.out.tape).mono ?_
 rintro e2 w2 ⟨r, rfl, hr, ht2, hx2, -⟩
 obtain ⟨N, hN⟩ : ∃ N : Nat, N = 1 + r := ⟨_, rfl⟩
 have hadd : IntKind.i64.wrap (1 + (r : Int)) = (N : Int) := by rw [IntWalk.i64_in _ (by omega)]; omega
 have hN1 : 1 ≤ N := by omega
 have hN2 : N ≤ n := by omega
 have HM1 := Lib.hid (HM0.out.step hx2 ht2)
 clear hx2 ht2 HM0 hN
 go_wp2_with fail
 clear hadd hr
 go_loopw [6, 7, 8, 9] (fun s6 _ _ _ wr => ∃ (i : Nat) (vd vt vb : Value) (Ld : LD) (Lt : LT) (Lb : LS), s6 = .int .i64 i ∧ i ≤ N ∧ Hid (GyM tb W wr X #[.int .i64 (w : Int), vd, vt, vb] vd vt vb Ld Lt Lb) ∧ Hid (GyI N w i Ld Lt Lb)) (fun s6 _ _ _ _ => N - (intOf s6).toNat)
 case atStart => exact ⟨0, _, _, _, [], [], [], rfl, Nat.zero_le _, HM1, Lib.hid (GyI.nil _ _)⟩
 clear HM1
 obtain ⟨i, vd, vt, vb, Ld, Lt, Lb, rfl, hi, hm, hI⟩ := hrel
 rename World => wr
 obtain ⟨a1, c1, a2, c2, a3, c3, e1, e2, e3⟩ := hm.out.sl
 have HSL := Lib.hid (And.intro e1 (And.intro e2 e3))
 clear e1 e2 e3
 by_cases hlt : i < N
 ·have hlz : (i : Int) < (N : Int) := by omega
  have HII : Hid (Value.int .i64 ((i : Int) + 1) = .int .i64 ((i + 1 : Nat) : Int)) := Lib.hid (by rw [show ((i + 1 : Nat) : Int) = (i : Int) + 1 from by omega])
  go_wp2_with fail
  refine (next_lt tb 4 (by decide) (by decide) _ hm.out.tape).mono ?_
  rintro e3 w3 ⟨k0, rfl, hk0, ht3, hx3, -⟩
  have HM3 := Lib.hid (hm.out.step hx3 ht3)
  clear hx3 ht3 hm
  go_wp2_with fail
  go_loopw [7, 8] (fun sd sk wx => ∃ (k : Nat) (l : List Int), sk = .int .i64 k ∧ k + l.length ≤ 3 ∧ Hid (l = [] → sd = .slice none 0 0) ∧ Hid (Ints (GA X vd vt vb) wx .i64 sd l) ∧ Hid (AscL l N) ∧ Hid (GyM tb W wx X #[.int .i64 (w : Int), vd, vt, vb] vd vt vb Ld Lt Lb)) (fun _ sk _ => (intOf sk).toNat)
  case atStart => exact ⟨k0, [], rfl, by simp; omega, Lib.hid (fun _ => rfl), Lib.hid (Row.nil _ _ _ _ _ (by omega)), Lib.hid (asc_nil _), HM3⟩
  clear HM3
  obtain ⟨k, l, rfl, hkl, hz, hd, hasc, hm⟩ := hrel
  rename World => wx
  rename Value => dv
  obtain ⟨da, dc, hds⟩ := Row.slice hd.out
  subst hds
  by_cases hk : 0 < k
  ·have hkz : (0 : Int) < (k : Int) := by omega
   have hsub : IntKind.i64.wrap ((k : Int) - 1) = ((k - 1 : Nat) : Int) := by rw [IntWalk.i64_in _ (by omega)]; omega
   go_wp2_with fail
   refine (next_lt tb N (by omega) (by omega) _ hm.out.tape).mono ?_
   rintro e4 w4 ⟨r4, rfl, hr4, ht4, hx4, -⟩
   have HM4 := Lib.hid (hm.out.step hx4 ht4)
   have HD4 := Lib.hid (Row.ext hd.out hx4 (fun i hi e => .inl (by unfold At at e; have := hm.out.lt; have := hm.out.low; omega)))
   clear hx4 ht4 hm hd
   go_wp2_with fail
   refine (insert_any (GA X vd vt vb) _ l (r4 : Int) _ HM4.out.hM HD4.out hz.out (by omega)).mono ?_
   rintro e5 w5 ⟨v5, l5, rfl, hins, hd5, hx5⟩
   have HINS := Lib.hid hins
   have HM5 := Lib.hid (HM4.out.stepNo hx5)
   clear hx5 HM4 HD4 hins
   go_wp2_with fail
   go_roundw
   case rel =>
    have h9 := HINS.out.len
    exact ⟨k - 1, l5, rfl, by omega, Lib.hid (fun e => by rw [e] at h9; simp at h9), hd5, Lib.hid (HINS.out.asc hasc.out (by omega) (by omega)), HM5⟩
   case measure => simp [intOf]; omega
  have hk0 : k = 0 := by omega
  subst hk0
  have HD := Lib.hid (And.intro hd.out (And.intro hasc.out (show l.length ≤ 3 by omega)))
  clear hd hasc hz
  have cX := cellOf hm.out.boxX
  go_wp2_with fail
  clear cX
  refine (rempty_any w _ (by omega)).mono ?_
  rintro e6 w6 ⟨g6, rfl, hb6, hlo6, hx6⟩
  have HM6 := Lib.hid (hm.out.stepNo hx6)
  have HE6 := Lib.hid (HM6.out.box (o := .cells #[] 55) (Nat.le_refl w6.heap.size))
  have hxE : Ext No w6 (w6.alloc (.cells #[.int .i64 (w : Int), .slice (some ⟨g6, 0, none⟩) (nw w) (nw w)] 44)) := (Ext.refl _ _).alloc _
  have HM7 := Lib.hid (HM6.out.stepNo hxE)
  have HE7 := Lib.hid (HE6.out.2.2 _ hxE)
  have hB := Lib.hid (alloc_top (w := w6) (o := .cells #[.int .i64 (w : Int), .slice (some ⟨g6, 0, none⟩) (nw w) (nw w)] 44) rfl)
  have hb7 := Lib.hid (hxE.blk (hb6.out : w6.heap[g6]? = _) no_no)
  have HD7 := Lib.hid (Row.extNo ((Row.extNo HD.out.1 hx6).mono (M' := fun b => GA X vd vt vb b ∨ b = w6.heap.size) (fun i hi e => by rcases e with e | e; exact e; omega)) hxE)
  have hgE : g6 ≠ w6.heap.size := by have := lt_of_block (hb6.out : w6.heap[g6]? = _); omega
  have hgG : Hid (¬ GA X vd vt vb g6) := Lib.hid (fun e => by have := hm.out.hM g6 e; omega)
  have hEE := HE6.out.1
  have hXE := HE6.out.2.1
  have HNE := Lib.hid (And.intro hEE hXE)
  have HMX := Lib.hid hm.out.hM
  have hwx6 := hx6.size
  clear hb6 hx6 HM6 HE6 hxE hm hEE
  go_wp2_with fail
  generalize (w6.alloc (.cells #[.int .i64 (w : Int), .slice (some ⟨g6, 0, none⟩) (nw w) (nw w)] 44)) = V7 at *
  have hEV : w6.heap.size < V7.heap.size := lt_of_block hB.out
  generalize w6.heap.size = E at *
  refine (next_lt tb 3 (by decide) (by decide) _ HM7.out.tape).mono ?_
  rintro e8 w8 ⟨r8, rfl, hr8, ht8, hx8, -⟩
  have htE : tb < E := by have := HM7.out.lt; have := HM7.out.low; omega
  have HM8 := Lib.hid (HM7.out.step hx8 ht8)
  have hB8 := Lib.hid (hx8.blk hB.out (by unfold At; omega))
  have hb8 := Lib.hid (hx8.blk hb7.out (by unfold At; have := HM7.out.lt; have := HM7.out.low; intro e; exact hgG.out (.inl (by omega))))
  have HD8 := Lib.hid (Row.ext HD7.out hx8 (fun i hi e => .inl (.inl (by unfold At at e; have := HM7.out.lt; have := HM7.out.low; omega))))
  have HE8 : Hid ((∀ p ∈ Ld, kD.ok (fun b => (GA X vd vt vb b ∨ vd.ownBlock = some b) ∨ b = E) w8 p) ∧ (∀ p ∈ Lt, kT.ok (fun b => (GA X vd vt vb b ∨ vt.ownBlock = some b) ∨ b = E) w8 p) ∧ (∀ p ∈ Lb, kS.ok (fun b => (GA X vd vt vb b ∨ vb.ownBlock = some b) ∨ b = E) w8 p)) := by
   have hA : ∀ i, i < V7.heap.size → At tb i → GA X vd vt vb i := fun i _ e => .inl (by unfold At at e; have := HM7.out.lt; have := HM7.out.low; omega)
   exact Lib.hid ⟨fun p hp => kD.ext (HE7.out.1 p hp) hx8 (fun i hi e => .inl (.inl (hA i hi e))), fun p hp => kT.ext (HE7.out.2.1 p hp) hx8 (fun i hi e => .inl (.inl (hA i hi e))), fun p hp => kS.ext (HE7.out.2.2 p hp) hx8 (fun i hi e => .inl (.inl (hA i hi e)))⟩
  clear HM7 hB hb7 HD7 HE7 hx8 ht8
  go_upto_if 39 with (fail)
  go_cut [37, 38, 39, 40, 41, 42, 43] (fun _ _ _ _ _ _ _ wy => ∃ (g m : Nat), Hid (GyM tb W wy X #[.int .i64 (w : Int), vd, vt, vb] vd vt vb Ld Lt Lb) ∧ Hid (wy.heap[E]? = some (.cells #[.int .i64 (w : Int), .slice (some ⟨g, 0, none⟩) (nw w) (nw w)] 44 (0, 0))) ∧ Hid (SetAt (fun b => GA X vd vt vb b ∨ b = E) wy (.slice (some ⟨g, 0, none⟩) (nw w) (nw w)) w m) ∧ Hid (Ints (fun b => GA X vd vt vb b ∨ b = E) wy .i64 (.slice da l.length dc) l))
  case first =>
   by_cases h1 : r8 = 1
   ·have h1z : ((r8 : Int) == 1) = true := by simp [h1]
    clear h1
    have cX := cellOf HM8.out.boxX
    go_wp2_with fail
    clear cX
    refine (gset_any tb w _ (by omega) HM8.out.tape).mono ?_
    rintro e9 w9 ⟨m9, g9, hm9, rfl, hb9, hlo9, ht9, hx9⟩
    have HM9 := Lib.hid (HM8.out.step hx9 ht9)
    have hB9 := Lib.hid (hx9.blk hB8.out (by unfold At; omega))
    have HD9 := Lib.hid (Row.ext HD8.out hx9 (fun i hi e => .inl (.inl (by unfold At at e; have := HM8.out.lt; have := HM8.out.low; omega))))
    have hA : ∀ i, i < w8.heap.size → At tb i → GA X vd vt vb i := fun i _ e => .inl (by unfold At at e; have := HM8.out.lt; have := HM8.out.low; omega)
    have HE9 := Lib.hid (And.intro (fun p hp => kD.ext (HE8.out.1 p hp) hx9 (fun i hi e => .inl (.inl (hA i hi e)))) (And.intro (fun p hp => kT.ext (HE8.out.2.1 p hp) hx9 (fun i hi e => .inl (.inl (hA i hi e)))) (fun p hp => kS.ext (HE8.out.2.2 p hp) hx9 (fun i hi e => .inl (.inl (hA i hi e))))))
    have hs9 := Lib.hid (hb9.out.set (M := fun b => GA X vd vt vb b ∨ b = E) (by omega) hm9 (fun e => by
     rcases e with e | e
     ·have := HM8.out.hM _ e; omega
     have := lt_of_block hB8.out; omega))
    have cE := cellOf hB9.out
    have fE := freeOf hB9.out
    clear hA hx9 ht9 hb9 HM8 HE8 HD8 hB8
    go_wp2_with fail
    clear cE fE
    go_meet
    have hxS : Ext (At E) w9 _ := ext_two (Ext.refl No w9) E (u0 := .int .i64 (w : Int)) (u1 := .slice (some ⟨g9, 0, none⟩) (nw w) (nw w))
    exact ⟨g9, m9, Lib.hid (HM9.out.stepHi hxS hXE HNE.out.1.1 HNE.out.1.2.1 HNE.out.1.2.2 HE9.out.1 HE9.out.2.1 HE9.out.2.2), Lib.hid ((set_same (j := 1) (set_same (j := 0) hB9.out)).trans rfl), Lib.hid (hs9.out.ext hxS (fun i _ e => .inr e)), Lib.hid (Row.ext HD9.out hxS (fun i _ e => .inr e))⟩
   have h1z : ((r8 : Int) == 1) = false := by simp; omega
   clear h1
   go_wp2_with fail
   go_meet
   exact ⟨g6, 0, HM8, hB8, Lib.hid ((show BlkW w8 g6 w 0 from hb8.out).set (by omega) (Nat.two_pow_pos _) (fun e => by
    rcases e with e | e
    ·exact hgG.out e
    exact hgE e)), HD8⟩
  case rest =>
   obtain ⟨g, m, hm, hB, hs, hD⟩ := hcut
   rename World => wy
   obtain ⟨e1, e2, e3⟩ := HSL.out
   subst e1 e2 e3
   clear HSL HM8 HE8 HD8 hB8 hb8 hgG hgE HMX
   have HSM := Lib.hid hs.out.hm
   have hLd1 : Ld.length ≤ 100 := by have := hI.out.ld; omega
   have hLt1 : Lt.length ≤ 100 := by have := hI.out.lt; omega
   have hLb1 : Lb.length ≤ 100 := by have := hI.out.lb; omega
   go_upto_region 14 with (fail)
   refine wp_region_heldL [19, 21, 23] (fun w' => w'.heap[X]? = some (.cells #[.int .i64 (w : Int), .slice a1 Ld.length c1, .slice a2 Lt.length c2, .slice a3 Lb.length c3] 55 (0, 0)) ∧ w'.heap[E]? = some (.cells #[.int .i64 (w : Int), .slice (some ⟨g, 0, none⟩) (nw w) (nw w)] 44 (0, 0))) (by kernel_rfl) ?_ (fun hHeld => ?_)
   ·exact ⟨(show Ext No wy wy.drew from (Ext.refl _ _).drew).blk hm.out.boxX no_no, (show Ext No wy wy.drew from (Ext.refl _ _).drew).blk hB.out no_no⟩
   have hdr : Ext No wy wy.drew := (Ext.refl _ _).drew
   replace hm := Lib.hid (hm.out.stepNo hdr)
   replace hB := Lib.hid (hdr.blk hB.out no_no)
   replace hs := Lib.hid (hs.out.extNo hdr)
   replace hD := Lib.hid (Row.extNo hD.out hdr)
   clear hdr
   generalize wy.drew = v0 at *
   refine heldL_free (i := 0) (v := ?_) rfl (by kernel_rfl) (by kernel_rfl) (by kernel_rfl) (by kernel_rfl) (by kernel_rfl) (fun _ _ _ h => h) rfl (fun w => ?_) hHeld ?_
   rotate_left
   ·go_simp; (try with_reducible rfl)
   try simp only [Act.put, nzA, nzB, nzC]
   refine heldL_take (i := 1) (v := ?_) rfl (by kernel_rfl) (by kernel_rfl) (by kernel_rfl) (by kernel_rfl) (by kernel_rfl) (fun _ _ _ h => h) rfl (fun w hSw => ?_) hHeld ?_
   rotate_left
   ·(have x0 := cellOf hSw.1); go_simp; (try with_reducible rfl)
   try simp only [Act.put, nzA, nzB, nzC]
   refine heldL_free (i := 2) (v := ?_) rfl (by kernel_rfl) (by kernel_rfl) (by kernel_rfl) (by kernel_rfl) (by kernel_rfl) (fun _ _ _ h => h) rfl (fun w => ?_) hHeld ?_
   rotate_left
   ·go_simp; (try with_reducible rfl)
   try simp only [Act.put, nzA, nzB, nzC]
   refine heldL_free (i := 5) (v := ?_) rfl (by kernel_rfl) (by kernel_rfl) (by kernel_rfl) (by kernel_rfl) (by kernel_rfl) (fun _ _ _ h => h) rfl (fun w => ?_) hHeld ?_
   rotate_left
   ·go_simp; (try with_reducible rfl)
   try simp only [Act.put, nzA, nzB, nzC]
   refine heldL_take (i := 6) (v := ?_) rfl (by kernel_rfl) (by kernel_rfl) (by kernel_rfl) (by kernel_rfl) (by kernel_rfl) (fun _ _ _ h => h) rfl (fun w hSw => ?_) hHeld ?_
   rotate_left
   ·(have x0 := cellOf hSw.1); go_simp; (try with_reducible rfl)
   try simp only [Act.put, nzA, nzB, nzC]
   refine heldL_take (i := 7) (v := ?_) rfl (by kernel_rfl) (by kernel_rfl) (by kernel_rfl) (by kernel_rfl) (by kernel_rfl) (fun _ _ _ h => h) rfl (fun w hSw => ?_) hHeld ?_
   rotate_left
   ·(have x0 := cellOf hSw.2); go_simp; (try with_reducible rfl)
   try simp only [Act.put, nzA, nzB, nzC]
   refine heldL_free (i := 10) (v := ?_) rfl (by kernel_rfl) (by kernel_rfl) (by kernel_rfl) (by kernel_rfl) (by kernel_rfl) (fun _ _ _ h => h) rfl (fun w => ?_) hHeld ?_
   rotate_left
   ·go_simp; (try with_reducible rfl)
   try simp only [Act.put, nzA, nzB, nzC]
   refine heldL_take (i := 11) (v := ?_) rfl (by kernel_rfl) (by kernel_rfl) (by kernel_rfl) (by kernel_rfl) (by kernel_rfl) (fun _ _ _ h => h) rfl (fun w hSw => ?_) hHeld ?_
   rotate_left
   ·(have x0 := cellOf hSw.1); go_simp; (try with_reducible rfl)
   try simp only [Act.put, nzA, nzB, nzC]
   refine heldL_free (i := 12) (v := ?_) rfl (by kernel_rfl) (by kernel_rfl) (by kernel_rfl) (by kernel_rfl) (by kernel_rfl) (fun _ _ _ h => h) rfl (fun w => ?_) hHeld ?_
   rotate_left
   ·go_simp; (try with_reducible rfl)
   try simp only [Act.put, nzA, nzB, nzC]
   refine heldL_free (i := 13) (v := ?_) rfl (by kernel_rfl) (by kernel_rfl) (by kernel_rfl) (by kernel_rfl) (by kernel_rfl) (fun _ _ _ h => h) rfl (fun w => ?_) hHeld ?_
   rotate_left
   ·go_simp; (try with_reducible rfl)
   try simp only [Act.put, nzA, nzB, nzC]
   refine heldL_take (i := 14) (v := ?_) rfl (by kernel_rfl) (by kernel_rfl) (by kernel_rfl) (by kernel_rfl) (by kernel_rfl) (fun _ _ _ h => h) rfl (fun w hSw => ?_) hHeld ?_
   rotate_left
   ·(have x0 := cellOf hSw.1); go_simp; (try with_reducible rfl)
   try simp only [Act.put, nzA, nzB, nzC]
   refine heldL_next2 (i := 3) (j := 8) (by kernel_rfl) (NextL.mk rfl rfl (fun K hK => ?_)) (NextL.mk rfl rfl (fun K hK => ?_))
   ·go_simp
    refine hK.out _ _ ?_ ?_
    ·intro _; exact ⟨alloc_under hm.out.boxX, alloc_under hB.out⟩
    clear hK K hHeld
    intro hHeld
    have hx := (Ext.refl No v0).alloc (.cells #[.slice da l.length dc] 22)
    have hLd := Lib.hid (alloc_top (w := v0) (o := (.cells #[.slice da l.length dc] 22)) rfl)
    replace hm := Lib.hid (hm.out.stepNo hx)
    replace hB := Lib.hid (hx.blk hB.out no_no)
    replace hs := Lib.hid (hs.out.extNo hx)
    replace hD := Lib.hid (Row.extNo hD.out hx)
    clear hx
    generalize (v0.alloc (.cells #[.slice da l.length dc] 22)) = v1 at *
    generalize v0.heap.size = BD at *
    try simp only [Act.put, nzA, nzB, nzC]
    refine heldL_next2 (i := 4) (j := 8) (by kernel_rfl) (NextL.mk rfl rfl (fun K hK => ?_)) (NextL.mk rfl rfl (fun K hK => ?_))
    ·((refine wp_app _ (.tmp 45) (.tmp 47) 52 rfl (X + 1) 22 iD _ 1 24 Tryz.underlying52 hiD hD0 hD1 hD2 rfl (by omega) (.slice a1 Ld.length c1) Ld.length (Ld.flatMap kD.cells) rfl hm.out.d.own No (some ⟨BD, 0, none⟩) 1 1 [.slice da l.length dc] rfl (Row.block hLd.out rfl no_no (by omega)) (by simp [Value.oneCell']) (by omega) (by omega) (lt_of_block hm.out.boxX) ?_); (intro v9 w9 hown1 hg1 hv1); (have hE9 : Ext (fun bq => Value.ownBlock (.slice a1 Ld.length c1) = some bq) v1 w9 := (Ext.refl _ _).grown hg1 (fun bq hk _ => hk)); (have hm9 := Lib.hid (hm.out.appD (p := (l, .slice da l.length dc)) (Row.mono hD.out (fun i _ e => .inl e)) hown1 hg1 hv1)); (have hb9 := Lib.hid (hE9.blk hB.out (fun e => HNE.out.1.1 e))); (have hs9b := Lib.hid (hm.out.carryS (hs.out.mono (fun i _ e => .inl e)) hg1 hv1)); (obtain ⟨x1, y1, hs9⟩ := hm9.out.d.slice); (rw [List.length_append] at hs9); (subst hs9); (clear hown1 hg1 hv1))
     refine hK.out _ _ ?_ ?_
     ·intro _; exact ⟨hm9.out.boxX, hb9.out⟩
     clear hK K hHeld
     intro hHeld
     clear hm hB
     have hm := hm9
     have hB := hb9
     clear hm9 hb9
     replace hs := hs9b
     clear hs9b hD hLd
     clear hE9
     generalize w9 = v2 at *
     try simp only [Act.put, nzA, nzB, nzC]
     refine heldL_free (i := 18) (v := ?_) rfl (by kernel_rfl) (by kernel_rfl) (by kernel_rfl) (by kernel_rfl) (by kernel_rfl) (fun _ _ _ h => h) rfl (fun w => ?_) hHeld ?_
     rotate_left
     ·go_simp; (try with_reducible rfl)
     try simp only [Act.put, nzA, nzB, nzC]
     refine heldL_next1 (i := 8) (by kernel_rfl) (NextL.mk rfl rfl (fun K hK => ?_))
     go_simp
     refine hK.out _ _ ?_ ?_
     ·intro _; exact ⟨alloc_under hm.out.boxX, alloc_under hB.out⟩
     clear hK K hHeld
     intro hHeld
     have hx := (Ext.refl No v2).alloc (.cells #[.int .i64 (w : Int), .slice (some ⟨g, 0, none⟩) (nw w) (nw w)] 44)
     have hLb := Lib.hid (alloc_top (w := v2) (o := (.cells #[.int .i64 (w : Int), .slice (some ⟨g, 0, none⟩) (nw w) (nw w)] 44)) rfl)
     replace hm := Lib.hid (hm.out.stepNo hx)
     replace hB := Lib.hid (hx.blk hB.out no_no)
     replace hs := Lib.hid (hs.out.extNo hx)
     clear hx
     generalize (v2.alloc (.cells #[.int .i64 (w : Int), .slice (some ⟨g, 0, none⟩) (nw w) (nw w)] 44)) = v3 at *
     generalize v2.heap.size = BB at *
     try simp only [Act.put, nzA, nzB, nzC]
     refine heldL_next1 (i := 9) (by kernel_rfl) (NextL.mk rfl rfl (fun K hK => ?_))
     ((refine wp_app _ (.tmp 50) (.tmp 52) 23 rfl (X + 1) 44 iS _ 2 32 Tryz.underlying23 hiS hS0 hS1 hS2 rfl (by omega) (.slice a3 Lb.length c3) Lb.length (Lb.flatMap kS.cells) rfl hm.out.b.own No (some ⟨BB, 0, none⟩) 1 1 [.int .i64 (w : Int), .slice (some ⟨g, 0, none⟩) (nw w) (nw w)] rfl (Row.block hLb.out rfl no_no (by omega)) (by simp [Value.oneCell']) (by omega) (by omega) (lt_of_block hm.out.boxX) ?_); (intro v9 w9 hown1 hg1 hv1); (have hE9 : Ext (fun bq => Value.ownBlock (.slice a3 Lb.length c3) = some bq) v3 w9 := (Ext.refl _ _).grown hg1 (fun bq hk _ => hk)); (have hm9 := Lib.hid (hm.out.appB (p := (setN w m, .slice (some ⟨g, 0, none⟩) (nw w) (nw w))) hs.out.words hown1 hg1 hv1)); (have hb9 := Lib.hid (hE9.blk hB.out (fun e => HNE.out.1.2.2 e))); (obtain ⟨x3, y3, hs9⟩ := hm9.out.b.slice); (rw [List.length_append] at hs9); (subst hs9); (clear hown1 hg1 hv1))
     refine hK.out _ _ ?_ ?_
     ·intro _; exact ⟨hm9.out.boxX, hb9.out⟩
     clear hK K hHeld
     intro hHeld
     clear hm hB
     have hm := hm9
     have hB := hb9
     clear hm9 hb9
     clear hs hLb
     have hs := trivial
     clear hs
     clear hE9
     generalize w9 = v4 at *
     try simp only [Act.put, nzA, nzB, nzC]
     refine heldL_next1 (i := 15) (by kernel_rfl) (NextL.mk rfl rfl (fun K hK => ?_))
     (go_simp; (go_at_call 22); (refine (gtr_any tb w _ (by omega) hm.out.tape).mono ?_); (rintro e9 w9 ⟨t, sg, sk, sc, htw, rfl, hF, ht9, hyA⟩); (have hug := hF.out.gen.slice); (have huk := hF.out.kill.slice); (rw [htw] at hug huk); (obtain ⟨ga, gc, rfl⟩ := hug); (obtain ⟨ka, kc, rfl⟩ := huk); (obtain ⟨pa, pc, hup⟩ := Row.slice hF.out.copies); (obtain ⟨pn, hpn⟩ : ∃ pn, pn = t.copies.length := ⟨_, rfl⟩); (rw [← hpn] at hup); (subst hup); (have HTW := Lib.hid (And.intro htw (And.intro hpn hF.out.ok))); (have hT := Lib.hid (hF.out.raw.mono (M' := GA X (.slice x1 (Ld.length + 1) y1) (.slice a2 Lt.length c2) (.slice x3 (Lb.length + 1) y3)) (fun i _ e => hm.out.hM i e))); (have hm9 := Lib.hid (hm.out.step hyA ht9)); (have hb9 := Lib.hid (hyA.blk hB.out (by unfold At; have := hm.out.lt; have := hm.out.low; have := HNE.out.2; omega))); (clear htw hpn hF hyA ht9); go_simp)
     refine hK.out _ _ ?_ ?_
     ·intro _; exact ⟨hm9.out.boxX, hb9.out⟩
     clear hK K hHeld
     intro hHeld
     clear hm hB
     have hm := hm9
     have hB := hb9
     clear hm9 hb9
     generalize w9 = v5 at *
     try simp only [Act.put, nzA, nzB, nzC]
     refine heldL_next1 (i := 16) (by kernel_rfl) (NextL.mk rfl rfl (fun K hK => ?_))
     go_simp
     refine hK.out _ _ ?_ ?_
     ·intro _; exact ⟨alloc_under hm.out.boxX, alloc_under hB.out⟩
     clear hK K hHeld
     intro hHeld
     have hx := (Ext.refl No v5).alloc (.cells #[.int .i64 (w : Int), .slice ga (nw w) gc, .int .i64 (w : Int), .slice ka (nw w) kc, .slice pa pn pc] 47)
     have hLt := Lib.hid (alloc_top (w := v5) (o := (.cells #[.int .i64 (w : Int), .slice ga (nw w) gc, .int .i64 (w : Int), .slice ka (nw w) kc, .slice pa pn pc] 47)) rfl)
     replace hm := Lib.hid (hm.out.stepNo hx)
     replace hB := Lib.hid (hx.blk hB.out no_no)
     replace hT := Lib.hid (hT.out.extNo hx)
     clear hx
     generalize (v5.alloc (.cells #[.int .i64 (w : Int), .slice ga (nw w) gc, .int .i64 (w : Int), .slice ka (nw w) kc, .slice pa pn pc] 47)) = v6 at *
     generalize v5.heap.size = BT at *
     try simp only [Act.put, nzA, nzB, nzC]
     refine heldL_next1 (i := 17) (by kernel_rfl) (NextL.mk rfl rfl (fun K hK => ?_))
     ((refine wp_app _ (.tmp 55) (.tmp 60) 53 rfl (X + 1) 47 iT _ 5 88 Tryz.underlying53 hiT hT0 hT1 hT2 rfl (by omega) (.slice a2 Lt.length c2) Lt.length (Lt.flatMap kT.cells) rfl hm.out.t.own No (some ⟨BT, 0, none⟩) 1 1 [.int .i64 (w : Int), .slice ga (nw w) gc, .int .i64 (w : Int), .slice ka (nw w) kc, .slice pa pn pc] rfl (Row.block hLt.out rfl no_no (by omega)) (by simp [Value.oneCell']) (by omega) (by omega) (lt_of_block hm.out.boxX) ?_); (intro v9 w9 hown1 hg1 hv1); (have hE9 : Ext (fun bq => Value.ownBlock (.slice a2 Lt.length c2) = some bq) v6 w9 := (Ext.refl _ _).grown hg1 (fun bq hk _ => hk)); (have hm9 := Lib.hid (hm.out.appT (p := (rawT t, .slice ga (nw w) gc, .slice ka (nw w) kc, .slice pa pn pc)) hT.out (by have hcp : kT.cells (rawT t, .slice ga (nw w) gc, .slice ka (nw w) kc, .slice pa pn pc) = [.int .i64 (w : Int), .slice ga (nw w) gc, .int .i64 (w : Int), .slice ka (nw w) kc, .slice pa pn pc] := (by show [Value.int .i64 ((t.w : Nat) : Int), _, Value.int .i64 ((t.w : Nat) : Int), _, _] = _; rw [HTW.out.1]); rw [hcp]; exact hown1) hg1 hv1)); (have hb9 := Lib.hid (hE9.blk hB.out (fun e => HNE.out.1.2.1 e))); (obtain ⟨x2, y2, hs9⟩ := hm9.out.t.slice); (rw [List.length_append] at hs9); (subst hs9); (clear hown1 hg1 hv1))
     refine hK.out _ _ ?_ ?_
     ·intro _; exact ⟨hm9.out.boxX, hb9.out⟩
     clear hK K hHeld
     intro hHeld
     clear hm hB
     have hm := hm9
     have hB := hb9
     clear hm9 hb9
     clear hT hLt
     clear hE9
     generalize w9 = v7 at *
     try simp only [Act.put, nzA, nzB, nzC]
     refine heldL_next1 (i := 19) (by kernel_rfl) (NextL.mk rfl rfl (fun K hK => ?_))
     ((have cX := cellOf hm.out.boxX); (have fX := freeOf hm.out.boxX); go_simp; (clear cX fX))
     refine hK.out _ _ ?_ ?_
     ·exact fun h => absurd h (by decide)
     clear hK K hHeld
     intro hHeld
     have hm9 := Lib.hid (show GyM tb W (v7.setCell ⟨X, 1, none⟩ (.slice x1 (Ld.length + 1) y1)) X #[.int .i64 (w : Int), .slice x1 (Ld.length + 1) y1, .slice a2 Lt.length c2, .slice a3 Lb.length c3] (.slice x1 (Ld.length + 1) y1) (.slice x2 (Lt.length + 1) y2) (.slice x3 (Lb.length + 1) y3) _ _ _ from hm.out.putX 1 (.slice x1 (Ld.length + 1) y1))
     clear hm
     have hm := hm9
     clear hm9
     generalize (v7.setCell ⟨X, 1, none⟩ (.slice x1 (Ld.length + 1) y1)) = v8 at *
     try simp only [Act.put, nzA, nzB, nzC]
     refine heldL_free (i := 20) (v := ?_) rfl (by kernel_rfl) (by kernel_rfl) (by kernel_rfl) (by kernel_rfl) (by kernel_rfl) (fun _ _ _ h => h) rfl (fun w => ?_) hHeld ?_
     rotate_left
     ·go_simp; (try with_reducible rfl)
     try simp only [Act.put, nzA, nzB, nzC]
     refine heldL_next1 (i := 21) (by kernel_rfl) (NextL.mk rfl rfl (fun K hK => ?_))
     ((have cX := cellOf hm.out.boxX); (have fX := freeOf hm.out.boxX); go_simp; (clear cX fX))
     refine hK.out _ _ ?_ ?_
     ·exact fun h => absurd h (by decide)
     clear hK K hHeld
     intro hHeld
     have hm9 := Lib.hid (show GyM tb W (v8.setCell ⟨X, 3, none⟩ (.slice x3 (Lb.length + 1) y3)) X #[.int .i64 (w : Int), .slice x1 (Ld.length + 1) y1, .slice a2 Lt.length c2, .slice x3 (Lb.length + 1) y3] (.slice x1 (Ld.length + 1) y1) (.slice x2 (Lt.length + 1) y2) (.slice x3 (Lb.length + 1) y3) _ _ _ from hm.out.putX 3 (.slice x3 (Lb.length + 1) y3))
     clear hm
     have hm := hm9
     clear hm9
     generalize (v8.setCell ⟨X, 3, none⟩ (.slice x3 (Lb.length + 1) y3)) = v9 at *
     try simp only [Act.put, nzA, nzB, nzC]
     refine heldL_free (i := 22) (v := ?_) rfl (by kernel_rfl) (by kernel_rfl) (by kernel_rfl) (by kernel_rfl) (by kernel_rfl) (fun _ _ _ h => h) rfl (fun w => ?_) hHeld ?_
     rotate_left
     ·go_simp; (try with_reducible rfl)
     try simp only [Act.put, nzA, nzB, nzC]
     refine heldL_next1 (i := 23) (by kernel_rfl) (NextL.mk rfl rfl (fun K hK => ?_))
     ((have cX := cellOf hm.out.boxX); (have fX := freeOf hm.out.boxX); go_simp; (clear cX fX))
     refine hK.out _ _ ?_ ?_
     ·exact fun h => absurd h (by decide)
     clear hK K hHeld
     intro hHeld
     have hm9 := Lib.hid (show GyM tb W (v9.setCell ⟨X, 2, none⟩ (.slice x2 (Lt.length + 1) y2)) X #[.int .i64 (w : Int), .slice x1 (Ld.length + 1) y1, .slice x2 (Lt.length + 1) y2, .slice x3 (Lb.length + 1) y3] (.slice x1 (Ld.length + 1) y1) (.slice x2 (Lt.length + 1) y2) (.slice x3 (Lb.length + 1) y3) _ _ _ from hm.out.putX 2 (.slice x2 (Lt.length + 1) y2))
     clear hm
     have hm := hm9
     clear hm9
     generalize (v9.setCell ⟨X, 2, none⟩ (.slice x2 (Lt.length + 1) y2)) = v10 at *
     try simp only [Act.put, nzA, nzB, nzC]
     refine heldL_done (by kernel_rfl) ?_ _
     go_wp2_with fail
     go_roundw
     case rel => exact ⟨i + 1, _, _, _, _, _, _, HII.out, by omega, hm, Lib.hid (hI.out.snoc (pd := (l, _)) (pt := (rawT t, _, _, _)) (pb := (setN w m, _)) ⟨HD.out.2.1, HD.out.2.2⟩ ⟨validT_ok HTW.out.2.2, by show ((t.w : Nat) : Int) = _; rw [HTW.out.1]⟩ ⟨validB_set (by omega) HSM.out, rfl⟩)⟩
     case measure => simp [intOf]; omega
    go_simp
    refine hK.out _ _ ?_ ?_
    ·intro _; exact ⟨alloc_under hm.out.boxX, alloc_under hB.out⟩
    clear hK K hHeld
    intro hHeld
    have hx := (Ext.refl No v1).alloc (.cells #[.int .i64 (w : Int), .slice (some ⟨g, 0, none⟩) (nw w) (nw w)] 44)
    have hLb := Lib.hid (alloc_top (w := v1) (o := (.cells #[.int .i64 (w : Int), .slice (some ⟨g, 0, none⟩) (nw w) (nw w)] 44)) rfl)
    have hBn : Hid (Value.ownBlock (.slice a1 Ld.length c1) ≠ some v1.heap.size) := Lib.hid (fun e => Nat.lt_irrefl _ (hm.out.d.lt _ e).2)
    replace hm := Lib.hid (hm.out.stepNo hx)
    replace hB := Lib.hid (hx.blk hB.out no_no)
    replace hs := Lib.hid (hs.out.extNo hx)
    replace hD := Lib.hid (Row.extNo hD.out hx)
    replace hLd := Lib.hid (hx.blk hLd.out no_no)
    clear hx
    generalize (v1.alloc (.cells #[.int .i64 (w : Int), .slice (some ⟨g, 0, none⟩) (nw w) (nw w)] 44)) = v2 at *
    generalize v1.heap.size = BB at *
    try simp only [Act.put, nzA, nzB, nzC]
    refine heldL_next1 (i := 4) (by kernel_rfl) (NextL.mk rfl rfl (fun K hK => ?_))
    ((refine wp_app _ (.tmp 45) (.tmp 47) 52 rfl (X + 1) 22 iD _ 1 24 Tryz.underlying52 hiD hD0 hD1 hD2 rfl (by omega) (.slice a1 Ld.length c1) Ld.length (Ld.flatMap kD.cells) rfl hm.out.d.own No (some ⟨BD, 0, none⟩) 1 1 [.slice da l.length dc] rfl (Row.block hLd.out rfl no_no (by omega)) (by simp [Value.oneCell']) (by omega) (by omega) (lt_of_block hm.out.boxX) ?_); (intro v9 w9 hown1 hg1 hv1); (have hE9 : Ext (fun bq => Value.ownBlock (.slice a1 Ld.length c1) = some bq) v2 w9 := (Ext.refl _ _).grown hg1 (fun bq hk _ => hk)); (have hm9 := Lib.hid (hm.out.appD (p := (l, .slice da l.length dc)) (Row.mono hD.out (fun i _ e => .inl e)) hown1 hg1 hv1)); (have hb9 := Lib.hid (hE9.blk hB.out (fun e => HNE.out.1.1 e))); (have hs9b := Lib.hid (hm.out.carryS (hs.out.mono (fun i _ e => .inl e)) hg1 hv1)); (have hLb9 := Lib.hid (hE9.blk hLb.out (fun e => hBn.out e))); (obtain ⟨x1, y1, hs9⟩ := hm9.out.d.slice); (rw [List.length_append] at hs9); (subst hs9); (clear hown1 hg1 hv1))
    refine hK.out _ _ ?_ ?_
    ·intro _; exact ⟨hm9.out.boxX, hb9.out⟩
    clear hK K hHeld
    intro hHeld
    clear hm hB
    have hm := hm9
    have hB := hb9
    clear hm9 hb9
    replace hs := hs9b
    clear hs9b hD hLd
    replace hLb := hLb9
    clear hLb9
    clear hE9
    generalize w9 = v3 at *
    try simp only [Act.put, nzA, nzB, nzC]
    refine heldL_free (i := 18) (v := ?_) rfl (by kernel_rfl) (by kernel_rfl) (by kernel_rfl) (by kernel_rfl) (by kernel_rfl) (fun _ _ _ h => h) rfl (fun w => ?_) hHeld ?_
    rotate_left
    ·go_simp; (try with_reducible rfl)
    try simp only [Act.put, nzA, nzB, nzC]
    refine heldL_next1 (i := 9) (by kernel_rfl) (NextL.mk rfl rfl (fun K hK => ?_))
    ((refine wp_app _ (.tmp 50) (.tmp 52) 23 rfl (X + 1) 44 iS _ 2 32 Tryz.underlying23 hiS hS0 hS1 hS2 rfl (by omega) (.slice a3 Lb.length c3) Lb.length (Lb.flatMap kS.cells) rfl hm.out.b.own No (some ⟨BB, 0, none⟩) 1 1 [.int .i64 (w : Int), .slice (some ⟨g, 0, none⟩) (nw w) (nw w)] rfl (Row.block hLb.out rfl no_no (by omega)) (by simp [Value.oneCell']) (by omega) (by omega) (lt_of_block hm.out.boxX) ?_); (intro v9 w9 hown1 hg1 hv1); (have hE9 : Ext (fun bq => Value.ownBlock (.slice a3 Lb.length c3) = some bq) v3 w9 := (Ext.refl _ _).grown hg1 (fun bq hk _ => hk)); (have hm9 := Lib.hid (hm.out.appB (p := (setN w m, .slice (some ⟨g, 0, none⟩) (nw w) (nw w))) hs.out.words hown1 hg1 hv1)); (have hb9 := Lib.hid (hE9.blk hB.out (fun e => HNE.out.1.2.2 e))); (obtain ⟨x3, y3, hs9⟩ := hm9.out.b.slice); (rw [List.length_append] at hs9); (subst hs9); (clear hown1 hg1 hv1))
    refine hK.out _ _ ?_ ?_
    ·intro _; exact ⟨hm9.out.boxX, hb9.out⟩
    clear hK K hHeld
    intro hHeld
    clear hm hB
    have hm := hm9
    have hB := hb9
    clear hm9 hb9
    clear hs hLb
    have hs := trivial
    clear hs
    clear hE9
    generalize w9 = v4 at *
    try simp only [Act.put, nzA, nzB, nzC]
    refine heldL_next1 (i := 15) (by kernel_rfl) (NextL.mk rfl rfl (fun K hK => ?_))
    (go_simp; (go_at_call 22); (refine (gtr_any tb w _ (by omega) hm.out.tape).mono ?_); (rintro e9 w9 ⟨t, sg, sk, sc, htw, rfl, hF, ht9, hyA⟩); (have hug := hF.out.gen.slice); (have huk := hF.out.kill.slice); (rw [htw] at hug huk); (obtain ⟨ga, gc, rfl⟩ := hug); (obtain ⟨ka, kc, rfl⟩ := huk); (obtain ⟨pa, pc, hup⟩ := Row.slice hF.out.copies); (obtain ⟨pn, hpn⟩ : ∃ pn, pn = t.copies.length := ⟨_, rfl⟩); (rw [← hpn] at hup); (subst hup); (have HTW := Lib.hid (And.intro htw (And.intro hpn hF.out.ok))); (have hT := Lib.hid (hF.out.raw.mono (M' := GA X (.slice x1 (Ld.length + 1) y1) (.slice a2 Lt.length c2) (.slice x3 (Lb.length + 1) y3)) (fun i _ e => hm.out.hM i e))); (have hm9 := Lib.hid (hm.out.step hyA ht9)); (have hb9 := Lib.hid (hyA.blk hB.out (by unfold At; have := hm.out.lt; have := hm.out.low; have := HNE.out.2; omega))); (clear htw hpn hF hyA ht9); go_simp)
    refine hK.out _ _ ?_ ?_
    ·intro _; exact ⟨hm9.out.boxX, hb9.out⟩
    clear hK K hHeld
    intro hHeld
    clear hm hB
    have hm := hm9
    have hB := hb9
    clear hm9 hb9
    generalize w9 = v5 at *
    try simp only [Act.put, nzA, nzB, nzC]
    refine heldL_next1 (i := 16) (by kernel_rfl) (NextL.mk rfl rfl (fun K hK => ?_))
    go_simp
    refine hK.out _ _ ?_ ?_
    ·intro _; exact ⟨alloc_under hm.out.boxX, alloc_under hB.out⟩
    clear hK K hHeld
    intro hHeld
    have hx := (Ext.refl No v5).alloc (.cells #[.int .i64 (w : Int), .slice ga (nw w) gc, .int .i64 (w : Int), .slice ka (nw w) kc, .slice pa pn pc] 47)
    have hLt := Lib.hid (alloc_top (w := v5) (o := (.cells #[.int .i64 (w : Int), .slice ga (nw w) gc, .int .i64 (w : Int), .slice ka (nw w) kc, .slice pa pn pc] 47)) rfl)
    replace hm := Lib.hid (hm.out.stepNo hx)
    replace hB := Lib.hid (hx.blk hB.out no_no)
    replace hT := Lib.hid (hT.out.extNo hx)
    clear hx
    generalize (v5.alloc (.cells #[.int .i64 (w : Int), .slice ga (nw w) gc, .int .i64 (w : Int), .slice ka (nw w) kc, .slice pa pn pc] 47)) = v6 at *
    generalize v5.heap.size = BT at *
    try simp only [Act.put, nzA, nzB, nzC]
    refine heldL_next1 (i := 17) (by kernel_rfl) (NextL.mk rfl rfl (fun K hK => ?_))
    ((refine wp_app _ (.tmp 55) (.tmp 60) 53 rfl (X + 1) 47 iT _ 5 88 Tryz.underlying53 hiT hT0 hT1 hT2 rfl (by omega) (.slice a2 Lt.length c2) Lt.length (Lt.flatMap kT.cells) rfl hm.out.t.own No (some ⟨BT, 0, none⟩) 1 1 [.int .i64 (w : Int), .slice ga (nw w) gc, .int .i64 (w : Int), .slice ka (nw w) kc, .slice pa pn pc] rfl (Row.block hLt.out rfl no_no (by omega)) (by simp [Value.oneCell']) (by omega) (by omega) (lt_of_block hm.out.boxX) ?_); (intro v9 w9 hown1 hg1 hv1); (have hE9 : Ext (fun bq => Value.ownBlock (.slice a2 Lt.length c2) = some bq) v6 w9 := (Ext.refl _ _).grown hg1 (fun bq hk _ => hk)); (have hm9 := Lib.hid (hm.out.appT (p := (rawT t, .slice ga (nw w) gc, .slice ka (nw w) kc, .slice pa pn pc)) hT.out (by have hcp : kT.cells (rawT t, .slice ga (nw w) gc, .slice ka (nw w) kc, .slice pa pn pc) = [.int .i64 (w : Int), .slice ga (nw w) gc, .int .i64 (w : Int), .slice ka (nw w) kc, .slice pa pn pc] := (by show [Value.int .i64 ((t.w : Nat) : Int), _, Value.int .i64 ((t.w : Nat) : Int), _, _] = _; rw [HTW.out.1]); rw [hcp]; exact hown1) hg1 hv1)); (have hb9 := Lib.hid (hE9.blk hB.out (fun e => HNE.out.1.2.1 e))); (obtain ⟨x2, y2, hs9⟩ := hm9.out.t.slice); (rw [List.length_append] at hs9); (subst hs9); (clear hown1 hg1 hv1))
    refine hK.out _ _ ?_ ?_
    ·intro _; exact ⟨hm9.out.boxX, hb9.out⟩
    clear hK K hHeld
    intro hHeld
    clear hm hB
    have hm := hm9
    have hB := hb9
    clear hm9 hb9
    clear hT hLt
    clear hE9
    generalize w9 = v7 at *
    try simp only [Act.put, nzA, nzB, nzC]
    refine heldL_next1 (i := 19) (by kernel_rfl) (NextL.mk rfl rfl (fun K hK => ?_))
    ((have cX := cellOf hm.out.boxX); (have fX := freeOf hm.out.boxX); go_simp; (clear cX fX))
    refine hK.out _ _ ?_ ?_
    ·exact fun h => absurd h (by decide)
    clear hK K hHeld
    intro hHeld
    have hm9 := Lib.hid (show GyM tb W (v7.setCell ⟨X, 1, none⟩ (.slice x1 (Ld.length + 1) y1)) X #[.int .i64 (w : Int), .slice x1 (Ld.length + 1) y1, .slice a2 Lt.length c2, .slice a3 Lb.length c3] (.slice x1 (Ld.length + 1) y1) (.slice x2 (Lt.length + 1) y2) (.slice x3 (Lb.length + 1) y3) _ _ _ from hm.out.putX 1 (.slice x1 (Ld.length + 1) y1))
    clear hm
    have hm := hm9
    clear hm9
    generalize (v7.setCell ⟨X, 1, none⟩ (.slice x1 (Ld.length + 1) y1)) = v8 at *
    try simp only [Act.put, nzA, nzB, nzC]
    refine heldL_free (i := 20) (v := ?_) rfl (by kernel_rfl) (by kernel_rfl) (by kernel_rfl) (by kernel_rfl) (by kernel_rfl) (fun _ _ _ h => h) rfl (fun w => ?_) hHeld ?_
    rotate_left
    ·go_simp; (try with_reducible rfl)
    try simp only [Act.put, nzA, nzB, nzC]
    refine heldL_next1 (i := 21) (by kernel_rfl) (NextL.mk rfl rfl (fun K hK => ?_))
    ((have cX := cellOf hm.out.boxX); (have fX := freeOf hm.out.boxX); go_simp; (clear cX fX))
    refine hK.out _ _ ?_ ?_
    ·exact fun h => absurd h (by decide)
    clear hK K hHeld
    intro hHeld
    have hm9 := Lib.hid (show GyM tb W (v8.setCell ⟨X, 3, none⟩ (.slice x3 (Lb.length + 1) y3)) X #[.int .i64 (w : Int), .slice x1 (Ld.length + 1) y1, .slice a2 Lt.length c2, .slice x3 (Lb.length + 1) y3] (.slice x1 (Ld.length + 1) y1) (.slice x2 (Lt.length + 1) y2) (.slice x3 (Lb.length + 1) y3) _ _ _ from hm.out.putX 3 (.slice x3 (Lb.length + 1) y3))
    clear hm
    have hm := hm9
    clear hm9
    generalize (v8.setCell ⟨X, 3, none⟩ (.slice x3 (Lb.length + 1) y3)) = v9 at *
    try simp only [Act.put, nzA, nzB, nzC]
    refine heldL_free (i := 22) (v := ?_) rfl (by kernel_rfl) (by kernel_rfl) (by kernel_rfl) (by kernel_rfl) (by kernel_rfl) (fun _ _ _ h => h) rfl (fun w => ?_) hHeld ?_
    rotate_left
    ·go_simp; (try with_reducible rfl)
    try simp only [Act.put, nzA, nzB, nzC]
    refine heldL_next1 (i := 23) (by kernel_rfl) (NextL.mk rfl rfl (fun K hK => ?_))
    ((have cX := cellOf hm.out.boxX); (have fX := freeOf hm.out.boxX); go_simp; (clear cX fX))
    refine hK.out _ _ ?_ ?_
    ·exact fun h => absurd h (by decide)
    clear hK K hHeld
    intro hHeld
    have hm9 := Lib.hid (show GyM tb W (v9.setCell ⟨X, 2, none⟩ (.slice x2 (Lt.length + 1) y2)) X #[.int .i64 (w : Int), .slice x1 (Ld.length + 1) y1, .slice x2 (Lt.length + 1) y2, .slice x3 (Lb.length + 1) y3] (.slice x1 (Ld.length + 1) y1) (.slice x2 (Lt.length + 1) y2) (.slice x3 (Lb.length + 1) y3) _ _ _ from hm.out.putX 2 (.slice x2 (Lt.length + 1) y2))
    clear hm
    have hm := hm9
    clear hm9
    generalize (v9.setCell ⟨X, 2, none⟩ (.slice x2 (Lt.length + 1) y2)) = v10 at *
    try simp only [Act.put, nzA, nzB, nzC]
    refine heldL_done (by kernel_rfl) ?_ _
    go_wp2_with fail
    go_roundw
    case rel => exact ⟨i + 1, _, _, _, _, _, _, HII.out, by omega, hm, Lib.hid (hI.out.snoc (pd := (l, _)) (pt := (rawT t, _, _, _)) (pb := (setN w m, _)) ⟨HD.out.2.1, HD.out.2.2⟩ ⟨validT_ok HTW.out.2.2, by show ((t.w : Nat) : Int) = _; rw [HTW.out.1]⟩ ⟨validB_set (by omega) HSM.out, rfl⟩)⟩
    case measure => simp [intOf]; omega
   go_simp
   refine hK.out _ _ ?_ ?_
   ·intro _; exact ⟨alloc_under hm.out.boxX, alloc_under hB.out⟩
   clear hK K hHeld
   intro hHeld
   have hx := (Ext.refl No v0).alloc (.cells #[.int .i64 (w : Int), .slice (some ⟨g, 0, none⟩) (nw w) (nw w)] 44)
   have hLb := Lib.hid (alloc_top (w := v0) (o := (.cells #[.int .i64 (w : Int), .slice (some ⟨g, 0, none⟩) (nw w) (nw w)] 44)) rfl)
   have hBn : Hid (Value.ownBlock (.slice a1 Ld.length c1) ≠ some v0.heap.size) := Lib.hid (fun e => Nat.lt_irrefl _ (hm.out.d.lt _ e).2)
   replace hm := Lib.hid (hm.out.stepNo hx)
   replace hB := Lib.hid (hx.blk hB.out no_no)
   replace hs := Lib.hid (hs.out.extNo hx)
   replace hD := Lib.hid (Row.extNo hD.out hx)
   clear hx
   generalize (v0.alloc (.cells #[.int .i64 (w : Int), .slice (some ⟨g, 0, none⟩) (nw w) (nw w)] 44)) = v1 at *
   generalize v0.heap.size = BB at *
   try simp only [Act.put, nzA, nzB, nzC]
   refine heldL_next1 (i := 3) (by kernel_rfl) (NextL.mk rfl rfl (fun K hK => ?_))
   go_simp
   refine hK.out _ _ ?_ ?_
   ·intro _; exact ⟨alloc_under hm.out.boxX, alloc_under hB.out⟩
   clear hK K hHeld
   intro hHeld
   have hx := (Ext.refl No v1).alloc (.cells #[.slice da l.length dc] 22)
   have hLd := Lib.hid (alloc_top (w := v1) (o := (.cells #[.slice da l.length dc] 22)) rfl)
   replace hm := Lib.hid (hm.out.stepNo hx)
   replace hB := Lib.hid (hx.blk hB.out no_no)
   replace hs := Lib.hid (hs.out.extNo hx)
   replace hD := Lib.hid (Row.extNo hD.out hx)
   replace hLb := Lib.hid (hx.blk hLb.out no_no)
   clear hx
   generalize (v1.alloc (.cells #[.slice da l.length dc] 22)) = v2 at *
   generalize v1.heap.size = BD at *
   try simp only [Act.put, nzA, nzB, nzC]
   refine heldL_next1 (i := 4) (by kernel_rfl) (NextL.mk rfl rfl (fun K hK => ?_))
   ((refine wp_app _ (.tmp 45) (.tmp 47) 52 rfl (X + 1) 22 iD _ 1 24 Tryz.underlying52 hiD hD0 hD1 hD2 rfl (by omega) (.slice a1 Ld.length c1) Ld.length (Ld.flatMap kD.cells) rfl hm.out.d.own No (some ⟨BD, 0, none⟩) 1 1 [.slice da l.length dc] rfl (Row.block hLd.out rfl no_no (by omega)) (by simp [Value.oneCell']) (by omega) (by omega) (lt_of_block hm.out.boxX) ?_); (intro v9 w9 hown1 hg1 hv1); (have hE9 : Ext (fun bq => Value.ownBlock (.slice a1 Ld.length c1) = some bq) v2 w9 := (Ext.refl _ _).grown hg1 (fun bq hk _ => hk)); (have hm9 := Lib.hid (hm.out.appD (p := (l, .slice da l.length dc)) (Row.mono hD.out (fun i _ e => .inl e)) hown1 hg1 hv1)); (have hb9 := Lib.hid (hE9.blk hB.out (fun e => HNE.out.1.1 e))); (have hs9b := Lib.hid (hm.out.carryS (hs.out.mono (fun i _ e => .inl e)) hg1 hv1)); (have hLb9 := Lib.hid (hE9.blk hLb.out (fun e => hBn.out e))); (obtain ⟨x1, y1, hs9⟩ := hm9.out.d.slice); (rw [List.length_append] at hs9); (subst hs9); (clear hown1 hg1 hv1))
   refine hK.out _ _ ?_ ?_
   ·intro _; exact ⟨hm9.out.boxX, hb9.out⟩
   clear hK K hHeld
   intro hHeld
   clear hm hB
   have hm := hm9
   have hB := hb9
   clear hm9 hb9
   replace hs := hs9b
   clear hs9b hD hLd
   replace hLb := hLb9
   clear hLb9
   clear hE9
   generalize w9 = v3 at *
   try simp only [Act.put, nzA, nzB, nzC]
   refine heldL_free (i := 18) (v := ?_) rfl (by kernel_rfl) (by kernel_rfl) (by kernel_rfl) (by kernel_rfl) (by kernel_rfl) (fun _ _ _ h => h) rfl (fun w => ?_) hHeld ?_
   rotate_left
   ·go_simp; (try with_reducible rfl)
   try simp only [Act.put, nzA, nzB, nzC]
   refine heldL_next1 (i := 9) (by kernel_rfl) (NextL.mk rfl rfl (fun K hK => ?_))
   ((refine wp_app _ (.tmp 50) (.tmp 52) 23 rfl (X + 1) 44 iS _ 2 32 Tryz.underlying23 hiS hS0 hS1 hS2 rfl (by omega) (.slice a3 Lb.length c3) Lb.length (Lb.flatMap kS.cells) rfl hm.out.b.own No (some ⟨BB, 0, none⟩) 1 1 [.int .i64 (w : Int), .slice (some ⟨g, 0, none⟩) (nw w) (nw w)] rfl (Row.block hLb.out rfl no_no (by omega)) (by simp [Value.oneCell']) (by omega) (by omega) (lt_of_block hm.out.boxX) ?_); (intro v9 w9 hown1 hg1 hv1); (have hE9 : Ext (fun bq => Value.ownBlock (.slice a3 Lb.length c3) = some bq) v3 w9 := (Ext.refl _ _).grown hg1 (fun bq hk _ => hk)); (have hm9 := Lib.hid (hm.out.appB (p := (setN w m, .slice (some ⟨g, 0, none⟩) (nw w) (nw w))) hs.out.words hown1 hg1 hv1)); (have hb9 := Lib.hid (hE9.blk hB.out (fun e => HNE.out.1.2.2 e))); (obtain ⟨x3, y3, hs9⟩ := hm9.out.b.slice); (rw [List.length_append] at hs9); (subst hs9); (clear hown1 hg1 hv1))
   refine hK.out _ _ ?_ ?_
   ·intro _; exact ⟨hm9.out.boxX, hb9.out⟩
   clear hK K hHeld
   intro hHeld
   clear hm hB
   have hm := hm9
   have hB := hb9
   clear hm9 hb9
   clear hs hLb
   have hs := trivial
   clear hs
   clear hE9
   generalize w9 = v4 at *
   try simp only [Act.put, nzA, nzB, nzC]
   refine heldL_next1 (i := 15) (by kernel_rfl) (NextL.mk rfl rfl (fun K hK => ?_))
   (go_simp; (go_at_call 22); (refine (gtr_any tb w _ (by omega) hm.out.tape).mono ?_); (rintro e9 w9 ⟨t, sg, sk, sc, htw, rfl, hF, ht9, hyA⟩); (have hug := hF.out.gen.slice); (have huk := hF.out.kill.slice); (rw [htw] at hug huk); (obtain ⟨ga, gc, rfl⟩ := hug); (obtain ⟨ka, kc, rfl⟩ := huk); (obtain ⟨pa, pc, hup⟩ := Row.slice hF.out.copies); (obtain ⟨pn, hpn⟩ : ∃ pn, pn = t.copies.length := ⟨_, rfl⟩); (rw [← hpn] at hup); (subst hup); (have HTW := Lib.hid (And.intro htw (And.intro hpn hF.out.ok))); (have hT := Lib.hid (hF.out.raw.mono (M' := GA X (.slice x1 (Ld.length + 1) y1) (.slice a2 Lt.length c2) (.slice x3 (Lb.length + 1) y3)) (fun i _ e => hm.out.hM i e))); (have hm9 := Lib.hid (hm.out.step hyA ht9)); (have hb9 := Lib.hid (hyA.blk hB.out (by unfold At; have := hm.out.lt; have := hm.out.low; have := HNE.out.2; omega))); (clear htw hpn hF hyA ht9); go_simp)
   refine hK.out _ _ ?_ ?_
   ·intro _; exact ⟨hm9.out.boxX, hb9.out⟩
   clear hK K hHeld
   intro hHeld
   clear hm hB
   have hm := hm9
   have hB := hb9
   clear hm9 hb9
   generalize w9 = v5 at *
   try simp only [Act.put, nzA, nzB, nzC]
   refine heldL_next1 (i := 16) (by kernel_rfl) (NextL.mk rfl rfl (fun K hK => ?_))
   go_simp
   refine hK.out _ _ ?_ ?_
   ·intro _; exact ⟨alloc_under hm.out.boxX, alloc_under hB.out⟩
   clear hK K hHeld
   intro hHeld
   have hx := (Ext.refl No v5).alloc (.cells #[.int .i64 (w : Int), .slice ga (nw w) gc, .int .i64 (w : Int), .slice ka (nw w) kc, .slice pa pn pc] 47)
   have hLt := Lib.hid (alloc_top (w := v5) (o := (.cells #[.int .i64 (w : Int), .slice ga (nw w) gc, .int .i64 (w : Int), .slice ka (nw w) kc, .slice pa pn pc] 47)) rfl)
   replace hm := Lib.hid (hm.out.stepNo hx)
   replace hB := Lib.hid (hx.blk hB.out no_no)
   replace hT := Lib.hid (hT.out.extNo hx)
   clear hx
   generalize (v5.alloc (.cells #[.int .i64 (w : Int), .slice ga (nw w) gc, .int .i64 (w : Int), .slice ka (nw w) kc, .slice pa pn pc] 47)) = v6 at *
   generalize v5.heap.size = BT at *
   try simp only [Act.put, nzA, nzB, nzC]
   refine heldL_next1 (i := 17) (by kernel_rfl) (NextL.mk rfl rfl (fun K hK => ?_))
   ((refine wp_app _ (.tmp 55) (.tmp 60) 53 rfl (X + 1) 47 iT _ 5 88 Tryz.underlying53 hiT hT0 hT1 hT2 rfl (by omega) (.slice a2 Lt.length c2) Lt.length (Lt.flatMap kT.cells) rfl hm.out.t.own No (some ⟨BT, 0, none⟩) 1 1 [.int .i64 (w : Int), .slice ga (nw w) gc, .int .i64 (w : Int), .slice ka (nw w) kc, .slice pa pn pc] rfl (Row.block hLt.out rfl no_no (by omega)) (by simp [Value.oneCell']) (by omega) (by omega) (lt_of_block hm.out.boxX) ?_); (intro v9 w9 hown1 hg1 hv1); (have hE9 : Ext (fun bq => Value.ownBlock (.slice a2 Lt.length c2) = some bq) v6 w9 := (Ext.refl _ _).grown hg1 (fun bq hk _ => hk)); (have hm9 := Lib.hid (hm.out.appT (p := (rawT t, .slice ga (nw w) gc, .slice ka (nw w) kc, .slice pa pn pc)) hT.out (by have hcp : kT.cells (rawT t, .slice ga (nw w) gc, .slice ka (nw w) kc, .slice pa pn pc) = [.int .i64 (w : Int), .slice ga (nw w) gc, .int .i64 (w : Int), .slice ka (nw w) kc, .slice pa pn pc] := (by show [Value.int .i64 ((t.w : Nat) : Int), _, Value.int .i64 ((t.w : Nat) : Int), _, _] = _; rw [HTW.out.1]); rw [hcp]; exact hown1) hg1 hv1)); (have hb9 := Lib.hid (hE9.blk hB.out (fun e => HNE.out.1.2.1 e))); (obtain ⟨x2, y2, hs9⟩ := hm9.out.t.slice); (rw [List.length_append] at hs9); (subst hs9); (clear hown1 hg1 hv1))
   refine hK.out _ _ ?_ ?_
   ·intro _; exact ⟨hm9.out.boxX, hb9.out⟩
   clear hK K hHeld
   intro hHeld
   clear hm hB
   have hm := hm9
   have hB := hb9
   clear hm9 hb9
   clear hT hLt
   clear hE9
   generalize w9 = v7 at *
   try simp only [Act.put, nzA, nzB, nzC]
   refine heldL_next1 (i := 19) (by kernel_rfl) (NextL.mk rfl rfl (fun K hK => ?_))
   ((have cX := cellOf hm.out.boxX); (have fX := freeOf hm.out.boxX); go_simp; (clear cX fX))
   refine hK.out _ _ ?_ ?_
   ·exact fun h => absurd h (by decide)
   clear hK K hHeld
   intro hHeld
   have hm9 := Lib.hid (show GyM tb W (v7.setCell ⟨X, 1, none⟩ (.slice x1 (Ld.length + 1) y1)) X #[.int .i64 (w : Int), .slice x1 (Ld.length + 1) y1, .slice a2 Lt.length c2, .slice a3 Lb.length c3] (.slice x1 (Ld.length + 1) y1) (.slice x2 (Lt.length + 1) y2) (.slice x3 (Lb.length + 1) y3) _ _ _ from hm.out.putX 1 (.slice x1 (Ld.length + 1) y1))
   clear hm
   have hm := hm9
   clear hm9
   generalize (v7.setCell ⟨X, 1, none⟩ (.slice x1 (Ld.length + 1) y1)) = v8 at *
   try simp only [Act.put, nzA, nzB, nzC]
   refine heldL_free (i := 20) (v := ?_) rfl (by kernel_rfl) (by kernel_rfl) (by kernel_rfl) (by kernel_rfl) (by kernel_rfl) (fun _ _ _ h => h) rfl (fun w => ?_) hHeld ?_
   rotate_left
   ·go_simp; (try with_reducible rfl)
   try simp only [Act.put, nzA, nzB, nzC]
   refine heldL_next1 (i := 21) (by kernel_rfl) (NextL.mk rfl rfl (fun K hK => ?_))
   ((have cX := cellOf hm.out.boxX); (have fX := freeOf hm.out.boxX); go_simp; (clear cX fX))
   refine hK.out _ _ ?_ ?_
   ·exact fun h => absurd h (by decide)
   clear hK K hHeld
   intro hHeld
   have hm9 := Lib.hid (show GyM tb W (v8.setCell ⟨X, 3, none⟩ (.slice x3 (Lb.length + 1) y3)) X #[.int .i64 (w : Int), .slice x1 (Ld.length + 1) y1, .slice a2 Lt.length c2, .slice x3 (Lb.length + 1) y3] (.slice x1 (Ld.length + 1) y1) (.slice x2 (Lt.length + 1) y2) (.slice x3 (Lb.length + 1) y3) _ _ _ from hm.out.putX 3 (.slice x3 (Lb.length + 1) y3))
   clear hm
   have hm := hm9
   clear hm9
   generalize (v8.setCell ⟨X, 3, none⟩ (.slice x3 (Lb.length + 1) y3)) = v9 at *
   try simp only [Act.put, nzA, nzB, nzC]
   refine heldL_free (i := 22) (v := ?_) rfl (by kernel_rfl) (by kernel_rfl) (by kernel_rfl) (by kernel_rfl) (by kernel_rfl) (fun _ _ _ h => h) rfl (fun w => ?_) hHeld ?_
   rotate_left
   ·go_simp; (try with_reducible rfl)
   try simp only [Act.put, nzA, nzB, nzC]
   refine heldL_next1 (i := 23) (by kernel_rfl) (NextL.mk rfl rfl (fun K hK => ?_))
   ((have cX := cellOf hm.out.boxX); (have fX := freeOf hm.out.boxX); go_simp; (clear cX fX))
   refine hK.out _ _ ?_ ?_
   ·exact fun h => absurd h (by decide)
   clear hK K hHeld
   intro hHeld
   have hm9 := Lib.hid (show GyM tb W (v9.setCell ⟨X, 2, none⟩ (.slice x2 (Lt.length + 1) y2)) X #[.int .i64 (w : Int), .slice x1 (Ld.length + 1) y1, .slice x2 (Lt.length + 1) y2, .slice x3 (Lb.length + 1) y3] (.slice x1 (Ld.length + 1) y1) (.slice x2 (Lt.length + 1) y2) (.slice x3 (Lb.length + 1) y3) _ _ _ from hm.out.putX 2 (.slice x2 (Lt.length + 1) y2))
   clear hm
   have hm := hm9
   clear hm9
   generalize (v9.setCell ⟨X, 2, none⟩ (.slice x2 (Lt.length + 1) y2)) = v10 at *
   try simp only [Act.put, nzA, nzB, nzC]
   refine heldL_done (by kernel_rfl) ?_ _
   go_wp2_with fail
   go_roundw
   case rel => exact ⟨i + 1, _, _, _, _, _, _, HII.out, by omega, hm, Lib.hid (hI.out.snoc (pd := (l, _)) (pt := (rawT t, _, _, _)) (pb := (setN w m, _)) ⟨HD.out.2.1, HD.out.2.2⟩ ⟨validT_ok HTW.out.2.2, by show ((t.w : Nat) : Int) = _; rw [HTW.out.1]⟩ ⟨validB_set (by omega) HSM.out, rfl⟩)⟩
   case measure => simp [intOf]; omega
 have hiN : i = N := by omega
 subst hiN
 have hge : ¬ (i : Int) < (i : Int) := by omega
 obtain ⟨e1, e2, e3⟩ := HSL.out
 subst e1 e2 e3
 have cX := cellOf hm.out.boxX
 have cC := cellOf hm.out.boxC
 have fC := freeOf hm.out.boxC
 go_wp2_with fail
 have hfin := set4 wr W.heap.size (.int .i64 (w : Int)) (.slice a1 Ld.length c1) (.slice a2 Lt.length c2) (.slice a3 Lb.length c3)
 have hbx := fin4 hm.out.boxC (.int .i64 (w : Int)) (.slice a1 Ld.length c1) (.slice a2 Lt.length c2) (.slice a3 Lb.length c3)
 clear cX cC fC
 generalize ((((wr.setCell ⟨W.heap.size, 0, none⟩ (.int .i64 (w : Int))).setCell ⟨W.heap.size, 1, none⟩ (.slice a1 Ld.length c1)).setCell ⟨W.heap.size, 2, none⟩ (.slice a2 Lt.length c2)).setCell ⟨W.heap.size, 3, none⟩ (.slice a3 Lb.length c3)) = WF at *
 have cF := cellOf hbx
 refine ret_ex rfl ?_
 simp [results, Tryz.results17, go_sem, cF]
 have hlow := hm.out.low
 have hltb := hm.out.lt
 have hY : YAt (fun b => Lo W.heap.size b ∨ b = W.heap.size) wr (.slice a1 Ld.length c1) (.slice a2 Lt.length c2) (.slice a3 Lb.length c3) Ld Lt Lb :=
  ⟨hm.out.d.list (fun b hb e => by unfold Lo at e; omega) (fun b e => .inl (by unfold Lo at e; omega)), hm.out.t.list (fun b hb e => by unfold Lo at e; omega) (fun b e => .inl (by unfold Lo at e; omega)), hm.out.b.list (fun b hb e => by unfold Lo at e; omega) (fun b e => .inl (by unfold Lo at e; omega))⟩
 have hYF := (hY.ext hfin (fun i _ e => .inr e)).mono (M' := Lo W.heap.size) (fun i _ e => .inl e)
 have hV := hI.out.vs hN1 (by omega) (by omega)
 have hown := (hm.out.d.ext2 hfin (fun i hi e => by unfold At at e; have := (hm.out.d.lt i hi).1; omega) (fun i _ e => .inl (by unfold At at e; omega))).mono (A' := Lo W.heap.size) (fun i _ e => .inl (by unfold Lo at e; omega))
 have hT := ((hm.out.t.list2 (M := fun b => b ≤ W.heap.size ∨ (Value.slice a1 Ld.length c1).ownBlock = some b) (fun b hb e => by
  rcases e with e | e
  ·have := (hm.out.t.lt b hb).1; omega
  ·exact hm.out.dt b e hb) (fun b e => by
  rcases e with e | e
  ·exact .inl (by omega)
  ·exact .inr (.inl e))).ext hfin (fun i _ e => .inl (by unfold At at e; omega))).mono (M' := fun b => Lo W.heap.size b ∨ (Value.slice a1 Ld.length c1).ownBlock = some b) (fun i _ e => by
  rcases e with e | e
  ·exact .inl (by unfold Lo at e; omega)
  exact .inr e)
 have hB := ((hm.out.b.list2 (M := fun b => b ≤ W.heap.size ∨ (Value.slice a1 Ld.length c1).ownBlock = some b) (fun b hb e => by
  rcases e with e | e
  ·have := (hm.out.b.lt b hb).1; omega
  ·exact hm.out.db b e hb) (fun b e => by
  rcases e with e | e
  ·exact .inl (by omega)
  ·exact .inr (.inl e))).ext hfin (fun i _ e => .inl (by unfold At at e; omega))).mono (M' := fun b => Lo W.heap.size b ∨ (Value.slice a1 Ld.length c1).ownBlock = some b) (fun i _ e => by
  rcases e with e | e
  ·exact .inl (by unfold Lo at e; omega)
  exact .inr e)
 exact ⟨w, X + 1, _, _, _, Ld, Lt, Lb, rfl, hw4, by rw [hI.out.ld]; exact hN2, Lib.hid hYF, Lib.hid ⟨hV, hown, hT, hB⟩, by omega, hm.out.tape.extAbove hfin (fun i hi e => by unfold At at e; omega), hm.out.ext.trans2 hfin (fun i hi e => by unfold At at e; omega)⟩
theorem sysgen_any (tb n : Nat) (W : World) (hn : 1 ≤ n) (hn2 : n ≤ 100) (ht : TapeOk W tb) : Calls Tryz.prog 17 #[.pointer (some ⟨tb, 0, none⟩), .int .i64 (n : Int)] W (GenSys tb n W) :=
 (sysgen_own tb n W hn hn2 ht).mono (fun _ _ ⟨w, _, vd, vt, vb, Ld, Lt, Lb, h1, h2, h3, h4, h5, _, h6, h7⟩ => by
  obtain ⟨S, hS1, hS2, hS3⟩ := h5.out.vs.sys h4.out
  obtain rfl : w = S.w := by omega
  exact ⟨S, vd, vt, vb, h1, h2, by rw [hS3]; exact h3, Lib.hid hS2, h6, h7⟩)

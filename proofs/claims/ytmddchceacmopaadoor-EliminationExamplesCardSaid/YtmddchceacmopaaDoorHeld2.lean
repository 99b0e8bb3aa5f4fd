
import Derived.Test.YtmddchceacmopaaDoorTrE
set_option linter.unusedVariables false
set_option linter.unusedSimpArgs false
namespace Go.Proofs.YtmddchceacmopaaDoor
open Go Go.RowKit
section
variable {P : Program} {ops : Array Oper} {Q : Exit → Act → World → Prop} {md : Region.Mode} {S : World → Prop}
def NextOp (P : Program) (md : Region.Mode) (ops : Array Oper) (Q : Exit → Act → World → Prop) (S : World → Prop) (fuel : Nat) (listed : Array Bool) (a : Act) (w : World) (i : Nat) : Prop :=
 ∃ o tl, ops.toList.drop i = o :: tl ∧ Region.wanted o (yielded ops a.tmps) = true ∧ ∀ K' : Act → World → Prop, Shut (∀ a w, S w → (S w → wpAnyH P md ops Q S fuel (listed.setIfInBounds i true) a w) → K' a w) → Oper.wp P o a w K' Q
theorem NextOp.mk {i : Nat} {o : Oper} {tl : List Oper} {fuel : Nat} {listed : Array Bool} {a : Act} {w : World} (ho : ops.toList.drop i = o :: tl) (hw : Region.wanted o (yielded ops a.tmps) = true)
  (h : ∀ K' : Act → World → Prop, Shut (∀ a w, S w → (S w → wpAnyH P md ops Q S fuel (listed.setIfInBounds i true) a w) → K' a w) → Oper.wp P o a w K' Q) : NextOp P md ops Q S fuel listed a w i := ⟨o, tl, ho, hw, h⟩
theorem held_next {rs : List Nat} {fuel : Nat} {listed : Array Bool} {a : Act} {w : World} (hr : Region.ready md ops listed = rs) (hne : rs ≠ []) (h : ∀ i ∈ rs, NextOp P md ops Q S fuel listed a w i) : wpAnyH P md ops Q S (fuel + 1) listed a w := by
 refine wpAnyH_ready hr hne (fun i hi => ?_)
 obtain ⟨o, tl, ho, hw, hk⟩ := h i hi
 have key : AllReadyH P md ops Q S fuel listed a w [i] := AllReadyH.cons (drop_get ho) (fun K' hK => by rw [if_pos hw]; exact hk K' hK) AllReadyH.nil
 exact key i (List.mem_singleton.2 rfl)
theorem held_next2 {i j : Nat} {fuel : Nat} {listed : Array Bool} {a : Act} {w : World} (hr : Region.ready md ops listed = [i, j]) (h1 : NextOp P md ops Q S fuel listed a w i) (h2 : NextOp P md ops Q S fuel listed a w j) : wpAnyH P md ops Q S (fuel + 1) listed a w :=
 held_next hr (by simp) (fun x hx => by
  simp only [List.mem_cons, List.not_mem_nil, or_false] at hx
  rcases hx with rfl | rfl
  ·exact h1
  exact h2)
theorem held_next3 {i j k : Nat} {fuel : Nat} {listed : Array Bool} {a : Act} {w : World} (hr : Region.ready md ops listed = [i, j, k]) (h1 : NextOp P md ops Q S fuel listed a w i) (h2 : NextOp P md ops Q S fuel listed a w j) (h3 : NextOp P md ops Q S fuel listed a w k) : wpAnyH P md ops Q S (fuel + 1) listed a w :=
 held_next hr (by simp) (fun x hx => by
  simp only [List.mem_cons, List.not_mem_nil, or_false] at hx
  rcases hx with rfl | rfl | rfl
  ·exact h1
  ·exact h2
  exact h3)
end
structure Keeps (R : (Nat → Prop) → World → Prop) : Prop where
 ext : ∀ {M M' : Nat → Prop} {w w' : World}, R M w → Ext M' w w' → (∀ i, i < w.heap.size → M' i → M i) → R M w'
 mono : ∀ {M M' : Nat → Prop} {w : World}, R M w → (∀ i, i < w.heap.size → M' i → M i) → R M' w
def Out (W v : World) (A B : Option (Nat × Array Value)) : Nat → Prop := fun b => b < W.heap.size ∨ (∃ cs, A = some (b, cs)) ∨ (∃ cs, B = some (b, cs)) ∨ v.heap.size ≤ b
structure TwoB (T : TypeId) (R1 R2 : (Nat → Prop) → World → Prop) (O : Nat → Prop) (W v : World) (A B : Option (Nat × Array Value)) (c1 c2 : Bool) : Prop where
 ext : Ext No W v
 boxA : ∀ D cs, A = some (D, cs) → W.heap.size ≤ D ∧ v.heap[D]? = some (.cells cs T (0, 0))
 boxB : ∀ D cs, B = some (D, cs) → W.heap.size ≤ D ∧ v.heap[D]? = some (.cells cs T (0, 0))
 ne : ∀ D cs D' cs', A = some (D, cs) → B = some (D', cs') → D ≠ D'
 r1 : c1 = true → R1 (Out W v A B) v
 r2 : c2 = true → R2 (fun b => Out W v A B b ∨ O b) v
 o : ∀ b, O b → b < v.heap.size
section
theorem or_left {P P' O : Nat → Prop} {n : Nat} (h : ∀ i, i < n → P' i → P i) : ∀ i, i < n → (P' i ∨ O i) → (P i ∨ O i) := fun i hi e => by
 rcases e with e | e
 ·exact .inl (h i hi e)
 exact .inr e
variable {T : TypeId} {R1 R2 : (Nat → Prop) → World → Prop} {O : Nat → Prop} {W v v' : World} {A B : Option (Nat × Array Value)} {c1 c2 : Bool} {cs : Array Value} {D : Nat}
theorem TwoB.start (R1 R2 : (Nat → Prop) → World → Prop) (T : TypeId) {v : World} (hx : Ext No W v) : TwoB T R1 R2 No W v none none false false :=
 ⟨hx, fun _ _ h => (by cases h), fun _ _ h => (by cases h), fun _ _ _ _ h => (by cases h), fun h => (by cases h), fun h => (by cases h), fun _ x => x.elim⟩
theorem TwoB.allocA (h : TwoB T R1 R2 O W v none B c1 c2) (k1 : Keeps R1) (k2 : Keeps R2) (cs : Array Value) : TwoB T R1 R2 O W (v.alloc (.cells cs T)) (some (v.heap.size, cs)) B c1 c2 := by
 have hO : ∀ i, i < v.heap.size → Out W (v.alloc (.cells cs T)) (some (v.heap.size, cs)) B i → Out W v none B i := fun i hi e => by
  rcases e with e | ⟨_, e⟩ | e | e
  ·exact .inl e
  ·simp only [Option.some.injEq, Prod.mk.injEq] at e; omega
  ·exact .inr (.inr (.inl e))
  rw [alloc_size1] at e; omega
 refine ⟨h.ext.alloc _, fun D cs' e => ?_, fun D cs' e => ⟨(h.boxB D cs' e).1, alloc_under (h.boxB D cs' e).2⟩, fun D cs' D' cs'' e e' => ?_, fun hc => k1.ext (k1.mono (h.r1 hc) hO) ((Ext.refl No v).alloc _) (fun _ _ x => x.elim), fun hc => k2.ext (k2.mono (h.r2 hc) (or_left hO)) ((Ext.refl No v).alloc _) (fun _ _ x => x.elim), fun b hb => Nat.lt_of_lt_of_le (h.o b hb) ((Ext.refl No v).alloc _).size⟩
 ·simp only [Option.some.injEq, Prod.mk.injEq] at e
  obtain ⟨rfl, rfl⟩ := e
  exact ⟨h.ext.size, alloc_top rfl⟩
 simp only [Option.some.injEq, Prod.mk.injEq] at e
 have := lt_of_block (h.boxB D' cs'' e').2
 omega
theorem TwoB.allocB (h : TwoB T R1 R2 O W v A none c1 c2) (k1 : Keeps R1) (k2 : Keeps R2) (cs : Array Value) : TwoB T R1 R2 O W (v.alloc (.cells cs T)) A (some (v.heap.size, cs)) c1 c2 := by
 have hO : ∀ i, i < v.heap.size → Out W (v.alloc (.cells cs T)) A (some (v.heap.size, cs)) i → Out W v A none i := fun i hi e => by
  rcases e with e | e | ⟨_, e⟩ | e
  ·exact .inl e
  ·exact .inr (.inl e)
  ·simp only [Option.some.injEq, Prod.mk.injEq] at e; omega
  rw [alloc_size1] at e; omega
 refine ⟨h.ext.alloc _, fun D cs' e => ⟨(h.boxA D cs' e).1, alloc_under (h.boxA D cs' e).2⟩, fun D cs' e => ?_, fun D cs' D' cs'' e e' => ?_, fun hc => k1.ext (k1.mono (h.r1 hc) hO) ((Ext.refl No v).alloc _) (fun _ _ x => x.elim), fun hc => k2.ext (k2.mono (h.r2 hc) (or_left hO)) ((Ext.refl No v).alloc _) (fun _ _ x => x.elim), fun b hb => Nat.lt_of_lt_of_le (h.o b hb) ((Ext.refl No v).alloc _).size⟩
 ·simp only [Option.some.injEq, Prod.mk.injEq] at e
  obtain ⟨rfl, rfl⟩ := e
  exact ⟨h.ext.size, alloc_top rfl⟩
 simp only [Option.some.injEq, Prod.mk.injEq] at e'
 have := lt_of_block (h.boxA D cs' e).2
 omega
theorem TwoB.stepR {R : (Nat → Prop) → World → Prop} (k : Keeps R) (hx : Ext No v v') (h : R (Out W v A B) v) : R (Out W v' A B) v' :=
 k.ext (k.mono h (fun i hi e => by
  rcases e with e | e | e | e
  ·exact .inl e
  ·exact .inr (.inl e)
  ·exact .inr (.inr (.inl e))
  have := hx.size; omega)) hx (fun _ _ x => x.elim)
theorem TwoB.newR {R : (Nat → Prop) → World → Prop} (k : Keeps R) (h : TwoB T R1 R2 O W v A B c1 c2) (hx : Ext No v v') (hr : R (Lo v.heap.size) v') : R (Out W v' A B) v' :=
 k.mono hr (fun i hi e => by
  unfold Lo
  rcases e with e | ⟨cs, e⟩ | ⟨cs, e⟩ | e
  ·have := h.ext.size; omega
  ·exact lt_of_block (h.boxA i cs e).2
  ·exact lt_of_block (h.boxB i cs e).2
  omega)
theorem TwoB.call1 {R : (Nat → Prop) → World → Prop} {O' : Nat → Prop} (h : TwoB T R1 R2 O W v A B false false) (_ : Keeps R1) (_ : Keeps R2) (k1 : Keeps R) (hx : Ext No v v') (hr : R (Lo v.heap.size) v') (ho : ∀ b, O' b → b < v'.heap.size) : TwoB T R R2 O' W v' A B true false ∧ Keeps R :=
 ⟨⟨h.ext.transNo hx, fun D cs e => ⟨(h.boxA D cs e).1, hx.blk (h.boxA D cs e).2 no_no⟩, fun D cs e => ⟨(h.boxB D cs e).1, hx.blk (h.boxB D cs e).2 no_no⟩, h.ne, fun _ => h.newR k1 hx hr, fun hc => (by cases hc), ho⟩, k1⟩
theorem TwoB.call2 {R : (Nat → Prop) → World → Prop} (h : TwoB T R1 R2 O W v A B c1 false) (k1 : Keeps R1) (_ : Keeps R2) (k2 : Keeps R) (hx : Ext No v v') (hr : R (Lo v.heap.size) v') : TwoB T R1 R O W v' A B c1 true ∧ Keeps R :=
 ⟨⟨h.ext.transNo hx, fun D cs e => ⟨(h.boxA D cs e).1, hx.blk (h.boxA D cs e).2 no_no⟩, fun D cs e => ⟨(h.boxB D cs e).1, hx.blk (h.boxB D cs e).2 no_no⟩, h.ne, fun hc => TwoB.stepR k1 hx (h.r1 hc), fun _ => k2.mono hr (fun i hi e => by
  unfold Lo
  rcases e with (e | ⟨cs, e⟩ | ⟨cs, e⟩ | e) | e
  ·have := h.ext.size; omega
  ·exact lt_of_block (h.boxA i cs e).2
  ·exact lt_of_block (h.boxB i cs e).2
  ·omega
  exact h.o i e), fun b hb => Nat.lt_of_lt_of_le (h.o b hb) hx.size⟩, k2⟩
theorem keeps_true : Keeps (fun _ _ => True) := ⟨fun _ _ _ => trivial, fun _ _ => trivial⟩
theorem keeps_rows (w gen : Nat) (rs : List Nat) (sg so : Value) : Keeps (RowsO w gen rs sg so) := ⟨fun h hx hm => h.ext hx hm, fun h hm => h.mono hm⟩
def TwoOpen (T : TypeId) (W wx : World) (w g1 : Nat) (rs1 : List Nat) (g2 : Nat) (rs2 : List Nat) (s7 s8 : Value) : Prop :=
 ∃ D1 D2 a1 c1 b1 d1 a2 c2 b2 d2, s7 = .pointer (some ⟨D1, 0, none⟩) ∧ s8 = .pointer (some ⟨D2, 0, none⟩) ∧
  Hid (TwoB T (RowsO w g1 rs1 (.slice a1 (nw w) c1) (.slice b1 rs1.length d1)) (RowsO w g2 rs2 (.slice a2 (nw w) c2) (.slice b2 rs2.length d2)) (fun b => (Value.slice b1 rs1.length d1).ownBlock = some b) W wx (some (D1, #[.int .i64 (w : Int), .slice a1 (nw w) c1, .slice b1 rs1.length d1])) (some (D2, #[.int .i64 (w : Int), .slice a2 (nw w) c2, .slice b2 rs2.length d2])) true true)
theorem set3 (w : World) (C : Nat) (a b c : Value) : Ext (At C) w (((w.setCell ⟨C, 0, none⟩ a).setCell ⟨C, 1, none⟩ b).setCell ⟨C, 2, none⟩ c) := (((Ext.refl (At C) w).setAt 0 a).setAt 1 b).setAt 2 c
theorem fin3 {w : World} {C : Nat} {T : TypeId} {x y z : Value} (h : w.heap[C]? = some (.cells #[x, y, z] T (0, 0))) (a b c : Value) : (((w.setCell ⟨C, 0, none⟩ a).setCell ⟨C, 1, none⟩ b).setCell ⟨C, 2, none⟩ c).heap[C]? = some (.cells #[a, b, c] T (0, 0)) :=
 (set_same (j := 2) (set_same (j := 1) (set_same (j := 0) h))).trans rfl
theorem TwoB.storeA {x y z : Value} (h : TwoB T R1 R2 O W v (some (D, #[x, y, z])) B c1 c2) (k1 : Keeps R1) (k2 : Keeps R2) (a b c : Value) :
  TwoB T R1 R2 O W (((v.setCell ⟨D, 0, none⟩ a).setCell ⟨D, 1, none⟩ b).setCell ⟨D, 2, none⟩ c) (some (D, #[a, b, c])) B c1 c2 := by
 obtain ⟨hD, hb⟩ := h.boxA _ _ rfl
 have hE := set3 v D a b c
 have hsz : (((v.setCell ⟨D, 0, none⟩ a).setCell ⟨D, 1, none⟩ b).setCell ⟨D, 2, none⟩ c).heap.size = v.heap.size := by simp [World.setCell]
 have hO : ∀ i, i < v.heap.size → Out W (((v.setCell ⟨D, 0, none⟩ a).setCell ⟨D, 1, none⟩ b).setCell ⟨D, 2, none⟩ c) (some (D, #[a, b, c])) B i → Out W v (some (D, #[x, y, z])) B i := fun i hi e => by
  rcases e with e | ⟨_, e⟩ | e | e
  ·exact .inl e
  ·simp only [Option.some.injEq, Prod.mk.injEq] at e; exact .inr (.inl ⟨_, by rw [e.1]⟩)
  ·exact .inr (.inr (.inl e))
  omega
 refine ⟨h.ext.trans2 hE (fun i hi e => by unfold At at e; omega), fun D' cs' e => ?_, fun D' cs' e => ⟨(h.boxB D' cs' e).1, hE.blk (h.boxB D' cs' e).2 (fun e' => h.ne _ _ _ _ rfl e e'.symm)⟩, fun D' cs' D'' cs'' e e' => ?_, fun hc => k1.ext (k1.mono (h.r1 hc) hO) hE (fun i _ e => .inr (.inl ⟨#[a, b, c], by rw [show i = D from e]⟩)), fun hc => k2.ext (k2.mono (h.r2 hc) (or_left hO)) hE (fun i _ e => .inl (.inr (.inl ⟨#[a, b, c], by rw [show i = D from e]⟩))), fun b hb => by rw [hsz]; exact h.o b hb⟩
 ·simp only [Option.some.injEq, Prod.mk.injEq] at e
  obtain ⟨rfl, rfl⟩ := e
  exact ⟨hD, fin3 hb a b c⟩
 simp only [Option.some.injEq, Prod.mk.injEq] at e
 obtain ⟨rfl, _⟩ := e
 exact h.ne _ _ _ _ rfl e'
theorem TwoB.storeB {x y z : Value} (h : TwoB T R1 R2 O W v A (some (D, #[x, y, z])) c1 c2) (k1 : Keeps R1) (k2 : Keeps R2) (a b c : Value) :
  TwoB T R1 R2 O W (((v.setCell ⟨D, 0, none⟩ a).setCell ⟨D, 1, none⟩ b).setCell ⟨D, 2, none⟩ c) A (some (D, #[a, b, c])) c1 c2 := by
 obtain ⟨hD, hb⟩ := h.boxB _ _ rfl
 have hE := set3 v D a b c
 have hsz : (((v.setCell ⟨D, 0, none⟩ a).setCell ⟨D, 1, none⟩ b).setCell ⟨D, 2, none⟩ c).heap.size = v.heap.size := by simp [World.setCell]
 have hO : ∀ i, i < v.heap.size → Out W (((v.setCell ⟨D, 0, none⟩ a).setCell ⟨D, 1, none⟩ b).setCell ⟨D, 2, none⟩ c) A (some (D, #[a, b, c])) i → Out W v A (some (D, #[x, y, z])) i := fun i hi e => by
  rcases e with e | e | ⟨_, e⟩ | e
  ·exact .inl e
  ·exact .inr (.inl e)
  ·simp only [Option.some.injEq, Prod.mk.injEq] at e; exact .inr (.inr (.inl ⟨_, by rw [e.1]⟩))
  omega
 refine ⟨h.ext.trans2 hE (fun i hi e => by unfold At at e; omega), fun D' cs' e => ⟨(h.boxA D' cs' e).1, hE.blk (h.boxA D' cs' e).2 (fun e' => h.ne _ _ _ _ e rfl e')⟩, fun D' cs' e => ?_, fun D' cs' D'' cs'' e e' => ?_, fun hc => k1.ext (k1.mono (h.r1 hc) hO) hE (fun i _ e => .inr (.inr (.inl ⟨#[a, b, c], by rw [show i = D from e]⟩))), fun hc => k2.ext (k2.mono (h.r2 hc) (or_left hO)) hE (fun i _ e => .inl (.inr (.inr (.inl ⟨#[a, b, c], by rw [show i = D from e]⟩)))), fun b hb => by rw [hsz]; exact h.o b hb⟩
 ·simp only [Option.some.injEq, Prod.mk.injEq] at e
  obtain ⟨rfl, rfl⟩ := e
  exact ⟨hD, fin3 hb a b c⟩
 simp only [Option.some.injEq, Prod.mk.injEq] at e'
 obtain ⟨rfl, _⟩ := e'
 exact h.ne _ _ _ _ e rfl
end


import Derived.Test.YtmddchceacmopaaGreatDoorF3
import Derived.Test.YtmddchceacmopaaGreatDoorF6
import Derived.Test.YtmddchceacmopaaGreatDoorHeldL
set_option linter.unusedVariables false
set_option linter.unusedSimpArgs false
namespace Go.Proofs.YtmddchceacmopaaGreatDoor
open Go Go.RowKit
def GA (X : Nat) (vd vt vb : Value) : Nat → Prop := fun b => b ≤ X ∨ vd.ownBlock = some b ∨ vt.ownBlock = some b ∨ vb.ownBlock = some b
structure GyM (tb : Nat) (W wr : World) (X : Nat) (cx : Array Value) (vd vt vb : Value) (Ld : LD) (Lt : LT) (Lb : LS) : Prop where
 ext : Ext (At tb) W wr
 tape : TapeOk wr tb
 boxC : wr.heap[W.heap.size]? = some (.cells #[.int .i64 0, .slice none 0 0, .slice none 0 0, .slice none 0 0] 55 (0, 0))
 boxX : wr.heap[X]? = some (.cells cx 55 (0, 0))
 d : LOwn kD (GA X vd vt vb) wr (X + 1) vd Ld
 t : LOwn kT (GA X vd vt vb) wr (X + 1) vt Lt
 b : LOwn kS (GA X vd vt vb) wr (X + 1) vb Lb
 dt : ∀ k, vd.ownBlock = some k → vt.ownBlock ≠ some k
 db : ∀ k, vd.ownBlock = some k → vb.ownBlock ≠ some k
 tb2 : ∀ k, vt.ownBlock = some k → vb.ownBlock ≠ some k
 lt : tb < W.heap.size
 low : W.heap.size < X
section
variable {tb : Nat} {W wr w' : World} {X : Nat} {cx : Array Value} {vd vt vb v' : Value} {Ld : LD} {Lt : LT} {Lb : LS}
theorem GyM.hM (h : GyM tb W wr X cx vd vt vb Ld Lt Lb) : ∀ b, GA X vd vt vb b → b < wr.heap.size := fun b hb => by
 rcases hb with hb | hb | hb | hb
 ·have := lt_of_block h.boxX; omega
 ·exact (h.d.lt b hb).2
 ·exact (h.t.lt b hb).2
 exact (h.b.lt b hb).2
theorem GyM.step (h : GyM tb W wr X cx vd vt vb Ld Lt Lb) (hx : Ext (At tb) wr w') (ht : TapeOk w' tb) : GyM tb W w' X cx vd vt vb Ld Lt Lb := by
 have h1 := h.lt
 have h2 := h.low
 have hA : ∀ i, i < wr.heap.size → At tb i → GA X vd vt vb i := fun i _ e => .inl (by unfold At at e; omega)
 exact ⟨h.ext.trans hx, ht, hx.blk h.boxC (by unfold At; omega), hx.blk h.boxX (by unfold At; omega), h.d.ext2 hx (fun i hi e => by have := (h.d.lt i hi).1; unfold At at e; omega) hA, h.t.ext2 hx (fun i hi e => by have := (h.t.lt i hi).1; unfold At at e; omega) hA, h.b.ext2 hx (fun i hi e => by have := (h.b.lt i hi).1; unfold At at e; omega) hA, h.dt, h.db, h.tb2, h1, h2⟩
theorem GyM.stepNo (h : GyM tb W wr X cx vd vt vb Ld Lt Lb) (hx : Ext No wr w') : GyM tb W w' X cx vd vt vb Ld Lt Lb := h.step hx.ofNo (h.tape.ext hx)
theorem GyM.stepHi (h : GyM tb W wr X cx vd vt vb Ld Lt Lb) {E : Nat} (hx : Ext (At E) wr w') (hX : X < E) (hd : vd.ownBlock ≠ some E) (ht : vt.ownBlock ≠ some E) (hb : vb.ownBlock ≠ some E) (hLd : ∀ p ∈ Ld, kD.ok (fun b => (GA X vd vt vb b ∨ vd.ownBlock = some b) ∨ b = E) wr p) (hLt : ∀ p ∈ Lt, kT.ok (fun b => (GA X vd vt vb b ∨ vt.ownBlock = some b) ∨ b = E) wr p) (hLb : ∀ p ∈ Lb, kS.ok (fun b => (GA X vd vt vb b ∨ vb.ownBlock = some b) ∨ b = E) wr p) : GyM tb W w' X cx vd vt vb Ld Lt Lb := by
 have h1 := h.lt
 have h2 := h.low
 exact ⟨h.ext.trans2 hx (fun i hi e => by unfold At at e; omega), h.tape.extAbove hx (fun i hi e => by unfold At at e; omega), hx.blk h.boxC (by unfold At; omega), hx.blk h.boxX (by unfold At; omega),
  ⟨row_keep2 h.d.own hx (fun k hk e => by unfold At at e; exact hd (e ▸ hk)), fun p hp => kD.mono (kD.ext (hLd p hp) hx (fun i _ e => .inr e)) (fun i _ e => .inl e)⟩,
  ⟨row_keep2 h.t.own hx (fun k hk e => by unfold At at e; exact ht (e ▸ hk)), fun p hp => kT.mono (kT.ext (hLt p hp) hx (fun i _ e => .inr e)) (fun i _ e => .inl e)⟩,
  ⟨row_keep2 h.b.own hx (fun k hk e => by unfold At at e; exact hb (e ▸ hk)), fun p hp => kS.mono (kS.ext (hLb p hp) hx (fun i _ e => .inr e)) (fun i _ e => .inl e)⟩, h.dt, h.db, h.tb2, h1, h2⟩
theorem GyM.putX (h : GyM tb W wr X cx vd vt vb Ld Lt Lb) (j : Nat) (u : Value) : GyM tb W (wr.setCell ⟨X, j, none⟩ u) X (cx.setIfInBounds j u) vd vt vb Ld Lt Lb := by
 have h1 := h.lt
 have h2 := h.low
 have hx : Ext (At X) wr (wr.setCell ⟨X, j, none⟩ u) := (Ext.refl (At X) _).setAt _ _
 have hA : ∀ i, i < wr.heap.size → At X i → GA X vd vt vb i := fun i _ e => .inl (by unfold At at e; omega)
 exact ⟨h.ext.trans2 hx (fun i hi e => by unfold At at e; omega), h.tape.extAbove hx (fun i hi e => by unfold At at e; omega), hx.blk h.boxC (by unfold At; omega), set_same h.boxX, h.d.ext2 hx (fun i hi e => by have := (h.d.lt i hi).1; unfold At at e; omega) hA, h.t.ext2 hx (fun i hi e => by have := (h.t.lt i hi).1; unfold At at e; omega) hA, h.b.ext2 hx (fun i hi e => by have := (h.b.lt i hi).1; unfold At at e; omega) hA, h.dt, h.db, h.tb2, h1, h2⟩
theorem GyM.appD {p : (List Int × Value)} (h : GyM tb W wr X cx vd vt vb Ld Lt Lb) (hp : kD.ok (GA X vd vt vb) wr p) (hown : w'.ownsRow (X + 1) kD.T kD.s v' (Ld.length + 1) (Ld.flatMap kD.cells ++ kD.cells p)) (hg : wr.grownBy w' vd.ownBlock) (hv : v'.ownBlock = vd.ownBlock ∨ v'.ownBlock = some wr.heap.size) :
  GyM tb W w' X cx v' vt vb (Ld ++ [p]) Lt Lb := by
 have h1 := h.lt
 have h2 := h.low
 have hE : Ext (fun k => vd.ownBlock = some k) wr w' := (Ext.refl _ wr).grown hg (fun k hk _ => hk)
 have hlo : ∀ i, vd.ownBlock = some i → X + 1 ≤ i := fun i hi => (h.d.lt i hi).1
 have hmA : ∀ i, i < wr.heap.size → (GA X v' vt vb) i → GA X vd vt vb i := fun i hi e => by
  rcases e with e | e | e | e
  ·exact .inl e
  ·rcases hv with hv | hv
   ·rw [hv] at e; exact .inr (.inl e)
   rw [hv] at e; simp only [Option.some.injEq] at e; omega
  ·exact .inr (.inr (.inl e))
  exact .inr (.inr (.inr e))
 have hEA : ∀ i, vd.ownBlock = some i → (GA X v' vt vb) i ∨ ¬ i < w'.heap.size ∨ True := fun _ _ => .inr (.inr trivial)
 clear hEA
 have hLD : ∀ {β : Type} {K : EK β} {v : Value} {L : List β}, LOwn K (GA X vd vt vb) wr (X + 1) v L → (∀ i, v.ownBlock = some i → ¬ vd.ownBlock = some i) → LOwn K (GA X v' vt vb) w' (X + 1) v L := fun hL hne => by
  have hL2 : LOwn _ (fun b => (GA X v' vt vb) b ∨ vd.ownBlock = some b) wr (X + 1) _ _ := hL.mono (fun i hi e => by
   rcases e with e | e
   ·exact hmA i hi e
   exact .inr (.inl e))
  exact (hL2.ext2 hE hne (fun i _ e => .inr e)).mono (fun i _ e => .inl e)
 have hown2 : LOwn kD (GA X vd vt vb) w' (X + 1) v' (Ld ++ [p]) := h.d.app (E := fun k => vd.ownBlock = some k) (kD.mono hp (fun i _ e => by
  rcases e with e | e
  ·exact e
  exact .inr (.inl e))) hown hE (fun _ e => e) (hv.imp id (fun hv k hk => by rw [hv] at hk; simp only [Option.some.injEq] at hk; omega))
 have hown3 : LOwn kD (GA X v' vt vb) w' (X + 1) v' (Ld ++ [p]) := ⟨hown2.own, fun q hq => kD.mono (hown2.ok q hq) (fun i _ e => by
  rcases e with e | e
  ·rcases e with e | e | e | e
   ·exact .inl (.inl e)
   ·exact .inr e
   ·exact .inl (.inr (.inr (.inl e)))
   exact .inl (.inr (.inr (.inr e)))
  exact .inr e)⟩
 exact ⟨h.ext.trans2 hE (fun i hi e => by have := hlo i e; omega), h.tape.extAbove hE (fun i hi e => by have := hlo i e; omega), hE.blk h.boxC (fun e => by have := hlo _ e; omega), hE.blk h.boxX (fun e => by have := hlo _ e; omega), hown3, hLD h.t (fun i hi e => h.dt i e hi), hLD h.b (fun i hi e => h.db i e hi), (fun k hk e => by
  rcases hv with hv | hv
  ·rw [hv] at hk; exact h.dt k hk e
  ·rw [hv] at hk; simp only [Option.some.injEq] at hk; have := (h.t.lt k e).2; omega), (fun k hk e => by
  rcases hv with hv | hv
  ·rw [hv] at hk; exact h.db k hk e
  rw [hv] at hk; simp only [Option.some.injEq] at hk; have := (h.b.lt k e).2; omega), h.tb2, h1, h2⟩
theorem GyM.appT {p : (RawT × Value × Value × Value)} (h : GyM tb W wr X cx vd vt vb Ld Lt Lb) (hp : kT.ok (GA X vd vt vb) wr p) (hown : w'.ownsRow (X + 1) kT.T kT.s v' (Lt.length + 1) (Lt.flatMap kT.cells ++ kT.cells p)) (hg : wr.grownBy w' vt.ownBlock) (hv : v'.ownBlock = vt.ownBlock ∨ v'.ownBlock = some wr.heap.size) :
  GyM tb W w' X cx vd v' vb Ld (Lt ++ [p]) Lb := by
 have h1 := h.lt
 have h2 := h.low
 have hE : Ext (fun k => vt.ownBlock = some k) wr w' := (Ext.refl _ wr).grown hg (fun k hk _ => hk)
 have hlo : ∀ i, vt.ownBlock = some i → X + 1 ≤ i := fun i hi => (h.t.lt i hi).1
 have hmA : ∀ i, i < wr.heap.size → (GA X vd v' vb) i → GA X vd vt vb i := fun i hi e => by
  rcases e with e | e | e | e
  ·exact .inl e
  ·exact .inr (.inl e)
  ·rcases hv with hv | hv
   ·rw [hv] at e; exact .inr (.inr (.inl e))
   rw [hv] at e; simp only [Option.some.injEq] at e; omega
  exact .inr (.inr (.inr e))
 have hEA : ∀ i, vt.ownBlock = some i → (GA X vd v' vb) i ∨ ¬ i < w'.heap.size ∨ True := fun _ _ => .inr (.inr trivial)
 clear hEA
 have hLD : ∀ {β : Type} {K : EK β} {v : Value} {L : List β}, LOwn K (GA X vd vt vb) wr (X + 1) v L → (∀ i, v.ownBlock = some i → ¬ vt.ownBlock = some i) → LOwn K (GA X vd v' vb) w' (X + 1) v L := fun hL hne => by
  have hL2 : LOwn _ (fun b => (GA X vd v' vb) b ∨ vt.ownBlock = some b) wr (X + 1) _ _ := hL.mono (fun i hi e => by
   rcases e with e | e
   ·exact hmA i hi e
   exact .inr (.inr (.inl e)))
  exact (hL2.ext2 hE hne (fun i _ e => .inr e)).mono (fun i _ e => .inl e)
 have hown2 : LOwn kT (GA X vd vt vb) w' (X + 1) v' (Lt ++ [p]) := h.t.app (E := fun k => vt.ownBlock = some k) (kT.mono hp (fun i _ e => by
  rcases e with e | e
  ·exact e
  exact .inr (.inr (.inl e)))) hown hE (fun _ e => e) (hv.imp id (fun hv k hk => by rw [hv] at hk; simp only [Option.some.injEq] at hk; omega))
 have hown3 : LOwn kT (GA X vd v' vb) w' (X + 1) v' (Lt ++ [p]) := ⟨hown2.own, fun q hq => kT.mono (hown2.ok q hq) (fun i _ e => by
  rcases e with e | e
  ·rcases e with e | e | e | e
   ·exact .inl (.inl e)
   ·exact .inl (.inr (.inl e))
   ·exact .inr e
   exact .inl (.inr (.inr (.inr e)))
  exact .inr e)⟩
 exact ⟨h.ext.trans2 hE (fun i hi e => by have := hlo i e; omega), h.tape.extAbove hE (fun i hi e => by have := hlo i e; omega), hE.blk h.boxC (fun e => by have := hlo _ e; omega), hE.blk h.boxX (fun e => by have := hlo _ e; omega), hLD h.d (fun i hi e => h.dt i hi e), hown3, hLD h.b (fun i hi e => h.tb2 i e hi), (fun k hk e => by
  rcases hv with hv | hv
  ·rw [hv] at e; exact h.dt k hk e
  ·rw [hv] at e; simp only [Option.some.injEq] at e; have := (h.d.lt k hk).2; omega), h.db, (fun k hk e => by
  rcases hv with hv | hv
  ·rw [hv] at hk; exact h.tb2 k hk e
  rw [hv] at hk; simp only [Option.some.injEq] at hk; have := (h.b.lt k e).2; omega), h1, h2⟩
theorem GyM.appB {p : (RawSet × Value)} (h : GyM tb W wr X cx vd vt vb Ld Lt Lb) (hp : kS.ok (GA X vd vt vb) wr p) (hown : w'.ownsRow (X + 1) kS.T kS.s v' (Lb.length + 1) (Lb.flatMap kS.cells ++ kS.cells p)) (hg : wr.grownBy w' vb.ownBlock) (hv : v'.ownBlock = vb.ownBlock ∨ v'.ownBlock = some wr.heap.size) :
  GyM tb W w' X cx vd vt v' Ld Lt (Lb ++ [p]) := by
 have h1 := h.lt
 have h2 := h.low
 have hE : Ext (fun k => vb.ownBlock = some k) wr w' := (Ext.refl _ wr).grown hg (fun k hk _ => hk)
 have hlo : ∀ i, vb.ownBlock = some i → X + 1 ≤ i := fun i hi => (h.b.lt i hi).1
 have hmA : ∀ i, i < wr.heap.size → (GA X vd vt v') i → GA X vd vt vb i := fun i hi e => by
  rcases e with e | e | e | e
  ·exact .inl e
  ·exact .inr (.inl e)
  ·exact .inr (.inr (.inl e))
  rcases hv with hv | hv
  ·rw [hv] at e; exact .inr (.inr (.inr e))
  rw [hv] at e; simp only [Option.some.injEq] at e; omega
 have hEA : ∀ i, vb.ownBlock = some i → (GA X vd vt v') i ∨ ¬ i < w'.heap.size ∨ True := fun _ _ => .inr (.inr trivial)
 clear hEA
 have hLD : ∀ {β : Type} {K : EK β} {v : Value} {L : List β}, LOwn K (GA X vd vt vb) wr (X + 1) v L → (∀ i, v.ownBlock = some i → ¬ vb.ownBlock = some i) → LOwn K (GA X vd vt v') w' (X + 1) v L := fun hL hne => by
  have hL2 : LOwn _ (fun b => (GA X vd vt v') b ∨ vb.ownBlock = some b) wr (X + 1) _ _ := hL.mono (fun i hi e => by
   rcases e with e | e
   ·exact hmA i hi e
   exact .inr (.inr (.inr e)))
  exact (hL2.ext2 hE hne (fun i _ e => .inr e)).mono (fun i _ e => .inl e)
 have hown2 : LOwn kS (GA X vd vt vb) w' (X + 1) v' (Lb ++ [p]) := h.b.app (E := fun k => vb.ownBlock = some k) (kS.mono hp (fun i _ e => by
  rcases e with e | e
  ·exact e
  exact .inr (.inr (.inr e)))) hown hE (fun _ e => e) (hv.imp id (fun hv k hk => by rw [hv] at hk; simp only [Option.some.injEq] at hk; omega))
 have hown3 : LOwn kS (GA X vd vt v') w' (X + 1) v' (Lb ++ [p]) := ⟨hown2.own, fun q hq => kS.mono (hown2.ok q hq) (fun i _ e => by
  rcases e with e | e
  ·rcases e with e | e | e | e
   ·exact .inl (.inl e)
   ·exact .inl (.inr (.inl e))
   ·exact .inl (.inr (.inr (.inl e)))
   exact .inr e
  exact .inr e)⟩
 exact ⟨h.ext.trans2 hE (fun i hi e => by have := hlo i e; omega), h.tape.extAbove hE (fun i hi e => by have := hlo i e; omega), hE.blk h.boxC (fun e => by have := hlo _ e; omega), hE.blk h.boxX (fun e => by have := hlo _ e; omega), hLD h.d (fun i hi e => h.db i hi e), hLD h.t (fun i hi e => h.tb2 i hi e), hown3, h.dt, (fun k hk e => by
  rcases hv with hv | hv
  ·rw [hv] at e; exact h.db k hk e
  ·rw [hv] at e; simp only [Option.some.injEq] at e; have := (h.d.lt k hk).2; omega), (fun k hk e => by
  rcases hv with hv | hv
  ·rw [hv] at e; exact h.tb2 k hk e
  rw [hv] at e; simp only [Option.some.injEq] at e; have := (h.t.lt k hk).2; omega), h1, h2⟩
end
structure GyI (N w i : Nat) (Ld : LD) (Lt : LT) (Lb : LS) : Prop where
 ld : Ld.length = i
 lt : Lt.length = i
 lb : Lb.length = i
 d : ∀ p ∈ Ld, AscL p.1 N ∧ p.1.length ≤ 3
 t : ∀ p ∈ Lt, FitT w p.1
 b : ∀ p ∈ Lb, FitS w p.1
theorem GyI.nil (N w : Nat) : GyI N w 0 [] [] [] := ⟨rfl, rfl, rfl, fun _ h => (by cases h), fun _ h => (by cases h), fun _ h => (by cases h)⟩
theorem GyI.snoc {N w i : Nat} {Ld : LD} {Lt : LT} {Lb : LS} {pd : List Int × Value} {pt : RawT × Value × Value × Value} {pb : RawSet × Value} (h : GyI N w i Ld Lt Lb) (h1 : AscL pd.1 N ∧ pd.1.length ≤ 3) (h2 : FitT w pt.1) (h3 : FitS w pb.1) : GyI N w (i + 1) (Ld ++ [pd]) (Lt ++ [pt]) (Lb ++ [pb]) := by
 refine ⟨by simp [h.ld], by simp [h.lt], by simp [h.lb], fun p hp => ?_, fun p hp => ?_, fun p hp => ?_⟩
 ·rcases List.mem_append.1 hp with hp | hp
  ·exact h.d p hp
  rw [List.mem_singleton.1 hp]; exact h1
 ·rcases List.mem_append.1 hp with hp | hp
  ·exact h.t p hp
  rw [List.mem_singleton.1 hp]; exact h2
 rcases List.mem_append.1 hp with hp | hp
 ·exact h.b p hp
 rw [List.mem_singleton.1 hp]; exact h3
theorem sumL_bd {k : Nat} : ∀ (Ld : LD), (∀ p ∈ Ld, p.1.length ≤ k) → sumL Ld ≤ Ld.length * k
 | [], _ => Nat.zero_le _
 | p :: Ld, h => by
  have h1 := sumL_bd Ld (fun q hq => h q (List.mem_cons_of_mem _ hq))
  have h2 := h p (List.mem_cons_self ..)
  unfold sumL at *
  rw [List.map_cons, List.sum_cons, List.length_cons, Nat.succ_mul]
  omega
theorem GyI.vs {N w : Nat} {Ld : LD} {Lt : LT} {Lb : LS} (h : GyI N w N Ld Lt Lb) (h1 : 1 ≤ N) (h2 : N ≤ 100) (hw : w ≤ 256) : VS (w : Int) Ld Lt Lb :=
 ⟨by omega, by rw [h.ld]; omega, by rw [h.ld, h.lt], by rw [h.ld, h.lb], fun p hp => by rw [h.ld]; exact (h.d p hp).1, by have := sumL_bd (k := 3) Ld (fun p hp => (h.d p hp).2); rw [h.ld] at this; omega, h.b, h.t⟩
def GenSys (tb n : Nat) (W : World) (e : Ending) (w' : World) : Prop :=
 ∃ (S : SysD) (vd vt vb : Value), e = .returned (.agg #[.int .i64 (S.w : Int), vd, vt, vb]) ∧ S.w ≤ 4 ∧ S.deps.length ≤ n ∧ Hid (SysAt (Lo W.heap.size) w' vd vt vb S) ∧ TapeOk w' tb ∧ Ext (At tb) W w'

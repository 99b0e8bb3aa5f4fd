
import Derived.Test.YtjeohlooaiociaaGreatDoorI11
set_option linter.unusedVariables false
set_option linter.unusedSimpArgs false
namespace Go.Proofs.YtjeohlooaiociaaGreatDoor
open Go Go.RowKit
structure SqY (tb : Nat) (W wr : World) (Q : Nat) (P0 : Array Value) (vv vr : Value) (Lv : LS) (R : LD) : Prop where
 ext : Ext (At tb) W wr
 tape : TapeOk wr tb
 boxP : wr.heap[W.heap.size]? = some (.cells P0 29 (0, 0))
 boxC : wr.heap[W.heap.size + 1]? = some (.cells #[.slice none 0 0, .slice none 0 0] 29 (0, 0))
 boxQ : wr.heap[Q]? = some (.cells #[vv, vr] 29 (0, 0))
 v : LOwn kS (HiB W tb) wr (W.heap.size + 2) vv Lv
 r : RwM wr (W.heap.size + 2) vr R
 low : W.heap.size + 1 < Q
 tb1 : tb < W.heap.size
 vq : ∀ k, vv.ownBlock = some k → k ≠ Q ∧ ¬ RwIn vr R k
 rq : ¬ RwIn vr R Q
structure SqN (tb : Nat) (W wr : World) (Q : Nat) (vv vr : Value) (Lv : LS) (R : LD) : Prop where
 ext : Ext (At tb) W wr
 tape : TapeOk wr tb
 boxC : wr.heap[W.heap.size + 1]? = some (.cells #[.slice none 0 0, .slice none 0 0] 29 (0, 0))
 boxQ : wr.heap[Q]? = some (.cells #[vv, vr] 29 (0, 0))
 v : LAt kS (fun b => b = tb ∨ b = W.heap.size + 1 ∨ RwIn vr R b) wr vv Lv
 r : RwM wr (W.heap.size + 2) vr R
 low : W.heap.size + 1 < Q
 tb1 : tb < W.heap.size
 rq : ¬ RwIn vr R Q
structure SqE (tb : Nat) (W wr : World) (Q : Nat) (vv vr : Value) (Lv : LS) (R : LD) : Prop where
 ext : Ext (At tb) W wr
 tape : TapeOk wr tb
 boxC : wr.heap[W.heap.size + 1]? = some (.cells #[.slice none 0 0, .slice none 0 0] 29 (0, 0))
 boxQ : wr.heap[Q]? = some (.cells #[vv, vr] 29 (0, 0))
 v : LAt kS (fun b => b = tb ∨ b = W.heap.size + 1) wr vv Lv
 r : LAt kD (fun b => b = tb ∨ b = W.heap.size + 1) wr vr R
 tb1 : tb < W.heap.size
section
variable {tb : Nat} {W wr w' w1 w2 : World} {Q : Nat} {P0 : Array Value} {vv vr v' : Value} {Lv : LS} {R : LD}
theorem SqY.lo (h : SqY tb W wr Q P0 vv vr Lv R) : (∀ k, vv.ownBlock = some k → W.heap.size + 2 ≤ k) ∧ (∀ k, RwIn vr R k → W.heap.size + 2 ≤ k) := ⟨fun k hk => (h.v.lt k hk).1, fun k hk => (h.r.lt k hk).1⟩
theorem SqY.step (h : SqY tb W wr Q P0 vv vr Lv R) (hx : Ext (At tb) wr w') (ht : TapeOk w' tb) : SqY tb W w' Q P0 vv vr Lv R := by
 have h1 := h.low
 have h2 := h.tb1
 obtain ⟨g1, g2⟩ := h.lo
 exact ⟨h.ext.trans hx, ht, hx.blk h.boxP (by unfold At; omega), hx.blk h.boxC (by unfold At; omega), hx.blk h.boxQ (by unfold At; omega), h.v.ext2 hx (fun i hi e => by have := g1 i hi; unfold At at e; omega) (fun i _ e => .inl e), h.r.ext hx (fun b hb e => by have := g2 b hb; unfold At at e; omega), h1, h2, h.vq, h.rq⟩
theorem SqY.stepNo (h : SqY tb W wr Q P0 vv vr Lv R) (hx : Ext No wr w') : SqY tb W w' Q P0 vv vr Lv R := h.step hx.ofNo (h.tape.ext hx)
theorem SqY.toN (h : SqY tb W wr Q P0 vv vr Lv R) : SqN tb W wr Q vv vr Lv R := by
 have h2 := h.tb1
 obtain ⟨g1, g2⟩ := h.lo
 exact ⟨h.ext, h.tape, h.boxC, h.boxQ, h.v.list2 (fun b hb e => by
  rcases e with e | e | e
  ·have := g1 b hb; omega
  ·have := g1 b hb; omega
  ·exact (h.vq b hb).2 e) (fun b e => by
  unfold HiB
  rcases e with e | e | e
  ·omega
  ·omega
  have := g2 b e; omega), h.r, h.low, h2, h.rq⟩
theorem SqN.toE (h : SqN tb W wr Q vv vr Lv R) : SqE tb W wr Q vv vr Lv R := by
 have h2 := h.tb1
 exact ⟨h.ext, h.tape, h.boxC, h.boxQ, h.v.mono (fun i _ e => e.elim .inl (fun e => .inr (.inl e))), h.r.list (fun b hb e => by have := (h.r.lt b hb).1; omega), h2⟩
theorem SqN.step (h : SqN tb W wr Q vv vr Lv R) (hx : Ext (At tb) wr w') (ht : TapeOk w' tb) : SqN tb W w' Q vv vr Lv R := by
 have h1 := h.low
 have h2 := h.tb1
 exact ⟨h.ext.trans hx, ht, hx.blk h.boxC (by unfold At; omega), hx.blk h.boxQ (by unfold At; omega), h.v.ext hx (fun i _ e => .inl e), h.r.ext hx (fun b hb e => by have := (h.r.lt b hb).1; unfold At at e; omega), h1, h2, h.rq⟩
theorem SqN.stepNo (h : SqN tb W wr Q vv vr Lv R) (hx : Ext No wr w') : SqN tb W w' Q vv vr Lv R := h.step hx.ofNo (h.tape.ext hx)
theorem SqY.add {o : Obj} {p : List Int × Value} (h : SqY tb W wr Q P0 vv vr Lv R) (hx1 : Ext No wr w1) (hp : w1.ownsRow wr.heap.size 3 1 p.2 p.1.length (p.1.map (.int .i64))) (hpn : ∀ k, p.2.ownBlock = some k → wr.heap.size ≤ k)
  (hown : w2.ownsRow (W.heap.size + 2) 22 1 v' (R.length + 1) (R.flatMap kD.cells ++ [p.2])) (hg : (w1.alloc o).grownBy w2 vr.ownBlock) (hv : v'.ownBlock = vr.ownBlock ∨ v'.ownBlock = some (w1.alloc o).heap.size) :
  SqY tb W (w2.setCell ⟨Q, 1, none⟩ v') Q P0 vv v' Lv (R ++ [p]) ∧ w2.heap[Q]? = some (.cells #[vv, vr] 29 (0, 0)) := by
 have h1 := h.low
 have h2 := h.tb1
 obtain ⟨g1, g2⟩ := h.lo
 have hm := h.stepNo hx1
 have hQ := lt_of_block h.boxQ
 have hs1 := hx1.size
 have hsz : (w1.alloc o).heap.size = w1.heap.size + 1 := by simp
 have hE : Ext (fun k => vr.ownBlock = some k) w1 w2 := ((Ext.refl _ w1).alloc o).grown hg (fun k hk _ => hk)
 have hE2 : Ext (At Q) w2 (w2.setCell ⟨Q, 1, none⟩ v') := (Ext.refl (At Q) _).setAt _ _
 have hbQ := hE.blk hm.boxQ (fun e => h.rq (.inl e))
 have hp2 : w1.ownsRow (W.heap.size + 2) 3 1 p.2 p.1.length (p.1.map (.int .i64)) := row_base hp (by omega)
 have hr2 : RwM w2 (W.heap.size + 2) v' (R ++ [p]) := hm.r.add hp2 (fun b hb e => by have h5 := hpn b hb; have h6 := (h.r.lt b e).2; omega) hown hE (hv.imp id (fun hv k hk => by rw [hv] at hk; simp only [Option.some.injEq] at hk; omega))
 have hin : ∀ b, RwIn v' (R ++ [p]) b → RwIn vr R b ∨ wr.heap.size ≤ b := fun b hb => by
  rcases hb with hb | ⟨q, hq, hb⟩
  ·rcases hv with hv | hv
   ·rw [hv] at hb; exact .inl (.inl hb)
   rw [hv] at hb; simp only [Option.some.injEq] at hb; exact .inr (by omega)
  rcases List.mem_append.1 hq with hq | hq
  ·exact .inl (.inr ⟨q, hq, hb⟩)
  rw [List.mem_singleton.1 hq] at hb; exact .inr (hpn b hb)
 have hrq2 : ¬ RwIn v' (R ++ [p]) Q := fun e => by
  rcases hin Q e with e | e
  ·exact h.rq e
  omega
 have hlo : ∀ i, vr.ownBlock = some i → W.heap.size + 2 ≤ i := fun i hi => g2 i (.inl hi)
 refine ⟨⟨?_, ?_, ?_, ?_, (set_same (j := 1) hbQ).trans rfl, ?_, hr2.ext hE2 (fun b hb e => hrq2 (by rw [← show b = Q from e]; exact hb)), h1, h2, fun k hk => ⟨(h.vq k hk).1, fun e => ?_⟩, hrq2⟩, hbQ⟩
 ·exact (hm.ext.trans2 hE (fun i hi e => by have := hlo i e; omega)).trans2 hE2 (fun i hi e => by unfold At at e; omega)
 ·exact (hm.tape.extAbove hE (fun i hi e => by have := hlo i e; omega)).extAbove hE2 (fun i hi e => by unfold At at e; omega)
 ·exact hE2.blk (hE.blk hm.boxP (fun e => by have := hlo _ e; omega)) (by unfold At; omega)
 ·exact hE2.blk (hE.blk hm.boxC (fun e => by have := hlo _ e; omega)) (by unfold At; omega)
 ·exact (hm.v.ext2 hE (fun i hi e => (h.vq i hi).2 (.inl e)) (fun i hi e => .inr (by have := hlo i e; omega))).ext2 hE2 (fun i hi e => (h.vq i hi).1 e) (fun i hi e => .inr (by unfold At at e; omega))
 rcases hin k e with e | e
 ·exact (h.vq k hk).2 e
 have := (h.v.lt k hk).2; omega
theorem SqY.putV {g cap i N : Nat} {p : RawSet × Value} (hN : N = Lv.length) (h : SqY tb W wr Q P0 (.slice (some ⟨g, 0, none⟩) N cap) vr Lv R) (hi : i < Lv.length) (hp : WordsAt (fun b => b = tb ∨ b = W.heap.size + 1 ∨ b = g ∨ RwIn vr R b) wr p.2 p.1.words) :
  SqN tb W ((wr.setCell ⟨g, i * 2, none⟩ (.int .i64 p.1.width)).setCell ⟨g, i * 2 + 1, none⟩ p.2) Q (.slice (some ⟨g, 0, none⟩) N cap) vr (Lv.set i p) R := by
 subst hN
 have h1 := h.low
 have h2 := h.tb1
 obtain ⟨g1, g2⟩ := h.lo
 have hgl := g1 g rfl
 have hE : Ext (At g) wr ((wr.setCell ⟨g, i * 2, none⟩ (.int .i64 p.1.width)).setCell ⟨g, i * 2 + 1, none⟩ p.2) := ((Ext.refl (At g) wr).setAt _ _).setAt _ _
 have hv0 : LOwn kS (fun b => b = tb ∨ b = W.heap.size + 1 ∨ RwIn vr R b) wr (W.heap.size + 2) (.slice (some ⟨g, 0, none⟩) Lv.length cap) Lv := h.v.mono (fun i _ e => by
  unfold HiB
  rcases e with e | e | e
  ·omega
  ·omega
  have := g2 i e; omega)
 have hso : SetsOwn (fun b => b = tb ∨ b = W.heap.size + 1 ∨ RwIn vr R b) wr (W.heap.size + 2) (.slice (some ⟨g, 0, none⟩) Lv.length cap) Lv := ⟨hv0.own, hv0.ok⟩
 have hput := hso.put hi (p := p) (hp.mono (fun i _ e => by
  rcases e with (e | e | e) | e
  ·exact .inl e
  ·exact .inr (.inl e)
  ·exact .inr (.inr (.inr e))
  exact .inr (.inr (.inl e))))
 have hl : LOwn kS (fun b => b = tb ∨ b = W.heap.size + 1 ∨ RwIn vr R b) _ (W.heap.size + 2) (.slice (some ⟨g, 0, none⟩) Lv.length cap) (Lv.set i p) := ⟨hput.own, hput.ok⟩
 refine ⟨h.ext.trans2 hE (fun i hi e => by unfold At at e; omega), h.tape.extAbove hE (fun i hi e => by unfold At at e; omega), hE.blk h.boxC (by unfold At; omega), hE.blk h.boxQ (fun e => (h.vq g rfl).1 e.symm), ?_, h.r.ext hE (fun b hb e => ?_), h1, h2, h.rq⟩
 ·have h5 := hl.list2 (M := fun b => b = tb ∨ b = W.heap.size + 1 ∨ RwIn vr R b) (fun b hb e => by
   simp only [Value.ownBlock, Option.some.injEq] at hb
   rcases e with e | e | e
   ·omega
   ·omega
   exact (h.vq g rfl).2 (by rw [hb]; exact e)) (fun _ e => e)
  exact h5
 exact (h.vq g rfl).2 (by rw [← show b = g from e]; exact hb)
theorem SqY.vl3 (h : SqY tb W wr Q P0 vv vr Lv R) : LAt kS (fun b => b = tb ∨ b = W.heap.size + 1 ∨ b = Q) wr vv Lv := by
 have h1 := h.low
 have h2 := h.tb1
 exact h.v.list2 (fun b hb e => by have := h.lo.1 b hb; have := (h.vq b hb).1; omega) (fun b e => by unfold HiB; omega)
theorem SqY.cut {Lv' : LS} (h : SqY tb W wr Q P0 vv vr Lv R) (hv : LAt kS (fun b => b = tb ∨ b = W.heap.size + 1 ∨ b = Q) wr v' Lv') : SqE tb W (wr.setCell ⟨Q, 0, none⟩ v') Q v' vr Lv' R := by
 have h1 := h.low
 have h2 := h.tb1
 have hE : Ext (At Q) wr (wr.setCell ⟨Q, 0, none⟩ v') := (Ext.refl (At Q) wr).setAt _ _
 exact ⟨h.ext.trans2 hE (fun i hi e => by unfold At at e; omega), h.tape.extAbove hE (fun i hi e => by unfold At at e; omega), hE.blk h.boxC (by unfold At; omega), (set_same (j := 0) h.boxQ).trans rfl, (hv.ext hE (fun i _ e => .inr (.inr e))).mono (fun i _ e => e.elim .inl (fun e => .inr (.inl e))), (h.r.ext hE (fun b hb e => h.rq (by rw [← show b = Q from e]; exact hb))).list (fun b hb e => by have := h.lo.2 b hb; omega), h2⟩
theorem SqN.putR {g cap i j : Nat} {l : List Int} (h : SqN tb W wr Q vv vr Lv R) (hi : i < R.length) (hg : R[i] = (l, .slice (some ⟨g, 0, none⟩) l.length cap)) (z : Int) :
  SqE tb W (wr.setCell ⟨g, j, none⟩ (.int .i64 z)) Q vv vr Lv (R.set i (l.set j z, .slice (some ⟨g, 0, none⟩) l.length cap)) := by
 have h1 := h.low
 have h2 := h.tb1
 have hm := List.getElem_mem hi
 have hgi : RwIn vr R g := .inr ⟨_, hm, by rw [hg]; rfl⟩
 have hgl := (h.r.lt g hgi).1
 have hE : Ext (At g) wr (wr.setCell ⟨g, j, none⟩ (.int .i64 z)) := (Ext.refl (At g) wr).setAt _ _
 have hr2 := h.r.put (j := j) hi hg z
 exact ⟨h.ext.trans2 hE (fun i hi e => by unfold At at e; omega), h.tape.extAbove hE (fun i hi e => by unfold At at e; omega), hE.blk h.boxC (by unfold At; omega), hE.blk h.boxQ (fun e => h.rq (by rw [show Q = g from e]; exact hgi)), (h.v.ext hE (fun i _ e => .inr (.inr (by rw [show i = g from e]; exact hgi)))).mono (fun i _ e => e.elim .inl (fun e => .inr (.inl e))), hr2.list (fun b hb e => by have := (hr2.lt b hb).1; omega), h2⟩
theorem SqN.putRow {o : Obj} {go cap i N : Nat} {l : List Int} {p : List Int × Value} (hN : N = R.length) (h : SqN tb W wr Q vv (.slice (some ⟨go, 0, none⟩) N cap) Lv R) (hi : i < R.length) (hg : R[i] = p)
  (hown : w'.ownsRow (W.heap.size + 2) 3 1 v' l.length (l.map (.int .i64))) (hgr : (wr.alloc o).grownBy w' p.2.ownBlock) (hv : v'.ownBlock = p.2.ownBlock ∨ v'.ownBlock = some (wr.alloc o).heap.size) :
  SqE tb W (w'.setCell ⟨go, i, none⟩ v') Q vv (.slice (some ⟨go, 0, none⟩) N cap) Lv (R.set i (l, v')) := by
 subst hN
 have h1 := h.low
 have h2 := h.tb1
 have g2 := fun b hb => (h.r.lt b hb).1
 have hm := List.getElem_mem hi
 have hsz : (wr.alloc o).heap.size = wr.heap.size + 1 := by simp
 have hgoI : RwIn (.slice (some ⟨go, 0, none⟩) R.length cap) R go := .inl rfl
 have hgo := g2 go hgoI
 have hpI : ∀ b, p.2.ownBlock = some b → RwIn (.slice (some ⟨go, 0, none⟩) R.length cap) R b := fun b hb => .inr ⟨_, hm, by rw [hg]; exact hb⟩
 have hE : Ext (fun k => p.2.ownBlock = some k) wr w' := ((Ext.refl _ wr).alloc o).grown hgr (fun k hk _ => hk)
 have hE2 : Ext (At go) w' (w'.setCell ⟨go, i, none⟩ v') := (Ext.refl (At go) _).setAt _ _
 have hlo : ∀ b, p.2.ownBlock = some b → W.heap.size + 2 ≤ b := fun b hb => g2 b (hpI b hb)
 have hr2 := h.r.putRow hi hg hown hE (hv.imp id (fun hv k hk => by rw [hv] at hk; simp only [Option.some.injEq] at hk; omega))
 refine ⟨(h.ext.trans2 hE (fun i hi e => by have := hlo i e; omega)).trans2 hE2 (fun i hi e => by unfold At at e; omega), (h.tape.extAbove hE (fun i hi e => by have := hlo i e; omega)).extAbove hE2 (fun i hi e => by unfold At at e; omega), hE2.blk (hE.blk h.boxC (fun e => by have := hlo _ e; omega)) (by unfold At; omega), hE2.blk (hE.blk h.boxQ (fun e => h.rq (hpI _ e))) (fun e => h.rq (by rw [show Q = go from e]; exact hgoI)), ?_, ?_, h2⟩
 ·exact ((h.v.ext hE (fun i _ e => .inr (.inr (hpI i e)))).ext hE2 (fun i _ e => .inr (.inr (by rw [show i = go from e]; exact hgoI)))).mono (fun i _ e => e.elim .inl (fun e => .inr (.inl e)))
 have h5 := hr2.list (M := fun b => b = tb ∨ b = W.heap.size + 1) (fun b hb e => by
  have hb2 : RwIn (.slice (some ⟨go, 0, none⟩) (R.set i (l, v')).length cap) (R.set i (l, v')) b := hb
  have := World.ownsRow.lt hr2.own
  rcases hb with hb | ⟨q, hq, hb⟩
  ·have := World.ownsRow.lt hr2.own b hb; omega
  have := World.ownsRow.lt (hr2.row q hq) b hb; omega)
 exact h5
end
def GenPrf (tb n : Nat) (W : World) (e : Ending) (w' : World) : Prop :=
 ∃ (vv vr : Value) (Lv : LS) (R : LD), e = .returned (.agg #[vv, vr]) ∧ Hid (LAt kS (At tb) w' vv Lv) ∧ Hid (LAt kD (At tb) w' vr R) ∧ Lv.length ≤ n ∧ R.length ≤ n ∧ TapeOk w' tb ∧ Ext (At tb) W w'
theorem SqE.fin {tb n : Nat} {W wr : World} {Q : Nat} {vv vr : Value} {Lv : LS} {R : LD} (h : SqE tb W wr Q vv vr Lv R) (h1 : Lv.length ≤ n) (h2 : R.length ≤ n) {WF : World} (hE : Ext (At (W.heap.size + 1)) wr WF) : GenPrf tb n W (.returned (.agg #[vv, vr])) WF := by
 have h3 := h.tb1
 exact ⟨vv, vr, Lv, R, rfl, Lib.hid ((h.v.ext hE (fun i _ e => .inr e)).mono (fun i _ e => .inl e)), Lib.hid ((h.r.ext hE (fun i _ e => .inr e)).mono (fun i _ e => .inl e)), h1, h2, h.tape.extAbove hE (fun i hi e => by unfold At at e; omega), h.ext.trans2 hE (fun i hi e => by unfold At at e; omega)⟩


import Derived.Test.YtmddchceacmopaaDoorI1
import Derived.Test.YtmddchceacmopaaDoorTr32
import Derived.Test.YtmddchceacmopaaDoorH10
import Derived.Test.YtmddchceacmopaaDoorE4
set_option linter.unusedVariables false
set_option linter.unusedSimpArgs false
namespace Go.Proofs.YtmddchceacmopaaDoor
open Go Go.RowKit
theorem SetAt.early {L m D : Nat} {w7 : World} {sl u0 u1 : Value} (h : SetAt (Lo L) w7 sl 2 m) (hlt : D < L) : SetAt No ((w7.setCell ⟨D, 0, none⟩ u0).setCell ⟨D, 1, none⟩ u1) sl 2 m :=
 (h.ext (ext_two (W := w7) (w1 := w7) (Ext.refl _ _) D) (fun i _ e => by cases e; exact hlt)).no
end Go.Proofs.YtmddchceacmopaaDoor

namespace Go.Proofs.YtmddchceacmopaaDoor
open Go Go.RowKit
theorem rvalidSys_yes (S : SysD) (vd vt vb : Value) (W : World) (h : SysAt No W vd vt vb S) :
  Calls Tryd.prog 56 #[.agg #[.int .i64 (S.w : Int), vd, vt, vb]] W (BoolPost true W) := by
 obtain ⟨Ld, Lt, Lb, h1, h2⟩ := h.vs
 refine (rvalidSys_any _ _ _ _ Ld Lt Lb W h1).mono ?_
 rintro e w' ⟨b, rfl, hb, hx⟩
 exact ⟨by rw [tells_t hb h2], hx⟩
end Go.Proofs.YtmddchceacmopaaDoor

namespace Go.Proofs.YtmddchceacmopaaDoor
open Go Go.RowKit
theorem small_len {w gen : Nat} {rs : List Nat} (h8 : w ≤ 8) : (copTo w gen rs w).length ≤ 64 := Nat.le_trans (copTo_len w gen rs w) (Nat.mul_le_mul h8 h8)
end Go.Proofs.YtmddchceacmopaaDoor

namespace Go.Proofs.YtmddchceacmopaaDoor
open Go Go.RowKit
section
variable {M M' : Nat → Prop} {D w n m : Nat} {t : TrD} {ag ak ac a : Option Addr} {cg ck cc c : Nat} {wr w' : World}
theorem TrAt.early (h : TrAt M wr (.slice ag (nw w) cg) (.slice ak (nw w) ck) (.slice ac n cc) t) (hM : ∀ i, M' i → wr.heap.size ≤ i) : TrAt M' wr (.slice ag (nw w) cg) (.slice ak (nw w) ck) (.slice ac n cc) t := h.mono (fun i hi e => absurd hi (Nat.not_lt.2 (hM i e)))
end
def TrWM (M : Nat → Prop) (w : Nat) (t' : TrD) (W : World) (e : Ending) (w' : World) : Prop :=
 ∃ ag cg ak ck ac n cc, e = .returned (.tuple #[.agg #[.int .i64 (w : Int), .slice ag (nw w) cg, .int .i64 (w : Int), .slice ak (nw w) ck, .slice ac n cc], .int .i64 0]) ∧
  Hid (TrAt M w' (.slice ag (nw w) cg) (.slice ak (nw w) ck) (.slice ac n cc) t') ∧ Ext No W w'
theorem ClosePost.smallM {M : Nat → Prop} {w gen : Nat} {rs : List Nat} {W w' : World} {e : Ending} (h : ClosePost M w gen rs W e w') (h8 : w ≤ 8) : TrWM M w (closeT w gen rs) W e w' := by
 obtain ⟨ag, cg, ak, ck, ac, cc, h1, h2, h3⟩ := h.1 (small_len h8)
 exact ⟨ag, cg, ak, ck, ac, _, cc, h1, h2, h3⟩
theorem star8M (M : Nat → Prop) (t : TrD) (w : Nat) (g1 k1 c1 : Value) (W : World) (hw : t.w = w) (hM : ∀ b, M b → b < W.heap.size) (h8 : w ≤ 8) (hT : TabW W) (h1 : TrAt No W g1 k1 c1 t) :
  Calls Tryd.prog 67 #[.agg #[.int .i64 (w : Int), g1, .int .i64 (w : Int), k1, c1]] W (TrWM M w (starT t) W) := by
 subst hw
 exact (star_any M t _ _ _ _ hM hT h1).mono (fun _ _ h => h.smallM h8)
theorem join8M (M : Nat → Prop) (t u : TrD) (w : Nat) (g1 k1 c1 g2 k2 c2 : Value) (W : World) (hw : t.w = w) (hu : u.w = w) (hM : ∀ b, M b → b < W.heap.size) (h8 : w ≤ 8) (hT : TabW W) (h1 : TrAt No W g1 k1 c1 t) (h2 : TrAt No W g2 k2 c2 u) :
  Calls Tryd.prog 77 #[.agg #[.int .i64 (w : Int), g1, .int .i64 (w : Int), k1, c1], .agg #[.int .i64 (w : Int), g2, .int .i64 (w : Int), k2, c2]] W (TrWM M w (joinT t u) W) := by
 subst hw
 exact (join_any M t u _ _ _ _ _ _ _ hM hT h1 h2 hu).mono (fun _ _ h => h.smallM h8)
theorem comp8M (M : Nat → Prop) (t u : TrD) (w : Nat) (g1 k1 c1 g2 k2 c2 : Value) (W : World) (hw : t.w = w) (hu : u.w = w) (hM : ∀ b, M b → b < W.heap.size) (h8 : w ≤ 8) (hT : TabW W) (h1 : TrAt No W g1 k1 c1 t) (h2 : TrAt No W g2 k2 c2 u) :
  Calls Tryd.prog 46 #[.agg #[.int .i64 (w : Int), g1, .int .i64 (w : Int), k1, c1], .agg #[.int .i64 (w : Int), g2, .int .i64 (w : Int), k2, c2]] W (TrWM M w (compT t u) W) := by
 subst hw
 exact (compose_any M t u _ _ _ _ _ _ _ hM hT h1 h2 hu).mono (fun _ _ h => h.smallM h8)
end Go.Proofs.YtmddchceacmopaaDoor

namespace Go.Proofs.YtmddchceacmopaaDoor
open Go Go.RowKit
def HP (P : Nat → Prop) (vB vC : Value) : Nat → Prop := fun b => P b ∨ vB.ownBlock = some b ∨ vC.ownBlock = some b
theorem HP_swap {P : Nat → Prop} {vB vC : Value} {i : Nat} (e : HP P vB vC i) : HP P vC vB i := by
 rcases e with e | e | e
 ·exact .inl e
 ·exact .inr (.inr e)
 exact .inr (.inl e)
structure Tw3 {β γ : Type} (K1 : EK β) (K2 : EK γ) (wr : World) (P : Nat → Prop) (B : Nat) (vB vC : Value) (LB : List β) (LC : List γ) : Prop where
 b : LOwn K1 (HP P vB vC) wr B vB LB
 c : LOwn K2 (HP P vB vC) wr B vC LC
 bc : ∀ k, vB.ownBlock = some k → vC.ownBlock ≠ some k
section
variable {β γ : Type} {K1 : EK β} {K2 : EK γ} {wr w' : World} {P : Nat → Prop} {B : Nat} {vB vC v' : Value} {LB : List β} {LC : List γ} {p : β} {q : γ}
theorem Tw3.step {M : Nat → Prop} (h : Tw3 K1 K2 wr P B vB vC LB LC) (hx : Ext M wr w') (hM : ∀ i, i < wr.heap.size → M i → P i ∧ i < B) : Tw3 K1 K2 w' P B vB vC LB LC :=
 ⟨h.b.ext2 hx (fun i hi e => by have h1 := h.b.lt i hi; have := (hM i h1.2 e).2; omega) (fun i hi e => .inl (hM i hi e).1), h.c.ext2 hx (fun i hi e => by have h1 := h.c.lt i hi; have := (hM i h1.2 e).2; omega) (fun i hi e => .inl (hM i hi e).1), h.bc⟩
theorem Tw3.hM (h : Tw3 K1 K2 wr P B vB vC LB LC) (hX : ∀ b, P b → b < wr.heap.size) : ∀ b, HP P vB vC b → b < wr.heap.size := fun b hb => by
 rcases hb with hb | hb | hb
 ·exact hX b hb
 ·exact (h.b.lt b hb).2
 exact (h.c.lt b hb).2
theorem Tw3.appB (h : Tw3 K1 K2 wr P B vB vC LB LC) (hp : K1.ok (HP P vB vC) wr p) (hown : w'.ownsRow B K1.T K1.s v' (LB.length + 1) (LB.flatMap K1.cells ++ K1.cells p)) (hg : wr.grownBy w' vB.ownBlock) (hv : v'.ownBlock = vB.ownBlock ∨ v'.ownBlock = some wr.heap.size) : Tw3 K1 K2 w' P B v' vC (LB ++ [p]) LC := by
 have hE : Ext (fun k => vB.ownBlock = some k) wr w' := (Ext.refl _ wr).grown hg (fun k hk _ => hk)
 have hmA : ∀ i, i < wr.heap.size → HP P v' vC i → HP P vB vC i := fun i hi e => by
  rcases e with e | e | e
  ·exact .inl e
  ·rcases hv with hv | hv
   ·rw [hv] at e; exact .inr (.inl e)
   rw [hv] at e; simp only [Option.some.injEq] at e; omega
  exact .inr (.inr e)
 have h2 : LOwn K1 (HP P vB vC) w' B v' (LB ++ [p]) := h.b.app (E := fun k => vB.ownBlock = some k) (K1.mono hp (fun i _ e => by
  rcases e with e | e
  ·exact e
  exact .inr (.inl e))) hown hE (fun _ e => e) (hv.imp id (fun hv k hk => by rw [hv] at hk; simp only [Option.some.injEq] at hk; omega))
 have h3 : LOwn K1 (HP P v' vC) w' B v' (LB ++ [p]) := ⟨h2.own, fun q hq => K1.mono (h2.ok q hq) (fun i _ e => by
  rcases e with (e | e | e) | e
  ·exact .inl (.inl e)
  ·exact .inr e
  ·exact .inl (.inr (.inr e))
  exact .inr e)⟩
 have h4 : LOwn K2 (fun b => HP P v' vC b ∨ vB.ownBlock = some b) wr B vC LC := h.c.mono (fun i hi e => by
  rcases e with e | e
  ·exact hmA i hi e
  exact .inr (.inl e))
 refine ⟨h3, (h4.ext2 hE (fun i hi e => h.bc i e hi) (fun i _ e => .inr e)).mono (fun i _ e => .inl e), fun k hk e => ?_⟩
 rcases hv with hv | hv
 ·rw [hv] at hk; exact h.bc k hk e
 rw [hv] at hk; simp only [Option.some.injEq] at hk; have := (h.c.lt k e).2; omega
theorem Tw3.swap (h : Tw3 K1 K2 wr P B vB vC LB LC) : Tw3 K2 K1 wr P B vC vB LC LB :=
 ⟨h.c.mono (fun i _ e => by rcases e with e | e | e; exact .inl e; exact .inr (.inr e); exact .inr (.inl e)), h.b.mono (fun i _ e => by rcases e with e | e | e; exact .inl e; exact .inr (.inr e); exact .inr (.inl e)), fun k hk e => h.bc k e hk⟩
theorem Tw3.appC (h : Tw3 K1 K2 wr P B vB vC LB LC) (hp : K2.ok (HP P vB vC) wr q) (hown : w'.ownsRow B K2.T K2.s v' (LC.length + 1) (LC.flatMap K2.cells ++ K2.cells q)) (hg : wr.grownBy w' vC.ownBlock) (hv : v'.ownBlock = vC.ownBlock ∨ v'.ownBlock = some wr.heap.size) : Tw3 K1 K2 w' P B vB v' LB (LC ++ [q]) :=
 (h.swap.appB (K2.mono hp (fun _ _ e => HP_swap e)) hown hg hv).swap
end
def PW (W : World) (O : Nat) : Nat → Prop := fun b => b = W.heap.size + 1 ∨ b = O
structure WrM (W wr : World) (O : Nat) (S : SysD) (vd vt vb vB vI : Value) (cO : Array Value) (LB : LS) (LI : List (LA × Value)) : Prop where
 ext : Ext No W wr
 boxS : wr.heap[W.heap.size]? = some (.cells #[.int .i64 (S.w : Int), vd, vt, vb] 72 (0, 0))
 boxR : wr.heap[W.heap.size + 1]? = some (.cells #[.int .i64 0, .slice none 0 0, .slice none 0 0] 37 (0, 0))
 boxO : wr.heap[O]? = some (.cells cO 37 (0, 0))
 two : Tw3 kS kL wr (PW W O) (W.heap.size + 2) vB vI LB LI
 nO : ∀ k, (vB.ownBlock = some k ∨ vI.ownBlock = some k) → k ≠ O
 low : W.heap.size + 1 < O
section
variable {W wr w' : World} {O : Nat} {S : SysD} {vd vt vb vB vI v' : Value} {cO : Array Value} {LB : LS} {LI : List (LA × Value)} {q : LA × Value}
theorem WrM.hP (h : WrM W wr O S vd vt vb vB vI cO LB LI) : ∀ b, PW W O b → b < wr.heap.size := fun b e => by
 rcases e with e | e
 ·rw [e]; exact lt_of_block h.boxR
 rw [e]; exact lt_of_block h.boxO
theorem WrM.hot (h : WrM W wr O S vd vt vb vB vI cO LB LI) : ∀ b, HP (PW W O) vB vI b → b < wr.heap.size := h.two.hM h.hP
theorem WrM.stepNo (h : WrM W wr O S vd vt vb vB vI cO LB LI) (hx : Ext No wr w') : WrM W w' O S vd vt vb vB vI cO LB LI :=
 ⟨h.ext.transNo hx, hx.blk h.boxS no_no, hx.blk h.boxR no_no, hx.blk h.boxO no_no, h.two.step hx (fun i _ e => e.elim), h.nO, h.low⟩
theorem WrM.putO (h : WrM W wr O S vd vt vb vB vI cO LB LI) (j : Nat) (u : Value) : WrM W (wr.setCell ⟨O, j, none⟩ u) O S vd vt vb vB vI (cO.setIfInBounds j u) LB LI := by
 have hx : Ext (At O) wr (wr.setCell ⟨O, j, none⟩ u) := (Ext.refl (At O) _).setAt _ _
 have h1 := h.low
 have h2 : LOwn kS (HP (PW W O) vB vI) (wr.setCell ⟨O, j, none⟩ u) (W.heap.size + 2) vB LB := h.two.b.ext2 hx (fun i hi e => by unfold At at e; exact h.nO i (.inl hi) e) (fun i _ e => .inl (.inr e))
 have h3 : LOwn kL (HP (PW W O) vB vI) (wr.setCell ⟨O, j, none⟩ u) (W.heap.size + 2) vI LI := h.two.c.ext2 hx (fun i hi e => by unfold At at e; exact h.nO i (.inr hi) e) (fun i _ e => .inl (.inr e))
 exact ⟨h.ext.trans2 hx (fun i hi e => by unfold At at e; omega), hx.blk h.boxS (by unfold At; omega), hx.blk h.boxR (by unfold At; omega), set_same h.boxO, ⟨h2, h3, h.two.bc⟩, h.nO, h1⟩
theorem WrM.appI (h : WrM W wr O S vd vt vb vB vI cO LB LI) (hp : kL.ok (HP (PW W O) vB vI) wr q) (hown : w'.ownsRow (W.heap.size + 2) kL.T kL.s v' (LI.length + 1) (LI.flatMap kL.cells ++ kL.cells q)) (hg : wr.grownBy w' vI.ownBlock) (hv : v'.ownBlock = vI.ownBlock ∨ v'.ownBlock = some wr.heap.size) :
  WrM W w' O S vd vt vb vB v' cO LB (LI ++ [q]) := by
 have hx : Ext (fun k => vI.ownBlock = some k) wr w' := (Ext.refl _ wr).grown hg (fun k hk _ => hk)
 have hlo : ∀ i, vI.ownBlock = some i → W.heap.size + 2 ≤ i := fun i hi => (h.two.c.lt i hi).1
 have h1 := h.low
 have h2 := lt_of_block h.boxO
 refine ⟨h.ext.trans2 hx (fun i hi e => by have := hlo i e; omega), hx.blk h.boxS (fun e => by have := hlo _ e; omega), hx.blk h.boxR (fun e => by have := hlo _ e; omega), hx.blk h.boxO (fun e => h.nO _ (.inr e) rfl), h.two.appC hp hown hg hv, fun k hk => ?_, h1⟩
 rcases hk with hk | hk
 ·exact h.nO k (.inl hk)
 rcases hv with hv | hv
 ·rw [hv] at hk; exact h.nO k (.inr hk)
 rw [hv] at hk; simp only [Option.some.injEq] at hk; omega
end

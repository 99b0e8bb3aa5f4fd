/- Merged: H9 I16 -/
import Derived.Test.YtkdjdhflhlbelaaH6
import Derived.Test.YtkdjdhflhlbelaaF10
import Derived.Test.YtkdjdhflhlbelaaHeldL
import Derived.Test.YtkdjdhflhlbelaaH1
import Derived.Test.YtkdjdhflhlbelaaF4
import Derived.Test.YtkdjdhflhlbelaaI7
set_option linter.unusedVariables false
set_option linter.unusedSimpArgs false
/- H9 -/
namespace Go.Proofs.Ytkdjdhflhlbelaa
open Go Go.RowKit
def SolveWPost (M : Nat → Prop) (S : SysD) (W : World) (e : Ending) (w' : World) : Prop :=
 ∃ (R : Nat) (a : Option Addr) (c : Nat), FixAt S R ∧ e = .returned (.tuple #[.slice a S.deps.length c, .int .i64 0]) ∧ Hid (SetsV M w' (.slice a S.deps.length c) S.w (iterD S R)) ∧ Ext No W w'
set_option maxHeartbeats 1000000 in
theorem solveWeb_any (M : Nat → Prop) (S : SysD) (vb vi : Value) (W : World) (hM : ∀ b, M b → b < W.heap.size) (h : WebAt No W vb vi S) :
  Calls Try.prog 32 #[.agg #[.int .i64 (S.w : Int), vb, vi]] W (SolveWPost M S W) := by
 have H := Lib.hid h
 have HM := Lib.hid hM
 obtain ⟨ab, cb, ai, ci, rfl, rfl⟩ := h.slices
 clear h hM
 go_enter Try.func32, Try.ntmps32
 go_wp2_with fail
 have hx0 : Ext No W (W.alloc (.cells #[.int .i64 (S.w : Int), .slice ab S.deps.length cb, .slice ai S.deps.length ci] 56)) := (Ext.refl _ _).alloc _
 refine (validWeb_yes S _ _ _ (H.out.extNo hx0)).mono ?_
 rintro e1 w1 ⟨rfl, hx1⟩
 have HA := Lib.hid (hx1.blk (alloc_top (w := W) (o := (.cells #[.int .i64 (S.w : Int), .slice ab S.deps.length cb, .slice ai S.deps.length ci] 56)) rfl) no_no)
 have HX := Lib.hid (hx0.transNo hx1)
 clear hx0 hx1
 have cA := cellOf HA.out
 go_wp2_with fail
 clear cA
 refine (roundsW_any M S _ _ W.heap.size _ (fun b hb => Nat.lt_of_lt_of_le (HM.out b hb) HX.out.size) HA.out (H.out.extNo HX.out)).mono ?_
 rintro e2 w2 ⟨R, a2, c2, hR, rfl, hs2, hx2⟩
 have HR := Lib.hid hR
 clear hR
 go_wp2_with fail
 refine ret_ex rfl ?_
 simp [results, Try.results32, go_sem]
 exact ⟨R, a2, c2, HR.out, rfl, hs2, HX.out.transNo hx2⟩
end Go.Proofs.Ytkdjdhflhlbelaa

/- H9 -/
namespace Go.Proofs.Ytkdjdhflhlbelaa
open Go Go.RowKit
/-! ### two lists under way -/
def HA (X : Nat) (vB vC : Value) : Nat → Prop := fun b => b ≤ X ∨ vB.ownBlock = some b ∨ vC.ownBlock = some b
end Go.Proofs.Ytkdjdhflhlbelaa

/- H8 -/
namespace Go.Proofs.Ytkdjdhflhlbelaa
open Go Go.RowKit
theorem infoA8 : (Try.prog.info? 92).map (fun i => (i.zero, i.size, i.bytes)) = some (some (.agg #[.int .i64 0, .int .i64 0, .slice none 0 0, .int .i64 0, .slice none 0 0, .slice none 0 0]), 6, 96) := by kernel_rfl
theorem infoL8 : (Try.prog.info? 87).map (fun i => (i.zero, i.size, i.bytes)) = some (some (.slice none 0 0), 1, 24) := by kernel_rfl
end Go.Proofs.Ytkdjdhflhlbelaa

/- H9 -/
namespace Go.Proofs.Ytkdjdhflhlbelaa
open Go Go.RowKit
theorem raw_of {M : Nat → Prop} {W : World} {t : TrD} {w : Nat} {sg sk sc : Value} (hw : t.w = w) (hg : SetAt M W sg w t.gen) (hk : SetAt M W sk w t.kill) (hc : CopiesAt M W sc t.copies) : RawTAt M W sg sk sc (rawT t) := by
 subst hw; exact ⟨hg.words, hk.words, hc⟩
theorem arcs_succ {S : SysD} {k j m : Nat} {L : LA} {x : Int × RawT × Value × Value × Value} (h : L.map cutA = (arcsR S k).take j) (hj : j < (depD S k).length) (hm : m = (depD S k)[j]) (hx : cutA x = ((m : Int), rawT (trD S m))) : (L ++ [x]).map cutA = (arcsR S k).take (j + 1) := by
 have hj2 : j < (arcsR S k).length := by simp [arcsR, hj]
 rw [List.map_append, h, List.take_succ_eq_append_getElem hj2]
 simp [hx, arcsR, hm]
theorem arcs_all {S : SysD} {k : Nat} {L : LA} {v : Value} {LI : List (LA × Value)} (h : ∀ i (h : i < LI.length), LI[i].1.map cutA = arcsR S i) (hk : LI.length = k) (hL : L.map cutA = arcsR S k) : ∀ i (h : i < (LI ++ [(L, v)]).length), (LI ++ [(L, v)])[i].1.map cutA = arcsR S i := by
 intro i hi
 rw [List.length_append, List.length_singleton] at hi
 rcases Nat.lt_or_ge i LI.length with hlt | hge
 ·rw [List.getElem_append_left hlt]; exact h i hlt
 ·have e : i = LI.length := by omega
  subst e
  rw [List.getElem_append_right (Nat.le_refl _)]
  simp [hk, hL]
def WebPost (S : SysD) (W : World) (e : Ending) (w' : World) : Prop :=
 ∃ (a1 a2 : Option Addr) (c1 c2 : Nat), e = .returned (.tuple #[.agg #[.int .i64 (S.w : Int), .slice a1 S.deps.length c1, .slice a2 S.deps.length c2], .int .i64 0]) ∧ Hid (WebAt No w' (.slice a1 S.deps.length c1) (.slice a2 S.deps.length c2) S) ∧ Ext No W w'
end Go.Proofs.Ytkdjdhflhlbelaa

/- I16 -/
namespace Go.Proofs.Ytkdjdhflhlbelaa
open Go Go.RowKit
def HP (P : Nat → Prop) (vB vC : Value) : Nat → Prop := fun b => P b ∨ vB.ownBlock = some b ∨ vC.ownBlock = some b
theorem HP_swap {P : Nat → Prop} {vB vC : Value} {i : Nat} (e : HP P vB vC i) : HP P vC vB i := by
 rcases e with e | e | e
 ·exact .inl e
 ·exact .inr (.inr e)
 ·exact .inr (.inl e)
structure Tw3 {β γ : Type} (K1 : EK β) (K2 : EK γ) (wr : World) (P : Nat → Prop) (B : Nat) (vB vC : Value) (LB : List β) (LC : List γ) : Prop where
 b : LOwn K1 (HP P vB vC) wr B vB LB
 c : LOwn K2 (HP P vB vC) wr B vC LC
 bc : ∀ k, vB.ownBlock = some k → vC.ownBlock ≠ some k
section
variable {β γ : Type} {K1 : EK β} {K2 : EK γ} {wr w' : World} {P : Nat → Prop} {B : Nat} {vB vC v' : Value} {LB : List β} {LC : List γ} {p : β} {q : γ}
theorem Tw3.step {M : Nat → Prop} (h : Tw3 K1 K2 wr P B vB vC LB LC) (hx : Ext M wr w') (hM : ∀ i, i < wr.heap.size → M i → P i ∧ i < B) : Tw3 K1 K2 w' P B vB vC LB LC :=
 ⟨h.b.ext2 hx (fun i hi e => by have h1 := h.b.lt i hi; have := (hM i h1.2 e).2; omega) (fun i hi e => .inl (hM i hi e).1), h.c.ext2 hx (fun i hi e => by have h1 := h.c.lt i hi; have := (hM i h1.2 e).2; omega) (fun i hi e => .inl (hM i hi e).1), h.bc⟩
theorem Tw3.hM (h : Tw3 K1 K2 wr P B vB vC LB LC) (hX : ∀ b, P b → b < wr.heap.size) : ∀ b, HP P vB vC b → b < wr.heap.size := fun b hb => by
 rcases hb with hb | hb | hb
 ·exact hX b hb
 ·exact (h.b.lt b hb).2
 ·exact (h.c.lt b hb).2
theorem Tw3.appB (h : Tw3 K1 K2 wr P B vB vC LB LC) (hp : K1.ok (HP P vB vC) wr p) (hown : w'.ownsRow B K1.T K1.s v' (LB.length + 1) (LB.flatMap K1.cells ++ K1.cells p)) (hg : wr.grownBy w' vB.ownBlock) (hv : v'.ownBlock = vB.ownBlock ∨ v'.ownBlock = some wr.heap.size) : Tw3 K1 K2 w' P B v' vC (LB ++ [p]) LC := by
 have hE : Ext (fun k => vB.ownBlock = some k) wr w' := (Ext.refl _ wr).grown hg (fun k hk _ => hk)
 have hmA : ∀ i, i < wr.heap.size → HP P v' vC i → HP P vB vC i := fun i hi e => by
  rcases e with e | e | e
  ·exact .inl e
  ·rcases hv with hv | hv
   ·rw [hv] at e; exact .inr (.inl e)
   ·rw [hv] at e; simp only [Option.some.injEq] at e; omega
  ·exact .inr (.inr e)
 have h2 : LOwn K1 (HP P vB vC) w' B v' (LB ++ [p]) := h.b.app (E := fun k => vB.ownBlock = some k) (K1.mono hp (fun i _ e => by
  rcases e with e | e
  ·exact e
  ·exact .inr (.inl e))) hown hE (fun _ e => e) (hv.imp id (fun hv k hk => by rw [hv] at hk; simp only [Option.some.injEq] at hk; omega))
 have h3 : LOwn K1 (HP P v' vC) w' B v' (LB ++ [p]) := ⟨h2.own, fun q hq => K1.mono (h2.ok q hq) (fun i _ e => by
  rcases e with (e | e | e) | e
  ·exact .inl (.inl e)
  ·exact .inr e
  ·exact .inl (.inr (.inr e))
  ·exact .inr e)⟩
 have h4 : LOwn K2 (fun b => HP P v' vC b ∨ vB.ownBlock = some b) wr B vC LC := h.c.mono (fun i hi e => by
  rcases e with e | e
  ·exact hmA i hi e
  ·exact .inr (.inl e))
 refine ⟨h3, (h4.ext2 hE (fun i hi e => h.bc i e hi) (fun i _ e => .inr e)).mono (fun i _ e => .inl e), fun k hk e => ?_⟩
 rcases hv with hv | hv
 ·rw [hv] at hk; exact h.bc k hk e
 ·rw [hv] at hk; simp only [Option.some.injEq] at hk; have := (h.c.lt k e).2; omega
theorem Tw3.swap (h : Tw3 K1 K2 wr P B vB vC LB LC) : Tw3 K2 K1 wr P B vC vB LC LB :=
 ⟨h.c.mono (fun i _ e => by rcases e with e | e | e; exact .inl e; exact .inr (.inr e); exact .inr (.inl e)), h.b.mono (fun i _ e => by rcases e with e | e | e; exact .inl e; exact .inr (.inr e); exact .inr (.inl e)), fun k hk e => h.bc k e hk⟩
theorem Tw3.appC (h : Tw3 K1 K2 wr P B vB vC LB LC) (hp : K2.ok (HP P vB vC) wr q) (hown : w'.ownsRow B K2.T K2.s v' (LC.length + 1) (LC.flatMap K2.cells ++ K2.cells q)) (hg : wr.grownBy w' vC.ownBlock) (hv : v'.ownBlock = vC.ownBlock ∨ v'.ownBlock = some wr.heap.size) : Tw3 K1 K2 w' P B vB v' LB (LC ++ [q]) :=
 (h.swap.appB (K2.mono hp (fun _ _ e => HP_swap e)) hown hg hv).swap
end
def PW (W : World) (O : Nat) : Nat → Prop := fun b => b = W.heap.size + 1 ∨ b = O
structure WrM (W wr : World) (O : Nat) (S : SysD) (vd vt vb vB vI : Value) (cO : Array Value) (LB : LS) (LI : List (LA × Value)) : Prop where
 ext : Ext No W wr
 boxS : wr.heap[W.heap.size]? = some (.cells #[.int .i64 (S.w : Int), vd, vt, vb] 29 (0, 0))
 boxR : wr.heap[W.heap.size + 1]? = some (.cells #[.int .i64 0, .slice none 0 0, .slice none 0 0] 56 (0, 0))
 boxO : wr.heap[O]? = some (.cells cO 56 (0, 0))
 two : Tw3 kS kL wr (PW W O) (W.heap.size + 2) vB vI LB LI
 nO : ∀ k, (vB.ownBlock = some k ∨ vI.ownBlock = some k) → k ≠ O
 low : W.heap.size + 1 < O
section
variable {W wr w' : World} {O : Nat} {S : SysD} {vd vt vb vB vI v' : Value} {cO : Array Value} {LB : LS} {LI : List (LA × Value)} {q : LA × Value}
theorem WrM.hP (h : WrM W wr O S vd vt vb vB vI cO LB LI) : ∀ b, PW W O b → b < wr.heap.size := fun b e => by
 rcases e with e | e
 ·rw [e]; exact lt_of_block h.boxR
 ·rw [e]; exact lt_of_block h.boxO
theorem WrM.hot (h : WrM W wr O S vd vt vb vB vI cO LB LI) : ∀ b, HP (PW W O) vB vI b → b < wr.heap.size := h.two.hM h.hP
theorem WrM.stepNo (h : WrM W wr O S vd vt vb vB vI cO LB LI) (hx : Ext No wr w') : WrM W w' O S vd vt vb vB vI cO LB LI :=
 ⟨h.ext.transNo hx, hx.blk h.boxS no_no, hx.blk h.boxR no_no, hx.blk h.boxO no_no, h.two.step hx (fun i _ e => e.elim), h.nO, h.low⟩
theorem WrM.putO (h : WrM W wr O S vd vt vb vB vI cO LB LI) (j : Nat) (u : Value) : WrM W (wr.setCell ⟨O, j, none⟩ u) O S vd vt vb vB vI (cO.setIfInBounds j u) LB LI := by
 have hx : Ext (At O) wr (wr.setCell ⟨O, j, none⟩ u) := (Ext.refl (At O) _).setAt _ _
 have h1 := h.low
 have h2 : LOwn kS (HP (PW W O) vB vI) (wr.setCell ⟨O, j, none⟩ u) (W.heap.size + 2) vB LB := h.two.b.ext2 hx (fun i hi e => by unfold At at e; exact h.nO i (.inl hi) e) (fun i _ e => .inl (.inr e))
 have h3 : LOwn kL (HP (PW W O) vB vI) (wr.setCell ⟨O, j, none⟩ u) (W.heap.size + 2) vI LI := h.two.c.ext2 hx (fun i hi e => by unfold At at e; exact h.nO i (.inr hi) e) (fun i _ e => .inl (.inr e))
 exact ⟨h.ext.trans2 hx (fun i hi e => by unfold At at e; omega), hx.blk h.boxS (by unfold At; omega), hx.blk h.boxR (by unfold At; omega), set_same h.boxO, ⟨h2, h3, h.two.bc⟩, h.nO, h1⟩
theorem WrM.appI (h : WrM W wr O S vd vt vb vB vI cO LB LI) (hp : kL.ok (HP (PW W O) vB vI) wr q) (hown : w'.ownsRow (W.heap.size + 2) kL.T kL.s v' (LI.length + 1) (LI.flatMap kL.cells ++ kL.cells q)) (hg : wr.grownBy w' vI.ownBlock) (hv : v'.ownBlock = vI.ownBlock ∨ v'.ownBlock = some wr.heap.size) :
  WrM W w' O S vd vt vb vB v' cO LB (LI ++ [q]) := by
 have hx : Ext (fun k => vI.ownBlock = some k) wr w' := (Ext.refl _ wr).grown hg (fun k hk _ => hk)
 have hlo : ∀ i, vI.ownBlock = some i → W.heap.size + 2 ≤ i := fun i hi => (h.two.c.lt i hi).1
 have h1 := h.low
 have h2 := lt_of_block h.boxO
 refine ⟨h.ext.trans2 hx (fun i hi e => by have := hlo i e; omega), hx.blk h.boxS (fun e => by have := hlo _ e; omega), hx.blk h.boxR (fun e => by have := hlo _ e; omega), hx.blk h.boxO (fun e => h.nO _ (.inr e) rfl), h.two.appC hp hown hg hv, fun k hk => ?_, h1⟩
 rcases hk with hk | hk
 ·exact h.nO k (.inl hk)
 ·rcases hv with hv | hv
  ·rw [hv] at hk; exact h.nO k (.inr hk)
  ·rw [hv] at hk; simp only [Option.some.injEq] at hk; omega
theorem WrM.web (h : WrM W wr O S vd vt vb vB vI cO LB LI) (hx : Ext (At (W.heap.size + 1)) wr w') (hok : SysOk S) (hB : LB.map Prod.fst = S.bnd.map (setN S.w)) (hL : LI.length = S.deps.length) (hI : ∀ i (h : i < LI.length), LI[i].1.map cutA = arcsR S i) : WebAt No w' vB vI S := by
 have h2 := h.two.step hx (fun i _ e => by unfold At at e; exact ⟨.inl e, by omega⟩)
 exact ⟨hok, (h2.b.list (M := No) (fun _ _ x => x) (fun _ x => x.elim)).setsV hB hok.w hok.bnd, LI, h2.c.list (fun _ _ x => x) (fun _ x => x.elim), hL, hI⟩
end
end Go.Proofs.Ytkdjdhflhlbelaa

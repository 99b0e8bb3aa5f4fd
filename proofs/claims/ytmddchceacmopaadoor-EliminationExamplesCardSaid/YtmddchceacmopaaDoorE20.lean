
import Derived.Test.YtmddchceacmopaaDoorE19
set_option linter.unusedVariables false
set_option linter.unusedSimpArgs false
namespace Go.Proofs.YtmddchceacmopaaDoor
open Go Go.RowKit
section
variable {w w' w1 w2 : World} {base lim lim' : Nat} {vb vi v' : Value} {LB : LS} {RL : RLs}
theorem MWx.putRow2 {g c t N : Nat} {L' : LA} {q : LA × Value} (hN : N = RL.length) (h : MWx w base lim vb (.slice (some ⟨g, 0, none⟩) N c) LB RL) (ht : t < RL.length) (hq : RL[t] = q)
  (hx : Ext (fun k => q.2.ownBlock = some k) w w') (hown : w'.ownsRow base 33 6 v' L'.length (L'.flatMap kA.cells)) (hok : ∀ p ∈ L', kA.ok (HotW vb (.slice (some ⟨g, 0, none⟩) N c) (RL.set t (L', v')) w'.heap.size base) w' p)
  (hv : v'.ownBlock = q.2.ownBlock ∨ ∀ k, v'.ownBlock = some k → w.heap.size ≤ k) :
  MWx (w'.setCell ⟨g, t, none⟩ v') base w'.heap.size vb (.slice (some ⟨g, 0, none⟩) N c) LB (RL.set t (L', v')) := by
 subst hN
 have hmem := List.getElem_mem ht
 rw [hq] at hmem
 have hlh := h.lh
 have hsz := hx.size
 have hE : Ext (At g) w' (w'.setCell ⟨g, t, none⟩ v') := (Ext.refl (At g) w').setAt _ _
 have hsz2 := hE.size
 have hseq : (w'.setCell ⟨g, t, none⟩ v').heap.size = w'.heap.size := by simp
 have hvk : ∀ k, v'.ownBlock = some k → q.2.ownBlock = some k ∨ w.heap.size ≤ k := fun k hk => by
  rcases hv with e | e
  ·exact .inl (by rw [← e]; exact hk)
  exact .inr (e k hk)
 have hnew : ∀ p ∈ RL.set t (L', v'), p = (L', v') ∨ ∃ (j : Nat) (hj : j < RL.length), j ≠ t ∧ p = RL[j] := fun p hp => by
  obtain ⟨j, hj, rfl⟩ := List.getElem_of_mem hp
  have hj2 : j < RL.length := by simpa using hj
  by_cases e : t = j
  ·subst e; exact .inl (by rw [List.getElem_set_self])
  exact .inr ⟨j, hj2, fun e2 => e e2.symm, by rw [List.getElem_set_ne e]⟩
 have hsub : ∀ i, HotW vb (.slice (some ⟨g, 0, none⟩) RL.length c) (RL.set t (L', v')) w'.heap.size base i → HotW vb (.slice (some ⟨g, 0, none⟩) RL.length c) RL lim base i := fun i e => by
  rcases e with e | e | e | ⟨p, hp, e⟩ | e
  ·exact .inl e
  ·exact .inr (.inl e)
  ·exact .inr (.inr (.inl e))
  ·rcases hnew p hp with rfl | ⟨j, hj, _, rfl⟩
   ·rcases hvk i e with e | e
    ·exact .inr (.inr (.inr (.inl ⟨q, hmem, e⟩)))
    exact .inr (.inr (.inr (.inr (by omega))))
   exact .inr (.inr (.inr (.inl ⟨_, List.getElem_mem hj, e⟩)))
  exact .inr (.inr (.inr (.inr (by omega))))
 have hgI : Value.ownBlock (.slice (some ⟨g, 0, none⟩) RL.length c) = some g := rfl
 have hqg : q.2.ownBlock ≠ some g := fun e => (h.br q hmem g e).2 rfl
 have hvg : v'.ownBlock ≠ some g := fun e => by
  rcases hvk g e with e | e
  ·exact hqg e
  have := h.li g rfl; omega
 have hhotq : ∀ i, q.2.ownBlock = some i → HotW vb (.slice (some ⟨g, 0, none⟩) RL.length c) RL lim base i := fun i e => .inr (.inr (.inr (.inl ⟨q, hmem, e⟩)))
 have hhotg : ∀ i, At g i → HotW vb (.slice (some ⟨g, 0, none⟩) RL.length c) RL lim base i := fun i e => .inr (.inr (.inl (by rw [show i = g from e]; rfl)))
 refine ⟨Nat.le_trans h.bl (by omega), by omega, ?_, ?_, fun p hp => ?_, h.bi, fun p hp k hk => ?_, fun i j hi hj hij k hk => ?_, fun k hk => by have := h.lb k hk; omega, fun k hk => by have := h.li k hk; omega, fun p hp k hk => ?_⟩
 ·exact ((h.b.ext2 hx (fun i hi e => (h.br q hmem i e).1 hi) (fun i _ e => hhotq i e)).ext2 hE (fun i hi e => h.bi i hi (by rw [show i = g from e]; rfl)) (fun i _ e => hhotg i e)).mono (fun i _ e => hsub i e)
 ·have h1 := row_keep2 h.i hx (fun k hk e => hqg (by rw [← show g = k from by simpa [Value.ownBlock] using hk] at e; exact e))
  have h2 := (World.ownsRow.stored (w := w') h1 t v').1
  rw [List.length_set, List.map_set]
  exact h2
 ·rcases hnew p hp with rfl | ⟨j, hj, hne, rfl⟩
  ·refine ⟨row_keep2 hown hE (fun k hk e => hvg (by rw [← show k = g from e]; exact hk)), fun r hr => ?_⟩
   refine kA.mono (kA.ext (hok r hr) hE (fun i _ e => .inr (.inr (.inl (by rw [show i = g from e]; rfl))))) (fun i _ e => ?_)
   rcases e with e | e
   ·exact e
   exact .inr (.inr (.inr (.inl ⟨_, hp, e⟩)))
  have hm := List.getElem_mem hj
  exact (((h.r _ hm).ext2 hx (fun i hi e => h.dis j t hj ht hne i hi (by rw [hq]; exact e)) (fun i _ e => hhotq i e)).ext2 hE (fun i hi e => (h.br _ hm i hi).2 (by rw [show i = g from e]; rfl)) (fun i _ e => hhotg i e)).mono (fun i _ e => hsub i e)
 ·rcases hnew p hp with rfl | ⟨j, hj, hne, rfl⟩
  ·rcases hvk k hk with e | e
   ·exact h.br q hmem k e
   exact ⟨fun e2 => by have := h.lb k e2; omega, fun e2 => by have := h.li k e2; omega⟩
  exact h.br _ (List.getElem_mem hj) k hk
 ·have hi2 : i < RL.length := by simpa using hi
  have hj2 : j < RL.length := by simpa using hj
  have hoth : ∀ n (hn : n < RL.length), n ≠ t → RL[n].2.ownBlock = some k → v'.ownBlock ≠ some k := fun n hn hnt h1 h2 => by
   rcases hvk k h2 with e | e
   ·exact h.dis n t hn ht hnt k h1 (by rw [hq]; exact e)
   have := h.lr _ (List.getElem_mem hn) k h1; omega
  rw [List.getElem_set] at hk ⊢
  by_cases e1 : t = i
  ·rw [if_pos e1] at hk
   rw [if_neg (by omega)]
   exact fun e => hoth j hj2 (by omega) e hk
  rw [if_neg e1] at hk
  by_cases e2 : t = j
  ·rw [if_pos e2]; exact fun e => hoth i hi2 (fun e3 => e1 e3.symm) hk e
  rw [if_neg e2]; exact h.dis i j hi2 hj2 hij k hk
 rcases hnew p hp with rfl | ⟨j, hj, hne, rfl⟩
 ·have := (World.ownsRow.lt hown k hk).2; omega
 have := h.lr _ (List.getElem_mem hj) k hk; omega
end
def OwnB13 (vb vi : Value) (RL : RLs) : Nat → Prop := fun k => vb.ownBlock = some k ∨ vi.ownBlock = some k ∨ ∃ p ∈ RL, p.2.ownBlock = some k
theorem MWx.own {w : World} {base lim : Nat} {vb vi : Value} {LB : LS} {RL : RLs} (h : MWx w base lim vb vi LB RL) {k : Nat} (hk : OwnB13 vb vi RL k) : base ≤ k ∧ k < lim := h.hot hk
structure RsM (W wr : World) (Bs : List (Nat × Array Value × TypeId)) (base lim : Nat) (vb vi : Value) (RL0 : RLs) (LB : LS) (RL : RLs) : Prop where
 ext : Ext (OwnB13 vb vi RL0) W wr
 x : MWx wr base lim vb vi LB RL
 bx : ∀ b ∈ Bs, wr.heap[b.1]? = some (.cells b.2.1 b.2.2 (0, 0)) ∧ ¬ OwnB13 vb vi RL b.1
 own : ∀ k, OwnB13 vb vi RL k → OwnB13 vb vi RL0 k ∨ W.heap.size ≤ k
 tab : TabW wr
 low : 0 < base
section
variable {W wr w' : World} {Bs : List (Nat × Array Value × TypeId)} {base lim lim' : Nat} {vb vi v' : Value} {RL0 RL : RLs} {LB : LS}
theorem RsM.start {w : World} (h : MWx w base lim vb vi LB RL0) (hT : TabW w) (hl : 0 < base) : RsM w w [] base lim vb vi RL0 LB RL0 :=
 ⟨Ext.refl _ _, h, fun b hb => (List.not_mem_nil hb).elim, fun k hk => .inl hk, hT, hl⟩
theorem RsM.stepNo (h : RsM W wr Bs base lim vb vi RL0 LB RL) (hx : Ext No wr w') : RsM W w' Bs base lim vb vi RL0 LB RL :=
 ⟨h.ext.transNo hx, h.x.stepNo hx, fun b hb => ⟨hx.blk (h.bx b hb).1 no_no, (h.bx b hb).2⟩, h.own, h.tab.ext hx, h.low⟩
theorem RsM.lift (h : RsM W wr Bs base lim vb vi RL0 LB RL) (h1 : lim ≤ lim') (h2 : lim' ≤ wr.heap.size) : RsM W wr Bs base lim' vb vi RL0 LB RL := ⟨h.ext, h.x.lift h1 h2, h.bx, h.own, h.tab, h.low⟩
theorem RsM.top (h : RsM W wr Bs base lim vb vi RL0 LB RL) : RsM W wr Bs base wr.heap.size vb vi RL0 LB RL := h.lift h.x.lh (Nat.le_refl _)
theorem RsM.addBox (h : RsM W wr Bs base lim vb vi RL0 LB RL) {d : Nat} {cs : Array Value} {T : TypeId} (hb : wr.heap[d]? = some (.cells cs T (0, 0))) (hd : lim ≤ d) : RsM W wr ((d, cs, T) :: Bs) base lim vb vi RL0 LB RL :=
 ⟨h.ext, h.x, fun b hb2 => by
  rcases List.mem_cons.1 hb2 with rfl | hb2
  ·exact ⟨hb, fun e => by have := (h.x.own e).2; simp only at this; omega⟩
  exact h.bx b hb2, h.own, h.tab, h.low⟩
theorem RsM.cut {Bs' : List (Nat × Array Value × TypeId)} (h : RsM W wr Bs base lim vb vi RL0 LB RL) (hs : ∀ b ∈ Bs', b ∈ Bs) : RsM W wr Bs' base lim vb vi RL0 LB RL := ⟨h.ext, h.x, fun b hb => h.bx b (hs b hb), h.own, h.tab, h.low⟩
theorem RsM.change {M : Nat → Prop} {LB' : LS} {RL' : RLs} (h : RsM W wr Bs base lim vb vi RL0 LB RL) (hx : Ext M wr w') (hM : ∀ k, k < wr.heap.size → M k → OwnB13 vb vi RL k) (hx2 : MWx w' base lim' vb vi LB' RL') (ho : ∀ k, OwnB13 vb vi RL' k → OwnB13 vb vi RL k ∨ wr.heap.size ≤ k) : RsM W w' Bs base lim' vb vi RL0 LB' RL' := by
 have hsz := h.ext.size
 refine ⟨h.ext.trans2 hx (fun i hi e => ?_), hx2, fun b hb => ?_, fun k hk => ?_, h.tab.extM (M := fun k => M k ∧ k < wr.heap.size) ?_ (fun e => ?_), h.low⟩
 ·rcases h.own i (hM i (by omega) e) with e2 | e2
  ·exact e2
  omega
 ·have hl := lt_of_block (h.bx b hb).1
  refine ⟨hx.blk (h.bx b hb).1 (fun e => (h.bx b hb).2 (hM _ hl e)), fun e => ?_⟩
  rcases ho _ e with e2 | e2
  ·exact (h.bx b hb).2 e2
  omega
 ·rcases ho k hk with e | e
  ·exact h.own k e
  exact .inr (by omega)
 ·exact hx.mono (fun i hi e => ⟨e, hi⟩)
 have h1 := (h.x.own (hM _ e.2 e.1)).1
 have := h.low
 omega
theorem RsM.putB {g c t N : Nat} {p : RawSet × Value} (hN : N = LB.length) (h : RsM W wr Bs base lim (.slice (some ⟨g, 0, none⟩) N c) vi RL0 LB RL) (ht : t < LB.length) (hp : WordsAt (HotW (.slice (some ⟨g, 0, none⟩) N c) vi RL lim base) wr p.2 p.1.words) :
  RsM W ((wr.setCell ⟨g, t * 2, none⟩ (.int .i64 p.1.width)).setCell ⟨g, t * 2 + 1, none⟩ p.2) Bs base lim (.slice (some ⟨g, 0, none⟩) N c) vi RL0 (LB.set t p) RL :=
 h.change (((Ext.refl (At g) wr).setAt _ _).setAt _ _) (fun k _ e => .inl (by rw [show k = g from e]; rfl)) (h.x.putB hN ht hp) (fun k hk => .inl hk)
theorem RsM.putArc {g c t k : Nat} {gI cI NI : Nat} {L : LA} {p : Int × RawT × Value × Value × Value} (h : RsM W wr Bs base lim vb (.slice (some ⟨gI, 0, none⟩) NI cI) RL0 LB RL) (hNI : NI = RL.length) (ht : t < RL.length) (hqt : RL[t] = (L, .slice (some ⟨g, 0, none⟩) L.length c)) (hk : k < L.length) (hp : p.1 = L[k].1)
  (hok : kA.ok (HotW vb (.slice (some ⟨gI, 0, none⟩) NI cI) RL lim base) wr p) :
  RsM W (((((wr.setCell ⟨g, k * 6 + 1, none⟩ (.int .i64 p.2.1.gen.width)).setCell ⟨g, k * 6 + 2, none⟩ p.2.2.1).setCell ⟨g, k * 6 + 3, none⟩ (.int .i64 p.2.1.kill.width)).setCell ⟨g, k * 6 + 4, none⟩ p.2.2.2.1).setCell ⟨g, k * 6 + 5, none⟩ p.2.2.2.2) Bs base lim vb (.slice (some ⟨gI, 0, none⟩) NI cI) RL0 LB (RL.set t (L.set k p, .slice (some ⟨g, 0, none⟩) L.length c)) := by
 have hmem := List.getElem_mem ht
 rw [hqt] at hmem
 refine h.change ((((((Ext.refl (At g) wr).setAt _ _).setAt _ _).setAt _ _).setAt _ _).setAt _ _) (fun i _ e => .inr (.inr ⟨_, hmem, by rw [show i = g from e]; rfl⟩)) (h.x.putArc hNI ht hqt hk hp hok) (fun i hi => .inl ?_)
 rcases hi with e | e | ⟨q, hq, e⟩
 ·exact .inl e
 ·exact .inr (.inl e)
 rcases List.mem_or_eq_of_mem_set hq with hq | rfl
 ·exact .inr (.inr ⟨q, hq, e⟩)
 exact .inr (.inr ⟨_, hmem, e⟩)
theorem RsM.putRow {g c t N : Nat} {L' : LA} {q : LA × Value} (hN : N = RL.length) (h : RsM W wr Bs base lim vb (.slice (some ⟨g, 0, none⟩) N c) RL0 LB RL) (ht : t < RL.length) (hq : RL[t] = q)
  (hx : Ext (fun k => q.2.ownBlock = some k) wr w') (hown : w'.ownsRow base 33 6 v' L'.length (L'.flatMap kA.cells)) (hok : ∀ p ∈ L', kA.ok (HotW vb (.slice (some ⟨g, 0, none⟩) N c) (RL.set t (L', v')) w'.heap.size base) w' p)
  (hv : v'.ownBlock = q.2.ownBlock ∨ ∀ k, v'.ownBlock = some k → wr.heap.size ≤ k) :
  RsM W (w'.setCell ⟨g, t, none⟩ v') Bs base w'.heap.size vb (.slice (some ⟨g, 0, none⟩) N c) RL0 LB (RL.set t (L', v')) := by
 have hmem := List.getElem_mem ht
 rw [hq] at hmem
 refine h.change (M := fun k => q.2.ownBlock = some k ∨ k = g) ((hx.mono (fun i _ e => .inl e)).trans (((Ext.refl (At g) w').setAt t v').mono (fun i _ e => .inr e))) (fun i _ e => ?_) (h.x.putRow2 hN ht hq hx hown hok hv) (fun i hi => ?_)
 ·rcases e with e | rfl
  ·exact .inr (.inr ⟨q, hmem, e⟩)
  exact .inr (.inl rfl)
 rcases hi with e | e | ⟨p, hp, e⟩
 ·exact .inl (.inl e)
 ·exact .inl (.inr (.inl e))
 rcases List.mem_or_eq_of_mem_set hp with hp | rfl
 ·exact .inl (.inr (.inr ⟨p, hp, e⟩))
 rcases hv with hv | hv
 ·exact .inl (.inr (.inr ⟨q, hmem, by rw [← hv]; exact e⟩))
 exact .inr (hv i e)
end

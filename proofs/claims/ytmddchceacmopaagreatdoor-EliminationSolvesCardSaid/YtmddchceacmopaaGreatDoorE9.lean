
import Derived.Test.YtmddchceacmopaaGreatDoorF8
import Derived.Test.YtmddchceacmopaaGreatDoorE4
import Derived.Test.YtmddchceacmopaaGreatDoorE3
set_option linter.unusedVariables false
set_option linter.unusedSimpArgs false
namespace Go.Proofs.YtmddchceacmopaaGreatDoor
open Go Go.RowKit
theorem flat_set_get {β : Type} (K : EK β) (p : β) : ∀ (L : List β) (i n : Nat), i < L.length → ((L.set i p).flatMap K.cells)[n]? = if i * K.s ≤ n ∧ n < i * K.s + K.s then (K.cells p)[n - i * K.s]? else (L.flatMap K.cells)[n]?
 | [], _, _, h => absurd h (Nat.not_lt_zero _)
 | q :: L, 0, n, _ => by
  rw [List.set_cons_zero, List.flatMap_cons, List.flatMap_cons, List.getElem?_append, List.getElem?_append, K.len, K.len]
  by_cases h : n < K.s
  ·rw [if_pos h, if_pos ⟨by omega, by omega⟩]; simp
  rw [if_neg h, if_neg (by omega), if_neg h]
 | q :: L, i + 1, n, h => by
  have ih := flat_set_get K p L i (n - K.s) (by simpa using h)
  rw [List.set_cons_succ, List.flatMap_cons, List.flatMap_cons, List.getElem?_append, List.getElem?_append, K.len]
  have e : (i + 1) * K.s = i * K.s + K.s := Nat.succ_mul _ _
  by_cases h2 : n < K.s
  ·rw [if_pos h2, if_pos h2, if_neg (by omega)]
  rw [if_neg h2, if_neg h2, ih]
  by_cases h3 : i * K.s ≤ n - K.s ∧ n - K.s < i * K.s + K.s
  ·rw [if_pos h3, if_pos (by omega), e, show n - K.s - i * K.s = n - (i * K.s + K.s) by omega]
  rw [if_neg h3, if_neg (by omega)]
def setAll (xs : List Value) (o : Nat) : List Value → List Value
 | [] => xs
 | u :: us => setAll (xs.set o u) (o + 1) us
theorem setAll_get : ∀ (us xs : List Value) (o n : Nat), o + us.length ≤ xs.length → (setAll xs o us)[n]? = if o ≤ n ∧ n < o + us.length then us[n - o]? else xs[n]?
 | [], xs, o, n, _ => by rw [setAll, if_neg (by simp)]
 | u :: us, xs, o, n, h => by
  simp only [List.length_cons] at h ⊢
  rw [setAll, setAll_get us (xs.set o u) (o + 1) n (by rw [List.length_set]; omega)]
  by_cases h1 : o + 1 ≤ n ∧ n < o + 1 + us.length
  ·rw [if_pos h1, if_pos (by omega), show n - o = (n - (o + 1)) + 1 by omega, List.getElem?_cons_succ]
  rw [if_neg h1]
  by_cases h2 : n = o
  ·subst h2
   rw [if_pos (by omega), List.getElem?_set_self (by omega)]; simp
  rw [if_neg (by omega), List.getElem?_set_ne (by omega)]
theorem flat_len2 {β : Type} (K : EK β) : ∀ L : List β, (L.flatMap K.cells).length = L.length * K.s
 | [] => by simp
 | q :: L => by rw [List.flatMap_cons, List.length_append, K.len, flat_len2 K L, List.length_cons, Nat.succ_mul]; omega
theorem mul_in {i n s : Nat} (hi : i < n) : i * s + s ≤ n * s := by
 have := Nat.mul_le_mul_right s (Nat.succ_le_of_lt hi)
 rwa [Nat.succ_mul] at this
theorem flat_setAll {β : Type} (K : EK β) (L : List β) (i : Nat) (p : β) (hi : i < L.length) : setAll (L.flatMap K.cells) (i * K.s) (K.cells p) = (L.set i p).flatMap K.cells := by
 refine List.ext_getElem? (fun n => ?_)
 rw [flat_set_get K p L i n hi, setAll_get _ _ _ _ (by rw [K.len, flat_len2]; exact mul_in hi), K.len]
def storeAll (w : World) (g o : Nat) : List Value → World
 | [] => w
 | u :: us => storeAll (w.setCell ⟨g, o, none⟩ u) g (o + 1) us
theorem storeAll_ext : ∀ (us : List Value) (w : World) (g o : Nat), Ext (At g) w (storeAll w g o us)
 | [], w, g, o => Ext.refl _ _
 | u :: us, w, g, o => ((Ext.refl (At g) w).setAt o u).trans (storeAll_ext us _ g (o + 1))
theorem storeAll_own {e : TypeId} {size n base g cap : Nat} : ∀ (us xs : List Value) (w : World) (o : Nat), w.ownsRow base e size (.slice (some ⟨g, 0, none⟩) n cap) n xs → (storeAll w g o us).ownsRow base e size (.slice (some ⟨g, 0, none⟩) n cap) n (setAll xs o us)
 | [], _, _, _, h => h
 | u :: us, xs, w, o, h => storeAll_own us _ _ (o + 1) (World.ownsRow.stored (w := w) h o u).1
section
variable {β : Type} {K : EK β} {A : Nat → Prop} {w : World} {base g cap : Nat} {v : Value} {L : List β}
theorem LOwn.shape (h : LOwn K A w base v L) (hn : L.length ≠ 0) : ∃ g cap, v = .slice (some ⟨g, 0, none⟩) L.length cap ∧ base ≤ g ∧ g < w.heap.size := by
 obtain ⟨h1, h2⟩ := h.own
 rcases h2 with ⟨_, h3⟩ | ⟨g, cap, cur, rfl, hb, hg, _⟩
 ·exact absurd h3 hn
 exact ⟨g, cap, rfl, hb, lt_of_block hg⟩
theorem LOwn.cellAt (h : LOwn K A w base (.slice (some ⟨g, 0, none⟩) L.length cap) L) {i j : Nat} (hi : i < L.length) (hj : j < K.s) {u : Value} (hu : (K.cells L[i])[j]? = some u) : w.cell? ⟨g, i * K.s + j, none⟩ = some u := by
 have := mul_in (s := K.s) hi
 rw [World.ownsRow.cellAt h.own _ (by omega), flat_get2 K L i j hi hj]; exact hu
theorem LOwn.putAll (h : LOwn K A w base (.slice (some ⟨g, 0, none⟩) L.length cap) L) {i : Nat} (hi : i < L.length) {p : β} (hp : K.ok (fun b => A b ∨ b = g) w p) : LOwn K A (storeAll w g (i * K.s) (K.cells p)) base (.slice (some ⟨g, 0, none⟩) L.length cap) (L.set i p) := by
 refine ⟨?_, fun q hq => ?_⟩
 ·rw [List.length_set, ← flat_setAll K L i p hi]
  exact storeAll_own _ _ _ _ h.own
 have hq2 : K.ok (fun b => A b ∨ b = g) w q := by
  rcases List.mem_or_eq_of_mem_set hq with hq | rfl
  ·exact K.mono (h.ok q hq) (fun i _ e => by
    rcases e with e | rfl
    ·exact .inl e
    exact .inr rfl)
  exact hp
 refine K.mono (K.ext hq2 (storeAll_ext _ w g _) (fun i _ e => .inr e)) (fun i _ e => ?_)
 rcases e with e | e
 ·exact .inl e
 simp only [Value.ownBlock, Option.some.injEq] at e; exact .inr e.symm
end
end Go.Proofs.YtmddchceacmopaaGreatDoor

namespace Go.Proofs.YtmddchceacmopaaGreatDoor
open Go Go.RowKit
abbrev RLs := List (LA × Value)
def HotW (vb vi : Value) (RL : RLs) (lim base : Nat) : Nat → Prop := fun b => b < base ∨ vb.ownBlock = some b ∨ vi.ownBlock = some b ∨ (∃ p ∈ RL, p.2.ownBlock = some b) ∨ lim ≤ b
structure MWx (w : World) (base lim : Nat) (vb vi : Value) (LB : LS) (RL : RLs) : Prop where
 bl : base ≤ lim
 lh : lim ≤ w.heap.size
 b : LOwn kS (HotW vb vi RL lim base) w base vb LB
 i : w.ownsRow base 40 1 vi RL.length (RL.map Prod.snd)
 r : ∀ p ∈ RL, LOwn kA (HotW vb vi RL lim base) w base p.2 p.1
 bi : ∀ k, vb.ownBlock = some k → vi.ownBlock ≠ some k
 br : ∀ p ∈ RL, ∀ k, p.2.ownBlock = some k → vb.ownBlock ≠ some k ∧ vi.ownBlock ≠ some k
 dis : ∀ i j (hi : i < RL.length) (hj : j < RL.length), i ≠ j → ∀ k, RL[i].2.ownBlock = some k → RL[j].2.ownBlock ≠ some k
 lb : ∀ k, vb.ownBlock = some k → k < lim
 li : ∀ k, vi.ownBlock = some k → k < lim
 lr : ∀ p ∈ RL, ∀ k, p.2.ownBlock = some k → k < lim
section
variable {w w' w1 w2 : World} {base lim lim' : Nat} {vb vi v' : Value} {LB : LS} {RL : RLs}
theorem flat_snd : ∀ RL : RLs, RL.flatMap kL.cells = RL.map Prod.snd
 | [] => rfl
 | p :: R => by rw [List.flatMap_cons, flat_snd R]; rfl
theorem MWx.stepNo (h : MWx w base lim vb vi LB RL) (hx : Ext No w w') : MWx w' base lim vb vi LB RL :=
 ⟨h.bl, Nat.le_trans h.lh hx.size, h.b.extNo hx, row_keep2 h.i hx (fun _ _ x => x), fun p hp => (h.r p hp).extNo hx, h.bi, h.br, h.dis, h.lb, h.li, h.lr⟩
theorem MWx.low (h : MWx w base lim vb vi LB RL) : (∀ k, vb.ownBlock = some k → base ≤ k) ∧ (∀ k, vi.ownBlock = some k → base ≤ k) ∧ (∀ p ∈ RL, ∀ k, p.2.ownBlock = some k → base ≤ k) :=
 ⟨fun k hk => (h.b.lt k hk).1, fun k hk => (World.ownsRow.lt h.i k hk).1, fun p hp k hk => ((h.r p hp).lt k hk).1⟩
theorem MWx.stepLow {M : Nat → Prop} (h : MWx w base lim vb vi LB RL) (hx : Ext M w w') (hM : ∀ i, i < w.heap.size → M i → i < base) : MWx w' base lim vb vi LB RL := by
 obtain ⟨g1, g2, g3⟩ := h.low
 have h1 := h.bl
 have h2 := h.lh
 exact ⟨h.bl, Nat.le_trans h.lh hx.size, h.b.ext2 hx (fun i hi e => by have := hM i (h.b.lt i hi).2 e; have := g1 i hi; omega) (fun i hi e => .inl (hM i hi e)), row_keep2 h.i hx (fun k hk e => by have := hM k (World.ownsRow.lt h.i k hk).2 e; have := g2 k hk; omega), fun p hp => (h.r p hp).ext2 hx (fun i hi e => by have := hM i ((h.r p hp).lt i hi).2 e; have := g3 p hp i hi; omega) (fun i hi e => .inl (hM i hi e)), h.bi, h.br, h.dis, h.lb, h.li, h.lr⟩
theorem MWx.lift (h : MWx w base lim vb vi LB RL) (h1 : lim ≤ lim') (h2 : lim' ≤ w.heap.size) : MWx w base lim' vb vi LB RL := by
 have hm : ∀ i, i < w.heap.size → HotW vb vi RL lim' base i → HotW vb vi RL lim base i := fun i _ e => by
  rcases e with e | e | e | e | e
  ·exact .inl e
  ·exact .inr (.inl e)
  ·exact .inr (.inr (.inl e))
  ·exact .inr (.inr (.inr (.inl e)))
  exact .inr (.inr (.inr (.inr (by omega))))
 exact ⟨Nat.le_trans h.bl h1, h2, h.b.mono hm, h.i, fun p hp => (h.r p hp).mono hm, h.bi, h.br, h.dis, fun k hk => Nat.lt_of_lt_of_le (h.lb k hk) h1, fun k hk => Nat.lt_of_lt_of_le (h.li k hk) h1, fun p hp k hk => Nat.lt_of_lt_of_le (h.lr p hp k hk) h1⟩
theorem MWx.clear (h : MWx w1 base lim vb vi LB RL) {i : Nat} (hi : i < w2.heap.size) (e : HotW vb vi RL w2.heap.size base i) : i < w1.heap.size := by
 have h1 := h.bl
 have h2 := h.lh
 rcases e with e | e | e | ⟨p, hp, e⟩ | e
 ·omega
 ·have := h.lb i e; omega
 ·have := h.li i e; omega
 ·have := h.lr p hp i e; omega
 omega
theorem MWx.hot (h : MWx w base lim vb vi LB RL) {k : Nat} (hk : vb.ownBlock = some k ∨ vi.ownBlock = some k ∨ ∃ p ∈ RL, p.2.ownBlock = some k) : base ≤ k ∧ k < lim := by
 obtain ⟨g1, g2, g3⟩ := h.low
 rcases hk with hk | hk | ⟨p, hp, hk⟩
 ·exact ⟨g1 k hk, h.lb k hk⟩
 ·exact ⟨g2 k hk, h.li k hk⟩
 exact ⟨g3 p hp k hk, h.lr p hp k hk⟩
theorem MWx.putB {g c t N : Nat} {p : RawSet × Value} (hN : N = LB.length) (h : MWx w base lim (.slice (some ⟨g, 0, none⟩) N c) vi LB RL) (ht : t < LB.length) (hp : WordsAt (HotW (.slice (some ⟨g, 0, none⟩) N c) vi RL lim base) w p.2 p.1.words) :
  MWx ((w.setCell ⟨g, t * 2, none⟩ (.int .i64 p.1.width)).setCell ⟨g, t * 2 + 1, none⟩ p.2) base lim (.slice (some ⟨g, 0, none⟩) N c) vi (LB.set t p) RL := by
 subst hN
 have hE : Ext (At g) w ((w.setCell ⟨g, t * 2, none⟩ (.int .i64 p.1.width)).setCell ⟨g, t * 2 + 1, none⟩ p.2) := ((Ext.refl (At g) w).setAt _ _).setAt _ _
 have h1 := h.b.putAll ht (p := p) (hp.mono (fun i _ e => by
  rcases e with e | e
  ·exact e
  exact .inr (.inl (by rw [e]; rfl))))
 have h2 : LOwn kS (HotW (.slice (some ⟨g, 0, none⟩) LB.length c) vi RL lim base) ((w.setCell ⟨g, t * 2, none⟩ (.int .i64 p.1.width)).setCell ⟨g, t * 2 + 1, none⟩ p.2) base (.slice (some ⟨g, 0, none⟩) LB.length c) (LB.set t p) := h1
 exact ⟨h.bl, Nat.le_trans h.lh hE.size, h2, row_keep2 h.i hE (fun k hk e => h.bi g rfl (by rw [← show k = g from e]; exact hk)), fun q hq => (h.r q hq).ext2 hE (fun i hi e => (h.br q hq i hi).1 (by rw [show i = g from e]; rfl)) (fun i _ e => .inr (.inl (by rw [show i = g from e]; rfl))), h.bi, h.br, h.dis, h.lb, h.li, h.lr⟩
theorem MWx.putRow {g c t N : Nat} {L' : LA} {q : LA × Value} (hN : N = RL.length) (h : MWx w base lim vb (.slice (some ⟨g, 0, none⟩) N c) LB RL) (ht : t < RL.length) (hq : RL[t] = q)
  (hx : Ext (fun k => q.2.ownBlock = some k) w w') (hown : w'.ownsRow base 49 6 v' L'.length (L'.flatMap kA.cells)) (hok : ∀ p ∈ L', kA.ok (HotW vb (.slice (some ⟨g, 0, none⟩) N c) RL lim base) w' p)
  (hv : v'.ownBlock = q.2.ownBlock ∨ ∀ k, v'.ownBlock = some k → w.heap.size ≤ k) :
  MWx (w'.setCell ⟨g, t, none⟩ v') base w'.heap.size vb (.slice (some ⟨g, 0, none⟩) N c) LB (RL.set t (L', v')) := by
 subst hN
 have hmem := List.getElem_mem ht
 rw [hq] at hmem
 have hlh := h.lh
 have hsz := hx.size
 have hE : Ext (At g) w' (w'.setCell ⟨g, t, none⟩ v') := (Ext.refl (At g) w').setAt _ _
 have hsz2 := hE.size
 have hseq : (w'.setCell ⟨g, t, none⟩ v').heap.size = w'.heap.size := by simp
 have hvk : ∀ k, v'.ownBlock = some k → q.2.ownBlock = some k ∨ w.heap.size ≤ k := fun k hk => by
  rcases hv with e | e
  ·exact .inl (by rw [← e]; exact hk)
  exact .inr (e k hk)
 have hnew : ∀ p ∈ RL.set t (L', v'), p = (L', v') ∨ ∃ (j : Nat) (hj : j < RL.length), j ≠ t ∧ p = RL[j] := fun p hp => by
  obtain ⟨j, hj, rfl⟩ := List.getElem_of_mem hp
  have hj2 : j < RL.length := by simpa using hj
  by_cases e : t = j
  ·subst e; exact .inl (by rw [List.getElem_set_self])
  exact .inr ⟨j, hj2, fun e2 => e e2.symm, by rw [List.getElem_set_ne e]⟩
 have hsub : ∀ i, HotW vb (.slice (some ⟨g, 0, none⟩) RL.length c) (RL.set t (L', v')) w'.heap.size base i → HotW vb (.slice (some ⟨g, 0, none⟩) RL.length c) RL lim base i := fun i e => by
  rcases e with e | e | e | ⟨p, hp, e⟩ | e
  ·exact .inl e
  ·exact .inr (.inl e)
  ·exact .inr (.inr (.inl e))
  ·rcases hnew p hp with rfl | ⟨j, hj, _, rfl⟩
   ·rcases hvk i e with e | e
    ·exact .inr (.inr (.inr (.inl ⟨q, hmem, e⟩)))
    exact .inr (.inr (.inr (.inr (by omega))))
   exact .inr (.inr (.inr (.inl ⟨_, List.getElem_mem hj, e⟩)))
  exact .inr (.inr (.inr (.inr (by omega))))
 have hgI : Value.ownBlock (.slice (some ⟨g, 0, none⟩) RL.length c) = some g := rfl
 have hqg : q.2.ownBlock ≠ some g := fun e => (h.br q hmem g e).2 rfl
 have hvg : v'.ownBlock ≠ some g := fun e => by
  rcases hvk g e with e | e
  ·exact hqg e
  have := h.li g rfl; omega
 have hhotq : ∀ i, q.2.ownBlock = some i → HotW vb (.slice (some ⟨g, 0, none⟩) RL.length c) RL lim base i := fun i e => .inr (.inr (.inr (.inl ⟨q, hmem, e⟩)))
 have hhotg : ∀ i, At g i → HotW vb (.slice (some ⟨g, 0, none⟩) RL.length c) RL lim base i := fun i e => .inr (.inr (.inl (by rw [show i = g from e]; rfl)))
 refine ⟨Nat.le_trans h.bl (by omega), by omega, ?_, ?_, fun p hp => ?_, h.bi, fun p hp k hk => ?_, fun i j hi hj hij k hk => ?_, fun k hk => by have := h.lb k hk; omega, fun k hk => by have := h.li k hk; omega, fun p hp k hk => ?_⟩
 ·exact ((h.b.ext2 hx (fun i hi e => (h.br q hmem i e).1 hi) (fun i _ e => hhotq i e)).ext2 hE (fun i hi e => h.bi i hi (by rw [show i = g from e]; rfl)) (fun i _ e => hhotg i e)).mono (fun i _ e => hsub i e)
 ·have h1 := row_keep2 h.i hx (fun k hk e => hqg (by rw [← show g = k from by simpa [Value.ownBlock] using hk] at e; exact e))
  have h2 := (World.ownsRow.stored (w := w') h1 t v').1
  rw [List.length_set, List.map_set]
  exact h2
 ·rcases hnew p hp with rfl | ⟨j, hj, hne, rfl⟩
  ·refine ⟨row_keep2 hown hE (fun k hk e => hvg (by rw [← show k = g from e]; exact hk)), fun r hr => ?_⟩
   refine kA.mono (kA.ext (hok r hr) hE (fun i _ e => hhotg i e)) (fun i _ e => ?_)
   rcases e with e | e
   ·exact hsub i e
   exact hsub i (.inr (.inr (.inr (.inl ⟨_, hp, e⟩))))
  have hm := List.getElem_mem hj
  exact (((h.r _ hm).ext2 hx (fun i hi e => h.dis j t hj ht hne i hi (by rw [hq]; exact e)) (fun i _ e => hhotq i e)).ext2 hE (fun i hi e => (h.br _ hm i hi).2 (by rw [show i = g from e]; rfl)) (fun i _ e => hhotg i e)).mono (fun i _ e => hsub i e)
 ·rcases hnew p hp with rfl | ⟨j, hj, hne, rfl⟩
  ·rcases hvk k hk with e | e
   ·exact h.br q hmem k e
   exact ⟨fun e2 => by have := h.lb k e2; omega, fun e2 => by have := h.li k e2; omega⟩
  exact h.br _ (List.getElem_mem hj) k hk
 ·have hi2 : i < RL.length := by simpa using hi
  have hj2 : j < RL.length := by simpa using hj
  have hoth : ∀ n (hn : n < RL.length), n ≠ t → RL[n].2.ownBlock = some k → v'.ownBlock ≠ some k := fun n hn hnt h1 h2 => by
   rcases hvk k h2 with e | e
   ·exact h.dis n t hn ht hnt k h1 (by rw [hq]; exact e)
   have := h.lr _ (List.getElem_mem hn) k h1; omega
  rw [List.getElem_set] at hk ⊢
  by_cases e1 : t = i
  ·rw [if_pos e1] at hk
   rw [if_neg (by omega)]
   exact fun e => hoth j hj2 (by omega) e hk
  rw [if_neg e1] at hk
  by_cases e2 : t = j
  ·rw [if_pos e2]; exact fun e => hoth i hi2 (fun e3 => e1 e3.symm) hk e
  rw [if_neg e2]; exact h.dis i j hi2 hj2 hij k hk
 rcases hnew p hp with rfl | ⟨j, hj, hne, rfl⟩
 ·have := (World.ownsRow.lt hown k hk).2; omega
 have := h.lr _ (List.getElem_mem hj) k hk; omega
theorem put5_own {g c N k : Nat} {L : LA} {p : Int × RawT × Value × Value × Value} (hN : N = L.length) (hown : w.ownsRow base 49 6 (.slice (some ⟨g, 0, none⟩) N c) N (L.flatMap kA.cells)) (hk : k < L.length) (hp : p.1 = L[k].1) :
  (((((w.setCell ⟨g, k * 6 + 1, none⟩ (.int .i64 p.2.1.gen.width)).setCell ⟨g, k * 6 + 2, none⟩ p.2.2.1).setCell ⟨g, k * 6 + 3, none⟩ (.int .i64 p.2.1.kill.width)).setCell ⟨g, k * 6 + 4, none⟩ p.2.2.2.1).setCell ⟨g, k * 6 + 5, none⟩ p.2.2.2.2).ownsRow base 49 6 (.slice (some ⟨g, 0, none⟩) N c) (L.set k p).length ((L.set k p).flatMap kA.cells) := by
 subst hN
 have h1 := storeAll_own [.int .i64 p.2.1.gen.width, p.2.2.1, .int .i64 p.2.1.kill.width, p.2.2.2.1, p.2.2.2.2] _ w (k * 6 + 1) hown
 have hin : k * 6 + 6 ≤ L.length * 6 := by omega
 have hfl : (L.flatMap kA.cells).length = L.length * 6 := flat_len2 kA L
 have e : setAll (L.flatMap kA.cells) (k * 6 + 1) [.int .i64 p.2.1.gen.width, p.2.2.1, .int .i64 p.2.1.kill.width, p.2.2.2.1, p.2.2.2.2] = (L.set k p).flatMap kA.cells := by
  refine List.ext_getElem? (fun n => ?_)
  rw [setAll_get _ _ _ _ (by rw [hfl]; simp only [List.length_cons, List.length_nil]; omega), flat_set_get kA p L k n hk]
  have hs : kA.s = 6 := rfl
  simp only [List.length_cons, List.length_nil, hs]
  by_cases c1 : k * 6 + 1 ≤ n ∧ n < k * 6 + 1 + (0 + 1 + 1 + 1 + 1 + 1)
  ·rw [if_pos c1, if_pos (by omega)]
   obtain ⟨m, rfl⟩ : ∃ m, n = k * 6 + 1 + m := ⟨n - (k * 6 + 1), by omega⟩
   rw [show k * 6 + 1 + m - (k * 6 + 1) = m by omega, show k * 6 + 1 + m - k * 6 = m + 1 by omega]
   rfl
  rw [if_neg c1]
  by_cases c2 : n = k * 6
  ·subst c2
   rw [if_pos (by omega), Nat.sub_self]
   have h3 := flat_get2 kA L k 0 hk (by decide)
   rw [show k * kA.s + 0 = k * 6 from rfl] at h3
   rw [h3]
   show some (Value.int .i64 L[k].1) = some (Value.int .i64 p.1)
   rw [hp]
  rw [if_neg (by omega)]
 rw [e] at h1
 rw [List.length_set]
 exact h1
theorem MWx.putArc {g c t k : Nat} {gI cI NI : Nat} {L : LA} {p : Int × RawT × Value × Value × Value} (h : MWx w base lim vb (.slice (some ⟨gI, 0, none⟩) NI cI) LB RL) (hNI : NI = RL.length) (ht : t < RL.length) (hqt : RL[t] = (L, .slice (some ⟨g, 0, none⟩) L.length c)) (hk : k < L.length) (hp : p.1 = L[k].1)
  (hok : kA.ok (HotW vb (.slice (some ⟨gI, 0, none⟩) NI cI) RL lim base) w p) :
  MWx (((((w.setCell ⟨g, k * 6 + 1, none⟩ (.int .i64 p.2.1.gen.width)).setCell ⟨g, k * 6 + 2, none⟩ p.2.2.1).setCell ⟨g, k * 6 + 3, none⟩ (.int .i64 p.2.1.kill.width)).setCell ⟨g, k * 6 + 4, none⟩ p.2.2.2.1).setCell ⟨g, k * 6 + 5, none⟩ p.2.2.2.2) base lim vb (.slice (some ⟨gI, 0, none⟩) NI cI) LB (RL.set t (L.set k p, .slice (some ⟨g, 0, none⟩) L.length c)) := by
 have hmem := List.getElem_mem ht
 rw [hqt] at hmem
 have hr := h.r _ hmem
 simp only at hr
 have hown := put5_own (p := p) rfl hr.own hk hp
 have hE : Ext (At g) w (((((w.setCell ⟨g, k * 6 + 1, none⟩ (.int .i64 p.2.1.gen.width)).setCell ⟨g, k * 6 + 2, none⟩ p.2.2.1).setCell ⟨g, k * 6 + 3, none⟩ (.int .i64 p.2.1.kill.width)).setCell ⟨g, k * 6 + 4, none⟩ p.2.2.2.1).setCell ⟨g, k * 6 + 5, none⟩ p.2.2.2.2) := (((((Ext.refl (At g) w).setAt _ _).setAt _ _).setAt _ _).setAt _ _).setAt _ _
 generalize (((((w.setCell ⟨g, k * 6 + 1, none⟩ (.int .i64 p.2.1.gen.width)).setCell ⟨g, k * 6 + 2, none⟩ p.2.2.1).setCell ⟨g, k * 6 + 3, none⟩ (.int .i64 p.2.1.kill.width)).setCell ⟨g, k * 6 + 4, none⟩ p.2.2.2.1).setCell ⟨g, k * 6 + 5, none⟩ p.2.2.2.2) = w' at *
 have hgk : ∀ i, At g i → Value.ownBlock (.slice (some ⟨g, 0, none⟩) L.length c) = some i := fun i e => by rw [show i = g from e]; rfl
 have hhot : ∀ i, At g i → HotW vb (.slice (some ⟨gI, 0, none⟩) NI cI) RL lim base i := fun i e => .inr (.inr (.inr (.inl ⟨_, hmem, hgk i e⟩)))
 have hnew : ∀ q ∈ RL.set t (L.set k p, .slice (some ⟨g, 0, none⟩) L.length c), q = (L.set k p, .slice (some ⟨g, 0, none⟩) L.length c) ∨ ∃ (j : Nat) (hj : j < RL.length), j ≠ t ∧ q = RL[j] := fun q hq => by
  obtain ⟨j, hj, rfl⟩ := List.getElem_of_mem hq
  have hj2 : j < RL.length := by simpa using hj
  by_cases e : t = j
  ·subst e; exact .inl (by rw [List.getElem_set_self])
  exact .inr ⟨j, hj2, fun e2 => e e2.symm, by rw [List.getElem_set_ne e]⟩
 have hblk : ∀ j (hj : j < RL.length) (hj2 : j < (RL.set t (L.set k p, Value.slice (some ⟨g, 0, none⟩) L.length c)).length), ((RL.set t (L.set k p, Value.slice (some ⟨g, 0, none⟩) L.length c))[j]).2 = RL[j].2 := fun j hj hj2 => by
  rw [List.getElem_set]
  split
  ·next e => subst e; rw [hqt]
  rfl
 have hex : ∀ q ∈ RL.set t (L.set k p, Value.slice (some ⟨g, 0, none⟩) L.length c), ∃ q' ∈ RL, q'.2 = q.2 := fun q hq => by
  obtain ⟨j, hj, rfl⟩ := List.getElem_of_mem hq
  have hj2 : j < RL.length := by simpa using hj
  exact ⟨_, List.getElem_mem hj2, (hblk j hj2 hj).symm⟩
 have hsub : ∀ i, HotW vb (.slice (some ⟨gI, 0, none⟩) NI cI) (RL.set t (L.set k p, .slice (some ⟨g, 0, none⟩) L.length c)) lim base i → HotW vb (.slice (some ⟨gI, 0, none⟩) NI cI) RL lim base i := fun i e => by
  rcases e with e | e | e | ⟨q, hq, e⟩ | e
  ·exact .inl e
  ·exact .inr (.inl e)
  ·exact .inr (.inr (.inl e))
  ·obtain ⟨q', h1, h2⟩ := hex q hq
   exact .inr (.inr (.inr (.inl ⟨q', h1, by rw [h2]; exact e⟩)))
  exact .inr (.inr (.inr (.inr e)))
 refine ⟨h.bl, Nat.le_trans h.lh hE.size, (h.b.ext2 hE (fun i hi e => (h.br _ hmem i (hgk i e)).1 hi) (fun i _ e => hhot i e)).mono (fun i _ e => hsub i e), ?_, fun q hq => ?_, h.bi, fun q hq k' hk' => ?_, fun i j hi hj hij k' hk' => ?_, h.lb, h.li, fun q hq k' hk' => ?_⟩
 ·have h1 := row_keep2 h.i hE (fun k' hk' e => (h.br _ hmem k' (hgk k' e)).2 hk')
  have h2 : (RL.set t (L.set k p, Value.slice (some ⟨g, 0, none⟩) L.length c)).map Prod.snd = RL.map Prod.snd := by
   refine List.ext_getElem (by simp) (fun j h3 h4 => ?_)
   have hj : j < RL.length := by simpa using h4
   rw [List.getElem_map, List.getElem_map]
   exact hblk j hj (by simpa using hj)
  rw [List.length_set, h2]
  exact h1
 ·rcases hnew q hq with rfl | ⟨j, hj, hne, rfl⟩
  ·refine ⟨by simp only; exact (by have h9 := hown; rw [List.length_set] at h9 ⊢; exact h9), fun r hr2 => ?_⟩
   have hokr : kA.ok (HotW vb (.slice (some ⟨gI, 0, none⟩) NI cI) RL lim base) w r := by
    rcases List.mem_or_eq_of_mem_set hr2 with h3 | rfl
    ·exact kA.mono (hr.ok r h3) (fun i _ e => .inl e)
    exact hok
   refine kA.mono (kA.ext hokr hE (fun i _ e => hhot i e)) (fun i _ e => ?_)
   rcases e with e | e
   ·exact hsub i e
   exact .inr (.inr (.inr (.inl ⟨_, hmem, e⟩)))
  have hm := List.getElem_mem hj
  exact ((h.r _ hm).ext2 hE (fun i hi e => h.dis j t hj ht hne i hi (by rw [hqt]; exact hgk i e)) (fun i _ e => hhot i e)).mono (fun i _ e => hsub i e)
 ·obtain ⟨q', h1, h2⟩ := hex q hq
  exact h.br q' h1 k' (by rw [h2]; exact hk')
 ·have hi2 : i < RL.length := by simpa using hi
  have hj2 : j < RL.length := by simpa using hj
  rw [hblk i hi2 hi] at hk'
  rw [hblk j hj2 hj]
  exact h.dis i j hi2 hj2 hij k' hk'
 obtain ⟨q', h1, h2⟩ := hex q hq
 exact h.lr q' h1 k' (by rw [h2]; exact hk')
theorem MWx.cellI {g c t N : Nat} (hN : N = RL.length) (h : MWx w base lim vb (.slice (some ⟨g, 0, none⟩) N c) LB RL) (ht : t < RL.length) : w.cell? ⟨g, t, none⟩ = some RL[t].2 := by
 subst hN
 have h1 := World.ownsRow.cellAt h.i t (by simpa using ht)
 rw [h1]
 simp [ht]
theorem MWx.frzI {g c N : Nat} (hN : N = RL.length) (h : MWx w base lim vb (.slice (some ⟨g, 0, none⟩) N c) LB RL) (t : Nat) : w.frozen? ⟨g, t, none⟩ = false := by
 subst hN
 exact World.ownsRow.frozenAt h.i t
theorem MWx.cellB {g c t N : Nat} (hN : N = LB.length) (h : MWx w base lim (.slice (some ⟨g, 0, none⟩) N c) vi LB RL) (ht : t < LB.length) : w.cell? ⟨g, t * 2, none⟩ = some (.int .i64 LB[t].1.width) ∧ w.cell? ⟨g, t * 2 + 1, none⟩ = some LB[t].2 := by
 subst hN
 exact ⟨h.b.cellAt (j := 0) ht (by decide) rfl, h.b.cellAt (j := 1) ht (by decide) rfl⟩
theorem MWx.frzB {g c N : Nat} (hN : N = LB.length) (h : MWx w base lim (.slice (some ⟨g, 0, none⟩) N c) vi LB RL) (t : Nat) : w.frozen? ⟨g, t, none⟩ = false := by
 subst hN
 exact World.ownsRow.frozenAt h.b.own t
theorem MWx.row (h : MWx w base lim vb vi LB RL) {t : Nat} (ht : t < RL.length) : LAt kA No w RL[t].2 RL[t].1 := (h.r _ (List.getElem_mem ht)).list2 (fun _ _ x => x) (fun _ x => x.elim)
end
structure MW (w : World) (base lim : Nat) (vb vi : Value) (LB : LS) (RL : RLs) (S : WebD) : Prop where
 x : MWx w base lim vb vi LB RL
 ok : WebOk8 S
 bnd : LB.map Prod.fst = S.bnd.map (setN S.w)
 len : RL.length = S.ins.length
 rows : ∀ i (h : i < RL.length), RL[i].1.map cutA = arcsRow (arcW S i)
section
variable {w w' : World} {base lim : Nat} {vb vi : Value} {LB : LS} {RL : RLs} {S : WebD}
theorem MW.lenB (h : MW w base lim vb vi LB RL S) : LB.length = S.ins.length := by
 have := congrArg List.length h.bnd
 simp only [List.length_map] at this
 rw [this, h.ok.ok.lb]
theorem MW.set (h : MW w base lim vb vi LB RL S) {t : Nat} (ht : t < LB.length) : SetAt No w LB[t].2 S.w (rowD S.bnd t) := by
 have e : LB[t].1 = setN S.w (rowD S.bnd t) := by
  have h1 := congrArg (fun l => l[t]?) h.bnd
  have ht2 : t < S.bnd.length := by rw [h.ok.ok.lb, ← h.lenB]; exact ht
  simp only [List.getElem?_map, List.getElem?_eq_getElem ht, List.getElem?_eq_getElem ht2, Option.map_some, Option.some.injEq] at h1
  rw [h1, rowD_get ht2]
 have h2 : WordsAt _ w LB[t].2 LB[t].1.words := h.x.b.ok _ (List.getElem_mem ht)
 rw [e] at h2
 exact ⟨h2.mono (fun _ _ x => x.elim), h.ok.ok.w, h.ok.ok.bn t⟩
theorem MW.arcs (h : MW w base lim vb vi LB RL S) {t : Nat} (ht : t < RL.length) : ArcsW No w RL[t].2 (arcW S t) := ⟨_, h.x.row ht, h.rows t ht⟩
theorem MW.stepNo (h : MW w base lim vb vi LB RL S) (hx : Ext No w w') : MW w' base lim vb vi LB RL S := ⟨h.x.stepNo hx, h.ok, h.bnd, h.len, h.rows⟩
theorem MW.at (h : MW w base lim vb vi LB RL S) : WbAt (fun b => b < base) w vb vi S := by
 have hl : ∀ b, b < base → HotW vb vi RL lim base b := fun b hb => .inl hb
 obtain ⟨g1, g2, g3⟩ := h.x.low
 have hb : LAt kS (fun b => b < base) w vb LB := h.x.b.list2 (fun b hb e => by have := g1 b hb; omega) hl
 refine ⟨h.ok.ok, hb.setsV h.bnd h.ok.ok.w h.ok.ok.bnd, RL, ⟨?_, fun p hp => (h.x.r p hp).list2 (fun b hb e => by have := g3 p hp b hb; omega) hl⟩, h.len, h.rows⟩
 have h1 := Row.ofOwns (M := fun b => b < base) h.x.i (fun b hb e => by omega)
 rw [← flat_snd] at h1
 exact h1
end

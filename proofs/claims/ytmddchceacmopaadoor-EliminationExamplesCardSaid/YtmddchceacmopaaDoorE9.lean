
import Derived.Test.YtmddchceacmopaaDoorE2
import Derived.Test.YtmddchceacmopaaDoorE7
set_option linter.unusedVariables false
set_option linter.unusedSimpArgs false
namespace Go.Proofs.YtmddchceacmopaaDoor
open Go Go.RowKit
structure WebOk8 (S : WebD) : Prop where
 ok : WebOk S
 w8 : S.w ≤ 8
 n8 : S.ins.length ≤ 32
theorem WebOk.row {S : WebD} (h : WebOk S) (i : Nat) : RowOkA S.w S.ins.length (arcW S i) := by
 refine ⟨?_, fun p hp => h.dep hp, fun p hp => h.tr hp⟩
 rcases Nat.lt_or_ge i S.ins.length with hi | hi
 ·rw [arcW_get hi]; exact h.asc _ (List.getElem_mem hi)
 unfold arcW
 rw [List.getElem?_eq_none hi]
 exact List.Pairwise.nil
theorem sum_small : ∀ (l : List ArcsL) (n : Nat), (∀ x ∈ l, x.length ≤ n) → (l.map List.length).sum ≤ l.length * n
 | [], _, _ => Nat.zero_le _
 | x :: l, n, h => by
  have h1 := sum_small l n (fun y hy => h y (List.mem_cons_of_mem _ hy))
  have h2 := h x (List.mem_cons_self ..)
  rw [List.map_cons, List.sum_cons, List.length_cons, Nat.succ_mul]; omega
theorem webOk8_of {w : Nat} {ins : List ArcsL} {bnd : List Nat} (h8 : w ≤ 8) (h1 : 1 ≤ ins.length) (h2 : ins.length ≤ 32) (hb : bnd.length = ins.length) (hr : ∀ l ∈ ins, RowOkA w ins.length l) (hm : ∀ m ∈ bnd, m < 2 ^ w) : WebOk8 ⟨w, ins, bnd⟩ :=
 ⟨⟨Nat.le_trans h8 (by decide), h1, Nat.le_trans h2 (by decide), hb, fun l hl => (hr l hl).asc, fun l hl => (hr l hl).lt, by
  have := sum_small ins 32 (fun x hx => Nat.le_trans (hr x hx).len h2)
  have h3 : ins.length * 32 ≤ 32 * 32 := Nat.mul_le_mul h2 (Nat.le_refl _)
  simp only
  omega, fun l hl => (hr l hl).trs, hm⟩, h8, h2⟩
theorem arcW_set {S : WebD} {n i : Nat} {l : ArcsL} {b : List Nat} (hn : n < S.ins.length) : arcW ⟨S.w, S.ins.set n l, b⟩ i = if i = n then l else arcW S i := by
 unfold arcW
 simp only
 rw [List.getElem?_set]
 by_cases e : n = i
 ·subst e; simp [hn]
 rw [if_neg e, if_neg (fun h => e h.symm)]
theorem resS_ok {S : WebD} {n : Nat} {s : TrD} (h : WebOk8 S) (hn : n < S.ins.length) (hs : TrOk s ∧ s.w = S.w) : WebOk8 (resS S n s) := by
 refine webOk8_of h.w8 (by simpa using h.ok.n1) (by simpa using h.n8) (by simp [h.ok.lb]) (fun l hl => ?_) (fun m hm => ?_)
 ·rw [List.length_set]
  rcases List.mem_or_eq_of_mem_set hl with hl | rfl
  ·obtain ⟨i, hi, rfl⟩ := List.getElem_of_mem hl
   rw [← arcW_get hi]; exact h.ok.row i
  exact (h.ok.row n).erase.mapC h.w8 hs
 rcases List.mem_or_eq_of_mem_set hm with hm | rfl
 ·exact h.ok.bnd m hm
 have := app_lt hs.1 (s := rowD S.bnd n) (by rw [hs.2]; exact h.ok.bn n)
 rw [hs.2] at this
 exact this
theorem resolve_ok {S : WebD} {n : Nat} (h : WebOk8 S) (hn : n < S.ins.length) : WebOk8 (resolveW S n) ∧ (resolveW S n).w = S.w ∧ (resolveW S n).ins.length = S.ins.length := by
 unfold resolveW
 split
 ·rename_i hi
  exact ⟨resS_ok h hn (star_ok h.w8 ((h.ok.row n).trs _ (List.getElem_mem hi))), rfl, by simp [resS]⟩
 exact ⟨h, rfl, rfl⟩
theorem elimIns_ok {R : WebD} {n : Nat} (h : WebOk8 R) (t : Nat) : RowOkA R.w R.ins.length (elimIns R n t) := by
 unfold elimIns
 split
 ·rename_i hi
  exact elimRow_ok h.w8 ((h.ok.row t).trs _ (List.getElem_mem hi.2)) _ _ (h.ok.row n) (h.ok.row t).erase
 exact h.ok.row t
theorem elimBnd_lt {R : WebD} {n : Nat} (h : WebOk8 R) (t : Nat) : elimBnd R n t < 2 ^ R.w := by
 unfold elimBnd
 split
 ·rename_i hi
  obtain ⟨h1, h2⟩ := (h.ok.row t).trs _ (List.getElem_mem hi.2)
  have := app_lt h1 (s := rowD R.bnd n) (by rw [h2]; exact h.ok.bn n)
  rw [h2] at this
  exact orN_lt' (h.ok.bn t) this
 exact h.ok.bn t
theorem elimF_ok {R : WebD} {n : Nat} (h : WebOk8 R) : WebOk8 (elimF R n) := by
 refine webOk8_of h.w8 (by simpa using h.ok.n1) (by simpa using h.n8) (by simp) (fun l hl => ?_) (fun m hm => ?_)
 ·obtain ⟨i, _, rfl⟩ := List.mem_map.1 hl
  simp only [List.length_map, List.length_range]
  exact elimIns_ok h i
 obtain ⟨i, _, rfl⟩ := List.mem_map.1 hm
 exact elimBnd_lt h i
theorem elim_ok {S : WebD} {n : Nat} (h : WebOk8 S) (hn : n < S.ins.length) : WebOk8 (elimW S n) ∧ (elimW S n).w = S.w ∧ (elimW S n).ins.length = S.ins.length := by
 obtain ⟨h1, h2, h3⟩ := resolve_ok h hn
 exact ⟨elimF_ok h1, h2, by simp [elimW, elimF, h3]⟩
end Go.Proofs.YtmddchceacmopaaDoor

namespace Go.Proofs.YtmddchceacmopaaDoor
open Go Go.RowKit
abbrev RLs := List (LA × Value)
def HotW (vb vi : Value) (RL : RLs) (lim base : Nat) : Nat → Prop := fun b => b < base ∨ vb.ownBlock = some b ∨ vi.ownBlock = some b ∨ (∃ p ∈ RL, p.2.ownBlock = some b) ∨ lim ≤ b
structure MWx (w : World) (base lim : Nat) (vb vi : Value) (LB : LS) (RL : RLs) : Prop where
 bl : base ≤ lim
 lh : lim ≤ w.heap.size
 b : LOwn kS (HotW vb vi RL lim base) w base vb LB
 i : w.ownsRow base 34 1 vi RL.length (RL.map Prod.snd)
 r : ∀ p ∈ RL, LOwn kA (HotW vb vi RL lim base) w base p.2 p.1
 bi : ∀ k, vb.ownBlock = some k → vi.ownBlock ≠ some k
 br : ∀ p ∈ RL, ∀ k, p.2.ownBlock = some k → vb.ownBlock ≠ some k ∧ vi.ownBlock ≠ some k
 dis : ∀ i j (hi : i < RL.length) (hj : j < RL.length), i ≠ j → ∀ k, RL[i].2.ownBlock = some k → RL[j].2.ownBlock ≠ some k
 lb : ∀ k, vb.ownBlock = some k → k < lim
 li : ∀ k, vi.ownBlock = some k → k < lim
 lr : ∀ p ∈ RL, ∀ k, p.2.ownBlock = some k → k < lim
section
variable {w w' w1 w2 : World} {base lim lim' : Nat} {vb vi v' : Value} {LB : LS} {RL : RLs}
theorem flat_snd : ∀ RL : RLs, RL.flatMap kL.cells = RL.map Prod.snd
 | [] => rfl
 | p :: R => by rw [List.flatMap_cons, flat_snd R]; rfl
theorem MWx.stepNo (h : MWx w base lim vb vi LB RL) (hx : Ext No w w') : MWx w' base lim vb vi LB RL :=
 ⟨h.bl, Nat.le_trans h.lh hx.size, h.b.extNo hx, row_keep2 h.i hx (fun _ _ x => x), fun p hp => (h.r p hp).extNo hx, h.bi, h.br, h.dis, h.lb, h.li, h.lr⟩
theorem MWx.low (h : MWx w base lim vb vi LB RL) : (∀ k, vb.ownBlock = some k → base ≤ k) ∧ (∀ k, vi.ownBlock = some k → base ≤ k) ∧ (∀ p ∈ RL, ∀ k, p.2.ownBlock = some k → base ≤ k) :=
 ⟨fun k hk => (h.b.lt k hk).1, fun k hk => (World.ownsRow.lt h.i k hk).1, fun p hp k hk => ((h.r p hp).lt k hk).1⟩
theorem MWx.stepLow {M : Nat → Prop} (h : MWx w base lim vb vi LB RL) (hx : Ext M w w') (hM : ∀ i, i < w.heap.size → M i → i < base) : MWx w' base lim vb vi LB RL := by
 obtain ⟨g1, g2, g3⟩ := h.low
 have h1 := h.bl
 have h2 := h.lh
 exact ⟨h.bl, Nat.le_trans h.lh hx.size, h.b.ext2 hx (fun i hi e => by have := hM i (h.b.lt i hi).2 e; have := g1 i hi; omega) (fun i hi e => .inl (hM i hi e)), row_keep2 h.i hx (fun k hk e => by have := hM k (World.ownsRow.lt h.i k hk).2 e; have := g2 k hk; omega), fun p hp => (h.r p hp).ext2 hx (fun i hi e => by have := hM i ((h.r p hp).lt i hi).2 e; have := g3 p hp i hi; omega) (fun i hi e => .inl (hM i hi e)), h.bi, h.br, h.dis, h.lb, h.li, h.lr⟩
theorem MWx.lift (h : MWx w base lim vb vi LB RL) (h1 : lim ≤ lim') (h2 : lim' ≤ w.heap.size) : MWx w base lim' vb vi LB RL := by
 have hm : ∀ i, i < w.heap.size → HotW vb vi RL lim' base i → HotW vb vi RL lim base i := fun i _ e => by
  rcases e with e | e | e | e | e
  ·exact .inl e
  ·exact .inr (.inl e)
  ·exact .inr (.inr (.inl e))
  ·exact .inr (.inr (.inr (.inl e)))
  exact .inr (.inr (.inr (.inr (by omega))))
 exact ⟨Nat.le_trans h.bl h1, h2, h.b.mono hm, h.i, fun p hp => (h.r p hp).mono hm, h.bi, h.br, h.dis, fun k hk => Nat.lt_of_lt_of_le (h.lb k hk) h1, fun k hk => Nat.lt_of_lt_of_le (h.li k hk) h1, fun p hp k hk => Nat.lt_of_lt_of_le (h.lr p hp k hk) h1⟩
theorem MWx.clear (h : MWx w1 base lim vb vi LB RL) {i : Nat} (hi : i < w2.heap.size) (e : HotW vb vi RL w2.heap.size base i) : i < w1.heap.size := by
 have h1 := h.bl
 have h2 := h.lh
 rcases e with e | e | e | ⟨p, hp, e⟩ | e
 ·omega
 ·have := h.lb i e; omega
 ·have := h.li i e; omega
 ·have := h.lr p hp i e; omega
 omega
theorem MWx.hot (h : MWx w base lim vb vi LB RL) {k : Nat} (hk : vb.ownBlock = some k ∨ vi.ownBlock = some k ∨ ∃ p ∈ RL, p.2.ownBlock = some k) : base ≤ k ∧ k < lim := by
 obtain ⟨g1, g2, g3⟩ := h.low
 rcases hk with hk | hk | ⟨p, hp, hk⟩
 ·exact ⟨g1 k hk, h.lb k hk⟩
 ·exact ⟨g2 k hk, h.li k hk⟩
 exact ⟨g3 p hp k hk, h.lr p hp k hk⟩
theorem MWx.putB {g c t N : Nat} {p : RawSet × Value} (hN : N = LB.length) (h : MWx w base lim (.slice (some ⟨g, 0, none⟩) N c) vi LB RL) (ht : t < LB.length) (hp : WordsAt (HotW (.slice (some ⟨g, 0, none⟩) N c) vi RL lim base) w p.2 p.1.words) :
  MWx ((w.setCell ⟨g, t * 2, none⟩ (.int .i64 p.1.width)).setCell ⟨g, t * 2 + 1, none⟩ p.2) base lim (.slice (some ⟨g, 0, none⟩) N c) vi (LB.set t p) RL := by
 subst hN
 have hE : Ext (At g) w ((w.setCell ⟨g, t * 2, none⟩ (.int .i64 p.1.width)).setCell ⟨g, t * 2 + 1, none⟩ p.2) := ((Ext.refl (At g) w).setAt _ _).setAt _ _
 have h1 := h.b.putAll ht (p := p) (hp.mono (fun i _ e => by
  rcases e with e | e
  ·exact e
  exact .inr (.inl (by rw [e]; rfl))))
 have h2 : LOwn kS (HotW (.slice (some ⟨g, 0, none⟩) LB.length c) vi RL lim base) ((w.setCell ⟨g, t * 2, none⟩ (.int .i64 p.1.width)).setCell ⟨g, t * 2 + 1, none⟩ p.2) base (.slice (some ⟨g, 0, none⟩) LB.length c) (LB.set t p) := h1
 exact ⟨h.bl, Nat.le_trans h.lh hE.size, h2, row_keep2 h.i hE (fun k hk e => h.bi g rfl (by rw [← show k = g from e]; exact hk)), fun q hq => (h.r q hq).ext2 hE (fun i hi e => (h.br q hq i hi).1 (by rw [show i = g from e]; rfl)) (fun i _ e => .inr (.inl (by rw [show i = g from e]; rfl))), h.bi, h.br, h.dis, h.lb, h.li, h.lr⟩
theorem MWx.putRow {g c t N : Nat} {L' : LA} {q : LA × Value} (hN : N = RL.length) (h : MWx w base lim vb (.slice (some ⟨g, 0, none⟩) N c) LB RL) (ht : t < RL.length) (hq : RL[t] = q)
  (hx : Ext (fun k => q.2.ownBlock = some k) w w') (hown : w'.ownsRow base 33 6 v' L'.length (L'.flatMap kA.cells)) (hok : ∀ p ∈ L', kA.ok (HotW vb (.slice (some ⟨g, 0, none⟩) N c) RL lim base) w' p)
  (hv : v'.ownBlock = q.2.ownBlock ∨ ∀ k, v'.ownBlock = some k → w.heap.size ≤ k) :
  MWx (w'.setCell ⟨g, t, none⟩ v') base w'.heap.size vb (.slice (some ⟨g, 0, none⟩) N c) LB (RL.set t (L', v')) := by
 subst hN
 have hmem := List.getElem_mem ht
 rw [hq] at hmem
 have hlh := h.lh
 have hsz := hx.size
 have hE : Ext (At g) w' (w'.setCell ⟨g, t, none⟩ v') := (Ext.refl (At g) w').setAt _ _
 have hsz2 := hE.size
 have hseq : (w'.setCell ⟨g, t, none⟩ v').heap.size = w'.heap.size := by simp
 have hvk : ∀ k, v'.ownBlock = some k → q.2.ownBlock = some k ∨ w.heap.size ≤ k := fun k hk => by
  rcases hv with e | e
  ·exact .inl (by rw [← e]; exact hk)
  exact .inr (e k hk)
 have hnew : ∀ p ∈ RL.set t (L', v'), p = (L', v') ∨ ∃ (j : Nat) (hj : j < RL.length), j ≠ t ∧ p = RL[j] := fun p hp => by
  obtain ⟨j, hj, rfl⟩ := List.getElem_of_mem hp
  have hj2 : j < RL.length := by simpa using hj
  by_cases e : t = j
  ·subst e; exact .inl (by rw [List.getElem_set_self])
  exact .inr ⟨j, hj2, fun e2 => e e2.symm, by rw [List.getElem_set_ne e]⟩
 have hsub : ∀ i, HotW vb (.slice (some ⟨g, 0, none⟩) RL.length c) (RL.set t (L', v')) w'.heap.size base i → HotW vb (.slice (some ⟨g, 0, none⟩) RL.length c) RL lim base i := fun i e => by
  rcases e with e | e | e | ⟨p, hp, e⟩ | e
  ·exact .inl e
  ·exact .inr (.inl e)
  ·exact .inr (.inr (.inl e))
  ·rcases hnew p hp with rfl | ⟨j, hj, _, rfl⟩
   ·rcases hvk i e with e | e
    ·exact .inr (.inr (.inr (.inl ⟨q, hmem, e⟩)))
    exact .inr (.inr (.inr (.inr (by omega))))
   exact .inr (.inr (.inr (.inl ⟨_, List.getElem_mem hj, e⟩)))
  exact .inr (.inr (.inr (.inr (by omega))))
 have hgI : Value.ownBlock (.slice (some ⟨g, 0, none⟩) RL.length c) = some g := rfl
 have hqg : q.2.ownBlock ≠ some g := fun e => (h.br q hmem g e).2 rfl
 have hvg : v'.ownBlock ≠ some g := fun e => by
  rcases hvk g e with e | e
  ·exact hqg e
  have := h.li g rfl; omega
 have hhotq : ∀ i, q.2.ownBlock = some i → HotW vb (.slice (some ⟨g, 0, none⟩) RL.length c) RL lim base i := fun i e => .inr (.inr (.inr (.inl ⟨q, hmem, e⟩)))
 have hhotg : ∀ i, At g i → HotW vb (.slice (some ⟨g, 0, none⟩) RL.length c) RL lim base i := fun i e => .inr (.inr (.inl (by rw [show i = g from e]; rfl)))
 refine ⟨Nat.le_trans h.bl (by omega), by omega, ?_, ?_, fun p hp => ?_, h.bi, fun p hp k hk => ?_, fun i j hi hj hij k hk => ?_, fun k hk => by have := h.lb k hk; omega, fun k hk => by have := h.li k hk; omega, fun p hp k hk => ?_⟩
 ·exact ((h.b.ext2 hx (fun i hi e => (h.br q hmem i e).1 hi) (fun i _ e => hhotq i e)).ext2 hE (fun i hi e => h.bi i hi (by rw [show i = g from e]; rfl)) (fun i _ e => hhotg i e)).mono (fun i _ e => hsub i e)
 ·have h1 := row_keep2 h.i hx (fun k hk e => hqg (by rw [← show g = k from by simpa [Value.ownBlock] using hk] at e; exact e))
  have h2 := (World.ownsRow.stored (w := w') h1 t v').1
  rw [List.length_set, List.map_set]
  exact h2
 ·rcases hnew p hp with rfl | ⟨j, hj, hne, rfl⟩
  ·refine ⟨row_keep2 hown hE (fun k hk e => hvg (by rw [← show k = g from e]; exact hk)), fun r hr => ?_⟩
   refine kA.mono (kA.ext (hok r hr) hE (fun i _ e => hhotg i e)) (fun i _ e => ?_)
   rcases e with e | e
   ·exact hsub i e
   exact hsub i (.inr (.inr (.inr (.inl ⟨_, hp, e⟩))))
  have hm := List.getElem_mem hj
  exact (((h.r _ hm).ext2 hx (fun i hi e => h.dis j t hj ht hne i hi (by rw [hq]; exact e)) (fun i _ e => hhotq i e)).ext2 hE (fun i hi e => (h.br _ hm i hi).2 (by rw [show i = g from e]; rfl)) (fun i _ e => hhotg i e)).mono (fun i _ e => hsub i e)
 ·rcases hnew p hp with rfl | ⟨j, hj, hne, rfl⟩
  ·rcases hvk k hk with e | e
   ·exact h.br q hmem k e
   exact ⟨fun e2 => by have := h.lb k e2; omega, fun e2 => by have := h.li k e2; omega⟩
  exact h.br _ (List.getElem_mem hj) k hk
 ·have hi2 : i < RL.length := by simpa using hi
  have hj2 : j < RL.length := by simpa using hj
  have hoth : ∀ n (hn : n < RL.length), n ≠ t → RL[n].2.ownBlock = some k → v'.ownBlock ≠ some k := fun n hn hnt h1 h2 => by
   rcases hvk k h2 with e | e
   ·exact h.dis n t hn ht hnt k h1 (by rw [hq]; exact e)
   have := h.lr _ (List.getElem_mem hn) k h1; omega
  rw [List.getElem_set] at hk ⊢
  by_cases e1 : t = i
  ·rw [if_pos e1] at hk
   rw [if_neg (by omega)]
   exact fun e => hoth j hj2 (by omega) e hk
  rw [if_neg e1] at hk
  by_cases e2 : t = j
  ·rw [if_pos e2]; exact fun e => hoth i hi2 (fun e3 => e1 e3.symm) hk e
  rw [if_neg e2]; exact h.dis i j hi2 hj2 hij k hk
 rcases hnew p hp with rfl | ⟨j, hj, hne, rfl⟩
 ·have := (World.ownsRow.lt hown k hk).2; omega
 have := h.lr _ (List.getElem_mem hj) k hk; omega
theorem put5_own {g c N k : Nat} {L : LA} {p : Int × RawT × Value × Value × Value} (hN : N = L.length) (hown : w.ownsRow base 33 6 (.slice (some ⟨g, 0, none⟩) N c) N (L.flatMap kA.cells)) (hk : k < L.length) (hp : p.1 = L[k].1) :
  (((((w.setCell ⟨g, k * 6 + 1, none⟩ (.int .i64 p.2.1.gen.width)).setCell ⟨g, k * 6 + 2, none⟩ p.2.2.1).setCell ⟨g, k * 6 + 3, none⟩ (.int .i64 p.2.1.kill.width)).setCell ⟨g, k * 6 + 4, none⟩ p.2.2.2.1).setCell ⟨g, k * 6 + 5, none⟩ p.2.2.2.2).ownsRow base 33 6 (.slice (some ⟨g, 0, none⟩) N c) (L.set k p).length ((L.set k p).flatMap kA.cells) := by
 subst hN
 have h1 := storeAll_own [.int .i64 p.2.1.gen.width, p.2.2.1, .int .i64 p.2.1.kill.width, p.2.2.2.1, p.2.2.2.2] _ w (k * 6 + 1) hown
 have hin : k * 6 + 6 ≤ L.length * 6 := by omega
 have hfl : (L.flatMap kA.cells).length = L.length * 6 := flat_len2 kA L
 have e : setAll (L.flatMap kA.cells) (k * 6 + 1) [.int .i64 p.2.1.gen.width, p.2.2.1, .int .i64 p.2.1.kill.width, p.2.2.2.1, p.2.2.2.2] = (L.set k p).flatMap kA.cells := by
  refine List.ext_getElem? (fun n => ?_)
  rw [setAll_get _ _ _ _ (by rw [hfl]; simp only [List.length_cons, List.length_nil]; omega), flat_set_get kA p L k n hk]
  have hs : kA.s = 6 := rfl
  simp only [List.length_cons, List.length_nil, hs]
  by_cases c1 : k * 6 + 1 ≤ n ∧ n < k * 6 + 1 + (0 + 1 + 1 + 1 + 1 + 1)
  ·rw [if_pos c1, if_pos (by omega)]
   obtain ⟨m, rfl⟩ : ∃ m, n = k * 6 + 1 + m := ⟨n - (k * 6 + 1), by omega⟩
   rw [show k * 6 + 1 + m - (k * 6 + 1) = m by omega, show k * 6 + 1 + m - k * 6 = m + 1 by omega]
   rfl
  rw [if_neg c1]
  by_cases c2 : n = k * 6
  ·subst c2
   rw [if_pos (by omega), Nat.sub_self]
   have h3 := flat_get2 kA L k 0 hk (by decide)
   rw [show k * kA.s + 0 = k * 6 from rfl] at h3
   rw [h3]
   show some (Value.int .i64 L[k].1) = some (Value.int .i64 p.1)
   rw [hp]
  rw [if_neg (by omega)]
 rw [e] at h1
 rw [List.length_set]
 exact h1
theorem MWx.putArc {g c t k : Nat} {gI cI NI : Nat} {L : LA} {p : Int × RawT × Value × Value × Value} (h : MWx w base lim vb (.slice (some ⟨gI, 0, none⟩) NI cI) LB RL) (hNI : NI = RL.length) (ht : t < RL.length) (hqt : RL[t] = (L, .slice (some ⟨g, 0, none⟩) L.length c)) (hk : k < L.length) (hp : p.1 = L[k].1)
  (hok : kA.ok (HotW vb (.slice (some ⟨gI, 0, none⟩) NI cI) RL lim base) w p) :
  MWx (((((w.setCell ⟨g, k * 6 + 1, none⟩ (.int .i64 p.2.1.gen.width)).setCell ⟨g, k * 6 + 2, none⟩ p.2.2.1).setCell ⟨g, k * 6 + 3, none⟩ (.int .i64 p.2.1.kill.width)).setCell ⟨g, k * 6 + 4, none⟩ p.2.2.2.1).setCell ⟨g, k * 6 + 5, none⟩ p.2.2.2.2) base lim vb (.slice (some ⟨gI, 0, none⟩) NI cI) LB (RL.set t (L.set k p, .slice (some ⟨g, 0, none⟩) L.length c)) := by
 have hmem := List.getElem_mem ht
 rw [hqt] at hmem
 have hr := h.r _ hmem
 simp only at hr
 have hown := put5_own (p := p) rfl hr.own hk hp
 have hE : Ext (At g) w (((((w.setCell ⟨g, k * 6 + 1, none⟩ (.int .i64 p.2.1.gen.width)).setCell ⟨g, k * 6 + 2, none⟩ p.2.2.1).setCell ⟨g, k * 6 + 3, none⟩ (.int .i64 p.2.1.kill.width)).setCell ⟨g, k * 6 + 4, none⟩ p.2.2.2.1).setCell ⟨g, k * 6 + 5, none⟩ p.2.2.2.2) := (((((Ext.refl (At g) w).setAt _ _).setAt _ _).setAt _ _).setAt _ _).setAt _ _
 generalize (((((w.setCell ⟨g, k * 6 + 1, none⟩ (.int .i64 p.2.1.gen.width)).setCell ⟨g, k * 6 + 2, none⟩ p.2.2.1).setCell ⟨g, k * 6 + 3, none⟩ (.int .i64 p.2.1.kill.width)).setCell ⟨g, k * 6 + 4, none⟩ p.2.2.2.1).setCell ⟨g, k * 6 + 5, none⟩ p.2.2.2.2) = w' at *
 have hgk : ∀ i, At g i → Value.ownBlock (.slice (some ⟨g, 0, none⟩) L.length c) = some i := fun i e => by rw [show i = g from e]; rfl
 have hhot : ∀ i, At g i → HotW vb (.slice (some ⟨gI, 0, none⟩) NI cI) RL lim base i := fun i e => .inr (.inr (.inr (.inl ⟨_, hmem, hgk i e⟩)))
 have hnew : ∀ q ∈ RL.set t (L.set k p, .slice (some ⟨g, 0, none⟩) L.length c), q = (L.set k p, .slice (some ⟨g, 0, none⟩) L.length c) ∨ ∃ (j : Nat) (hj : j < RL.length), j ≠ t ∧ q = RL[j] := fun q hq => by
  obtain ⟨j, hj, rfl⟩ := List.getElem_of_mem hq
  have hj2 : j < RL.length := by simpa using hj
  by_cases e : t = j
  ·subst e; exact .inl (by rw [List.getElem_set_self])
  exact .inr ⟨j, hj2, fun e2 => e e2.symm, by rw [List.getElem_set_ne e]⟩
 have hblk : ∀ j (hj : j < RL.length) (hj2 : j < (RL.set t (L.set k p, Value.slice (some ⟨g, 0, none⟩) L.length c)).length), ((RL.set t (L.set k p, Value.slice (some ⟨g, 0, none⟩) L.length c))[j]).2 = RL[j].2 := fun j hj hj2 => by
  rw [List.getElem_set]
  split
  ·next e => subst e; rw [hqt]
  rfl
 have hex : ∀ q ∈ RL.set t (L.set k p, Value.slice (some ⟨g, 0, none⟩) L.length c), ∃ q' ∈ RL, q'.2 = q.2 := fun q hq => by
  obtain ⟨j, hj, rfl⟩ := List.getElem_of_mem hq
  have hj2 : j < RL.length := by simpa using hj
  exact ⟨_, List.getElem_mem hj2, (hblk j hj2 hj).symm⟩
 have hsub : ∀ i, HotW vb (.slice (some ⟨gI, 0, none⟩) NI cI) (RL.set t (L.set k p, .slice (some ⟨g, 0, none⟩) L.length c)) lim base i → HotW vb (.slice (some ⟨gI, 0, none⟩) NI cI) RL lim base i := fun i e => by
  rcases e with e | e | e | ⟨q, hq, e⟩ | e
  ·exact .inl e
  ·exact .inr (.inl e)
  ·exact .inr (.inr (.inl e))
  ·obtain ⟨q', h1, h2⟩ := hex q hq
   exact .inr (.inr (.inr (.inl ⟨q', h1, by rw [h2]; exact e⟩)))
  exact .inr (.inr (.inr (.inr e)))
 refine ⟨h.bl, Nat.le_trans h.lh hE.size, (h.b.ext2 hE (fun i hi e => (h.br _ hmem i (hgk i e)).1 hi) (fun i _ e => hhot i e)).mono (fun i _ e => hsub i e), ?_, fun q hq => ?_, h.bi, fun q hq k' hk' => ?_, fun i j hi hj hij k' hk' => ?_, h.lb, h.li, fun q hq k' hk' => ?_⟩
 ·have h1 := row_keep2 h.i hE (fun k' hk' e => (h.br _ hmem k' (hgk k' e)).2 hk')
  have h2 : (RL.set t (L.set k p, Value.slice (some ⟨g, 0, none⟩) L.length c)).map Prod.snd = RL.map Prod.snd := by
   refine List.ext_getElem (by simp) (fun j h3 h4 => ?_)
   have hj : j < RL.length := by simpa using h4
   rw [List.getElem_map, List.getElem_map]
   exact hblk j hj (by simpa using hj)
  rw [List.length_set, h2]
  exact h1
 ·rcases hnew q hq with rfl | ⟨j, hj, hne, rfl⟩
  ·refine ⟨by simp only; exact (by have h9 := hown; rw [List.length_set] at h9 ⊢; exact h9), fun r hr2 => ?_⟩
   have hokr : kA.ok (HotW vb (.slice (some ⟨gI, 0, none⟩) NI cI) RL lim base) w r := by
    rcases List.mem_or_eq_of_mem_set hr2 with h3 | rfl
    ·exact kA.mono (hr.ok r h3) (fun i _ e => .inl e)
    exact hok
   refine kA.mono (kA.ext hokr hE (fun i _ e => hhot i e)) (fun i _ e => ?_)
   rcases e with e | e
   ·exact hsub i e
   exact .inr (.inr (.inr (.inl ⟨_, hmem, e⟩)))
  have hm := List.getElem_mem hj
  exact ((h.r _ hm).ext2 hE (fun i hi e => h.dis j t hj ht hne i hi (by rw [hqt]; exact hgk i e)) (fun i _ e => hhot i e)).mono (fun i _ e => hsub i e)
 ·obtain ⟨q', h1, h2⟩ := hex q hq
  exact h.br q' h1 k' (by rw [h2]; exact hk')
 ·have hi2 : i < RL.length := by simpa using hi
  have hj2 : j < RL.length := by simpa using hj
  rw [hblk i hi2 hi] at hk'
  rw [hblk j hj2 hj]
  exact h.dis i j hi2 hj2 hij k' hk'
 obtain ⟨q', h1, h2⟩ := hex q hq
 exact h.lr q' h1 k' (by rw [h2]; exact hk')
theorem MWx.cellI {g c t N : Nat} (hN : N = RL.length) (h : MWx w base lim vb (.slice (some ⟨g, 0, none⟩) N c) LB RL) (ht : t < RL.length) : w.cell? ⟨g, t, none⟩ = some RL[t].2 := by
 subst hN
 have h1 := World.ownsRow.cellAt h.i t (by simpa using ht)
 rw [h1]
 simp [ht]
theorem MWx.frzI {g c N : Nat} (hN : N = RL.length) (h : MWx w base lim vb (.slice (some ⟨g, 0, none⟩) N c) LB RL) (t : Nat) : w.frozen? ⟨g, t, none⟩ = false := by
 subst hN
 exact World.ownsRow.frozenAt h.i t
theorem MWx.cellB {g c t N : Nat} (hN : N = LB.length) (h : MWx w base lim (.slice (some ⟨g, 0, none⟩) N c) vi LB RL) (ht : t < LB.length) : w.cell? ⟨g, t * 2, none⟩ = some (.int .i64 LB[t].1.width) ∧ w.cell? ⟨g, t * 2 + 1, none⟩ = some LB[t].2 := by
 subst hN
 exact ⟨h.b.cellAt (j := 0) ht (by decide) rfl, h.b.cellAt (j := 1) ht (by decide) rfl⟩
theorem MWx.frzB {g c N : Nat} (hN : N = LB.length) (h : MWx w base lim (.slice (some ⟨g, 0, none⟩) N c) vi LB RL) (t : Nat) : w.frozen? ⟨g, t, none⟩ = false := by
 subst hN
 exact World.ownsRow.frozenAt h.b.own t
theorem MWx.row (h : MWx w base lim vb vi LB RL) {t : Nat} (ht : t < RL.length) : LAt kA No w RL[t].2 RL[t].1 := (h.r _ (List.getElem_mem ht)).list2 (fun _ _ x => x) (fun _ x => x.elim)
end
structure MW (w : World) (base lim : Nat) (vb vi : Value) (LB : LS) (RL : RLs) (S : WebD) : Prop where
 x : MWx w base lim vb vi LB RL
 ok : WebOk8 S
 bnd : LB.map Prod.fst = S.bnd.map (setN S.w)
 len : RL.length = S.ins.length
 rows : ∀ i (h : i < RL.length), RL[i].1.map cutA = arcsRow (arcW S i)
section
variable {w w' : World} {base lim : Nat} {vb vi : Value} {LB : LS} {RL : RLs} {S : WebD}
theorem MW.lenB (h : MW w base lim vb vi LB RL S) : LB.length = S.ins.length := by
 have := congrArg List.length h.bnd
 simp only [List.length_map] at this
 rw [this, h.ok.ok.lb]
theorem MW.set (h : MW w base lim vb vi LB RL S) {t : Nat} (ht : t < LB.length) : SetAt No w LB[t].2 S.w (rowD S.bnd t) := by
 have e : LB[t].1 = setN S.w (rowD S.bnd t) := by
  have h1 := congrArg (fun l => l[t]?) h.bnd
  have ht2 : t < S.bnd.length := by rw [h.ok.ok.lb, ← h.lenB]; exact ht
  simp only [List.getElem?_map, List.getElem?_eq_getElem ht, List.getElem?_eq_getElem ht2, Option.map_some, Option.some.injEq] at h1
  rw [h1, rowD_get ht2]
 have h2 : WordsAt _ w LB[t].2 LB[t].1.words := h.x.b.ok _ (List.getElem_mem ht)
 rw [e] at h2
 exact ⟨h2.mono (fun _ _ x => x.elim), h.ok.ok.w, h.ok.ok.bn t⟩
theorem MW.arcs (h : MW w base lim vb vi LB RL S) {t : Nat} (ht : t < RL.length) : ArcsW No w RL[t].2 (arcW S t) := ⟨_, h.x.row ht, h.rows t ht⟩
theorem MW.stepNo (h : MW w base lim vb vi LB RL S) (hx : Ext No w w') : MW w' base lim vb vi LB RL S := ⟨h.x.stepNo hx, h.ok, h.bnd, h.len, h.rows⟩
theorem MW.at (h : MW w base lim vb vi LB RL S) : WbAt (fun b => b < base) w vb vi S := by
 have hl : ∀ b, b < base → HotW vb vi RL lim base b := fun b hb => .inl hb
 obtain ⟨g1, g2, g3⟩ := h.x.low
 have hb : LAt kS (fun b => b < base) w vb LB := h.x.b.list2 (fun b hb e => by have := g1 b hb; omega) hl
 refine ⟨h.ok.ok, hb.setsV h.bnd h.ok.ok.w h.ok.ok.bnd, RL, ⟨?_, fun p hp => (h.x.r p hp).list2 (fun b hb e => by have := g3 p hp b hb; omega) hl⟩, h.len, h.rows⟩
 have h1 := Row.ofOwns (M := fun b => b < base) h.x.i (fun b hb e => by omega)
 rw [← flat_snd] at h1
 exact h1
end

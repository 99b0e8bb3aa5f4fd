
import Derived.Test.YtjeohlooaiociaaGreatDoorP37
set_option linter.unusedVariables false
set_option linter.unusedSimpArgs false
namespace Go.Proofs.YtjeohlooaiociaaGreatDoor
open Go Go.RowKit
theorem rdGo_some (most : Nat) : ∀ (f k n : Nat) (st : Option (List Nat)) (r : List Nat), (∀ l, st = some l → ∀ b ∈ l, b < 256) → (rdGo most f k n st).2 = some r → ∃ m, st = some (uv m ++ r) ∧ (rdGo most f k n st).1 = n + m * 128 ^ k ∧ (m = 0 → k = 0) ∧ m < 128 ^ f
 | 0, _, _, _, _, _, h => by cases h
 | _ + 1, _, _, none, _, _, h => by cases h
 | _ + 1, _, _, some [], _, _, h => by cases h
 | f + 1, k, n, some (c :: t), r, hb, h => by
  rw [rdGo] at h ⊢
  by_cases hc : c < 128
  ·rw [if_pos hc] at h ⊢
   by_cases h1 : (c = 0 ∧ 0 < k) ∨ most < n + c * 128 ^ k
   ·rw [if_pos h1] at h; cases h
   rw [if_neg h1] at h ⊢
   simp only [Option.some.injEq] at h
   have h2 : 0 < 128 ^ f := Nat.pow_pos (by decide)
   exact ⟨c, by rw [uv_lt hc, h]; rfl, rfl, by omega, by rw [Nat.pow_succ]; omega⟩
  rw [if_neg hc] at h ⊢
  obtain ⟨m, h2, h3, h4, h5⟩ := rdGo_some most f (k + 1) _ (some t) r (fun l hl b hbl => hb _ rfl b (by rw [← Option.some.inj hl] at hbl; exact List.mem_cons_of_mem _ hbl)) h
  have hc2 := hb _ rfl c (List.mem_cons_self ..)
  have hm : m ≠ 0 := fun e => by have := h4 e; omega
  have e1 : (128 * m + (c - 128)) % 128 = c - 128 := by omega
  have e2 : (128 * m + (c - 128)) / 128 = m := by omega
  refine ⟨128 * m + (c - 128), ?_, ?_, by omega, by rw [Nat.pow_succ]; omega⟩
  ·rw [uv_ge (by omega), e1, e2, List.cons_append, ← Option.some.inj h2, show c - 128 + 128 = c by omega]
  rw [h3, Nat.pow_succ, Nat.add_mul, Nat.mul_comm (128 ^ k) 128, ← Nat.mul_assoc, Nat.mul_comm m 128]; omega
theorem rdNum_some {most : Nat} {l r : List Nat} (hb : ∀ b ∈ l, b < 256) (h : (rdNum most (some l)).2 = some r) : l = uv (rdNum most (some l)).1 ++ r ∧ (rdNum most (some l)).1 < 128 ^ 5 := by
 obtain ⟨m, h1, h2, -, h4⟩ := rdGo_some most 5 0 0 (some l) r (fun k hk b hbk => hb b (by rw [Option.some.inj hk]; exact hbk)) h
 have e : (rdNum most (some l)).1 = m := by unfold rdNum; rw [h2]; simp
 rw [e]
 exact ⟨Option.some.inj h1, h4⟩
theorem rdNum_none (most : Nat) : rdNum most none = (0, none) := rfl
end Go.Proofs.YtjeohlooaiociaaGreatDoor

namespace Go.Proofs.YtjeohlooaiociaaGreatDoor
open Go Go.RowKit
theorem rdMems_none : ∀ (n p : Nat), (rdMems n p none).2 = none
 | 0, _ => rfl
 | n + 1, p => by rw [rdMems]; exact rdMems_none n _
theorem rdMems_some {r : List Nat} : ∀ (n p : Nat) (l : List Nat), (∀ b ∈ l, b < 256) → (rdMems n p (some l)).2 = some r → l = gaps p (rdMems n p (some l)).1 ++ r ∧ (rdMems n p (some l)).1.length = n ∧ (rdMems n p (some l)).1.Pairwise (· < ·) ∧ ∀ x ∈ (rdMems n p (some l)).1, p ≤ x
 | 0, p, l, _, h => by
  rw [rdMems] at h ⊢
  simp only [Option.some.injEq] at h
  exact ⟨by simp [gaps, h], rfl, List.Pairwise.nil, fun x hx => by cases hx⟩
 | n + 1, p, l, hb, h => by
  rw [rdMems] at h ⊢
  simp only at h ⊢
  cases hs : (rdNum 256 (some l)).2 with
  | none => rw [hs, rdMems_none] at h; cases h
  | some t =>
   rw [hs] at h
   obtain ⟨h1, h2⟩ := rdNum_some hb hs
   have hbt : ∀ b ∈ t, b < 256 := fun b hbt => hb b (by rw [h1]; exact List.mem_append.2 (.inr hbt))
   obtain ⟨h3, h4, h5, h6⟩ := rdMems_some n (p + (rdNum 256 (some l)).1 + 1) t hbt h
   generalize (rdNum 256 (some l)).1 = g at *
   generalize (rdMems n (p + g + 1) (some t)).1 = q at *
   refine ⟨?_, by rw [List.length_cons, h4], List.pairwise_cons.2 ⟨fun x hx => by have := h6 x hx; omega, h5⟩, fun x hx => ?_⟩
   ·rw [gaps, List.append_assoc, ← h3, show p + g - p = g by omega]; exact h1
   rcases List.mem_cons.1 hx with rfl | hx
   ·omega
   have := h6 x hx; omega
end Go.Proofs.YtjeohlooaiociaaGreatDoor

namespace Go.Proofs.YtjeohlooaiociaaGreatDoor
open Go Go.RowKit
theorem ofN_acc : ∀ (ms : List Nat) (m b : Nat), ((natsZ ms).foldl (fun m b => m ||| 2 ^ b.toNat) m).testBit b = (m.testBit b || decide (b ∈ ms))
 | [], m, b => by simp [natsZ]
 | x :: l, m, b => by
  have h := ofN_acc l (m ||| 2 ^ x) b
  have e : (natsZ (x :: l)).foldl (fun m b => m ||| 2 ^ b.toNat) m = (natsZ l).foldl (fun m b => m ||| 2 ^ b.toNat) (m ||| 2 ^ x) := by simp [natsZ]
  rw [e, h, Nat.testBit_or, Nat.testBit_two_pow, Bool.or_assoc]
  congr 1
  by_cases hx : x = b
  ·subst hx; simp
  simp [hx, Ne.symm hx]
theorem ofN_test (ms : List Nat) (b : Nat) : (ofN (natsZ ms)).testBit b = decide (b ∈ ms) := by
 unfold ofN
 rw [ofN_acc]; simp
theorem asc_eq : ∀ {l k : List Nat}, l.Pairwise (· < ·) → k.Pairwise (· < ·) → (∀ x, x ∈ l ↔ x ∈ k) → l = k
 | [], [], _, _, _ => rfl
 | [], y :: k, _, _, h => by have := (h y).2 (List.mem_cons_self ..); cases this
 | x :: l, [], _, _, h => by have := (h x).1 (List.mem_cons_self ..); cases this
 | x :: l, y :: k, hl, hk, h => by
  have h1 := List.pairwise_cons.1 hl
  have h2 := List.pairwise_cons.1 hk
  have e : x = y := by
   rcases List.mem_cons.1 ((h x).1 (List.mem_cons_self ..)) with e | e
   ·exact e
   rcases List.mem_cons.1 ((h y).2 (List.mem_cons_self ..)) with e2 | e2
   ·exact e2.symm
   have := h2.1 x e; have := h1.1 y e2; omega
  subst e
  congr 1
  refine asc_eq h1.2 h2.2 (fun z => ⟨fun hz => ?_, fun hz => ?_⟩)
  ·rcases List.mem_cons.1 ((h z).1 (List.mem_cons_of_mem _ hz)) with e | e
   ·have := h1.1 z hz; omega
   exact e
  rcases List.mem_cons.1 ((h z).2 (List.mem_cons_of_mem _ hz)) with e | e
  ·have := h2.1 z hz; omega
  exact e
theorem mem_memN {w m b : Nat} : b ∈ memN w m ↔ b < w ∧ m.testBit b = true := by
 unfold memN
 rw [List.mem_filter, List.mem_range]
theorem memN_of {w : Nat} {ms : List Nat} (ha : ms.Pairwise (· < ·)) (hw : ∀ x ∈ ms, x < w) : memN w (ofN (natsZ ms)) = ms := by
 refine asc_eq (memN_asc _ _) ha (fun x => ?_)
 rw [mem_memN, ofN_test]
 simp only [decide_eq_true_eq]
 exact ⟨fun h => h.2, fun h => ⟨hw x h, h⟩⟩
theorem rdSet_none : rdSet none = ((0, []), none) := rfl
theorem rdSet_some {l r : List Nat} (hb : ∀ b ∈ l, b < 256) (h : (rdSet (some l)).2 = some r) :
  ∃ w ms, rdSet (some l) = ((w, ms), some r) ∧ l = setB w ms ++ r ∧ w ≤ 256 ∧ ms.Pairwise (· < ·) ∧ ∀ x ∈ ms, x < w := by
 have hw := rdNum_le 256 (some l)
 unfold rdSet at h ⊢
 simp only at h ⊢
 cases hs : (rdNum 256 (some l)).2 with
 | none =>
  rw [hs, rdNum_none] at h
  simp [rdMems] at h
 | some t =>
  obtain ⟨h1, -⟩ := rdNum_some hb hs
  have hbt : ∀ b ∈ t, b < 256 := fun b hbt => hb b (by rw [h1]; exact List.mem_append.2 (.inr hbt))
  rw [hs] at h
  generalize (rdNum 256 (some l)).1 = w at *
  cases hs2 : (rdNum w (some t)).2 with
  | none =>
   rw [hs2] at h
   split at h
   ·rw [rdMems_none] at h; cases h
   cases h
  | some u =>
   obtain ⟨h2, -⟩ := rdNum_some hbt hs2
   have hbu : ∀ b ∈ u, b < 256 := fun b hbu => hbt b (by rw [h2]; exact List.mem_append.2 (.inr hbu))
   rw [hs2] at h
   generalize (rdNum w (some t)).1 = n at *
   split at h
   ·rename_i hall
    obtain ⟨h3, h4, h5, -⟩ := rdMems_some n 0 u hbu h
    refine ⟨w, (rdMems n 0 (some u)).1, by rw [if_pos hall]; simp only at h; rw [h], ?_, hw, h5, hall⟩
    unfold setB
    rw [h4, List.append_assoc, List.append_assoc, ← h3, ← h2]
    exact h1
   cases h
end Go.Proofs.YtjeohlooaiociaaGreatDoor

namespace Go.Proofs.YtjeohlooaiociaaGreatDoor
open Go Go.RowKit
theorem rdMems_asc : ∀ (n p : Nat) (st : Option (List Nat)), (rdMems n p st).1.Pairwise (· < ·) ∧ (∀ x ∈ (rdMems n p st).1, p ≤ x) ∧ (rdMems n p st).1.length = n
 | 0, _, _ => by simp [rdMems]
 | n + 1, p, st => by
  rw [rdMems]
  obtain ⟨h1, h2, h3⟩ := rdMems_asc n (p + (rdNum 256 st).1 + 1) (rdNum 256 st).2
  refine ⟨List.pairwise_cons.2 ⟨fun x hx => by have := h2 x hx; omega, h1⟩, fun x hx => ?_, by rw [List.length_cons, h3]⟩
  rcases List.mem_cons.1 hx with rfl | hx
  ·omega
  have := h2 x hx; omega
theorem rdSet_ok (st : Option (List Nat)) : (rdSet st).1.1 ≤ 256 ∧ (rdSet st).1.2.Pairwise (· < ·) ∧ ∀ x ∈ (rdSet st).1.2, x < (rdSet st).1.1 := by
 unfold rdSet
 simp only
 split
 ·rename_i h
  exact ⟨rdNum_le 256 st, (rdMems_asc _ _ _).1, h⟩
 exact ⟨Nat.zero_le _, List.Pairwise.nil, fun x hx => by cases hx⟩
def rdRanks : Nat → Option (List Nat) → List Nat × Option (List Nat)
 | 0, st => ([], st)
 | j + 1, st => ((rdNum 1073741824 st).1 :: (rdRanks j (rdNum 1073741824 st).2).1, (rdRanks j (rdNum 1073741824 st).2).2)
def rdRows : Nat → Option (List Nat) → List ((Nat × List Nat) × List Nat) × Option (List Nat)
 | 0, st => ([], st)
 | j + 1, st =>
  let s := rdSet st
  let q := rdRanks s.1.2.length s.2
  ((s.1, q.1) :: (rdRows j q.2).1, (rdRows j q.2).2)
def rdProof (b : List Nat) : Option (List ((Nat × List Nat) × List Nat)) :=
 let n := rdNum 256 (some b)
 let q := rdRows n.1 n.2
 if q.2 = some [] then some q.1 else none
theorem rdRanks_none : ∀ n, (rdRanks n none).2 = none
 | 0 => rfl
 | n + 1 => by rw [rdRanks]; exact rdRanks_none n
theorem rdRanks_some {r : List Nat} : ∀ (n : Nat) (l : List Nat), (∀ b ∈ l, b < 256) → (rdRanks n (some l)).2 = some r → l = (rdRanks n (some l)).1.flatMap uv ++ r ∧ (rdRanks n (some l)).1.length = n ∧ ∀ x ∈ (rdRanks n (some l)).1, x ≤ 1073741824
 | 0, l, _, h => by
  rw [rdRanks] at h ⊢
  simp only [Option.some.injEq] at h
  exact ⟨by simp [h], rfl, fun x hx => by cases hx⟩
 | n + 1, l, hb, h => by
  have hle := rdNum_le 1073741824 (some l)
  rw [rdRanks] at h ⊢
  simp only at h ⊢
  cases hs : (rdNum 1073741824 (some l)).2 with
  | none => rw [hs, rdRanks_none] at h; cases h
  | some t =>
   rw [hs] at h
   obtain ⟨h1, h2⟩ := rdNum_some hb hs
   obtain ⟨h3, h4, h5⟩ := rdRanks_some n t (fun b hbt => hb b (by rw [h1]; exact List.mem_append.2 (.inr hbt))) h
   generalize (rdNum 1073741824 (some l)).1 = g at *
   generalize (rdRanks n (some t)).1 = q at *
   refine ⟨by rw [List.flatMap_cons, List.append_assoc, ← h3]; exact h1, by rw [List.length_cons, h4], fun x hx => ?_⟩
   rcases List.mem_cons.1 hx with rfl | hx
   ·exact hle
   exact h5 x hx
end Go.Proofs.YtjeohlooaiociaaGreatDoor

namespace Go.Proofs.YtjeohlooaiociaaGreatDoor
open Go Go.RowKit
def rowE (x : (Nat × List Nat) × List Nat) : List Nat := setB x.1.1 x.1.2 ++ x.2.flatMap uv
def RowOk (x : (Nat × List Nat) × List Nat) : Prop := x.1.1 ≤ 256 ∧ x.1.2.Pairwise (· < ·) ∧ (∀ y ∈ x.1.2, y < x.1.1) ∧ x.2.length = x.1.2.length ∧ ∀ y ∈ x.2, y ≤ 1073741824
def proofE (L : List ((Nat × List Nat) × List Nat)) : List Nat := uv L.length ++ L.flatMap rowE
theorem rdRows_none : ∀ n, (rdRows n none).2 = none
 | 0 => rfl
 | n + 1 => by
  rw [rdRows]
  simp only
  rw [rdSet_none]
  exact rdRows_none n
theorem rdRows_some {r : List Nat} : ∀ (n : Nat) (l : List Nat), (∀ b ∈ l, b < 256) → (rdRows n (some l)).2 = some r → l = (rdRows n (some l)).1.flatMap rowE ++ r ∧ (rdRows n (some l)).1.length = n ∧ ∀ x ∈ (rdRows n (some l)).1, RowOk x
 | 0, l, _, h => by
  rw [rdRows] at h ⊢
  simp only [Option.some.injEq] at h
  exact ⟨by simp [h], rfl, fun x hx => by cases hx⟩
 | n + 1, l, hb, h => by
  rw [rdRows] at h ⊢
  simp only at h ⊢
  cases hs : (rdSet (some l)).2 with
  | none => rw [hs, rdRanks_none, rdRows_none] at h; cases h
  | some t =>
   obtain ⟨w, ms, h1, h2, h3, h4, h5⟩ := rdSet_some hb hs
   have hbt : ∀ b ∈ t, b < 256 := fun b hbt => hb b (by rw [h2]; exact List.mem_append.2 (.inr hbt))
   rw [h1] at h ⊢
   simp only at h ⊢
   cases hs2 : (rdRanks ms.length (some t)).2 with
   | none => rw [hs2, rdRows_none] at h; cases h
   | some u =>
    obtain ⟨h6, h7, h8⟩ := rdRanks_some ms.length t hbt hs2
    rw [hs2] at h
    obtain ⟨h9, h10, h11⟩ := rdRows_some n u (fun b hbu => hbt b (by rw [h6]; exact List.mem_append.2 (.inr hbu))) h
    generalize (rdRanks ms.length (some t)).1 = rk at *
    generalize (rdRows n (some u)).1 = q at *
    refine ⟨?_, by rw [List.length_cons, h10], fun x hx => ?_⟩
    ·rw [List.flatMap_cons, rowE]
     simp only
     rw [List.append_assoc, List.append_assoc, ← h9, ← h6]
     exact h2
    rcases List.mem_cons.1 hx with rfl | hx
    ·exact ⟨h3, h4, h5, h7, h8⟩
    exact h11 x hx
theorem rdProof_some {b : List Nat} {L : List ((Nat × List Nat) × List Nat)} (hb : ∀ x ∈ b, x < 256) (h : rdProof b = some L) : b = proofE L ∧ L.length ≤ 256 ∧ ∀ x ∈ L, RowOk x := by
 have hle := rdNum_le 256 (some b)
 unfold rdProof at h
 simp only at h
 split at h
 ·rename_i hq
  cases hs : (rdNum 256 (some b)).2 with
  | none => rw [hs, rdRows_none] at hq; cases hq
  | some t =>
   obtain ⟨h1, -⟩ := rdNum_some hb hs
   rw [hs] at hq h
   obtain ⟨h2, h3, h4⟩ := rdRows_some _ t (fun y hy => hb y (by rw [h1]; exact List.mem_append.2 (.inr hy))) hq
   have e := Option.some.inj h
   rw [e] at h2 h3 h4
   refine ⟨?_, by omega, h4⟩
   unfold proofE
   rw [h3]
   rw [List.append_nil] at h2
   rw [← h2]
   exact h1
 cases h
end Go.Proofs.YtjeohlooaiociaaGreatDoor

namespace Go.Proofs.YtjeohlooaiociaaGreatDoor
open Go Go.RowKit
def DMask (lo E Q : Nat) (vr : Value) (R : LD) (n : Nat) : Nat → Prop := fun b => b = E ∨ b = Q ∨ RwIn vr R b ∨ n ≤ b ∨ b < lo
structure DecM (W wr : World) (n E Q base : Nat) (sl : Value) (l : List Nat) (st : Option (List Nat)) (vv vr : Value) (Lv : LS) (R : LD) : Prop where
 ext : Ext No W wr
 low : W.heap.size ≤ E
 eq : E < base
 qb : Q < base
 ne : E ≠ Q
 lq : W.heap.size ≤ Q
 nl : base ≤ n
 nh : n ≤ wr.heap.size
 src : Ints (fun b => W.heap.size ≤ b) wr .u8 sl (natsZ l)
 rd : RdM wr E sl l st
 box : wr.heap[Q]? = some (.cells #[vv, vr] 29 (0, 0))
 v : LOwn kS (DMask W.heap.size E Q vr R n) wr base vv Lv
 r : RwM wr base vr R
 vn : ∀ k, vv.ownBlock = some k → ¬ RwIn vr R k
 rn : ∀ k, RwIn vr R k → k < n
section
variable {W wr w' w2 : World} {n n' E Q base : Nat} {sl vv vr v' : Value} {l : List Nat} {st st' : Option (List Nat)} {Lv : LS} {R : LD}
theorem DecM.step (h : DecM W wr n E Q base sl l st vv vr Lv R) (hx : Ext (At E) wr w') (hr : RdM w' E sl l st') : DecM W w' n E Q base sl l st' vv vr Lv R := by
 have h1 := h.low
 have h2 := h.eq
 have h3 := h.ne
 exact ⟨h.ext.trans2 hx (fun i hi e => by unfold At at e; omega), h1, h2, h.qb, h3, h.lq, h.nl, Nat.le_trans h.nh hx.size, Row.ext h.src hx (fun b _ e => by unfold At at e; omega), hr, hx.blk h.box (fun e => h3 (show Q = E from e).symm), h.v.ext2 hx (fun i hi e => by have := (h.v.lt i hi).1; unfold At at e; omega) (fun i _ e => .inl e), h.r.ext hx (fun b hb e => by have := (h.r.lt b hb).1; unfold At at e; omega), h.vn, h.rn⟩
theorem DecM.stepNo (h : DecM W wr n E Q base sl l st vv vr Lv R) (hx : Ext No wr w') : DecM W w' n E Q base sl l st vv vr Lv R := h.step hx.ofNo (h.rd.ext hx no_no)
theorem DecM.lift (h : DecM W wr n E Q base sl l st vv vr Lv R) (h1 : n ≤ n') (h2 : n' ≤ wr.heap.size) : DecM W wr n' E Q base sl l st vv vr Lv R :=
 ⟨h.ext, h.low, h.eq, h.qb, h.ne, h.lq, Nat.le_trans h.nl h1, h2, h.src, h.rd, h.box, h.v.mono (fun i _ e => by
  rcases e with e | e | e | e | e
  ·exact .inl e
  ·exact .inr (.inl e)
  ·exact .inr (.inr (.inl e))
  ·exact .inr (.inr (.inr (.inl (by omega))))
  exact .inr (.inr (.inr (.inr e)))), h.r, h.vn, fun k hk => Nat.lt_of_lt_of_le (h.rn k hk) h1⟩
theorem DecM.addV {o : Obj} {p : RawSet × Value} (h : DecM W wr n E Q base sl l st vv vr Lv R) (hp : WordsAt (fun b => DMask W.heap.size E Q vr R n b ∨ vv.ownBlock = some b) wr p.2 p.1.words)
  (hown : w2.ownsRow base 50 2 v' (Lv.length + 1) (Lv.flatMap kS.cells ++ kS.cells p)) (hg : (wr.alloc o).grownBy w2 vv.ownBlock) (hv : v'.ownBlock = vv.ownBlock ∨ v'.ownBlock = some (wr.alloc o).heap.size) :
  DecM W (w2.setCell ⟨Q, 0, none⟩ v') n E Q base sl l st v' vr (Lv ++ [p]) R ∧ w2.heap[Q]? = some (.cells #[vv, vr] 29 (0, 0)) ∧ ∀ k, v'.ownBlock = some k → vv.ownBlock = some k ∨ wr.heap.size ≤ k := by
 have h1 := h.low
 have h2 := h.eq
 have h3 := h.ne
 have h4 := h.lq
 have h5 := h.qb
 have hsz : (wr.alloc o).heap.size = wr.heap.size + 1 := by simp
 have hE : Ext (fun k => vv.ownBlock = some k) wr w2 := ((Ext.refl _ wr).alloc o).grown hg (fun k hk _ => hk)
 have hE2 : Ext (At Q) w2 (w2.setCell ⟨Q, 0, none⟩ v') := (Ext.refl (At Q) _).setAt _ _
 have hlo : ∀ i, vv.ownBlock = some i → base ≤ i := fun i hi => (h.v.lt i hi).1
 have hbQ := hE.blk h.box (fun e => by have := hlo _ e; omega)
 have hv2 : v'.ownBlock = vv.ownBlock ∨ ∀ k, v'.ownBlock = some k → wr.heap.size ≤ k := hv.imp id (fun hv k hk => by rw [hv] at hk; simp only [Option.some.injEq] at hk; omega)
 have hvk : ∀ k, v'.ownBlock = some k → vv.ownBlock = some k ∨ wr.heap.size ≤ k := fun k hk => by
  rcases hv2 with e | e
  ·exact .inl (by rw [← e]; exact hk)
  exact .inr (e k hk)
 have hl := h.v.app (E := fun k => vv.ownBlock = some k) hp hown hE (fun _ e => e) hv2
 refine ⟨⟨(h.ext.trans2 hE (fun i hi e => by have := hlo i e; omega)).trans2 hE2 (fun i hi e => by unfold At at e; omega), h1, h2, h5, h3, h4, h.nl, Nat.le_trans h.nh (Nat.le_trans hE.size hE2.size), Row.ext (Row.ext h.src hE (fun b _ e => by have := hlo b e; omega)) hE2 (fun b _ e => by unfold At at e; omega), (h.rd.ext hE (fun e => by have := hlo _ e; omega)).ext hE2 (fun e => h3 e), (set_same (j := 0) hbQ).trans rfl, hl.ext2 hE2 (fun i hi e => by have := (hl.lt i hi).1; unfold At at e; omega) (fun i _ e => .inr (.inl e)), (h.r.ext hE (fun b hb e => h.vn b e hb)).ext hE2 (fun b hb e => by have := (h.r.lt b hb).1; unfold At at e; omega), fun k hk e => ?_, h.rn⟩, hbQ, hvk⟩
 rcases hvk k hk with e2 | e2
 ·exact h.vn k e2 e
 have := (h.r.lt k e).2; omega
theorem DecM.addR {o : Obj} {p : List Int × Value} (h : DecM W wr n E Q base sl l st vv vr Lv R) (hp : wr.ownsRow n 3 1 p.2 p.1.length (p.1.map (.int .i64))) (hpv : ∀ k, p.2.ownBlock = some k → vv.ownBlock ≠ some k)
  (hown : w2.ownsRow base 22 1 v' (R.length + 1) (R.flatMap kD.cells ++ [p.2])) (hg : (wr.alloc o).grownBy w2 vr.ownBlock) (hv : v'.ownBlock = vr.ownBlock ∨ v'.ownBlock = some (wr.alloc o).heap.size) :
  DecM W (w2.setCell ⟨Q, 1, none⟩ v') (w2.setCell ⟨Q, 1, none⟩ v').heap.size E Q base sl l st vv v' Lv (R ++ [p]) ∧ w2.heap[Q]? = some (.cells #[vv, vr] 29 (0, 0)) := by
 have h1 := h.low
 have h2 := h.eq
 have h3 := h.ne
 have h4 := h.lq
 have h5 := h.qb
 have h6 := h.nl
 have hsz : (wr.alloc o).heap.size = wr.heap.size + 1 := by simp
 have hE : Ext (fun k => vr.ownBlock = some k) wr w2 := ((Ext.refl _ wr).alloc o).grown hg (fun k hk _ => hk)
 have hE2 : Ext (At Q) w2 (w2.setCell ⟨Q, 1, none⟩ v') := (Ext.refl (At Q) _).setAt _ _
 have hlo : ∀ i, vr.ownBlock = some i → base ≤ i := fun i hi => (h.r.lt i (.inl hi)).1
 have hbQ := hE.blk h.box (fun e => by have := hlo _ e; omega)
 have hv2 : v'.ownBlock = vr.ownBlock ∨ ∀ k, v'.ownBlock = some k → wr.heap.size ≤ k := hv.imp id (fun hv k hk => by rw [hv] at hk; simp only [Option.some.injEq] at hk; omega)
 have hr2 : RwM w2 base v' (R ++ [p]) := h.r.add (row_base hp h6) (fun b hb e => by have h7 := (World.ownsRow.lt hp b hb).1; have h8 := h.rn b e; omega) hown hE hv2
 have hr3 := hr2.ext hE2 (fun b hb e => by have := (hr2.lt b hb).1; unfold At at e; omega)
 have hin : ∀ b, RwIn v' (R ++ [p]) b → RwIn vr R b ∨ (n ≤ b ∧ ((∃ q, q = p.2 ∧ q.ownBlock = some b) ∨ wr.heap.size ≤ b)) := fun b hb => by
  rcases hb with hb | ⟨q, hq, hb⟩
  ·rcases hv2 with e | e
   ·exact .inl (.inl (by rw [← e]; exact hb))
   exact .inr ⟨Nat.le_trans h.nh (e b hb), .inr (e b hb)⟩
  rcases List.mem_append.1 hq with hq | hq
  ·exact .inl (.inr ⟨q, hq, hb⟩)
  rw [List.mem_singleton.1 hq] at hb
  exact .inr ⟨(World.ownsRow.lt hp b hb).1, .inl ⟨_, rfl, hb⟩⟩
 have hsz2 : wr.heap.size ≤ (w2.setCell ⟨Q, 1, none⟩ v').heap.size := Nat.le_trans hE.size hE2.size
 have hnh := h.nh
 have hvb : ∀ i, vv.ownBlock = some i → base ≤ i := fun i hi => (h.v.lt i hi).1
 have hl := (h.v.ext2 hE (fun i hi e => h.vn i hi (.inl e)) (fun i _ e => .inr (.inr (.inl (.inl e))))).ext2 hE2 (fun i hi e => by have := hvb i hi; unfold At at e; omega) (fun i _ e => .inr (.inl e))
 refine ⟨⟨(h.ext.trans2 hE (fun i hi e => by have := hlo i e; omega)).trans2 hE2 (fun i hi e => by unfold At at e; omega), h1, h2, h5, h3, h4, by omega, Nat.le_refl _, Row.ext (Row.ext h.src hE (fun b _ e => by have := hlo b e; omega)) hE2 (fun b _ e => by unfold At at e; omega), (h.rd.ext hE (fun e => by have := hlo _ e; omega)).ext hE2 (fun e => h3 e), (set_same (j := 1) hbQ).trans rfl, hl.mono (fun i hi e => ?_), hr3, fun k hk e => ?_, fun k hk => (hr3.lt k hk).2⟩, hbQ⟩
 ·rcases e with e | e | e | e | e
  ·exact .inl e
  ·exact .inr (.inl e)
  ·rcases hin i e with e | e
   ·exact .inr (.inr (.inl e))
   exact .inr (.inr (.inr (.inl e.1)))
  ·omega
  exact .inr (.inr (.inr (.inr e)))
 rcases hin k e with e | ⟨-, ⟨q, hq, e⟩ | e⟩
 ·exact h.vn k hk e
 ·rw [hq] at e; exact hpv k e hk
 have := (h.v.lt k hk).2; omega
end

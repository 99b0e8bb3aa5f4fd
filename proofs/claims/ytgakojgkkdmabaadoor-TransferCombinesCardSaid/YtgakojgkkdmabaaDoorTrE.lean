/- Merged: Tr26 Can2 Tr27 -/
import Derived.Test.YtgakojgkkdmabaaDoorTr25
import Derived.Deep.LoopGhost
set_option linter.unusedVariables false
set_option linter.unusedSimpArgs false
/- Tr26 -/
namespace Go.Proofs.YtgakojgkkdmabaaDoor
open Go Go.RowKit
/-! ### the plain law -/
/-! ### the walk -/
theorem union_lo (w m k : Nat) (s1 s2 : Value) (W : World) (h1 : SetAt No W s1 w m) (h2 : SetAt No W s2 w k) :
  Calls Tryd.prog 30 #[.agg #[.int .i64 (w : Int), s1], .agg #[.int .i64 (w : Int), s2]] W (SetEPost (Lo W.heap.size) w (orN m k) W) := union_any (Lo W.heap.size) w m k s1 s2 W (fun _ x => x) h1 h2
theorem SetAt.early2 {L w m D : Nat} {w7 : World} {sl u0 u1 : Value} (h : SetAt (Lo L) w7 sl w m) (hlt : D < L) : SetAt (Lo L) ((w7.setCell ⟨D, 0, none⟩ u0).setCell ⟨D, 1, none⟩ u1) sl w m :=
 h.ext (((Ext.refl (At D) _).setAt 0 u0).setAt 1 u1) (fun i _ e => by cases e; exact hlt)
theorem SetAt.lo {L n w m : Nat} {M : Nat → Prop} {w7 : World} {sl : Value} (h : SetAt (Lo L) w7 sl w m) (hL : n ≤ L) (hM : ∀ i, M i → i < n) : SetAt M w7 sl w m := h.mono (fun i _ e => Nat.lt_of_lt_of_le (hM i e) hL)
theorem two_facts2 {w w' : World} {n : Nat} {o : Obj} (hy : Ext No w w') (h : w.heap[n]? = some o) : w'.heap[n]? = some o ∧ n < w.heap.size := ⟨hy.blk h no_no, lt_of_block h⟩
end Go.Proofs.YtgakojgkkdmabaaDoor
/- Can2 -/
namespace Go.Proofs.YtgakojgkkdmabaaDoor
open Go Go.RowKit
def rowAt (rs : List Nat) (k : Nat) : Nat := (rs[k]?).getD 0
theorem rowAt_get {rs : List Nat} {k : Nat} (h : k < rs.length) : rowAt rs k = rs[k] := by simp [rowAt, h]
def keepC (k : Nat) (l : List Int) : List (Int × Int) := (l.filter fun x => decide (x ≠ (k : Int))).map fun x => ((k : Int), x)
theorem keepC_snoc_ne {k : Nat} {l : List Int} {x : Int} (h : x ≠ (k : Int)) : keepC k (l ++ [x]) = keepC k l ++ [((k : Int), x)] := by simp [keepC, h]
theorem keepC_snoc_eq {k : Nat} {l : List Int} {x : Int} (h : x = (k : Int)) : keepC k (l ++ [x]) = keepC k l := by simp [keepC, h]
theorem keepC_len (k : Nat) (l : List Int) : (keepC k l).length ≤ l.length := by
 unfold keepC; rw [List.length_map]; exact List.length_filter_le _ _
def copTo (w gen : Nat) (rs : List Nat) : Nat → List (Int × Int)
 | 0 => []
 | k + 1 => copTo w gen rs k ++ keepC k (membersN w (diffN (rowAt rs k) gen))
def killTo (w gen : Nat) (rs : List Nat) : Nat → Nat
 | 0 => gen
 | k + 1 => if hasZ w (rowAt rs k) k then killTo w gen rs k else killTo w gen rs k ||| 2 ^ k
def closeT (w gen : Nat) (rs : List Nat) : TrD := ⟨w, gen, killTo w gen rs w, copTo w gen rs w⟩
theorem copTo_len (w gen : Nat) (rs : List Nat) : ∀ k, (copTo w gen rs k).length ≤ k * w := by
 intro k
 induction k with
 | zero => simp [copTo]
 | succ k ih =>
  rw [copTo, List.length_append, Nat.succ_mul]
  have h1 := keepC_len k (membersN w (diffN (rowAt rs k) gen))
  have h2 := membersN_len w (diffN (rowAt rs k) gen)
  omega
theorem killTo_lt {w gen : Nat} {rs : List Nat} (hg : gen < 2 ^ w) : ∀ k, k ≤ w → killTo w gen rs k < 2 ^ w := by
 intro k
 induction k with
 | zero => intro _; exact hg
 | succ k ih =>
  intro hk
  rw [killTo]
  split
  ·exact ih (by omega)
  ·exact orN_lt (ih (by omega)) (bitN_lt (by omega))
theorem killTo_bit {w gen : Nat} {rs : List Nat} (b : Nat) : ∀ k, (killTo w gen rs k).testBit b = (gen.testBit b || (decide (b < k) && !hasZ w (rowAt rs b) b)) := by
 intro k
 induction k with
 | zero => simp [killTo]
 | succ k ih =>
  rw [killTo]
  by_cases e : b = k
  ·subst e
   cases hh : hasZ w (rowAt rs b) b with
   | true => simp [ih]
   | false => simp [Nat.testBit_or, ih, Nat.testBit_two_pow_self]
  ·have e2 : (decide (b < k + 1) : Bool) = decide (b < k) := decide_eq_decide.2 (by omega)
   rw [e2]
   split
   ·exact ih
   ·rw [or_bit, ih, show decide (k = b) = false from decide_eq_false (fun h => e h.symm), Bool.or_false]
theorem keepC_mem {k : Nat} {l : List Int} {p : Int × Int} : p ∈ keepC k l ↔ p.1 = (k : Int) ∧ p.2 ∈ l ∧ p.2 ≠ (k : Int) := by
 unfold keepC
 simp only [List.mem_map, List.mem_filter, decide_eq_true_eq]
 constructor
 ·rintro ⟨x, ⟨h1, h2⟩, rfl⟩; exact ⟨rfl, h1, h2⟩
 ·rintro ⟨h1, h2, h3⟩; exact ⟨p.2, ⟨h2, h3⟩, Prod.ext h1.symm rfl⟩
theorem copTo_mem {w gen : Nat} {rs : List Nat} {p : Int × Int} : ∀ k, p ∈ copTo w gen rs k ↔ ∃ a b : Nat, a < k ∧ p = ((a : Int), (b : Int)) ∧ b < w ∧ a ≠ b ∧ (rowAt rs a).testBit b = true ∧ gen.testBit b = false := by
 intro k
 induction k with
 | zero => simp [copTo]
 | succ k ih =>
  rw [copTo, List.mem_append, ih, keepC_mem]
  constructor
  ·rintro (⟨a, b, h1, h2⟩ | ⟨h1, h2, h3⟩)
   ·exact ⟨a, b, by omega, h2⟩
   ·obtain ⟨b, e, h4, h5⟩ := membersN_mem.1 h2
    rw [diffN_bit, Bool.and_eq_true] at h5
    exact ⟨k, b, by omega, Prod.ext h1 e, h4, fun he => h3 (by rw [e, he]), h5.1, by simpa using h5.2⟩
  ·rintro ⟨a, b, h1, rfl, h3, h4, h5, h6⟩
   by_cases e : a = k
   ·subst e
    exact .inr ⟨rfl, membersN_mem.2 ⟨b, rfl, h3, by rw [diffN_bit, h5, h6]; rfl⟩, by simp; omega⟩
   ·exact .inl ⟨a, b, by omega, rfl, h3, h4, h5, h6⟩
def ltC (p q : Int × Int) : Prop := p.1 < q.1 ∨ p.1 = q.1 ∧ p.2 < q.2
theorem membersN_sorted (w m : Nat) : (membersN w m).Pairwise (· < ·) := by
 unfold membersN
 rw [List.pairwise_map]
 exact (List.pairwise_lt_range.filter _).imp (fun h => by omega)
theorem copTo_sorted (w gen : Nat) (rs : List Nat) : ∀ k, (copTo w gen rs k).Pairwise ltC := by
 intro k
 induction k with
 | zero => exact List.Pairwise.nil
 | succ k ih =>
  rw [copTo, List.pairwise_append]
  refine ⟨ih, ?_, ?_⟩
  ·unfold keepC
   rw [List.pairwise_map]
   exact ((membersN_sorted _ _).filter _).imp (fun h => .inr ⟨rfl, h⟩)
  ·intro p hp q hq
   obtain ⟨a, b, h1, rfl, _⟩ := (copTo_mem k).1 hp
   obtain ⟨h2, _⟩ := keepC_mem.1 hq
   exact .inl (by rw [h2]; show (a : Int) < (k : Int); omega)
theorem closeT_ok {w gen : Nat} {rs : List Nat} (hw : w ≤ 256) (hg : gen < 2 ^ w) (hl : (copTo w gen rs w).length ≤ 64) : TrOk (closeT w gen rs) := by
 refine ⟨hw, hg, killTo_lt hg w (Nat.le_refl _), hl, fun i h => ?_, fun i h => ?_⟩
 ·have h' : i < (copTo w gen rs w).length := h
  obtain ⟨a, b, h1, h2, h3, _⟩ := (copTo_mem w).1 (List.getElem_mem h')
  have key : inB w (copTo w gen rs w)[i].1 = true ∧ inB w (copTo w gen rs w)[i].2 = true := by
   rw [h2]
   exact ⟨decide_eq_true ⟨by omega, by show (a : Int) < w; omega⟩, decide_eq_true ⟨by omega, by show (b : Int) < w; omega⟩⟩
  exact key
 ·have := (List.pairwise_iff_getElem.1 (copTo_sorted w gen rs w)) i (i + 1) (by have : (copTo w gen rs w).length = (closeT w gen rs).copies.length := rfl; omega) h (by omega)
  exact compareZ_lt this
end Go.Proofs.YtgakojgkkdmabaaDoor
/- Tr27 -/
namespace Go.Proofs.YtgakojgkkdmabaaDoor
open Go Go.RowKit
/-- what a slice of the call's own is appended to, seen by what does not lie in it -/
theorem area_app {P : (Nat → Prop) → World → Prop} (hext : ∀ M M' w w', P M w → Ext M' w w' → (∀ i, i < w.heap.size → M' i → M i) → P M w') (hmono : ∀ M M' w, P M w → (∀ i, i < w.heap.size → M' i → M i) → P M' w)
  {A : Nat → Prop} {v v' : Value} {w w' : World} {o : Obj} (hg : (w.alloc o).grownBy w' v.ownBlock) (hv : v'.ownBlock = v.ownBlock ∨ v'.ownBlock = some (w.alloc o).heap.size) (h : P (fun b => A b ∨ v.ownBlock = some b) w) : P (fun b => A b ∨ v'.ownBlock = some b) w' := by
 have hE : Ext (fun k => v.ownBlock = some k) w w' := ((Ext.refl _ w).alloc o).grown hg (fun k hk _ => hk)
 have h2 : P (fun b => (A b ∨ v.ownBlock = some b) ∨ w.heap.size ≤ b) w := hmono _ _ _ h (fun i hi e => by
  rcases e with e | e
  ·exact e
  ·omega)
 refine hmono _ _ _ (hext _ _ _ _ h2 hE (fun i _ e => .inl (.inr e))) (fun i _ e => ?_)
 rcases e with e | e
 ·exact .inl (.inl e)
 ·rcases hv with hv | hv
  ·rw [hv] at e; exact .inl (.inr e)
  ·rw [hv, alloc_size1] at e
   simp only [Option.some.injEq] at e
   exact .inr (by omega)
theorem area_set {w w' : World} {A : Nat → Prop} {v v' sl : Value} {n m : Nat} {o : Obj} (hg : (w.alloc o).grownBy w' v.ownBlock) (hv : v'.ownBlock = v.ownBlock ∨ v'.ownBlock = some (w.alloc o).heap.size) (h : SetAt (fun b => A b ∨ v.ownBlock = some b) w sl n m) : SetAt (fun b => A b ∨ v'.ownBlock = some b) w' sl n m :=
 area_app (P := fun M w => SetAt M w sl n m) (fun _ _ _ _ h hx hm => h.ext hx hm) (fun _ _ _ h hm => h.mono hm) hg hv h
theorem area_row {w w' : World} {A : Nat → Prop} {v v' sl : Value} {s n : Nat} {vs : List Value} {o : Obj} (hg : (w.alloc o).grownBy w' v.ownBlock) (hv : v'.ownBlock = v.ownBlock ∨ v'.ownBlock = some (w.alloc o).heap.size) (h : Row (fun b => A b ∨ v.ownBlock = some b) w s sl n vs) : Row (fun b => A b ∨ v'.ownBlock = some b) w' s sl n vs :=
 area_app (P := fun M w => Row M w s sl n vs) (fun _ _ _ _ h hx hm => h.ext hx hm) (fun _ _ _ h hm => h.mono hm) hg hv h
/-- what close holds -/
structure CsM (M : Nat → Prop) (W wr : World) (w gen m T : Nat) (l : List (Int × Int)) (sg so sk sc : Value) : Prop where
 ext : Ext No W wr
 boxA : wr.heap[W.heap.size]? = some (.cells #[.int .i64 (w : Int), sg, so] 70 (0, 0))
 boxR : wr.heap[W.heap.size + 1]? = some (.cells #[.int .i64 0, .slice none 0 0, .int .i64 0, .slice none 0 0, .slice none 0 0] 28 (0, 0))
 boxT : wr.heap[T]? = some (.cells #[.int .i64 (w : Int), sg, .int .i64 (w : Int), sk, sc] 28 (0, 0))
 kill : SetAt (fun b => (M b ∨ b = W.heap.size + 1 ∨ b = T) ∨ sc.ownBlock = some b) wr sk w m
 own : wr.ownsRow (T + 1) 50 2 sc l.length (flatC l)
 big : W.heap.size + 1 < T
section
variable {M M' : Nat → Prop} {W wr w' : World} {w gen m m' T : Nat} {l l' : List (Int × Int)} {sg so sk sk' sc sc' : Value}
theorem CsM.stepNo (h : CsM M W wr w gen m T l sg so sk sc) (hx : Ext No wr w') : CsM M W w' w gen m T l sg so sk sc :=
 ⟨h.ext.transNo hx, hx.blk h.boxA no_no, hx.blk h.boxR no_no, hx.blk h.boxT no_no, h.kill.extNo hx, row_keep h.own hx (fun _ _ x => x), h.big⟩
theorem CsM.mono (h : CsM M W wr w gen m T l sg so sk sc) (hm : ∀ i, i < wr.heap.size → M' i → M i) : CsM M' W wr w gen m T l sg so sk sc :=
 ⟨h.ext, h.boxA, h.boxR, h.boxT, h.kill.mono (fun i hi e => by
  rcases e with (e | e) | e
  ·exact .inl (.inl (hm i hi e))
  ·exact .inl (.inr e)
  ·exact .inr e), h.own, h.big⟩
theorem CsM.ownLt (h : CsM M W wr w gen m T l sg so sk sc) (k : Nat) (hk : sc.ownBlock = some k) : T + 1 ≤ k ∧ k < wr.heap.size := World.ownsRow.lt h.own k hk
theorem CsM.hM (hM : ∀ b, M b → b < wr.heap.size) (h : CsM M W wr w gen m T l sg so sk sc) : ∀ b, ((M b ∨ b = W.heap.size + 1 ∨ b = T) ∨ sc.ownBlock = some b) → b < wr.heap.size := fun b hb => by
 have h1 := lt_of_block h.boxT
 have h2 := h.big
 rcases hb with (hb | rfl | rfl) | hb
 ·exact hM b hb
 ·omega
 ·exact h1
 ·exact (h.ownLt b hb).2
theorem CsM.box {S : Nat} {u0 u1 : Value} (h : CsM M W wr w gen m T l sg so sk sc) (hS : T < S) (hv : ¬ sc.ownBlock = some S) (hMS : M S) : CsM M W ((wr.setCell ⟨S, 0, none⟩ u0).setCell ⟨S, 1, none⟩ u1) w gen m T l sg so sk sc := by
 have hb := h.big
 have hE : Ext (At S) wr ((wr.setCell ⟨S, 0, none⟩ u0).setCell ⟨S, 1, none⟩ u1) := ((Ext.refl (At S) wr).setAt _ _).setAt _ _
 refine ⟨h.ext.trans2 hE (fun i hi e => by unfold At at e; omega), hE.blk h.boxA (by unfold At; omega), hE.blk h.boxR (by unfold At; omega), hE.blk h.boxT (by unfold At; omega), h.kill.ext hE (fun i _ e => by cases e; exact .inl (.inl hMS)), ?_, hb⟩
 obtain ⟨h1, h2⟩ := h.own
 refine ⟨h1, ?_⟩
 rcases h2 with h2 | ⟨g, cap, cur, hv2, hb2, hg, hr⟩
 ·exact .inl h2
 ·refine .inr ⟨g, cap, cur, hv2, hb2, (hE.block g (lt_of_block hg) (fun e => hv ?_)).trans hg, hr⟩
  cases e
  rw [hv2]; rfl
theorem CsM.putK (h : CsM M W wr w gen m T l sg so sk sc) (hs : SetAt (fun b => (M b ∨ b = W.heap.size + 1 ∨ b = T) ∨ sc.ownBlock = some b) wr sk' w m') : CsM M W ((wr.setCell ⟨T, 2, none⟩ (.int .i64 (w : Int))).setCell ⟨T, 3, none⟩ sk') w gen m' T l sg so sk' sc := by
 have hb := h.big
 have hE : Ext (At T) wr ((wr.setCell ⟨T, 2, none⟩ (.int .i64 (w : Int))).setCell ⟨T, 3, none⟩ sk') := ((Ext.refl (At T) wr).setAt _ _).setAt _ _
 exact ⟨h.ext.trans2 hE (fun i hi e => by unfold At at e; omega), hE.blk h.boxA (by unfold At; omega), hE.blk h.boxR (by unfold At; omega), (set_same (j := 3) (set_same (j := 2) h.boxT)).trans rfl, hs.ext hE (fun i _ e => .inl (.inr (.inr e))), row_keep h.own hE (fun i hi e => by unfold At at e; omega), hb⟩
theorem CsM.app {o : Obj} {a b : Int} (h : CsM M W wr w gen m T l sg so sk sc) (hown : w'.ownsRow (T + 1) 50 2 sc' (l.length + 1) (flatC l ++ [.int .i64 a, .int .i64 b]))
  (hg : (wr.alloc o).grownBy w' sc.ownBlock) (hv : sc'.ownBlock = sc.ownBlock ∨ sc'.ownBlock = some (wr.alloc o).heap.size) :
  CsM M W (w'.setCell ⟨T, 4, none⟩ sc') w gen m T (l ++ [(a, b)]) sg so sk sc' ∧ w'.heap[T]? = some (.cells #[.int .i64 (w : Int), sg, .int .i64 (w : Int), sk, sc] 28 (0, 0)) := by
 have hE : Ext (fun k => sc.ownBlock = some k) wr w' := ((Ext.refl _ wr).alloc o).grown hg (fun k hk _ => hk)
 have hb := h.big
 have hne : ∀ k, k ≤ T → ¬ sc.ownBlock = some k := fun k hk e => by have := (h.ownLt k e).1; omega
 have hE2 : Ext (At T) w' (w'.setCell ⟨T, 4, none⟩ sc') := (Ext.refl (At T) _).setAt _ _
 have hT := hE.blk h.boxT (hne T (Nat.le_refl _))
 refine ⟨⟨?_, ?_, ?_, ?_, ?_, ?_, hb⟩, hT⟩
 ·refine (h.ext.trans2 hE (fun i hi e => ?_)).trans2 hE2 (fun i hi e => by unfold At at e; omega)
  have := (h.ownLt i e).1
  omega
 ·exact hE2.blk (hE.blk h.boxA (hne _ (by omega))) (by unfold At; omega)
 ·exact hE2.blk (hE.blk h.boxR (hne _ (by omega))) (by unfold At; omega)
 ·exact (set_same (j := 4) hT).trans rfl
 ·exact (area_set hg hv h.kill).ext hE2 (fun i _ e => .inl (.inr (.inr e)))
 ·have e1 : (l ++ [(a, b)]).length = l.length + 1 := by simp
  rw [e1, ← flatC_app]
  exact row_keep hown hE2 (fun i hi e => by unfold At at e; omega)
theorem CsM.slice (h : CsM M W wr w gen m T l sg so sk sc) : ∃ a c, sc = .slice a l.length c := (Row.ofOwns (M := No) h.own (fun _ _ x => x)).slice
end
def ClosePost (M : Nat → Prop) (w gen : Nat) (rs : List Nat) (W : World) (e : Ending) (w' : World) : Prop := ((copTo w gen rs w).length ≤ 64 → TrEPost M (closeT w gen rs) W e w') ∧ (64 < (copTo w gen rs w).length → TrNo 7 W e w')
theorem tclone_lo (w m : Nat) (sl : Value) (W : World) (h : SetAt No W sl w m) :
  Calls Tryd.prog 50 #[.agg #[.int .i64 (w : Int), sl]] W (SetPost (Lo W.heap.size) w m W) := tclone_any (Lo W.heap.size) w m sl W (fun _ x => x) h
theorem SetAt.early5 {L w m D : Nat} {w7 : World} {sl u0 u1 u2 u3 u4 : Value} (h : SetAt (Lo L) w7 sl w m) (hlt : D < L) : SetAt (Lo L) (((((w7.setCell ⟨D, 0, none⟩ u0).setCell ⟨D, 1, none⟩ u1).setCell ⟨D, 2, none⟩ u2).setCell ⟨D, 3, none⟩ u3).setCell ⟨D, 4, none⟩ u4) sl w m :=
 h.ext (set5 w7 D u0 u1 u2 u3 u4) (fun i _ e => by cases e; exact hlt)
theorem CsM.late {M : Nat → Prop} {W w7 : World} {w gen L : Nat} {sg so sk : Value} (hx : Ext No W w7) (hA : w7.heap[W.heap.size]? = some (.cells #[.int .i64 (w : Int), sg, so] 70 (0, 0)))
  (hC : w7.heap[W.heap.size + 1]? = some (.cells #[.int .i64 0, .slice none 0 0, .int .i64 0, .slice none 0 0, .slice none 0 0] 28 (0, 0))) (hs : SetAt (Lo L) w7 sk w gen) (hL : W.heap.size + 1 < L) (hM : ∀ b, M b → b < W.heap.size) :
  CsM M W (w7.alloc (.cells #[.int .i64 (w : Int), sg, .int .i64 (w : Int), sk, .slice none 0 0] 28)) w gen gen w7.heap.size [] sg so sk (.slice none 0 0) :=
 ⟨hx.alloc _, alloc_under hA, alloc_under hC, alloc_top rfl, (hs.mono (fun i hi e => by
  unfold Lo
  rcases e with (e | e | e) | e
  ·have := hM i e; omega
  ·omega
  ·omega
  ·cases e)).extNo ((Ext.refl _ _).alloc _), World.ownsRow_nil _ _ _ _, lt_of_block hC⟩
theorem CsM.early {M : Nat → Prop} {W w7 : World} {w gen L D : Nat} {sg so sk : Value} (hx : Ext No W w7) (hA : w7.heap[W.heap.size]? = some (.cells #[.int .i64 (w : Int), sg, so] 70 (0, 0)))
  (hC : w7.heap[W.heap.size + 1]? = some (.cells #[.int .i64 0, .slice none 0 0, .int .i64 0, .slice none 0 0, .slice none 0 0] 28 (0, 0))) (hs : SetAt (Lo L) w7 sk w gen) (hD : W.heap.size + 1 < D) (hL : D < L) (hI : w7.heap[D]? = some (.cells #[.int .i64 0, .slice none 0 0, .int .i64 0, .slice none 0 0, .slice none 0 0] 28 (0, 0))) (hM : ∀ b, M b → b < W.heap.size) :
  CsM M W (((((w7.setCell ⟨D, 0, none⟩ (.int .i64 (w : Int))).setCell ⟨D, 1, none⟩ sg).setCell ⟨D, 2, none⟩ (.int .i64 (w : Int))).setCell ⟨D, 3, none⟩ sk).setCell ⟨D, 4, none⟩ (.slice none 0 0)) w gen gen D [] sg so sk (.slice none 0 0) := by
 have hE := set5 w7 D (.int .i64 (w : Int)) sg (.int .i64 (w : Int)) sk (.slice none 0 0)
 exact ⟨hx.trans2 hE (fun i hi e => by unfold At at e; omega), hE.blk hA (by unfold At; omega), hE.blk hC (by unfold At; omega), BoxR.fin5 ⟨_, rfl, hI⟩ _ _ _ _ _, (hs.early5 hL).mono (fun i hi e => by
  unfold Lo
  rcases e with (e | e | e) | e
  ·have := hM i e; omega
  ·omega
  ·omega
  ·cases e), World.ownsRow_nil _ _ _ _, hD⟩
end Go.Proofs.YtgakojgkkdmabaaDoor

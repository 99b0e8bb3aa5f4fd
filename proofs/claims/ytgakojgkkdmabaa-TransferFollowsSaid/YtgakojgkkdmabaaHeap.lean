/- Frames: what a call leaves as it was. No program is named here. -/
import Derived.WalkKit
import Derived.ProofKit
import Derived.WalkSmall
import Derived.Lib.Hide
import Derived.OneCell
namespace Go.Proofs.Ytgakojgkkdmabaa
open Go Go.RowKit

/-- Every block that was there and that is not in M is as it was. -/
structure Ext (M : Nat → Prop) (w w' : World) : Prop where
  os : w'.os = w.os
  tape : w'.tape = w.tape
  output : w'.output = w.output
  size : w.heap.size ≤ w'.heap.size
  block : ∀ k, k < w.heap.size → ¬ M k → w'.heap[k]? = w.heap[k]?

def No : Nat → Prop := fun _ => False
def At (b : Nat) : Nat → Prop := fun k => k = b
def From (b : Nat) : Nat → Prop := fun k => b ≤ k

theorem Ext.refl (M : Nat → Prop) (w : World) : Ext M w w := ⟨rfl, rfl, rfl, Nat.le_refl _, fun _ _ _ => rfl⟩
theorem Ext.trans2 {M M' : Nat → Prop} {a b c : World} (h : Ext M a b) (k : Ext M' b c) (hm : ∀ i, i < a.heap.size → M' i → M i) : Ext M a c :=
  ⟨k.os.trans h.os, k.tape.trans h.tape, k.output.trans h.output, Nat.le_trans h.size k.size,
    fun i hi hn => (k.block i (Nat.lt_of_lt_of_le hi h.size) (fun x => hn (hm i hi x))).trans (h.block i hi hn)⟩
theorem Ext.trans {M : Nat → Prop} {a b c : World} (h : Ext M a b) (k : Ext M b c) : Ext M a c := h.trans2 k (fun _ _ x => x)
theorem Ext.transNo {M : Nat → Prop} {a b c : World} (h : Ext M a b) (k : Ext No b c) : Ext M a c := h.trans2 k (fun _ _ x => x.elim)
theorem Ext.mono {M M' : Nat → Prop} {a b : World} (h : Ext M a b) (hm : ∀ i, i < a.heap.size → M i → M' i) : Ext M' a b :=
  ⟨h.os, h.tape, h.output, h.size, fun i hi hn => h.block i hi (fun x => hn (hm i hi x))⟩
theorem Ext.ofNo {M : Nat → Prop} {a b : World} (h : Ext No a b) : Ext M a b := h.mono (fun _ _ x => x.elim)
/-- what was changed was made meanwhile -/
theorem Ext.toNo {M : Nat → Prop} {a b : World} (h : Ext M a b) (hm : ∀ i, i < a.heap.size → ¬ M i) : Ext No a b := h.mono (fun i hi x => (hm i hi x).elim)
theorem Ext.drew {M : Nat → Prop} {a w : World} (h : Ext M a w) : Ext M a w.drew := ⟨h.os, h.tape, h.output, h.size, h.block⟩
theorem Ext.drewN {M : Nat → Prop} {a w : World} (h : Ext M a w) (n : Nat) : Ext M a (w.drewN n) := ⟨h.os, h.tape, h.output, h.size, h.block⟩
theorem Ext.alloc {M : Nat → Prop} {a w : World} (h : Ext M a w) (o : Obj) : Ext M a (w.alloc o) :=
  h.transNo ⟨rfl, rfl, rfl, by simp, fun k hk _ => Below.heap_alloc _ _ _ hk⟩
theorem Ext.setCell {M : Nat → Prop} {a w : World} (h : Ext M a w) {p : Addr} (hp : p.block < a.heap.size → M p.block) (u : Value) : Ext M a (w.setCell p u) :=
  h.trans2 (M' := At p.block) ⟨rfl, rfl, rfl, by simp [World.setCell], fun k hk hn => Below.heap_setCell _ _ _ _ hn⟩ (fun i hi x => by cases x; exact hp hi)
theorem Ext.grown {M : Nat → Prop} {a w w' : World} {row : Option Nat} (h : Ext M a w) (hg : w.grownBy w' row) (hr : ∀ k, row = some k → k < a.heap.size → M k) : Ext M a w' :=
  h.trans2 (M' := fun k => row = some k) ⟨hg.os, hg.tape, hg.output, hg.size, fun k hk hn => hg.block k hk (fun e => hn e.symm)⟩ (fun i hi x => hr i x hi)
theorem Ext.cell {M : Nat → Prop} {w w' : World} (h : Ext M w w') {p : Addr} (hp : p.block < w.heap.size) (hn : ¬ M p.block) : w'.cell? p = w.cell? p := World.cell?_of_block (w := w) (h.block p.block hp hn)
theorem Ext.frozen {M : Nat → Prop} {w w' : World} (h : Ext M w w') {p : Addr} (hp : p.block < w.heap.size) (hn : ¬ M p.block) : w'.frozen? p = w.frozen? p := World.frozen?_of_block (w := w) (h.block p.block hp hn)
theorem Ext.below {M : Nat → Prop} {w w' : World} (h : Ext M w w') (hm : ∀ i, i < w.heap.size → ¬ M i) : Below w.heap.size w w' := ⟨h.os, h.tape, h.output, h.size, fun k hk => h.block k hk (hm k hk)⟩
theorem Ext.belowNo {w w' : World} (h : Ext No w w') : Below w.heap.size w w' := h.below (fun _ _ x => x.elim)
theorem Ext.ofBelow {w w' : World} (h : Below w.heap.size w w') : Ext No w w' := ⟨h.os, h.tape, h.output, h.size, fun k hk _ => h.block k hk⟩

/-- A slice of n elements of s cells each, whose cells are vs, in a block that is not in M. -/
def Row (M : Nat → Prop) (w : World) (s : Nat) (sl : Value) (n : Nat) (vs : List Value) : Prop :=
  vs.length = n * s ∧ n ≤ 9223372036854775807 ∧ ∃ a cap, sl = .slice a n cap ∧ (n ≤ cap ∧ cap ≤ 9223372036854775807) ∧
    (n = 0 ∨ ∃ b off, a = some ⟨b, off, none⟩ ∧ b < w.heap.size ∧ ¬ M b ∧ ∀ j u, vs[j]? = some u → w.cell? ⟨b, off + j, none⟩ = some u)

theorem Row.ext {M M' : Nat → Prop} {w w' : World} {s n : Nat} {sl : Value} {vs : List Value} (h : Row M w s sl n vs) (hx : Ext M' w w') (hm : ∀ i, i < w.heap.size → M' i → M i) : Row M w' s sl n vs := by
  obtain ⟨h1, h2, a, cap, h3, hcp, h4⟩ := h
  refine ⟨h1, h2, a, cap, h3, hcp, ?_⟩
  rcases h4 with h4 | ⟨b, off, h5, h6, h7, h8⟩
  · exact .inl h4
  · exact .inr ⟨b, off, h5, Nat.lt_of_lt_of_le h6 hx.size, h7, fun j u hj => (hx.cell (p := ⟨b, off + j, none⟩) h6 (fun x => h7 (hm b h6 x))).trans (h8 j u hj)⟩
theorem Row.extNo {M : Nat → Prop} {w w' : World} {s n : Nat} {sl : Value} {vs : List Value} (h : Row M w s sl n vs) (hx : Ext No w w') : Row M w' s sl n vs := h.ext hx (fun _ _ x => x.elim)
theorem Row.mono {M M' : Nat → Prop} {w : World} {s n : Nat} {sl : Value} {vs : List Value} (h : Row M w s sl n vs) (hm : ∀ i, i < w.heap.size → M' i → M i) : Row M' w s sl n vs := by
  obtain ⟨h1, h2, a, cap, h3, hcp, h4⟩ := h
  refine ⟨h1, h2, a, cap, h3, hcp, ?_⟩
  rcases h4 with h4 | ⟨b, off, h5, h6, h7, h8⟩
  · exact .inl h4
  · exact .inr ⟨b, off, h5, h6, fun x => h7 (hm b h6 x), h8⟩
theorem Row.nil (M : Nat → Prop) (w : World) (s : Nat) (a : Option Addr) (cap : Nat) (hc : cap ≤ 9223372036854775807) : Row M w s (.slice a 0 cap) 0 [] := ⟨by simp, by omega, a, cap, rfl, ⟨by omega, hc⟩, .inl rfl⟩
/-- the shape of a slice with at least one element -/
theorem Row.shape {M : Nat → Prop} {w : World} {s n : Nat} {sl : Value} {vs : List Value} (h : Row M w s sl n vs) (hn : 0 < n) :
    ∃ b off cap, sl = .slice (some ⟨b, off, none⟩) n cap ∧ b < w.heap.size ∧ ¬ M b ∧ ∀ j u, vs[j]? = some u → w.cell? ⟨b, off + j, none⟩ = some u := by
  obtain ⟨h1, h2, a, cap, h3, _, h4⟩ := h
  rcases h4 with h4 | ⟨b, off, h5, h6, h7, h8⟩
  · omega
  · exact ⟨b, off, cap, by rw [h3, h5], h6, h7, h8⟩
theorem Row.slice {M : Nat → Prop} {w : World} {s n : Nat} {sl : Value} {vs : List Value} (h : Row M w s sl n vs) : ∃ a cap, sl = .slice a n cap := by
  obtain ⟨_, _, a, cap, h3, _⟩ := h; exact ⟨a, cap, h3⟩
theorem Row.caps {M : Nat → Prop} {w : World} {s n cap : Nat} {a : Option Addr} {vs : List Value} (h : Row M w s (.slice a n cap) n vs) : n ≤ cap ∧ cap ≤ 9223372036854775807 := by
  obtain ⟨_, _, a', cap', h3, h4, _⟩ := h
  simp only [Value.slice.injEq] at h3
  obtain ⟨_, _, rfl⟩ := h3
  exact h4
/-- what the call itself made and filled -/
theorem Row.ofOwns {M : Nat → Prop} {w : World} {base : Nat} {e : TypeId} {size n : Nat} {v : Value} {xs : List Value} (h : w.ownsRow base e size v n xs) (hM : ∀ b, base ≤ b → ¬ M b) : Row M w size v n xs := by
  have hc := h
  obtain ⟨h1, h2⟩ := h
  rcases h2 with ⟨rfl, rfl⟩ | ⟨g, cap, cur, rfl, hb, hg, hl, hm, hs, ht⟩
  · exact ⟨h1, by omega, none, 0, rfl, ⟨by omega, by omega⟩, .inl rfl⟩
  · refine ⟨h1, by simp only [maxLen] at hm; omega, _, cap, rfl, ⟨hl, by simp only [maxLen] at hm; omega⟩, .inr ⟨g, 0, rfl, lt_of_block hg, hM g hb, fun j u hj => ?_⟩⟩
    have := hc.cells (g := g) (by simp [Value.ownBlock]) j u hj
    have hadd : (⟨g, 0, none⟩ : Addr).add j = ⟨g, j, none⟩ := by unfold Addr.add; split <;> simp_all
    rw [hadd] at this
    rw [Nat.zero_add]
    exact this

/-- a slice that was there, seen behind the making of a block: it is not in that block -/
theorem Row.newAt {M : Nat → Prop} {w w' : World} {s n : Nat} {sl : Value} {vs : List Value} (h : Row M w s sl n vs) (hx : Ext No w w') (M' : Nat → Prop) (hM : ∀ i, i < w.heap.size → M' i → M i) : Row M' w' s sl n vs := by
  obtain ⟨h1, h2, a, cap, h3, hcp, h4⟩ := h
  refine ⟨h1, h2, a, cap, h3, hcp, ?_⟩
  rcases h4 with h4 | ⟨b, off, h5, h6, h7, h8⟩
  · exact .inl h4
  · exact .inr ⟨b, off, h5, Nat.lt_of_lt_of_le h6 hx.size, fun x => h7 (hM b h6 x), fun j u hj => (hx.cell (p := ⟨b, off + j, none⟩) h6 (fun x => x.elim)).trans (h8 j u hj)⟩

theorem alloc_top {w : World} {o : Obj} {n : Nat} (h : n = w.heap.size) : (w.alloc o).heap[n]? = some o := by subst h; exact heap_alloc_new w o
theorem alloc_under {w : World} {o o' : Obj} {n : Nat} (h : w.heap[n]? = some o') : (w.alloc o).heap[n]? = some o' := (Below.heap_alloc w o n (lt_of_block h)).trans h
theorem Ext.blk {M : Nat → Prop} {w w' : World} {o : Obj} {n : Nat} (hx : Ext M w w') (h : w.heap[n]? = some o) (hn : ¬ M n) : w'.heap[n]? = some o := (hx.block n (lt_of_block h) hn).trans h
theorem set_other {w : World} {a : Addr} {u : Value} {n : Nat} {o : Obj} (h : w.heap[n]? = some o) (hn : n ≠ a.block) : (w.setCell a u).heap[n]? = some o := (Below.heap_setCell w a u n hn).trans h
theorem set_same {w : World} {b j : Nat} {cs : Array Value} {T : TypeId} {u : Value} (h : w.heap[b]? = some (.cells cs T (0, 0))) : (w.setCell ⟨b, j, none⟩ u).heap[b]? = some (.cells (cs.setIfInBounds j u) T (0, 0)) := by
  have hlt := lt_of_block h
  have h' : w.heap[b] = .cells cs T (0, 0) := by simpa [Array.getElem?_eq_getElem hlt] using h
  show (w.heap.modify b _)[b]? = _
  rw [Array.getElem?_eq_getElem (by simpa using hlt), Array.getElem_modify_self, h']
  rfl
theorem cellOf {w : World} {b : Nat} {cs : Array Value} {T : TypeId} (h : w.heap[b]? = some (.cells cs T (0, 0))) (j : Nat) : w.cell? ⟨b, j, none⟩ = cs[j]? := by
  simp [World.cell?, h]
theorem freeOf {w : World} {b : Nat} {cs : Array Value} {T : TypeId} (h : w.heap[b]? = some (.cells cs T (0, 0))) (j : Nat) : w.frozen? ⟨b, j, none⟩ = false := by
  simp [World.frozen?, h]

theorem Ext.keep {w w' : World} {a : Addr} {v : Value} (hx : Ext No w w') (h : w.cell? a = some v) : w'.cell? a = some v := (hx.cell (World.block_lt_of_cell? w a h) (fun x => x.elim)).trans h
theorem Ext.keepM {M : Nat → Prop} {w w' : World} {a : Addr} {v : Value} (hx : Ext M w w') (h : w.cell? a = some v) (hn : ¬ M a.block) : w'.cell? a = some v := (hx.cell (World.block_lt_of_cell? w a h) hn).trans h

/-- a slice of integers that came in, out of what the shell of a proof says of it -/
theorem Row.ofArg {w : World} {k : IntKind} {x : Addr} {len cap : Nat} {zs : List Int} (hl : len ≤ cap) (hm : cap ≤ maxLen) (hz : zs.length = cap) (hc : ∀ i, i < zs.length → w.cell? (x.add i) = some (.int k (zs.getD i 0))) :
    Row No w 1 (.slice (some x) len cap) (zs.take len).length ((zs.take len).map (.int k)) := by
  have hlen : (zs.take len).length = len := by simp; omega
  rw [hlen]
  refine ⟨by simp; omega, by simp only [maxLen] at hm; omega, some x, cap, rfl, ⟨hl, by simp only [maxLen] at hm; omega⟩, ?_⟩
  by_cases h0 : len = 0
  · exact .inl h0
  · right
    have h1 := hc 0 (by omega)
    have hx0 : x.add 0 = x := by simp [Addr.add]
    rw [hx0] at h1
    obtain ⟨b, off, sp⟩ := x
    have hsp : sp = none := by
      cases sp with
      | none => rfl
      | some s =>
        exfalso
        simp only [World.cell?] at h1
        split at h1 <;> simp at h1
    subst hsp
    refine ⟨b, off, rfl, World.block_lt_of_cell? w _ h1, fun x => x.elim, fun j u hj => ?_⟩
    have hj2 : j < len := by
      have := (List.getElem?_eq_some_iff.1 hj).1
      simp at this
      omega
    have h2 := hc j (by omega)
    have hadd : (⟨b, off, none⟩ : Addr).add j = ⟨b, off + j, none⟩ := by unfold Addr.add; split <;> simp_all
    rw [hadd] at h2
    rw [h2]
    rw [← hj]
    have hjz : j < zs.length := by omega
    simp [hj2, hjz]
end Go.Proofs.Ytgakojgkkdmabaa

/- Merged: Held2 FL -/
import Derived.Test.YtfejidihocoboaaHeld
import Derived.Test.YtfejidihocoboaaTrF
import Derived.Deep.LoopGhost
import Derived.Test.YtfejidihocoboaaTrB
import Derived.Test.YtfejidihocoboaaTrC
set_option linter.unusedVariables false
set_option linter.unusedSimpArgs false
/- Held2 -/
namespace Go.Proofs.Ytfejidihocoboaa
open Go Go.RowKit
section
variable {P : Program} {ops : Array Oper} {Q : Exit → Act → World → Prop} {md : Region.Mode} {S : World → Prop}
/-- one operation of several that may come next -/
def NextOp (P : Program) (md : Region.Mode) (ops : Array Oper) (Q : Exit → Act → World → Prop) (S : World → Prop) (fuel : Nat) (listed : Array Bool) (a : Act) (w : World) (i : Nat) : Prop :=
  ∃ o tl, ops.toList.drop i = o :: tl ∧ Region.wanted o (yielded ops a.tmps) = true ∧ ∀ K' : Act → World → Prop, Shut (∀ a w, S w → (S w → wpAnyH P md ops Q S fuel (listed.setIfInBounds i true) a w) → K' a w) → Oper.wp P o a w K' Q
theorem NextOp.mk {i : Nat} {o : Oper} {tl : List Oper} {fuel : Nat} {listed : Array Bool} {a : Act} {w : World} (ho : ops.toList.drop i = o :: tl) (hw : Region.wanted o (yielded ops a.tmps) = true)
    (h : ∀ K' : Act → World → Prop, Shut (∀ a w, S w → (S w → wpAnyH P md ops Q S fuel (listed.setIfInBounds i true) a w) → K' a w) → Oper.wp P o a w K' Q) : NextOp P md ops Q S fuel listed a w i := ⟨o, tl, ho, hw, h⟩
theorem held_next {rs : List Nat} {fuel : Nat} {listed : Array Bool} {a : Act} {w : World} (hr : Region.ready md ops listed = rs) (hne : rs ≠ []) (h : ∀ i ∈ rs, NextOp P md ops Q S fuel listed a w i) : wpAnyH P md ops Q S (fuel + 1) listed a w := by
  refine wpAnyH_ready hr hne (fun i hi => ?_)
  obtain ⟨o, tl, ho, hw, hk⟩ := h i hi
  have key : AllReadyH P md ops Q S fuel listed a w [i] := AllReadyH.cons (drop_get ho) (fun K' hK => by rw [if_pos hw]; exact hk K' hK) AllReadyH.nil
  exact key i (List.mem_singleton.2 rfl)
theorem held_next2 {i j : Nat} {fuel : Nat} {listed : Array Bool} {a : Act} {w : World} (hr : Region.ready md ops listed = [i, j]) (h1 : NextOp P md ops Q S fuel listed a w i) (h2 : NextOp P md ops Q S fuel listed a w j) : wpAnyH P md ops Q S (fuel + 1) listed a w :=
  held_next hr (by simp) (fun x hx => by
    simp only [List.mem_cons, List.not_mem_nil, or_false] at hx
    rcases hx with rfl | rfl
    · exact h1
    · exact h2)
end
end Go.Proofs.Ytfejidihocoboaa

/- FL -/
namespace Go.Proofs.Ytfejidihocoboaa
open Go Go.RowKit
/-- a kind of element: its cells, and what holds of what it points to -/
structure EK (β : Type) where
  s : Nat
  T : TypeId
  cells : β → List Value
  ok : (Nat → Prop) → World → β → Prop
  len : ∀ b, (cells b).length = s
  ext : ∀ {M M' : Nat → Prop} {w w' : World} {b : β}, ok M w b → Ext M' w w' → (∀ i, i < w.heap.size → M' i → M i) → ok M w' b
  mono : ∀ {M M' : Nat → Prop} {w : World} {b : β}, ok M w b → (∀ i, i < w.heap.size → M' i → M i) → ok M' w b
structure LAt {β : Type} (K : EK β) (M : Nat → Prop) (w : World) (sl : Value) (L : List β) : Prop where
  row : Row M w K.s sl L.length (L.flatMap K.cells)
  ok : ∀ p ∈ L, K.ok M w p
structure LOwn {β : Type} (K : EK β) (A : Nat → Prop) (w : World) (base : Nat) (v : Value) (L : List β) : Prop where
  own : w.ownsRow base K.T K.s v L.length (L.flatMap K.cells)
  ok : ∀ p ∈ L, K.ok (fun b => A b ∨ v.ownBlock = some b) w p
section
variable {β : Type} {K : EK β} {M M' A : Nat → Prop} {w w' : World} {sl v v' : Value} {L : List β} {base g cap : Nat} {p : β}
theorem flat_get2 (K : EK β) (L : List β) (i j : Nat) (hi : i < L.length) (hj : j < K.s) : (L.flatMap K.cells)[i * K.s + j]? = (K.cells L[i])[j]? := by
  rw [Nat.mul_comm]
  exact flat_get K.cells K.s K.len L i j hi hj
theorem LAt.ext (h : LAt K M w sl L) (hx : Ext M' w w') (hm : ∀ i, i < w.heap.size → M' i → M i) : LAt K M w' sl L := ⟨h.row.ext hx hm, fun p hp => K.ext (h.ok p hp) hx hm⟩
theorem LAt.extNo (h : LAt K M w sl L) (hx : Ext No w w') : LAt K M w' sl L := h.ext hx (fun _ _ x => x.elim)
theorem LAt.mono (h : LAt K M w sl L) (hm : ∀ i, i < w.heap.size → M' i → M i) : LAt K M' w sl L := ⟨h.row.mono hm, fun p hp => K.mono (h.ok p hp) hm⟩
theorem LAt.slice (h : LAt K M w sl L) : ∃ a c, sl = .slice a L.length c := h.row.slice
theorem LAt.at (h : LAt K M w sl L) {i : Nat} (hi : i < L.length) : ∃ b off cap, sl = .slice (some ⟨b, off, none⟩) L.length cap ∧ b < w.heap.size ∧ ¬ M b ∧
    ∀ k (hk : k < L.length) j u, j < K.s → (K.cells L[k])[j]? = some u → w.cell? ⟨b, off + (k * K.s + j), none⟩ = some u := by
  obtain ⟨b, off, cap, h1, h2, h3, h4⟩ := h.row.shape (by omega)
  exact ⟨b, off, cap, h1, h2, h3, fun k hk j u hj hu => h4 _ u (by rw [flat_get2 K L k j hk hj]; exact hu)⟩
theorem LAt.nil (a : Option Addr) (c : Nat) (hc : c ≤ 9223372036854775807) : LAt K M w (.slice a 0 c) [] := ⟨Row.nil _ _ _ _ _ hc, fun _ h => by cases h⟩
theorem LOwn.nil (K : EK β) (A : Nat → Prop) (w : World) (base : Nat) : LOwn K A w base (.slice none 0 0) [] := ⟨⟨by simp, .inl ⟨rfl, rfl⟩⟩, fun _ h => by cases h⟩
theorem LOwn.ext (h : LOwn K A w base v L) (hx : Ext M w w') (h1 : ∀ i, base ≤ i → ¬ M i) (h2 : ∀ i, M i → A i) : LOwn K A w' base v L :=
  ⟨row_keep h.own hx h1, fun p hp => K.ext (h.ok p hp) hx (fun i _ e => .inl (h2 i e))⟩
theorem LOwn.ext2 (h : LOwn K A w base v L) (hx : Ext M w w') (h1 : ∀ i, v.ownBlock = some i → ¬ M i) (h2 : ∀ i, i < w.heap.size → M i → A i) : LOwn K A w' base v L :=
  ⟨row_keep2 h.own hx h1, fun p hp => K.ext (h.ok p hp) hx (fun i hi e => .inl (h2 i hi e))⟩
theorem LOwn.extNo (h : LOwn K A w base v L) (hx : Ext No w w') : LOwn K A w' base v L := h.ext hx (fun _ _ x => x) (fun _ x => x.elim)
theorem LOwn.mono {A' : Nat → Prop} (h : LOwn K A w base v L) (hm : ∀ i, i < w.heap.size → A' i → A i) : LOwn K A' w base v L := ⟨h.own, fun p hp => K.mono (h.ok p hp) (fun i hi e => by
  rcases e with e | e
  · exact .inl (hm i hi e)
  · exact .inr e)⟩
theorem LOwn.slice (h : LOwn K A w base v L) : ∃ a c, v = .slice a L.length c := (Row.ofOwns (M := No) h.own (fun _ _ x => x)).slice
theorem LOwn.lt (h : LOwn K A w base v L) (k : Nat) (hk : v.ownBlock = some k) : base ≤ k ∧ k < w.heap.size := World.ownsRow.lt h.own k hk
theorem LOwn.app {E : Nat → Prop} (h : LOwn K A w base v L) (hp : K.ok (fun b => A b ∨ v.ownBlock = some b) w p) (hown : w'.ownsRow base K.T K.s v' (L.length + 1) (L.flatMap K.cells ++ K.cells p))
    (hE : Ext E w w') (hE2 : ∀ i, E i → v.ownBlock = some i) (hv : v'.ownBlock = v.ownBlock ∨ ∀ k, v'.ownBlock = some k → w.heap.size ≤ k) : LOwn K A w' base v' (L ++ [p]) := by
  refine ⟨?_, fun q hq => ?_⟩
  · rw [List.length_append, List.flatMap_append, List.flatMap_cons, List.flatMap_nil, List.append_nil]; exact hown
  · have hq2 : K.ok (fun b => A b ∨ v.ownBlock = some b) w q := by
      rcases List.mem_append.1 hq with hq | hq
      · exact h.ok q hq
      · rw [List.mem_singleton.1 hq]; exact hp
    have hq3 : K.ok (fun b => (A b ∨ v.ownBlock = some b) ∨ w.heap.size ≤ b) w q := K.mono hq2 (fun i hi e => by
      rcases e with e | e
      · exact e
      · omega)
    refine K.mono (K.ext hq3 hE (fun i _ e => .inl (.inr (hE2 i e)))) (fun i _ e => ?_)
    rcases e with e | e
    · exact .inl (.inl e)
    · rcases hv with hv | hv
      · rw [hv] at e; exact .inl (.inr e)
      · exact .inr (hv i e)
theorem LOwn.list (h : LOwn K A w base v L) (hb : ∀ b, base ≤ b → ¬ M b) (hA : ∀ b, M b → A b) : LAt K M w v L :=
  ⟨Row.ofOwns h.own hb, fun p hp => K.mono (h.ok p hp) (fun i _ e => .inl (hA i e))⟩
/-- the same, where only the slice's own block is known to be clear -/
theorem LOwn.list2 (h : LOwn K A w base v L) (hb : ∀ b, v.ownBlock = some b → ¬ M b) (hA : ∀ b, M b → A b) : LAt K M w v L := by
  have h0 : Row No w K.s v L.length (L.flatMap K.cells) := Row.ofOwns h.own (fun _ _ x => x)
  refine ⟨?_, fun p hp => K.mono (h.ok p hp) (fun i _ e => .inl (hA i e))⟩
  obtain ⟨h1, h2, a, c, rfl, hcp, h4⟩ := h0
  refine ⟨h1, h2, a, c, rfl, hcp, ?_⟩
  rcases h4 with h4 | ⟨b, off, h5, h6, _, h8⟩
  · exact .inl h4
  · refine .inr ⟨b, off, h5, h6, hb b ?_, h8⟩
    rw [h5]; rfl
end
/-! ### the three kinds -/
theorem Ints.at {M : Nat → Prop} {w : World} {sl : Value} {l : List Int} (h : Ints M w .i64 sl l) {i : Nat} (hi : i < l.length) : ∃ b off cap, sl = .slice (some ⟨b, off, none⟩) l.length cap ∧ b < w.heap.size ∧ ¬ M b ∧
    ∀ k (hk : k < l.length), w.cell? ⟨b, off + k, none⟩ = some (.int .i64 l[k]) := by
  obtain ⟨b, off, cap, h1, h2, h3, h4⟩ := Row.shape h (by omega)
  exact ⟨b, off, cap, h1, h2, h3, fun k hk => h4 k _ (by simp [hk])⟩
/-! ### systems -/
end Go.Proofs.Ytfejidihocoboaa

/- Arguments that came in, read: structs of numbers, slices of numbers and of such structs. -/
import Derived.Test.YtfejidihocoboaaHeap
import Derived.ProofKit
import Derived.Deep.Slices
set_option linter.unusedVariables false
set_option linter.unusedSimpArgs false
namespace Go.Proofs.Ytfejidihocoboaa
open Go Go.RowKit Go.ChangeShapes Go.WideShapes Go.Deep
theorem nat_split (n j : Nat) (hn : 0 < n) : j = n * (j / n) + j % n ∧ j % n < n := ⟨(Nat.div_add_mod j n).symm, Nat.mod_lt _ hn⟩
theorem rows_get {α : Type} (f : α → List Value) (n : Nat) : ∀ (l : List α), (∀ a ∈ l, (f a).length = n) → ∀ (i j : Nat) (hi : i < l.length), j < n → (l.flatMap f)[n * i + j]? = (f l[i])[j]? := by
  intro l
  induction l with
  | nil => intro _ i j hi; simp at hi
  | cons a l ih =>
    intro hf i j hi hj
    have ha := hf a (List.mem_cons_self ..)
    have ih := ih (fun b hb => hf b (List.mem_cons_of_mem _ hb))
    rw [List.flatMap_cons]
    cases i with
    | zero => simp only [Nat.mul_zero, Nat.zero_add, List.getElem_cons_zero]; rw [List.getElem?_append_left (by rw [ha]; exact hj)]
    | succ i =>
      rw [List.getElem?_append_right (by rw [ha, Nat.mul_add]; omega), ha]
      rw [show n * (i + 1) + j - n = n * i + j by rw [Nat.mul_add]; omega]
      rw [ih i j (by simpa using hi) hj]; rfl
theorem rows_len {α : Type} (f : α → List Value) (n : Nat) (l : List α) (hf : ∀ a ∈ l, (f a).length = n) : (l.flatMap f).length = l.length * n := by
  induction l with
  | nil => simp
  | cons a l ih => rw [List.flatMap_cons, List.length_append, hf a (List.mem_cons_self ..), ih (fun b hb => hf b (List.mem_cons_of_mem _ hb)), List.length_cons, Nat.add_mul]; omega
section
variable {H : Type} {enc : TypeId × Value → H} {P : Program} {w : World} {base : Nat} {spare : Nat → Bool} {held : Bool}
/-- whatever reads as t is n numbers of kind k -/
def IntsAt (enc : TypeId × Value → H) (P : Program) (w : World) (base : Nat) (spare : Nat → Bool) (held : Bool) (k : IntKind) (t : TypeId) (n : Nat) : Prop :=
  ∀ fuel cs x, DataW.trod enc P w base spare held fuel t cs = some x → ∃ zs : List Int, cs = zs.map (.int k) ∧ zs.length = n ∧ ∀ z ∈ zs, (Lit.int k z).wf = true
theorem ints_int {k : IntKind} {t : TypeId} (ht : P.underlying t = some (.int k)) : IntsAt enc P w base spare held k t 1 := fun _ _ _ h => by
  obtain ⟨n, h1, _, h2⟩ := DataW.trod_int ht h
  exact ⟨[n], h1, rfl, fun z hz => by simp at hz; rw [hz]; exact h2⟩
theorem add_plain (b off j : Nat) : (⟨b, off, none⟩ : Addr).add j = ⟨b, off + j, none⟩ := by unfold Addr.add; split <;> simp_all
theorem cell_plain {w : World} {x : Addr} {v : Value} (h : w.cell? x = some v) : x.spot = none := by
  obtain ⟨b, off, sp⟩ := x
  cases sp with
  | none => rfl
  | some s =>
    exfalso
    simp only [World.cell?] at h
    split at h <;> simp at h
theorem open_rows {t e : TypeId} {n : Nat} {k : IntKind} (ht : P.underlying t = some (.slice e)) (hC : P.cellsOf e = n) (hn : 0 < n) (hel : IntsAt enc P w base spare held k e n) {fuel : Nat} {cs : List Value} {x : DataW H × List MemPlace}
    (h : DataW.trod enc P w base spare held fuel t cs = some x) :
    ∃ (a : Option Addr) (cap : Nat) (zss : List (List Int)), cs = [.slice a zss.length cap] ∧ (∀ z ∈ zss, z.length = n ∧ ∀ y ∈ z, (Lit.int k y).wf = true) ∧ Row No w n (.slice a zss.length cap) zss.length (zss.flatMap fun z => z.map (.int k)) := by
  rcases open_slice ht h with ⟨rfl, _⟩ | ⟨a, len, cap, m, n', D, Pl, rfl, _, hl, hm, hmm, _, hi⟩
  · exact ⟨none, 0, [], rfl, by simp, Row.nil _ _ _ _ _ (by omega)⟩
  · have hlm : len ≤ m := by rw [hmm]; split <;> omega
    have hz : ∀ i, i < len → ∃ zs : List Int, (zs.length = n ∧ ∀ y ∈ zs, (Lit.int k y).wf = true) ∧ ∀ j, j < n → w.cell? (a.add (i * n + j)) = (zs.map (Value.int k))[j]? := by
      intro i hil
      obtain ⟨cs', h1, h2⟩ := hi i (by omega)
      obtain ⟨zs, h3, h4, h5⟩ := hel _ _ _ h2
      obtain ⟨_, h6, h7⟩ := World.cells?_some h1
      refine ⟨zs, ⟨h4, h5⟩, fun j hj => ?_⟩
      have := h7 j (by rw [hC]; exact hj)
      rw [h3] at this
      rw [← this, hC, Go.Deep.add_add]
    let zss : List (List Int) := (List.range len).attach.map fun i => (hz i.1 (List.mem_range.1 i.2)).choose
    have hlen : zss.length = len := by simp [zss]
    have hget : ∀ i (hi : i < zss.length), (zss[i].length = n ∧ ∀ y ∈ zss[i], (Lit.int k y).wf = true) ∧ ∀ j, j < n → w.cell? (a.add (i * n + j)) = (zss[i].map (Value.int k))[j]? := by
      intro i hi
      have hs := (hz i (by omega)).choose_spec
      have e : zss[i] = (hz i (by omega)).choose := by simp [zss]
      rw [e]; exact hs
    have hmem : ∀ z ∈ zss, z.length = n ∧ ∀ y ∈ z, (Lit.int k y).wf = true := fun z hz => by
      obtain ⟨i, hi, rfl⟩ := List.getElem_of_mem hz
      exact (hget i hi).1
    have hfl : (zss.flatMap fun z => z.map (Value.int k)).length = zss.length * n := rows_len _ n _ (fun z hz => by rw [List.length_map]; exact (hmem z hz).1)
    refine ⟨some a, cap, zss, by rw [hlen], hmem, hfl, by rw [hlen]; simp only [maxLen] at hm; omega, some a, cap, rfl, ⟨by rw [hlen]; exact hl, by simp only [maxLen] at hm; omega⟩, ?_⟩
    by_cases h0 : len = 0
    · exact .inl (by rw [hlen]; exact h0)
    · right
      have hl0 : 0 < zss.length := by omega
      have h1 := (hget 0 hl0).2 0 hn
      have hx0 : a.add (0 * n + 0) = a := by simp [Addr.add]
      rw [hx0] at h1
      have hl1 := (hget 0 hl0).1.1
      rw [List.getElem?_eq_getElem (by rw [List.length_map, hl1]; exact hn)] at h1
      have hsp := cell_plain h1
      obtain ⟨b, off, sp⟩ := a
      simp only at hsp
      subst hsp
      refine ⟨b, off, rfl, World.block_lt_of_cell? w _ h1, fun x => x.elim, fun j u hj => ?_⟩
      have hj2 : j < zss.length * n := by rw [← hfl]; exact (List.getElem?_eq_some_iff.1 hj).1
      obtain ⟨e1, e2⟩ := nat_split n j hn
      have hi : j / n < zss.length := by rw [Nat.div_lt_iff_lt_mul hn]; exact hj2
      have h3 := (hget (j / n) hi).2 (j % n) e2
      have h4 := rows_get (fun z : List Int => z.map (Value.int k)) n zss (fun z hz => by rw [List.length_map]; exact (hmem z hz).1) (j / n) (j % n) hi e2
      rw [← e1] at h4
      rw [h4] at hj
      rw [hj] at h3
      have hadd : (⟨b, off, none⟩ : Addr).add (j / n * n + j % n) = ⟨b, off + j, none⟩ := by
        have : j / n * n + j % n = j := by rw [Nat.mul_comm]; exact e1.symm
        rw [this]; exact add_plain _ _ _
      rw [hadd] at h3
      exact h3
theorem open_fields {t : TypeId} {fs : Array Field} {cs : Array Value} {d : DataW H} {p : List MemPlace} (hs : P.underlying t = some (.struct fs)) (h : DataW.Trod enc P w base spare held t (.agg cs) d p) :
    ∃ n, ∀ (i : Nat) (f : Field), fs[i]? = some f → ∃ x, DataW.trod enc P w base spare held n f.type ((cs.toList.drop f.offset).take (P.cellsOf f.type)) = some x := by
  obtain ⟨fuel, h⟩ := h
  obtain ⟨xs, n, _, _, hl, hlen, hx⟩ := DataW.trod_struct hs h
  refine ⟨n, fun i f hf => ?_⟩
  have hi : i < fs.size := (Array.getElem?_eq_some_iff.1 hf).1
  have h1 := hx i f hf
  rw [List.getElem?_eq_getElem (by omega)] at h1
  exact ⟨_, h1⟩
end
end Go.Proofs.Ytfejidihocoboaa

/- Arguments that are systems and lists of sets, read. -/
import Derived.Test.YtkdjdhflhlbelaaSt3
import Derived.Test.YtkdjdhflhlbelaaFL
set_option linter.unusedVariables false
set_option linter.unusedSimpArgs false
namespace Go.Proofs.Ytkdjdhflhlbelaa
open Go Go.RowKit Go.ChangeShapes Go.WideShapes Go.Deep
variable {H : Type} {enc : TypeId × Value → H} {W : World} {base : Nat} {spare : Nat → Bool} {held : Bool}
theorem open_list {β : Type} (K : EK β) {P : Program} {t e : TypeId} (ht : P.underlying t = some (.slice e)) (hC : P.cellsOf e = K.s) (hn : 0 < K.s)
  (hel : ∀ fuel cs x, cs.length = K.s → DataW.trod enc P W base spare held fuel e cs = some x → ∃ p : β, cs = K.cells p ∧ K.ok No W p) {fuel : Nat} {cs : List Value} {x : DataW H × List MemPlace}
  (h : DataW.trod enc P W base spare held fuel t cs = some x) : ∃ (sl : Value) (L : List β), cs = [sl] ∧ LAt K No W sl L := by
 rcases open_slice ht h with ⟨rfl, _⟩ | ⟨a, len, cap, m, n', D, Pl, rfl, _, hl, hm, hmm, _, hi⟩
 ·exact ⟨.slice none 0 0, [], rfl, LAt.nil _ _ (Nat.zero_le _)⟩
 ·have hlm : len ≤ m := by rw [hmm]; split <;> omega
  have hz : ∀ i, i < len → ∃ p : β, K.ok No W p ∧ ∀ j, j < K.s → W.cell? (a.add (i * K.s + j)) = (K.cells p)[j]? := by
   intro i hil
   obtain ⟨cs', h1, h2⟩ := hi i (by omega)
   obtain ⟨h5, h6, h7⟩ := World.cells?_some h1
   obtain ⟨p, h3, h4⟩ := hel _ _ _ (h6.trans hC) h2
   refine ⟨p, h4, fun j hj => ?_⟩
   have := h7 j (by rw [hC]; exact hj)
   rw [h3] at this
   rw [← this, hC, Go.Deep.add_add]
  let L : List β := (List.range len).attach.map fun i => (hz i.1 (List.mem_range.1 i.2)).choose
  have hlen : L.length = len := by simp [L]
  have hget : ∀ i (hi : i < L.length), K.ok No W L[i] ∧ ∀ j, j < K.s → W.cell? (a.add (i * K.s + j)) = (K.cells L[i])[j]? := by
   intro i hi
   have hs := (hz i (by omega)).choose_spec
   have e : L[i] = (hz i (by omega)).choose := by simp [L]
   rw [e]; exact hs
  have hfl : (L.flatMap K.cells).length = L.length * K.s := rows_len _ _ _ (fun z _ => K.len z)
  refine ⟨_, L, rfl, ⟨hfl, by rw [hlen]; simp only [maxLen] at hm; omega, some a, cap, by rw [hlen], ⟨by rw [hlen]; exact hl, by simp only [maxLen] at hm; omega⟩, ?_⟩, fun p hp => ?_⟩
  ·by_cases h0 : len = 0
   ·exact .inl (by rw [hlen]; exact h0)
   ·right
    have hl0 : 0 < L.length := by omega
    have h1 := (hget 0 hl0).2 0 hn
    have hx0 : a.add (0 * K.s + 0) = a := by simp [Addr.add]
    rw [hx0] at h1
    rw [List.getElem?_eq_getElem (by rw [K.len]; exact hn)] at h1
    have hsp := cell_plain h1
    obtain ⟨b, off, sp⟩ := a
    simp only at hsp
    subst hsp
    refine ⟨b, off, rfl, World.block_lt_of_cell? W _ h1, fun x => x.elim, fun j u hj => ?_⟩
    have hj2 : j < L.length * K.s := by rw [← hfl]; exact (List.getElem?_eq_some_iff.1 hj).1
    obtain ⟨e1, e2⟩ := nat_split K.s j hn
    have hi : j / K.s < L.length := by rw [Nat.div_lt_iff_lt_mul hn]; exact hj2
    have h3 := (hget (j / K.s) hi).2 (j % K.s) e2
    have h4 := rows_get K.cells K.s L (fun z _ => K.len z) (j / K.s) (j % K.s) hi e2
    rw [← e1] at h4
    rw [h4] at hj
    rw [hj] at h3
    have hadd : (⟨b, off, none⟩ : Addr).add (j / K.s * K.s + j % K.s) = ⟨b, off + j, none⟩ := by
     have : j / K.s * K.s + j % K.s = j := by rw [Nat.mul_comm]; exact e1.symm
     rw [this]; exact add_plain _ _ _
    rw [hadd] at h3
    exact h3
  ·obtain ⟨i, hi, rfl⟩ := List.getElem_of_mem hp
   exact (hget i hi).1
theorem flat_one : ∀ (zss : List (List Int)), (∀ z ∈ zss, z.length = 1) → zss.flatMap (fun z => z.map (Value.int .i64)) = (zss.map fun z => z[0]?.getD 0).map (Value.int .i64)
 | [], _ => rfl
 | z :: zss, h => by
  rw [List.flatMap_cons, flat_one zss (fun y hy => h y (List.mem_cons_of_mem _ hy))]
  match z, h z (List.mem_cons_self ..) with
  | [a], _ => rfl
theorem open_intsL {fuel : Nat} {cs : List Value} {x : DataW H × List MemPlace} (h : DataW.trod enc Try.prog W base spare held fuel 22 cs = some x) :
  ∃ p : List Int × Value, cs = kD.cells p ∧ kD.ok No W p := by
 obtain ⟨a, cap, zss, e, hz, hrow⟩ := open_rows (n := 1) (k := .i64) Try.underlying22 (by kernel_rfl) (by omega) (ints_int Try.underlying3) h
 refine ⟨(zss.map fun z => z[0]?.getD 0, .slice a zss.length cap), e, ?_⟩
 show Row No W 1 _ _ _
 rw [List.length_map, ← flat_one zss (fun z hz' => (hz z hz').1)]
 exact hrow
set_option maxRecDepth 100000 in
theorem open_setL {fuel : Nat} {cs : List Value} {x : DataW H × List MemPlace} (hsz : cs.length = 2) (h : DataW.trod enc Try.prog W base spare held fuel 33 cs = some x) :
  ∃ p : RawSet × Value, cs = kS.cells p ∧ kS.ok No W p := by
 match cs, hsz with
 | [v0, v1], _ =>
  obtain ⟨s, a, c, rfl, rfl, hw⟩ := open_set h
  exact ⟨(s, _), rfl, hw⟩
set_option maxRecDepth 100000 in
theorem open_trL {fuel : Nat} {cs : List Value} {x : DataW H × List MemPlace} (hsz : cs.length = 5) (h : DataW.trod enc Try.prog W base spare held fuel 70 cs = some x) :
  ∃ p : RawT × Value × Value × Value, cs = kT.cells p ∧ kT.ok No W p := by
 match cs, hsz with
 | [v0, v1, v2, v3, v4], _ =>
  obtain ⟨n, hf⟩ := open_fields (cs := #[v0, v1, v2, v3, v4]) (d := x.1) (p := x.2) Try.underlying70 ⟨fuel, h⟩
  obtain ⟨x0, h0⟩ := hf 0 _ rfl
  obtain ⟨x1, h1⟩ := hf 1 _ rfl
  obtain ⟨x2, h2⟩ := hf 2 _ rfl
  have k1 : Try.prog.cellsOf 33 = 2 := by kernel_rfl
  have k2 : Try.prog.cellsOf 68 = 1 := by kernel_rfl
  simp only [k1] at h0 h1
  simp only [k2] at h2
  obtain ⟨s, a1, c1, e0, e1, hw1⟩ := open_set (v0 := v0) (v1 := v1) h0
  obtain ⟨t, a2, c2, e2, e3, hw2⟩ := open_set (v0 := v2) (v1 := v3) h1
  obtain ⟨a3, c3, q, e4, hw3⟩ := open_copies h2
  have e5 : v4 = .slice a3 q.length c3 := by simpa [k2] using e4
  subst e0 e1 e2 e3 e5
  exact ⟨(⟨s, t, q⟩, _, _, _), rfl, hw1, hw2, hw3⟩
theorem open_deps {fuel : Nat} {cs : List Value} {x : DataW H × List MemPlace} (h : DataW.trod enc Try.prog W base spare held fuel 25 cs = some x) : ∃ (sl : Value) (L : LD), cs = [sl] ∧ LAt kD No W sl L :=
 open_list kD Try.underlying25 (by kernel_rfl) (by decide) (fun _ _ _ _ h => open_intsL h) h
theorem open_trs {fuel : Nat} {cs : List Value} {x : DataW H × List MemPlace} (h : DataW.trod enc Try.prog W base spare held fuel 26 cs = some x) : ∃ (sl : Value) (L : LT), cs = [sl] ∧ LAt kT No W sl L :=
 open_list kT Try.underlying26 (by kernel_rfl) (by decide) (fun _ _ _ hl h => open_trL hl h) h
theorem open_sets {fuel : Nat} {cs : List Value} {x : DataW H × List MemPlace} (h : DataW.trod enc Try.prog W base spare held fuel 27 cs = some x) : ∃ (sl : Value) (L : LS), cs = [sl] ∧ LAt kS No W sl L :=
 open_list kS Try.underlying27 (by kernel_rfl) (by decide) (fun _ _ _ hl h => open_setL hl h) h
set_option maxRecDepth 100000 in
theorem open_sys {r : Reach} {b0 : Nat} {v : Value} {d : DataW H} {p : List MemPlace}
  (hv : Value.okWide Try.prog W r b0 29 v) (h : DataW.Trod enc Try.prog W base spare held 29 v d p) :
  ∃ (x : Int) (vd vt vb : Value) (Ld : LD) (Lt : LT) (Lb : LS), v = .agg #[.int .i64 x, vd, vt, vb] ∧ YAt No W vd vt vb Ld Lt Lb := by
 obtain ⟨cs, rfl, hsz⟩ := okWide_struct Try.underlying29 hv
 have hsz4 : cs.size = 4 := hsz.trans (by kernel_rfl)
 obtain ⟨n, hf⟩ := open_fields Try.underlying29 h
 obtain ⟨l⟩ := cs
 match l, hsz4 with
 | [v0, v1, v2, v3], _ =>
  obtain ⟨x0, h0⟩ := hf 0 _ rfl
  obtain ⟨x1, h1⟩ := hf 1 _ rfl
  obtain ⟨x2, h2⟩ := hf 2 _ rfl
  obtain ⟨x3, h3⟩ := hf 3 _ rfl
  have k0 : Try.prog.cellsOf 3 = 1 := by kernel_rfl
  have k1 : Try.prog.cellsOf 25 = 1 := by kernel_rfl
  have k2 : Try.prog.cellsOf 26 = 1 := by kernel_rfl
  have k3 : Try.prog.cellsOf 27 = 1 := by kernel_rfl
  simp only [k0] at h0
  simp only [k1] at h1
  simp only [k2] at h2
  simp only [k3] at h3
  obtain ⟨z0, e0, _, _⟩ := DataW.trod_int Try.underlying3 h0
  obtain ⟨s1, L1, e1, hw1⟩ := open_deps h1
  obtain ⟨s2, L2, e2, hw2⟩ := open_trs h2
  obtain ⟨s3, L3, e3, hw3⟩ := open_sets h3
  have f0 : v0 = .int .i64 z0 := by simpa [k0] using e0
  have f1 : v1 = s1 := by simpa [k1] using e1
  have f2 : v2 = s2 := by simpa [k2] using e2
  have f3 : v3 = s3 := by simpa [k3] using e3
  subst f0 f1 f2 f3
  exact ⟨z0, _, _, _, L1, L2, L3, rfl, hw1, hw2, hw3⟩
set_option maxRecDepth 100000 in
theorem open_sets1 {r : Reach} {b0 : Nat} {v : Value} {d : DataW H} {p : List MemPlace} (hv : Value.okWide Try.prog W r b0 27 v) (h : DataW.Trod enc Try.prog W base spare held 27 v d p) :
  ∃ L : LS, LAt kS No W v L := by
 obtain ⟨a, len, cap, rfl⟩ := okWide_slice Try.underlying27 hv
 obtain ⟨fuel, h⟩ := h
 obtain ⟨sl, L, e, hL⟩ := open_sets h
 have e2 : Value.slice a len cap = sl := by simpa [Value.cells] using e
 subst e2
 exact ⟨L, hL⟩
end Go.Proofs.Ytkdjdhflhlbelaa

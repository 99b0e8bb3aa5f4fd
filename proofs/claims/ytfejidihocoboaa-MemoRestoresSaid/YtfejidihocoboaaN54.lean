/- Arguments that are lists of entries, read. -/
import Derived.Test.YtfejidihocoboaaOpen2
import Derived.Test.YtfejidihocoboaaN22
set_option linter.unusedVariables false
set_option linter.unusedSimpArgs false
namespace Go.Proofs.Ytfejidihocoboaa
open Go Go.RowKit Go.ChangeShapes Go.WideShapes Go.Deep
variable {H : Type} {enc : TypeId × Value → H} {W : World} {base : Nat} {spare : Nat → Bool} {held : Bool}
theorem open_listN {β : Type} (K : EK β) {P : Program} {t e : TypeId} (ht : P.underlying t = some (.slice e)) (hC : P.cellsOf e = K.s) (hn : 0 < K.s)
    (hel : ∀ fuel cs x, cs.length = K.s → DataW.trod enc P W base spare held fuel e cs = some x → ∃ p : β, cs = K.cells p ∧ K.ok No W p) {fuel : Nat} {cs : List Value} {x : DataW H × List MemPlace}
    (h : DataW.trod enc P W base spare held fuel t cs = some x) : ∃ (sl : Value) (L : List β), cs = [sl] ∧ LAt K No W sl L := by
  rcases open_slice ht h with ⟨rfl, _⟩ | ⟨a, len, cap, m, n', D, Pl, rfl, _, hl, hm, hmm, _, hi⟩
  · exact ⟨.slice none 0 0, [], rfl, LAt.nil _ _ (Nat.zero_le _)⟩
  · have hlm : len ≤ m := by rw [hmm]; split <;> omega
    have hz : ∀ i, i < len → ∃ p : β, K.ok No W p ∧ ∀ j, j < K.s → W.cell? (a.add (i * K.s + j)) = (K.cells p)[j]? := by
      intro i hil
      obtain ⟨cs', h1, h2⟩ := hi i (by omega)
      obtain ⟨h5, h6, h7⟩ := World.cells?_some h1
      obtain ⟨p, h3, h4⟩ := hel _ _ _ (h6.trans hC) h2
      refine ⟨p, h4, fun j hj => ?_⟩
      have := h7 j (by rw [hC]; exact hj)
      rw [h3] at this
      rw [← this, hC, Go.Deep.add_add]
    let L : List β := (List.range len).attach.map fun i => (hz i.1 (List.mem_range.1 i.2)).choose
    have hlen : L.length = len := by simp [L]
    have hget : ∀ i (hi : i < L.length), K.ok No W L[i] ∧ ∀ j, j < K.s → W.cell? (a.add (i * K.s + j)) = (K.cells L[i])[j]? := by
      intro i hi
      have hs := (hz i (by omega)).choose_spec
      have e : L[i] = (hz i (by omega)).choose := by simp [L]
      rw [e]; exact hs
    have hfl : (L.flatMap K.cells).length = L.length * K.s := rows_len _ _ _ (fun z _ => K.len z)
    refine ⟨_, L, rfl, ⟨hfl, by rw [hlen]; simp only [maxLen] at hm; omega, some a, cap, by rw [hlen], ⟨by rw [hlen]; exact hl, by simp only [maxLen] at hm; omega⟩, ?_⟩, fun p hp => ?_⟩
    · by_cases h0 : len = 0
      · exact .inl (by rw [hlen]; exact h0)
      · right
        have hl0 : 0 < L.length := by omega
        have h1 := (hget 0 hl0).2 0 hn
        have hx0 : a.add (0 * K.s + 0) = a := by simp [Addr.add]
        rw [hx0] at h1
        rw [List.getElem?_eq_getElem (by rw [K.len]; exact hn)] at h1
        have hsp := cell_plain h1
        obtain ⟨b, off, sp⟩ := a
        simp only at hsp
        subst hsp
        refine ⟨b, off, rfl, World.block_lt_of_cell? W _ h1, fun x => x.elim, fun j u hj => ?_⟩
        have hj2 : j < L.length * K.s := by rw [← hfl]; exact (List.getElem?_eq_some_iff.1 hj).1
        obtain ⟨e1, e2⟩ := nat_split K.s j hn
        have hi : j / K.s < L.length := by rw [Nat.div_lt_iff_lt_mul hn]; exact hj2
        have h3 := (hget (j / K.s) hi).2 (j % K.s) e2
        have h4 := rows_get K.cells K.s L (fun z _ => K.len z) (j / K.s) (j % K.s) hi e2
        rw [← e1] at h4
        rw [h4] at hj
        rw [hj] at h3
        have hadd : (⟨b, off, none⟩ : Addr).add (j / K.s * K.s + j % K.s) = ⟨b, off + j, none⟩ := by
          have : j / K.s * K.s + j % K.s = j := by rw [Nat.mul_comm]; exact e1.symm
          rw [this]; exact add_plain _ _ _
        rw [hadd] at h3
        exact h3
    · obtain ⟨i, hi, rfl⟩ := List.getElem_of_mem hp
      exact (hget i hi).1
def nat1N (z : List Int) : Nat := (z[0]?.getD 0).toNat
theorem nat1N_cells {z : List Int} (h : z.length = 1) (hw : ∀ y ∈ z, (Lit.int .u64 y).wf = true) : z.map (Value.int .u64) = [.int .u64 (nat1N z : Int)] ∧ nat1N z < 2 ^ 64 := by
  match z, h with
  | [y], _ =>
    have h1 := hw y (List.mem_cons_self ..)
    have h1 : 0 ≤ y ∧ y < 18446744073709551616 := by
      simp [Lit.wf, IntKind.min, IntKind.max, IntKind.bits, IntKind.signed] at h1
      omega
    have h2 : nat1N [y] = y.toNat := rfl
    have h3 : ((nat1N [y] : Nat) : Int) = y := by rw [h2]; exact Int.toNat_of_nonneg h1.1
    refine ⟨by rw [h3]; rfl, ?_⟩
    omega
theorem flat_nat1N {zss : List (List Int)} (h : ∀ z ∈ zss, z.length = 1 ∧ ∀ y ∈ z, (Lit.int .u64 y).wf = true) : zss.flatMap (fun z => z.map (Value.int .u64)) = u64s (zss.map nat1N) := by
  induction zss with
  | nil => rfl
  | cons z zss ih =>
    have e := ih (fun y hy => h y (List.mem_cons_of_mem _ hy))
    have h1 := h z (List.mem_cons_self ..)
    rw [List.flatMap_cons, e, (nat1N_cells h1.1 h1.2).1]
    rfl
theorem open_wordsN {fuel : Nat} {cs : List Value} {x : DataW H × List MemPlace} (h : DataW.trod enc Try.prog W base spare held fuel 38 cs = some x) :
    ∃ (a : Option Addr) (c : Nat) (l : List Nat), cs = [.slice a l.length c] ∧ WordsAt No W (.slice a l.length c) l := by
  obtain ⟨a, cap, zss, e, hz, hrow⟩ := open_rows (n := 1) (k := .u64) Try.underlying38 (by kernel_rfl) (by omega) (ints_int Try.underlying86) h
  refine ⟨a, cap, zss.map nat1N, by rw [List.length_map]; exact e, ⟨?_, fun n hn => ?_⟩⟩
  · rw [List.length_map, ← flat_nat1N hz]
    exact hrow
  · obtain ⟨z, hz', rfl⟩ := List.mem_map.1 hn
    exact (nat1N_cells (hz z hz').1 (hz z hz').2).2
set_option maxRecDepth 100000 in
theorem open_setN {fuel : Nat} {v0 v1 : Value} {x : DataW H × List MemPlace} (h : DataW.trod enc Try.prog W base spare held fuel 40 [v0, v1] = some x) :
    ∃ (s : RawSet) (a : Option Addr) (c : Nat), v0 = .int .i64 s.width ∧ v1 = .slice a s.words.length c ∧ WordsAt No W (.slice a s.words.length c) s.words := by
  obtain ⟨n, hf⟩ := open_fields (cs := #[v0, v1]) (d := x.1) (p := x.2) Try.underlying40 ⟨fuel, h⟩
  obtain ⟨x0, h0⟩ := hf 0 _ rfl
  obtain ⟨x1, h1⟩ := hf 1 _ rfl
  obtain ⟨z0, e0, _, _⟩ := DataW.trod_int Try.underlying3 h0
  obtain ⟨a, c, l, e1, hw⟩ := open_wordsN h1
  have k1 : Try.prog.cellsOf 3 = 1 := by kernel_rfl
  have k2 : Try.prog.cellsOf 38 = 1 := by kernel_rfl
  simp [k1] at e0
  simp [k2] at e1
  subst e0 e1
  exact ⟨⟨z0, l⟩, a, c, rfl, rfl, hw⟩
def kEO : EK (Ent × Value) where
  s := 6
  T := 42
  cells := kE.cells
  ok := fun M w p => WordsAt M w p.2 p.1.s.words ∧ KeyOk p.1.key
  len := fun _ => rfl
  ext := fun h hx hm => ⟨h.1.ext hx hm, h.2⟩
  mono := fun h hm => ⟨h.1.mono hm, h.2⟩
theorem int_ok {z : Int} (h : (Lit.int .i64 z).wf = true) : -9223372036854775808 ≤ z ∧ z ≤ 9223372036854775807 := by
  simp [Lit.wf, IntKind.min, IntKind.max, IntKind.bits, IntKind.signed] at h
  omega
set_option maxRecDepth 100000 in
theorem open_entL {fuel : Nat} {cs : List Value} {x : DataW H × List MemPlace} (hsz : cs.length = 6) (h : DataW.trod enc Try.prog W base spare held fuel 42 cs = some x) :
    ∃ p : Ent × Value, cs = kEO.cells p ∧ kEO.ok No W p := by
  match cs, hsz with
  | [v0, v1, v2, v3, v4, v5], _ =>
    obtain ⟨n, hf⟩ := open_fields (cs := #[v0, v1, v2, v3, v4, v5]) (d := x.1) (p := x.2) Try.underlying42 ⟨fuel, h⟩
    obtain ⟨x0, h0⟩ := hf 0 _ rfl
    obtain ⟨x1, h1⟩ := hf 1 _ rfl
    obtain ⟨x2, h2⟩ := hf 2 _ rfl
    obtain ⟨x3, h3⟩ := hf 3 _ rfl
    obtain ⟨x4, h4⟩ := hf 4 _ rfl
    have k1 : Try.prog.cellsOf 3 = 1 := by kernel_rfl
    have k2 : Try.prog.cellsOf 40 = 2 := by kernel_rfl
    simp only [k1] at h0 h1 h2 h4
    simp only [k2] at h3
    obtain ⟨z0, e0, _, w0⟩ := DataW.trod_int Try.underlying3 h0
    obtain ⟨z1, e1, _, w1⟩ := DataW.trod_int Try.underlying3 h1
    obtain ⟨z2, e2, _, w2⟩ := DataW.trod_int Try.underlying3 h2
    obtain ⟨s, a, c, e3, e4, hw⟩ := open_setN (v0 := v3) (v1 := v4) h3
    obtain ⟨z5, e5, _, _⟩ := DataW.trod_int Try.underlying3 h4
    have f0 : v0 = .int .i64 z0 := by simpa [k1] using e0
    have f1 : v1 = .int .i64 z1 := by simpa [k1] using e1
    have f2 : v2 = .int .i64 z2 := by simpa [k1] using e2
    have f5 : v5 = .int .i64 z5 := by simpa [k1] using e5
    subst f0 f1 f2 e3 e4 f5
    exact ⟨(⟨(z0, z1, z2), s, z5⟩, _), rfl, hw, int_ok w0, int_ok w1, int_ok w2⟩
set_option maxRecDepth 100000 in
theorem open_ents {r : Reach} {b0 : Nat} {v : Value} {d : DataW H} {p : List MemPlace} (hv : Value.okWide Try.prog W r b0 30 v) (h : DataW.Trod enc Try.prog W base spare held 30 v d p) :
    ∃ L : List (Ent × Value), LAt kE No W v L ∧ ∀ p ∈ L, KeyOk p.1.key := by
  obtain ⟨a, len, cap, rfl⟩ := okWide_slice Try.underlying30 hv
  obtain ⟨fuel, h⟩ := h
  obtain ⟨sl, L, e, hL⟩ := open_listN kEO Try.underlying30 (by kernel_rfl) (by decide) (fun _ _ _ hl h => open_entL hl h) h
  have e2 : Value.slice a len cap = sl := by simpa [Value.cells] using e
  subst e2
  exact ⟨L, ⟨hL.row, fun p hp => (hL.ok p hp).1⟩, fun p hp => (hL.ok p hp).2⟩
end Go.Proofs.Ytfejidihocoboaa

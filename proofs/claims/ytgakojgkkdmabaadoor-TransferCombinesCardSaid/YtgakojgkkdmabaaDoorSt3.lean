/- Arguments that are a set or a function, read. -/
import Derived.Test.YtgakojgkkdmabaaDoorOpen2
import Derived.Test.YtgakojgkkdmabaaDoorTrB
set_option linter.unusedVariables false
set_option linter.unusedSimpArgs false
namespace Go.Proofs.YtgakojgkkdmabaaDoor
open Go Go.RowKit Go.ChangeShapes Go.WideShapes
variable {H : Type} {enc : TypeId × Value → H} {W : World} {base : Nat} {spare : Nat → Bool} {held : Bool}
def nat1 (z : List Int) : Nat := (z[0]?.getD 0).toNat
theorem nat1_cells {z : List Int} (h : z.length = 1) (hw : ∀ y ∈ z, (Lit.int .u64 y).wf = true) : z.map (Value.int .u64) = [.int .u64 (nat1 z : Int)] ∧ nat1 z < 2 ^ 64 := by
 match z, h with
 | [y], _ =>
  have h1 := hw y (List.mem_cons_self ..)
  have h1 : 0 ≤ y ∧ y < 18446744073709551616 := by
   simp [Lit.wf, IntKind.min, IntKind.max, IntKind.bits, IntKind.signed] at h1
   omega
  have h2 : nat1 [y] = y.toNat := rfl
  have h3 : ((nat1 [y] : Nat) : Int) = y := by rw [h2]; exact Int.toNat_of_nonneg h1.1
  refine ⟨by rw [h3]; rfl, ?_⟩
  omega
theorem flat_nat1 {zss : List (List Int)} (h : ∀ z ∈ zss, z.length = 1 ∧ ∀ y ∈ z, (Lit.int .u64 y).wf = true) : zss.flatMap (fun z => z.map (Value.int .u64)) = u64s (zss.map nat1) := by
 induction zss with
 | nil => rfl
 | cons z zss ih =>
  have e := ih (fun y hy => h y (List.mem_cons_of_mem _ hy))
  have h1 := h z (List.mem_cons_self ..)
  rw [List.flatMap_cons, e, (nat1_cells h1.1 h1.2).1]
  rfl
def copyOf (z : List Int) : Int × Int := (z[0]?.getD 0, z[1]?.getD 0)
theorem flat_copyOf {zss : List (List Int)} (h : ∀ z ∈ zss, z.length = 2) : zss.flatMap (fun z => z.map (Value.int .i64)) = flatC (zss.map copyOf) := by
 induction zss with
 | nil => rfl
 | cons z zss ih =>
  have e := ih (fun y hy => h y (List.mem_cons_of_mem _ hy))
  rw [List.flatMap_cons, e]
  match z, h z (List.mem_cons_self ..) with
  | [a, b], _ => rfl
theorem open_words {fuel : Nat} {cs : List Value} {x : DataW H × List MemPlace} (h : DataW.trod enc Tryd.prog W base spare held fuel 23 cs = some x) :
  ∃ (a : Option Addr) (c : Nat) (l : List Nat), cs = [.slice a l.length c] ∧ WordsAt No W (.slice a l.length c) l := by
 obtain ⟨a, cap, zss, e, hz, hrow⟩ := open_rows (n := 1) (k := .u64) Tryd.underlying23 (by kernel_rfl) (by omega) (ints_int Tryd.underlying64) h
 refine ⟨a, cap, zss.map nat1, by rw [List.length_map]; exact e, ⟨?_, fun n hn => ?_⟩⟩
 ·rw [List.length_map, ← flat_nat1 hz]
  exact hrow
 ·obtain ⟨z, hz', rfl⟩ := List.mem_map.1 hn
  exact (nat1_cells (hz z hz').1 (hz z hz').2).2
set_option maxRecDepth 100000 in
theorem open_set {fuel : Nat} {v0 v1 : Value} {x : DataW H × List MemPlace} (h : DataW.trod enc Tryd.prog W base spare held fuel 25 [v0, v1] = some x) :
  ∃ (s : RawSet) (a : Option Addr) (c : Nat), v0 = .int .i64 s.width ∧ v1 = .slice a s.words.length c ∧ WordsAt No W (.slice a s.words.length c) s.words := by
 obtain ⟨n, hf⟩ := open_fields (cs := #[v0, v1]) (d := x.1) (p := x.2) Tryd.underlying25 ⟨fuel, h⟩
 obtain ⟨x0, h0⟩ := hf 0 _ rfl
 obtain ⟨x1, h1⟩ := hf 1 _ rfl
 obtain ⟨z0, e0, _, _⟩ := DataW.trod_int Tryd.underlying3 h0
 obtain ⟨a, c, l, e1, hw⟩ := open_words h1
 have k1 : Tryd.prog.cellsOf 3 = 1 := by kernel_rfl
 have k2 : Tryd.prog.cellsOf 23 = 1 := by kernel_rfl
 simp [k1] at e0
 simp [k2] at e1
 subst e0 e1
 exact ⟨⟨z0, l⟩, a, c, rfl, rfl, hw⟩
theorem open_copies {fuel : Nat} {cs : List Value} {x : DataW H × List MemPlace} (h : DataW.trod enc Tryd.prog W base spare held fuel 26 cs = some x) :
  ∃ (a : Option Addr) (c : Nat) (l : List (Int × Int)), cs = [.slice a l.length c] ∧ CopiesAt No W (.slice a l.length c) l := by
 obtain ⟨a, cap, zss, e, hz, hrow⟩ := open_rows (n := 2) (k := .i64) Tryd.underlying26 (by kernel_rfl) (by omega) (ints_struct Tryd.underlying50 (by kernel_rfl) (by
   intro i f hi
   match i, hi with
   | 0, hi => cases hi; exact ⟨rfl, Tryd.underlying3, by kernel_rfl⟩
   | 1, hi => cases hi; exact ⟨rfl, Tryd.underlying3, by kernel_rfl⟩
   | i + 2, hi => simp at hi)) h
 refine ⟨a, cap, zss.map copyOf, by rw [List.length_map]; exact e, ?_⟩
 show Row No W 2 (.slice a (zss.map copyOf).length cap) (zss.map copyOf).length (flatC (zss.map copyOf))
 rw [List.length_map, ← flat_copyOf (fun z hz' => (hz z hz').1)]
 exact hrow
set_option maxRecDepth 100000 in
theorem open_tr {r : Reach} {b0 : Nat} {v : Value} {d : DataW H} {p : List MemPlace}
  (hv : Value.okWide Tryd.prog W r b0 28 v) (h : DataW.Trod enc Tryd.prog W base spare held 28 v d p) :
  ∃ (f : RawT) (g1 k1 c1 : Value), v = .agg #[.int .i64 f.gen.width, g1, .int .i64 f.kill.width, k1, c1] ∧ RawTAt No W g1 k1 c1 f := by
 obtain ⟨cs, rfl, hsz⟩ := okWide_struct Tryd.underlying28 hv
 have hsz5 : cs.size = 5 := hsz.trans (by kernel_rfl)
 obtain ⟨n, hf⟩ := open_fields Tryd.underlying28 h
 obtain ⟨l⟩ := cs
 match l, hsz5 with
 | [v0, v1, v2, v3, v4], _ =>
  obtain ⟨x0, h0⟩ := hf 0 _ rfl
  obtain ⟨x1, h1⟩ := hf 1 _ rfl
  obtain ⟨x2, h2⟩ := hf 2 _ rfl
  have k1 : Tryd.prog.cellsOf 25 = 2 := by kernel_rfl
  have k2 : Tryd.prog.cellsOf 26 = 1 := by kernel_rfl
  simp only [k1] at h0 h1
  simp only [k2] at h2
  obtain ⟨s, a1, c1, e0, e1, hw1⟩ := open_set (v0 := v0) (v1 := v1) h0
  obtain ⟨t, a2, c2, e2, e3, hw2⟩ := open_set (v0 := v2) (v1 := v3) h1
  obtain ⟨a3, c3, q, e4, hw3⟩ := open_copies h2
  have e5 : v4 = .slice a3 q.length c3 := by simpa [k2] using e4
  subst e0 e1 e2 e3 e5
  exact ⟨⟨s, t, q⟩, _, _, _, rfl, hw1, hw2, hw3⟩
set_option maxRecDepth 100000 in
theorem open_set1 {r : Reach} {b0 : Nat} {v : Value} {d : DataW H} {p : List MemPlace}
  (hv : Value.okWide Tryd.prog W r b0 25 v) (h : DataW.Trod enc Tryd.prog W base spare held 25 v d p) :
  ∃ (s : RawSet) (sl : Value), v = .agg #[.int .i64 s.width, sl] ∧ WordsAt No W sl s.words := by
 obtain ⟨cs, rfl, hsz⟩ := okWide_struct Tryd.underlying25 hv
 have hsz2 : cs.size = 2 := hsz.trans (by kernel_rfl)
 obtain ⟨l⟩ := cs
 match l, hsz2 with
 | [v0, v1], _ =>
  obtain ⟨fuel, h⟩ := h
  obtain ⟨s, a, c, rfl, rfl, hw⟩ := open_set (v0 := v0) (v1 := v1) h
  exact ⟨s, _, rfl, hw⟩
end Go.Proofs.YtgakojgkkdmabaaDoor

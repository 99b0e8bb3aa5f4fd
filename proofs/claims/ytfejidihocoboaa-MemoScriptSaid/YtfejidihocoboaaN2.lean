/- The keys of the memo table. -/
import Derived.Test.YtfejidihocoboaaN1
import Derived.Test.YtfejidihocoboaaFL
set_option linter.unusedVariables false
set_option linter.unusedSimpArgs false
namespace Go.Proofs.Ytfejidihocoboaa
open Go Go.RowKit
open Go.Maps (Keyed)
abbrev Key3 := Int × Int × Int
def KeyOk (x : Key3) : Prop := (-9223372036854775808 ≤ x.1 ∧ x.1 ≤ 9223372036854775807) ∧ (-9223372036854775808 ≤ x.2.1 ∧ x.2.1 ≤ 9223372036854775807) ∧ (-9223372036854775808 ≤ x.2.2 ∧ x.2.2 ≤ 9223372036854775807)
def keyV (x : Key3) : Value := .agg #[.int .i64 x.1, .int .i64 x.2.1, .int .i64 x.2.2]
def keyC (x : Key3) : List Value := [.int .i64 x.1, .int .i64 x.2.1, .int .i64 x.2.2]
theorem keyV_inj {x y : Key3} (h : keyV x = keyV y) : x = y := by
  obtain ⟨a, b, c⟩ := x
  obtain ⟨d, e, f⟩ := y
  simpa [keyV] using h
def kK : EK Key3 where
  s := 3
  T := 68
  cells := keyC
  ok := fun _ _ _ => True
  len := fun _ => rfl
  ext := fun _ _ _ => trivial
  mono := fun _ _ => trivial
theorem undMap : Try.prog.underlying 62 = some (.map 68 69) := by kernel_rfl
theorem undKey : Try.prog.underlying 68 = some (.struct #[⟨ "program", 3, 0, false, "", "flowquery/memo", 0⟩, ⟨ "kind", 3, 1, false, "", "flowquery/memo", 8⟩, ⟨ "node", 3, 2, false, "", "flowquery/memo", 16⟩]) := by kernel_rfl
theorem undInt : Try.prog.underlying 3 = some (.int .i64) := by kernel_rfl
theorem laidK : laidOutB Try.prog = true := by kernel_rfl
theorem rowK : (68 : TypeId) < Try.prog.types.size := of_decide_eq_true (by kernel_rfl)
theorem cellsK : Try.prog.cellsOf 68 = 3 := by kernel_rfl
theorem cellsI : Try.prog.cellsOf 3 = 1 := by kernel_rfl
theorem deepK : Try.prog.keyType 68 = true := by kernel_rfl
theorem deepK2 : Try.prog.keyTypeAt 2 68 = true := by kernel_rfl
theorem two_small : 2 + 1 ≤ 10000 := by omega
theorem lawK : Keyed Try.prog 68 := Keyed.of_law (deep_law_laid laidK (m := 2) two_small rowK deepK2 (by rw [undKey]))
theorem infoPI : (Try.prog.info? 69).map (fun i => (i.zero, i.size, i.bytes)) = some (some (.pointer none), 1, 8) := by kernel_rfl
theorem zeroItem (w : World) : (zeroValue 69).run Try.prog w = .ok (.pointer none) w := by
  obtain ⟨i, h1, h2, _⟩ := info_parts infoPI
  simp [zeroValue, typeInfo, h1, h2]
theorem formedK (x : Key3) : (keyV x).formed Try.prog 68 = true := by simp [keyV, Value.formed, undKey, cellsK]
theorem intLits {d : Nat} {a : Int} (h : -9223372036854775808 ≤ a ∧ a ≤ 9223372036854775807) : Try.prog.keyLits (d + 1) 3 [.int .i64 a] = some [.int .i64 a] := by
  simp [Program.keyLits, undInt, WalkArith.wf_i64 h]
theorem keyOfK {x : Key3} (h : KeyOk x) : ∃ l, keyOf Try.prog 68 (keyV x) = some l := by
  obtain ⟨h1, h2, h3⟩ := h
  obtain ⟨d, hd⟩ : ∃ d, Try.prog.types.size = d + 1 := Nat.exists_eq_succ_of_ne_zero (Nat.ne_of_gt (Nat.lt_of_le_of_lt (Nat.zero_le _) rowK))
  have e : Try.prog.keyLits (Try.prog.types.size + 1) 68 (keyC x) = some [.int .i64 x.1, .int .i64 x.2.1, .int .i64 x.2.2] := by
    rw [hd]
    have i1 := intLits (d := d) h1
    have i2 := intLits (d := d) h2
    have i3 := intLits (d := d) h3
    simp [Program.keyLits, undKey, keyC, cellsK, cellsI] at i1 i2 i3 ⊢
    simp [i1, i2, i3]
  have e2 : Try.prog.keyLits (Try.prog.types.size + 1) 68 (keyV x).cells.toList = some [.int .i64 x.1, .int .i64 x.2.1, .int .i64 x.2.2] := by rw [← e]; rfl
  refine ⟨.string (keyBytes [.int .i64 x.1, .int .i64 x.2.1, .int .i64 x.2.2]), ?_⟩
  unfold keyOf
  rw [undKey]
  simp only [deepK, formedK, Bool.and_self, if_true]
  rw [e2]
  rfl
end Go.Proofs.Ytfejidihocoboaa

/- components.Solve. -/
import Derived.Test.YtjeohlooaiociaaGreatDoorK6
import Derived.Test.YtjeohlooaiociaaGreatDoorI12
set_option linter.unusedVariables false
set_option linter.unusedSimpArgs false
namespace Go.Proofs.YtjeohlooaiociaaGreatDoor
open Go Go.RowKit Tj
/-- a row out of a list of rows -/
theorem ld_at {w : World} {so : Value} {Ld : LD} {L : List (List Nat)} (h : LAt kD No w so Ld) (he : Ld.map Prod.fst = L.map natsZ) {i : Nat} (hi : i < L.length) :
  ∃ b off cap a c, so = .slice (some ⟨b, off, none⟩) L.length cap ∧ w.cell? ⟨b, off + i, none⟩ = some (.slice a L[i].length c) ∧ Hid (Ints No w .i64 (.slice a L[i].length c) (natsZ L[i])) := by
 have hl : Ld.length = L.length := by have := congrArg List.length he; simpa using this
 have hi2 : i < Ld.length := by omega
 obtain ⟨b, off, cap, h1, -, -, h4⟩ := h.at hi2
 have h5 := h4 i hi2 0 Ld[i].2 (by decide) rfl
 have h6 : Ints No w .i64 Ld[i].2 Ld[i].1 := h.ok Ld[i] (List.getElem_mem hi2)
 have e : Ld[i].1 = natsZ L[i] := by
  have := congrArg (fun l => l[i]?) he
  simp only [List.getElem?_map, List.getElem?_eq_getElem hi2, List.getElem?_eq_getElem hi, Option.map_some, Option.some.injEq] at this
  exact this
 rw [e] at h6
 obtain ⟨a, c, e2⟩ := IntsN.slice h6
 rw [e2] at h5 h6
 refine ⟨b, off, cap, a, c, by rw [h1, hl], ?_, Lib.hid h6⟩
 rw [show i * kD.s + 0 = i from by show i * 1 + 0 = i; omega] at h5
 exact h5
end Go.Proofs.YtjeohlooaiociaaGreatDoor

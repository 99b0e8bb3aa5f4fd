/- Arguments that came in, read. -/
import Derived.Test.YtfjcofjfacdppaaHeap
import Derived.ProofKit
namespace Go.Proofs.Ytfjcofjfacdppaa
open Go Go.RowKit Go.ChangeShapes Go.WideShapes

theorem open_agg_ints {H : Type} {enc : TypeId × Value → H} {P : Program} {w : World} {base : Nat} {spare : Nat → Bool} {held : Bool} {t : TypeId} {fs : Array Field} {cs : Array Value} {d : DataW H} {p : List MemPlace}
    (hs : P.underlying t = some (.struct fs)) (hC : P.cellsOf t = fs.size)
    (hf : ∀ (i : Nat) (f : Field), fs[i]? = some f → f.offset = i ∧ P.underlying f.type = some (.int .i64) ∧ P.cellsOf f.type = 1)
    (h : DataW.Trod enc P w base spare held t (.agg cs) d p) : ∃ zs : List Int, cs.toList = zs.map (.int .i64) ∧ zs.length = fs.size := by
  obtain ⟨fuel, h⟩ := h
  obtain ⟨xs, n, _, _, hl, hlen, hx⟩ := DataW.trod_struct hs h
  have hl' : cs.toList.length = fs.size := by rw [← hC]; simpa [Value.cells] using hl
  have hel : ∀ i, i < fs.size → ∃ z : Int, cs.toList[i]? = some (.int .i64 z) := by
    intro i hi
    obtain ⟨ho, hu, hc⟩ := hf i fs[i] (by simp [hi])
    have h1 := hx i fs[i] (by simp [hi])
    have hi2 : i < xs.length := by omega
    rw [List.getElem?_eq_getElem hi2] at h1
    obtain ⟨z, hz, _⟩ := DataW.trod_int hu h1
    refine ⟨z, ?_⟩
    rw [ho, hc] at hz
    have h2 : ((Value.agg cs).cells.toList.drop i).take 1 = [.int .i64 z] := hz
    have h3 : (((Value.agg cs).cells.toList.drop i).take 1)[0]? = some (.int .i64 z) := by rw [h2]; rfl
    simpa [Value.cells, List.getElem?_take] using h3
  refine ⟨cs.toList.map (fun v => match v with | .int _ z => z | _ => 0), ?_, by simpa using hl'⟩
  apply List.ext_getElem?
  intro i
  by_cases hi : i < fs.size
  · obtain ⟨z, hz⟩ := hel i hi
    rw [List.map_map, List.getElem?_map, hz]; rfl
  · rw [List.getElem?_eq_none (by omega), List.getElem?_eq_none (by simp; simp at hl'; omega)]
end Go.Proofs.Ytfjcofjfacdppaa

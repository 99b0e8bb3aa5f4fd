/- bitset: merge, Diff, Union. -/
import Derived.Test.YtgakojgkkdmabaaSet5
import Derived.StillTailTactics
import Derived.Laws.MakeOwn
namespace Go.Proofs.Ytgakojgkkdmabaa
open Go Go.RowKit

/-- a row of zero words, as make lays it -/
def zeroW (n : Nat) : Array Value := madeCells (Value.cells (.int .u64 0)) (n * 1)
theorem zeroW_list (n : Nat) : (zeroW n).toList = u64s (List.replicate n 0) := by
  refine List.ext_getElem? (fun i => ?_)
  simp only [zeroW, madeCells, u64s, List.map_replicate]
  by_cases h : i < n
  · simp [h, Value.cells, Nat.mod_one]
  · simp [h]
theorem mk_words (n : Nat) (hn : n ≤ 1000) (w : World) : (Instr.makeSlice 26 (.int .i64 (n : Int)) (.int .i64 (n : Int))).run Try.prog w = .ok (.slice (some ⟨w.heap.size, 0, none⟩) n n) (w.alloc (.cells (zeroW n) 50)) := by
  obtain ⟨i, hi, hz0, hz1, hz2⟩ := info_parts infoW
  have h := run_makeSlice (P := Try.prog) w 26 50 i _ Try.underlying26 hi hz0 .i64 .i64 n n (by omega) (Int.le_refl _) (by rw [hz1]; simp; omega) (by rw [hz2]; omega) (by omega)
  simp only [Int.toNat_natCast, hz1] at h
  exact h
theorem OwnW.zero {W : World} {base w : Nat} (hb : base ≤ W.heap.size) (hw : w ≤ 256) : OwnW (W.alloc (.cells (zeroW (nw w)) 50)) base (.slice (some ⟨W.heap.size, 0, none⟩) (nw w) (nw w)) (wordsN w 0) := by
  have h := World.ownsRow_lit (base := base) (e := 50) (size := 1) W (zeroW (nw w)) (nw w) hb (by simp only [maxLen]; unfold nw; omega) (by simp [zeroW, madeCells])
  rw [zeroW_list, ← wordsN_zero] at h
  exact ⟨by rw [wordsN_len]; exact h, wordsN_lt w 0⟩
/-- the words of the result, the first i of them computed -/
def partW (op : Nat → Nat → Nat) (w m k i : Nat) : List Nat := (List.range (nw w)).map fun j => if j < i then op (wordN m j) (wordN k j) else 0
theorem partW_len (op : Nat → Nat → Nat) (w m k i : Nat) : (partW op w m k i).length = nw w := by simp [partW]
theorem partW_zero (op : Nat → Nat → Nat) (w m k : Nat) : partW op w m k 0 = wordsN w 0 := by
  refine List.ext_getElem (by simp [partW_len, wordsN_len]) (fun i h1 h2 => ?_)
  rw [wordsN_get, wordN_zero]; simp [partW]
theorem partW_succ (op : Nat → Nat → Nat) (w m k i : Nat) : (partW op w m k i).set i (op (wordN m i) (wordN k i)) = partW op w m k (i + 1) := by
  refine List.ext_getElem (by simp [partW_len]) (fun j h1 h2 => ?_)
  rw [List.getElem_set]
  simp only [partW, List.getElem_map, List.getElem_range]
  by_cases h : i = j
  · subst h; simp
  · rw [if_neg h]
    by_cases h3 : j < i
    · rw [if_pos h3, if_pos (by omega)]
    · rw [if_neg h3, if_neg (by omega)]
theorem partW_all {op opm : Nat → Nat → Nat} (h : ∀ a b i, wordN (opm a b) i = op (wordN a i) (wordN b i)) (w m k : Nat) : partW op w m k (nw w) = wordsN w (opm m k) := by
  refine List.ext_getElem (by simp [partW_len, wordsN_len]) (fun i h1 h2 => ?_)
  rw [wordsN_get, h]
  rw [partW_len] at h1
  simp [partW, h1]

structure MergeMem (W : World) (op : Nat → Nat → Nat) (w m k D g i : Nat) (s1 s2 : Value) (wr : World) : Prop where
  ext : Ext No W wr
  boxA : wr.heap[W.heap.size]? = some (.cells #[.int .i64 (w : Int), s1] 28 (0, 0))
  boxB : wr.heap[W.heap.size + 1]? = some (.cells #[.int .i64 (w : Int), s2] 28 (0, 0))
  boxC : wr.heap[W.heap.size + 2]? = some (.cells #[.int .i64 0, .slice none 0 0] 28 (0, 0))
  boxD : wr.heap[D]? = some (.cells #[.int .i64 (w : Int), .slice (some ⟨g, 0, none⟩) (nw w) (nw w)] 28 (0, 0))
  own : OwnW wr (W.heap.size + 3) (.slice (some ⟨g, 0, none⟩) (nw w) (nw w)) (partW op w m k i)
  big : W.heap.size + 2 < D
  ne : D ≠ g
  low : W.heap.size + 3 ≤ g

theorem MergeMem.mk1 {W w2 : World} (op : Nat → Nat → Nat) {w : Nat} (m k : Nat) {s1 s2 : Value} (hx : Ext No W w2) (hA : w2.heap[W.heap.size]? = some (.cells #[.int .i64 (w : Int), s1] 28 (0, 0))) (hB : w2.heap[W.heap.size + 1]? = some (.cells #[.int .i64 (w : Int), s2] 28 (0, 0)))
    (hC : w2.heap[W.heap.size + 2]? = some (.cells #[.int .i64 0, .slice none 0 0] 28 (0, 0))) (hw : w ≤ 256) :
    ∃ D g, Value.pointer (some ⟨w2.heap.size + 1, 0, none⟩) = .pointer (some ⟨D, 0, none⟩) ∧ MergeMem W op w m k D g 0 s1 s2 ((w2.alloc (.cells (zeroW (nw w)) 50)).alloc (.cells #[.int .i64 (w : Int), .slice (some ⟨w2.heap.size, 0, none⟩) (nw w) (nw w)] 28)).drew := by
  have hs := lt_of_block hC
  refine ⟨w2.heap.size + 1, w2.heap.size, rfl, ((hx.alloc _).alloc _).drew, alloc_under (alloc_under hA), alloc_under (alloc_under hB), alloc_under (alloc_under hC), alloc_top (by simp), ?_, by omega, by omega, hs⟩
  rw [partW_zero]
  exact ((OwnW.zero (base := W.heap.size + 3) hs hw).ext (M := No) ((Ext.refl _ _).alloc _) (fun _ _ x => x)).ext (M := No) (Ext.refl _ _).drew (fun _ _ x => x)
theorem MergeMem.mk2 {W w2 : World} (op : Nat → Nat → Nat) {w : Nat} (m k : Nat) {s1 s2 : Value} (hx : Ext No W w2) (hA : w2.heap[W.heap.size]? = some (.cells #[.int .i64 (w : Int), s1] 28 (0, 0))) (hB : w2.heap[W.heap.size + 1]? = some (.cells #[.int .i64 (w : Int), s2] 28 (0, 0)))
    (hC : w2.heap[W.heap.size + 2]? = some (.cells #[.int .i64 0, .slice none 0 0] 28 (0, 0))) (hw : w ≤ 256) :
    ∃ D g, Value.pointer (some ⟨w2.heap.size, 0, none⟩) = .pointer (some ⟨D, 0, none⟩) ∧ MergeMem W op w m k D g 0 s1 s2 ((w2.alloc (.cells #[.int .i64 (w : Int), .slice (some ⟨w2.heap.size + 1, 0, none⟩) (nw w) (nw w)] 28)).alloc (.cells (zeroW (nw w)) 50)).drew := by
  have hs := lt_of_block hC
  refine ⟨w2.heap.size, w2.heap.size + 1, rfl, ((hx.alloc _).alloc _).drew, alloc_under (alloc_under hA), alloc_under (alloc_under hB), alloc_under (alloc_under hC), alloc_under (alloc_top rfl), ?_, by omega, by omega, by omega⟩
  rw [partW_zero]
  have h := OwnW.zero (W := w2.alloc (.cells #[.int .i64 (w : Int), .slice (some ⟨w2.heap.size + 1, 0, none⟩) (nw w) (nw w)] 28)) (base := W.heap.size + 3) (by simp; omega) hw
  have e : (w2.alloc (.cells #[.int .i64 (w : Int), .slice (some ⟨w2.heap.size + 1, 0, none⟩) (nw w) (nw w)] 28)).heap.size = w2.heap.size + 1 := by simp
  rw [e] at h
  exact h.ext (M := No) (Ext.refl _ _).drew (fun _ _ x => x)
section
variable {W wr : World} {op : Nat → Nat → Nat} {w m k D g j : Nat} {s1 s2 : Value}
theorem MergeMem.drewN (h : MergeMem W op w m k D g j s1 s2 wr) (n : Nat) : MergeMem W op w m k D g j s1 s2 (wr.drewN n) :=
  ⟨h.ext.drewN n, h.boxA, h.boxB, h.boxC, h.boxD, h.own.ext (M := No) ((Ext.refl _ _).drewN n) (fun _ _ x => x), h.big, h.ne, h.low⟩
theorem MergeMem.free (h : MergeMem W op w m k D g j s1 s2 wr) (i : Nat) : wr.frozen? ⟨g, i, none⟩ = false := by
  have := h.own
  rw [← partW_len op w m k j] at this
  exact this.free i
theorem MergeMem.cellG (h : MergeMem W op w m k D g j s1 s2 wr) {i : Nat} (hi : i < nw w) : ∃ u, wr.cell? ⟨g, i, none⟩ = some u := by
  have := h.own
  rw [← partW_len op w m k j] at this
  exact ⟨_, this.at (i := i) (by rw [partW_len]; exact hi)⟩
theorem MergeMem.store (h : MergeMem W op w m k D g j s1 s2 wr) (_ : j < nw w) (hlt : op (wordN m j) (wordN k j) < 2 ^ 64) : MergeMem W op w m k D g (j + 1) s1 s2 (wr.setCell ⟨g, j, none⟩ (.int .u64 (op (wordN m j) (wordN k j) : Nat))) := by
  have h1 := h.low
  have h2 := h.big
  have h3 := h.ne
  have ho := h.own
  rw [← partW_len op w m k j] at ho
  have hs := ho.set j (op (wordN m j) (wordN k j)) hlt
  rw [partW_succ, partW_len] at hs
  refine ⟨h.ext.own (by simp only; omega) _, set_other h.boxA (by simp only; omega), set_other h.boxB (by simp only; omega), set_other h.boxC (by simp only; omega), set_other h.boxD (by simpa using h3), hs, h2, h3, h1⟩
end

end Go.Proofs.Ytgakojgkkdmabaa

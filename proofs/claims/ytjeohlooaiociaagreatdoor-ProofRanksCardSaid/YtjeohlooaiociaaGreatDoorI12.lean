/- Stores into own lists of any kind. -/
import Derived.Test.YtjeohlooaiociaaGreatDoorF8
set_option linter.unusedVariables false
set_option linter.unusedSimpArgs false
namespace Go.Proofs.YtjeohlooaiociaaGreatDoor
open Go Go.RowKit
theorem mul_in {i n s : Nat} (hi : i < n) : i * s + s ≤ n * s := by
 have := Nat.mul_le_mul_right s (Nat.succ_le_of_lt hi)
 rwa [Nat.succ_mul] at this
section
variable {β : Type} {K : EK β} {A : Nat → Prop} {w : World} {base g cap : Nat} {v : Value} {L : List β}
theorem LOwn.shape (h : LOwn K A w base v L) (hn : L.length ≠ 0) : ∃ g cap, v = .slice (some ⟨g, 0, none⟩) L.length cap ∧ base ≤ g ∧ g < w.heap.size := by
 obtain ⟨h1, h2⟩ := h.own
 rcases h2 with ⟨_, h3⟩ | ⟨g, cap, cur, rfl, hb, hg, _⟩
 ·exact absurd h3 hn
 ·exact ⟨g, cap, rfl, hb, lt_of_block hg⟩
theorem LOwn.cellAt (h : LOwn K A w base (.slice (some ⟨g, 0, none⟩) L.length cap) L) {i j : Nat} (hi : i < L.length) (hj : j < K.s) {u : Value} (hu : (K.cells L[i])[j]? = some u) : w.cell? ⟨g, i * K.s + j, none⟩ = some u := by
 have := mul_in (s := K.s) hi
 rw [World.ownsRow.cellAt h.own _ (by omega), flat_get2 K L i j hi hj]; exact hu
end
end Go.Proofs.YtjeohlooaiociaaGreatDoor


import Derived.Test.YtjeohlooaiociaaGreatDoorK11
import Derived.Test.YtjeohlooaiociaaGreatDoorSp1
set_option linter.unusedVariables false
set_option linter.unusedSimpArgs false
namespace Go.Proofs.YtjeohlooaiociaaGreatDoor
open Go Go.RowKit
def HiB (W : World) (tb : Nat) : Nat → Prop := fun b => b = tb ∨ W.heap.size ≤ b
section
variable {tb : Nat} {W wr w' : World} {Q : Nat} {cQ : Array Value} {vd vt vb v' : Value} {Ld : LD} {Lt : LT} {Lb : LS}
theorem fitS_small {x : Int} {r : RawSet} (h : FitS x r) (hl : ∀ n ∈ r.words, n < 2 ^ 64) : r.words.length ≤ 4 := by
 obtain ⟨w, m, hw, _, rfl⟩ := (validB_iff hl).1 h.1
 show (wordsN w m).length ≤ 4
 rw [wordsN_len]; unfold nw; omega
theorem own_spoil {β : Type} {K : EK β} {L : List β} {v v0 : Value} {g : Nat} (h : LAt K (At tb) W v0 L) (hx : Ext No W wr) (hown : wr.ownsRow g K.T K.s v L.length (L.flatMap K.cells)) (hg : W.heap.size + 2 ≤ g) (hl : ∀ k, v.ownBlock = some k → g ≤ k) : LOwn K (HiB W tb) wr (W.heap.size + 2) v L :=
 ⟨row_base hown hg, fun p hp => K.ext (K.mono (M' := fun b => HiB W tb b ∨ v.ownBlock = some b) (h.ok p hp) (fun i hi e => by
  rcases e with (e | e) | e
  ·exact e
  ·omega
  have := hl i e; omega)) hx (fun _ _ x => x.elim)⟩
end

/- Merged: I11 K9 -/
import Derived.Test.YtjeohlooaiociaaGreatDoorF8
import Derived.Test.YtjeohlooaiociaaGreatDoorSp1
import Derived.Test.YtjeohlooaiociaaGreatDoorK1
import Derived.Test.YtjeohlooaiociaaGreatDoorHeldL
import Derived.Test.YtjeohlooaiociaaGreatDoorI8
import Derived.Shelf.Bits.Mul64
import Derived.Laws.CopyOwn
import Derived.Deep.LoopGhost
set_option linter.unusedVariables false
set_option linter.unusedSimpArgs false
/- I11 -/
namespace Go.Proofs.YtjeohlooaiociaaGreatDoor
open Go Go.RowKit
theorem mul_in {i n s : Nat} (hi : i < n) : i * s + s ≤ n * s := by
 have := Nat.mul_le_mul_right s (Nat.succ_le_of_lt hi)
 rwa [Nat.succ_mul] at this
section
variable {β : Type} {K : EK β} {A : Nat → Prop} {w : World} {base g cap : Nat} {v : Value} {L : List β}
theorem LOwn.shape (h : LOwn K A w base v L) (hn : L.length ≠ 0) : ∃ g cap, v = .slice (some ⟨g, 0, none⟩) L.length cap ∧ base ≤ g ∧ g < w.heap.size := by
 obtain ⟨h1, h2⟩ := h.own
 rcases h2 with ⟨_, h3⟩ | ⟨g, cap, cur, rfl, hb, hg, _⟩
 ·exact absurd h3 hn
 ·exact ⟨g, cap, rfl, hb, lt_of_block hg⟩
theorem LOwn.cellAt (h : LOwn K A w base (.slice (some ⟨g, 0, none⟩) L.length cap) L) {i j : Nat} (hi : i < L.length) (hj : j < K.s) {u : Value} (hu : (K.cells L[i])[j]? = some u) : w.cell? ⟨g, i * K.s + j, none⟩ = some u := by
 have := mul_in (s := K.s) hi
 rw [World.ownsRow.cellAt h.own _ (by omega), flat_get2 K L i j hi hj]; exact hu
end
end Go.Proofs.YtjeohlooaiociaaGreatDoor

/- I11 -/
namespace Go.Proofs.YtjeohlooaiociaaGreatDoor
open Go Go.RowKit
def HiB (W : World) (tb : Nat) : Nat → Prop := fun b => b = tb ∨ W.heap.size ≤ b
section
variable {tb : Nat} {W wr w' : World} {Q : Nat} {cQ : Array Value} {vd vt vb v' : Value} {Ld : LD} {Lt : LT} {Lb : LS}
theorem fitS_small {x : Int} {r : RawSet} (h : FitS x r) (hl : ∀ n ∈ r.words, n < 2 ^ 64) : r.words.length ≤ 4 := by
 obtain ⟨w, m, hw, _, rfl⟩ := (validB_iff hl).1 h.1
 show (wordsN w m).length ≤ 4
 rw [wordsN_len]; unfold nw; omega
theorem own_spoil {β : Type} {K : EK β} {L : List β} {v v0 : Value} {g : Nat} (h : LAt K (At tb) W v0 L) (hx : Ext No W wr) (hown : wr.ownsRow g K.T K.s v L.length (L.flatMap K.cells)) (hg : W.heap.size + 2 ≤ g) (hl : ∀ k, v.ownBlock = some k → g ≤ k) : LOwn K (HiB W tb) wr (W.heap.size + 2) v L :=
 ⟨row_base hown hg, fun p hp => K.ext (K.mono (M' := fun b => HiB W tb b ∨ v.ownBlock = some b) (h.ok p hp) (fun i hi e => by
  rcases e with (e | e) | e
  ·exact e
  ·omega
  ·have := hl i e; omega)) hx (fun _ _ x => x.elim)⟩
end
end Go.Proofs.YtjeohlooaiociaaGreatDoor

/- K9 -/
namespace Go.Proofs.YtjeohlooaiociaaGreatDoor
open Go Go.RowKit Tj
theorem BlkF.congr {w : World} {b N : Nat} {T : TypeId} {f f' : Nat → Value} (h : BlkF w b T N f) (he : ∀ i, i < N → f i = f' i) : BlkF w b T N f' := by
 unfold BlkF at h ⊢
 rw [← List.map_congr_left (f := f) (g := f') (fun i hi => he i (List.mem_range.1 hi))]
 exact h
end Go.Proofs.YtjeohlooaiociaaGreatDoor

/- K9 -/
namespace Go.Proofs.YtjeohlooaiociaaGreatDoor
open Go Go.RowKit Tj
/-- a row out of a list of rows -/
theorem ld_at {w : World} {so : Value} {Ld : LD} {L : List (List Nat)} (h : LAt kD No w so Ld) (he : Ld.map Prod.fst = L.map natsZ) {i : Nat} (hi : i < L.length) :
  ∃ b off cap a c, so = .slice (some ⟨b, off, none⟩) L.length cap ∧ w.cell? ⟨b, off + i, none⟩ = some (.slice a L[i].length c) ∧ Hid (Ints No w .i64 (.slice a L[i].length c) (natsZ L[i])) := by
 have hl : Ld.length = L.length := by have := congrArg List.length he; simpa using this
 have hi2 : i < Ld.length := by omega
 obtain ⟨b, off, cap, h1, -, -, h4⟩ := h.at hi2
 have h5 := h4 i hi2 0 Ld[i].2 (by decide) rfl
 have h6 : Ints No w .i64 Ld[i].2 Ld[i].1 := h.ok Ld[i] (List.getElem_mem hi2)
 have e : Ld[i].1 = natsZ L[i] := by
  have := congrArg (fun l => l[i]?) he
  simp only [List.getElem?_map, List.getElem?_eq_getElem hi2, List.getElem?_eq_getElem hi, Option.map_some, Option.some.injEq] at this
  exact this
 rw [e] at h6
 obtain ⟨a, c, e2⟩ := IntsN.slice h6
 rw [e2] at h5 h6
 refine ⟨b, off, cap, a, c, by rw [h1, hl], ?_, Lib.hid h6⟩
 rw [show i * kD.s + 0 = i from by show i * 1 + 0 = i; omega] at h5
 exact h5
end Go.Proofs.YtjeohlooaiociaaGreatDoor

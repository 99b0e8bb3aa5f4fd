/- Merged: K0 K1 -/
import Derived.Test.YtjeohlooaiociaaGreatDoorFS
import Derived.Test.YtjeohlooaiociaaGreatDoorF2
import Derived.Test.YtjeohlooaiociaaGreatDoorRefA
import Derived.Test.YtjeohlooaiociaaGreatDoorTrF
import Derived.Test.YtjeohlooaiociaaGreatDoorF3
set_option linter.unusedVariables false
set_option linter.unusedSimpArgs false
/- K0 -/
namespace Go.Proofs.YtjeohlooaiociaaGreatDoor.Tj
def upd {α : Type} (f : Nat → α) (n : Nat) (v : α) : Nat → α := fun i => if i = n then v else f i
structure TS where
 idx : Nat → Nat
 low : Nat → Nat
 out : Nat → Int
 path : List Nat
 cnt : Nat
def start (s : TS) (n : Nat) : TS := { s with idx := upd s.idx n (s.cnt + 1), low := upd s.low n (s.cnt + 1), path := s.path ++ [n], cnt := s.cnt + 1 }
end Go.Proofs.YtjeohlooaiociaaGreatDoor.Tj

/- K0 -/
namespace Go.Proofs.YtjeohlooaiociaaGreatDoor
open Go Go.RowKit
theorem tells_f {p : Prop} {b : Bool} (h : b = true ↔ p) (hp : ¬ p) : b = false := by
 cases b with
 | true => exact absurd (h.1 rfl) hp
 | false => rfl
end Go.Proofs.YtjeohlooaiociaaGreatDoor

/- K0 -/
namespace Go.Proofs.YtjeohlooaiociaaGreatDoor
open Go Go.RowKit Tj
/-- a block of N cells, given by a function -/
def BlkF (w : World) (b : Nat) (T : TypeId) (N : Nat) (f : Nat → Value) : Prop := w.heap[b]? = some (.cells ((List.range N).map f).toArray T (0, 0))
section
variable {w w' : World} {b N : Nat} {T : TypeId} {f : Nat → Value}
theorem BlkF.cell (h : BlkF w b T N f) {i : Nat} (hi : i < N) : w.cell? ⟨b, i, none⟩ = some (f i) := by
 rw [cellOf h]
 simp [hi]
theorem BlkF.free (h : BlkF w b T N f) (j : Nat) : w.frozen? ⟨b, j, none⟩ = false := freeOf h j
theorem BlkF.ext {M : Nat → Prop} (h : BlkF w b T N f) (hx : Ext M w w') (hn : ¬ M b) : BlkF w' b T N f := hx.blk h hn
theorem map_upd (f : Nat → Value) (i : Nat) (v : Value) (N : Nat) : ((List.range N).map f).set i v = (List.range N).map (upd f i v) := by
 refine List.ext_getElem (by simp) (fun j h1 h2 => ?_)
 rw [List.getElem_set]
 simp only [List.getElem_map, List.getElem_range, upd]
 by_cases e : i = j
 ·rw [if_pos e, if_pos e.symm]
 ·rw [if_neg e, if_neg (fun e2 => e e2.symm)]
theorem BlkF.set (h : BlkF w b T N f) (i : Nat) (v : Value) : BlkF (w.setCell ⟨b, i, none⟩ v) b T N (upd f i v) := by
 have h1 := set_same (j := i) (u := v) h
 rw [List.setIfInBounds_toArray, map_upd] at h1
 exact h1
end
end Go.Proofs.YtjeohlooaiociaaGreatDoor

/- K1 -/
namespace Go.Proofs.YtjeohlooaiociaaGreatDoor
open Go Go.RowKit Tj
theorem nats_get {l : List Nat} {i : Nat} (hi : i < l.length) : (natsZ l)[i]'(by simpa [natsZ] using hi) = ((l[i] : Nat) : Int) := by simp [natsZ]
theorem nats_len (l : List Nat) : (natsZ l).length = l.length := by simp [natsZ]
theorem IntsN.at {M : Nat → Prop} {w : World} {sl : Value} {l : List Nat} (h : Ints M w .i64 sl (natsZ l)) {i : Nat} (hi : i < l.length) : ∃ b off cap, sl = .slice (some ⟨b, off, none⟩) l.length cap ∧ b < w.heap.size ∧ ¬ M b ∧
  ∀ k (hk : k < l.length), w.cell? ⟨b, off + k, none⟩ = some (.int .i64 ((l[k] : Nat) : Int)) := by
 obtain ⟨b, off, cap, h1, h2, h3, h4⟩ := Ints.at h (i := i) (by rw [nats_len]; exact hi)
 rw [nats_len] at h1
 exact ⟨b, off, cap, h1, h2, h3, fun k hk => by rw [h4 k (by rw [nats_len]; exact hk), nats_get hk]⟩
theorem IntsN.slice {M : Nat → Prop} {w : World} {sl : Value} {l : List Nat} (h : Ints M w .i64 sl (natsZ l)) : ∃ a c, sl = .slice a l.length c := by
 obtain ⟨a, c, e⟩ := Row.slice h
 exact ⟨a, c, by rw [e, nats_len]⟩
theorem IntsN.len {M : Nat → Prop} {w : World} {sl : Value} {l : List Nat} (h : Ints M w .i64 sl (natsZ l)) : l.length ≤ 9223372036854775807 := by
 have := h.2.1
 rw [nats_len] at this
 exact this
theorem IntsN.drop {M : Nat → Prop} {w : World} {b off n cap k : Nat} {p l : List Nat} (h : Ints M w .i64 (.slice (some ⟨b, off, none⟩) n cap) (natsZ (p ++ l))) (hk : k = p.length) (hn : n = k + l.length) :
  Ints M w .i64 (.slice (some ⟨b, off + k, none⟩) l.length (cap - k)) (natsZ l) := by
 subst hn
 subst hk
 have h1 : Row M w 1 (.slice (some ⟨b, off, none⟩) (p.length + l.length) cap) (p.length + l.length) ((natsZ (p ++ l)).map (.int .i64)) := by
  have h := h
  unfold Ints at h
  rw [nats_len, List.length_append] at h
  exact h
 have h2 := h1.drop (k := p.length) (by omega)
 unfold Ints
 rw [nats_len]
 have e : ((natsZ (p ++ l)).map (Value.int .i64)).drop (p.length * 1) = (natsZ l).map (.int .i64) := by simp [natsZ, List.drop_append]
 rw [e, Nat.mul_one, show p.length + l.length - p.length = l.length from by omega] at h2
 exact h2
end Go.Proofs.YtjeohlooaiociaaGreatDoor

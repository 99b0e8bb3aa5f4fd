/- slices.Index and slices.Min of ints. -/
import Derived.Test.YtjeohlooaiociaaGreatDoorK0
set_option linter.unusedVariables false
set_option linter.unusedSimpArgs false
namespace Go.Proofs.YtjeohlooaiociaaGreatDoor
open Go Go.RowKit Tj
theorem nats_get {l : List Nat} {i : Nat} (hi : i < l.length) : (natsZ l)[i]'(by simpa [natsZ] using hi) = ((l[i] : Nat) : Int) := by simp [natsZ]
theorem nats_len (l : List Nat) : (natsZ l).length = l.length := by simp [natsZ]
theorem IntsN.at {M : Nat → Prop} {w : World} {sl : Value} {l : List Nat} (h : Ints M w .i64 sl (natsZ l)) {i : Nat} (hi : i < l.length) : ∃ b off cap, sl = .slice (some ⟨b, off, none⟩) l.length cap ∧ b < w.heap.size ∧ ¬ M b ∧
  ∀ k (hk : k < l.length), w.cell? ⟨b, off + k, none⟩ = some (.int .i64 ((l[k] : Nat) : Int)) := by
 obtain ⟨b, off, cap, h1, h2, h3, h4⟩ := Ints.at h (i := i) (by rw [nats_len]; exact hi)
 rw [nats_len] at h1
 exact ⟨b, off, cap, h1, h2, h3, fun k hk => by rw [h4 k (by rw [nats_len]; exact hk), nats_get hk]⟩
theorem IntsN.slice {M : Nat → Prop} {w : World} {sl : Value} {l : List Nat} (h : Ints M w .i64 sl (natsZ l)) : ∃ a c, sl = .slice a l.length c := by
 obtain ⟨a, c, e⟩ := Row.slice h
 exact ⟨a, c, by rw [e, nats_len]⟩
theorem IntsN.len {M : Nat → Prop} {w : World} {sl : Value} {l : List Nat} (h : Ints M w .i64 sl (natsZ l)) : l.length ≤ 9223372036854775807 := by
 have := h.2.1
 rw [nats_len] at this
 exact this
theorem IntsN.drop {M : Nat → Prop} {w : World} {b off n cap k : Nat} {p l : List Nat} (h : Ints M w .i64 (.slice (some ⟨b, off, none⟩) n cap) (natsZ (p ++ l))) (hk : k = p.length) (hn : n = k + l.length) :
  Ints M w .i64 (.slice (some ⟨b, off + k, none⟩) l.length (cap - k)) (natsZ l) := by
 subst hn
 subst hk
 have h1 : Row M w 1 (.slice (some ⟨b, off, none⟩) (p.length + l.length) cap) (p.length + l.length) ((natsZ (p ++ l)).map (.int .i64)) := by
  have h := h
  unfold Ints at h
  rw [nats_len, List.length_append] at h
  exact h
 have h2 := h1.drop (k := p.length) (by omega)
 unfold Ints
 rw [nats_len]
 have e : ((natsZ (p ++ l)).map (Value.int .i64)).drop (p.length * 1) = (natsZ l).map (.int .i64) := by simp [natsZ, List.drop_append]
 rw [e, Nat.mul_one, show p.length + l.length - p.length = l.length from by omega] at h2
 exact h2
end Go.Proofs.YtjeohlooaiociaaGreatDoor

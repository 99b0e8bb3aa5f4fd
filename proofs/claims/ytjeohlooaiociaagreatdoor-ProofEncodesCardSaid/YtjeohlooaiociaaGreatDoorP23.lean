
import Derived.Test.YtjeohlooaiociaaGreatDoorP22
import Derived.Test.YtjeohlooaiociaaGreatDoorP16
set_option linter.unusedVariables false
set_option linter.unusedSimpArgs false
namespace Go.Proofs.YtjeohlooaiociaaGreatDoor
open Go Go.RowKit Tj
theorem rkD_lens {M : Nat → Prop} {W : World} {S : SysD} {vv vr : Value} {vs : List Nat} {R : LD} (h : PrfAt M W S vv vr vs R) (hw : S.w ≤ 256) : ∀ p ∈ R, p.1.length ≤ 256 := fun p hp => by
 obtain ⟨n, hn, rfl⟩ := List.getElem_of_mem hp
 have h1 : n < S.deps.length := by rw [← h.l2]; exact hn
 have h2 := h.l3 n h1
 rw [rkD_get hn] at h2
 rw [h2]
 exact memD_len hw vs n

/- Plain law of FixpointLeast: what the rounds of Next and Union reach lies above the system. -/
import Derived.Test.YtjeohlooaiociaaGreatDoorFS
set_option linter.unusedVariables false
set_option linter.unusedSimpArgs false
namespace Go.Proofs.YtjeohlooaiociaaGreatDoor
open Go Go.RowKit
section
variable {S : SysD} {vs nx : List Nat} {n k i : Nat}
theorem sub_of_le {a b : Nat} (h : LeB a b) : subN a b = true := decide_eq_true (Nat.eq_of_testBit_eq fun j => by
 rw [diffN_bit, Nat.zero_testBit]
 cases e : a.testBit j with
 | false => rfl
 | true => rw [h j e]; rfl)
end
end Go.Proofs.YtjeohlooaiociaaGreatDoor

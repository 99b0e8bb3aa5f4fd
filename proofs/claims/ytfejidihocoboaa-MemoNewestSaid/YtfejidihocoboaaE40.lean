/- arc and without of the reference. -/
import Derived.Test.YtfejidihocoboaaE24
import Derived.Test.YtfejidihocoboaaFL
import Derived.Test.YtfejidihocoboaaTrD
import Derived.Test.YtfejidihocoboaaSetB
import Derived.Test.YtfejidihocoboaaHeld
import Derived.Test.YtfejidihocoboaaTrB
import Derived.Test.YtfejidihocoboaaTrA
import Derived.Test.YtfejidihocoboaaTrC
import Derived.Test.YtfejidihocoboaaHeldL
import Derived.Test.YtfejidihocoboaaI12
import Derived.Test.YtfejidihocoboaaI16
import Derived.Test.YtfejidihocoboaaF11
import Derived.Deep.LoopGhost
set_option linter.unusedVariables false
set_option linter.unusedSimpArgs false
namespace Go.Proofs.Ytfejidihocoboaa
open Go Go.RowKit
theorem flat_take {β : Type} (K : EK β) (L : List β) (i : Nat) : (L.flatMap K.cells).take (i * K.s) = (L.take i).flatMap K.cells := by
  induction L generalizing i with
  | nil => simp
  | cons b L ih =>
    cases i with
    | zero => simp
    | succ i =>
      rw [List.flatMap_cons, List.take_succ_cons, List.flatMap_cons, List.take_append, K.len, show (i + 1) * K.s - K.s = i * K.s from by rw [Nat.add_mul]; omega, ih, List.take_of_length_le (by rw [K.len, Nat.add_mul]; omega)]
theorem flat_drop {β : Type} (K : EK β) (L : List β) (i : Nat) : (L.flatMap K.cells).drop (i * K.s) = (L.drop i).flatMap K.cells := by
  induction L generalizing i with
  | nil => simp
  | cons b L ih =>
    cases i with
    | zero => simp
    | succ i =>
      rw [List.flatMap_cons, List.drop_succ_cons, List.drop_append, K.len, show (i + 1) * K.s - K.s = i * K.s from by rw [Nat.add_mul]; omega, ih, List.drop_of_length_le (by rw [K.len, Nat.add_mul]; omega), List.nil_append]
end Go.Proofs.Ytfejidihocoboaa

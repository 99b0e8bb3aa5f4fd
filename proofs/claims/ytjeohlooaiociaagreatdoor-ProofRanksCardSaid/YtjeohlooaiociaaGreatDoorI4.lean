/- Merged: Tr17 I4 -/
import Derived.Test.YtjeohlooaiociaaGreatDoorTrC
import Derived.Test.YtjeohlooaiociaaGreatDoorHeld
import Derived.Test.YtjeohlooaiociaaGreatDoorK0
import Derived.Test.YtjeohlooaiociaaGreatDoorI2
import Derived.Test.YtjeohlooaiociaaGreatDoorF4
import Derived.Test.YtjeohlooaiociaaGreatDoorTrD
import Derived.Test.YtjeohlooaiociaaGreatDoorSetB
import Derived.Test.YtjeohlooaiociaaGreatDoorHeld2
import Derived.Test.YtjeohlooaiociaaGreatDoorTrB
import Derived.Test.YtjeohlooaiociaaGreatDoorTr6
import Derived.Test.YtjeohlooaiociaaGreatDoorAp1
set_option linter.unusedVariables false
set_option linter.unusedSimpArgs false
/- Tr17 -/
namespace Go.Proofs.YtjeohlooaiociaaGreatDoor
open Go Go.RowKit
theorem SetAt.early {L m D : Nat} {w7 : World} {sl u0 u1 : Value} (h : SetAt (Lo L) w7 sl 2 m) (hlt : D < L) : SetAt No ((w7.setCell ⟨D, 0, none⟩ u0).setCell ⟨D, 1, none⟩ u1) sl 2 m :=
 (h.ext (ext_two (W := w7) (w1 := w7) (Ext.refl _ _) D) (fun i _ e => by cases e; exact hlt)).no
end Go.Proofs.YtjeohlooaiociaaGreatDoor

/- I4 -/
namespace Go.Proofs.YtjeohlooaiociaaGreatDoor
open Go Go.RowKit
/-- an answer with an error and a zero value -/
def ErrPost (z : Value) (E : Int) (W : World) (e : Ending) (w' : World) : Prop := e = .returned (.tuple #[z, .int .i64 E]) ∧ Ext No W w'
def zeroSv : Value := .agg #[.int .i64 0, .slice none 0 0]
end Go.Proofs.YtjeohlooaiociaaGreatDoor

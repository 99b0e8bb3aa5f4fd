/-
  DERIVED. GIVEN WITH THE SEED: THE CARDS: each row of YtmddchceacmopaaGreatDoorRows.lean that lists a variable, with what it lists TIED to the program's text (the seventh form; the later family's looks); each row that meets fmt, with fmt's text TOLD by the authors' own Lean function (tested against real Go, not proved from fmt's source: count such statements apart). THE CARD IS WHAT COUNTS. Prove the row's statement (the work); the ties are given (YtmddchceacmopaaGreatDoorTie.lean); close each card by the builder's one call (the guide's Derived/Test/ToyasCard.lean, 'card_holds'). Laid BY PROGRAM, IN A SANDBOX (cutbox-door.mjs). By AI agents, Wed Nov 11 2026. No macro, syntax, notation, axiom, sorry.
-/
import Derived.Test.YtmddchceacmopaaGreatDoorRows
import GoSem.ClaimSeven
namespace Go.Proofs.YtmddchceacmopaaGreatDoor
namespace Rows

/-- THE TIED CARD OF 'flqlaw13.EliminationAgrees'. -/
def eliminationAgreesCard : Claim7 := { stood := { row := eliminationAgreesRow, standIns := [], harness := (true, "b663597a2f96806177ec3b54257ce80a1064736d1b310ad83f0b52c375da0650"), looks := false }, kinds := [], alts := [], laidByText := true, laidKinds := [.data], laidTests := true, laidLooks := .later }
def EliminationAgreesCardSaid : Prop := Claim7.holds Tryz.pinned (.plain (OpenSpec.ofChange eliminationAgreesSpec)) eliminationAgreesCard

/-- THE TIED CARD OF 'flqlaw13.EliminationReduces'. -/
def eliminationReducesCard : Claim7 := { stood := { row := eliminationReducesRow, standIns := [], harness := (true, "b663597a2f96806177ec3b54257ce80a1064736d1b310ad83f0b52c375da0650"), looks := false }, kinds := [], alts := [], laidByText := true, laidKinds := [.data], laidTests := true, laidLooks := .later }
def EliminationReducesCardSaid : Prop := Claim7.holds Tryz.pinned (.plain (OpenSpec.ofChange eliminationReducesSpec)) eliminationReducesCard

/-- THE TIED CARD OF 'flqlaw13.EliminationSolves'. -/
def eliminationSolvesCard : Claim7 := { stood := { row := eliminationSolvesRow, standIns := [], harness := (true, "b663597a2f96806177ec3b54257ce80a1064736d1b310ad83f0b52c375da0650"), looks := false }, kinds := [], alts := [], laidByText := true, laidKinds := [.data], laidTests := true, laidLooks := .later }
def EliminationSolvesCardSaid : Prop := Claim7.holds Tryz.pinned (.plain (OpenSpec.ofChange eliminationSolvesSpec)) eliminationSolvesCard

/-- THE SECOND FORM's CARD OF 'flqlaw13.EliminationAgrees'. -/
def eliminationAgreesUptoCard : Claim7 := { stood := { row := eliminationAgreesUptoRow, standIns := [], harness := (true, "b663597a2f96806177ec3b54257ce80a1064736d1b310ad83f0b52c375da0650"), looks := false }, kinds := [], alts := [], laidByText := true, laidKinds := [.data], laidTests := true, laidLooks := .later }
def EliminationAgreesUptoCardSaid : Prop := Claim7.holds Tryz.pinned (.plain (OpenSpec.upto eliminationAgreesSpec)) eliminationAgreesUptoCard

/-- THE SECOND FORM's CARD OF 'flqlaw13.EliminationReduces'. -/
def eliminationReducesUptoCard : Claim7 := { stood := { row := eliminationReducesUptoRow, standIns := [], harness := (true, "b663597a2f96806177ec3b54257ce80a1064736d1b310ad83f0b52c375da0650"), looks := false }, kinds := [], alts := [], laidByText := true, laidKinds := [.data], laidTests := true, laidLooks := .later }
def EliminationReducesUptoCardSaid : Prop := Claim7.holds Tryz.pinned (.plain (OpenSpec.upto eliminationReducesSpec)) eliminationReducesUptoCard

/-- THE SECOND FORM's CARD OF 'flqlaw13.EliminationSolves'. -/
def eliminationSolvesUptoCard : Claim7 := { stood := { row := eliminationSolvesUptoRow, standIns := [], harness := (true, "b663597a2f96806177ec3b54257ce80a1064736d1b310ad83f0b52c375da0650"), looks := false }, kinds := [], alts := [], laidByText := true, laidKinds := [.data], laidTests := true, laidLooks := .later }
def EliminationSolvesUptoCardSaid : Prop := Claim7.holds Tryz.pinned (.plain (OpenSpec.upto eliminationSolvesSpec)) eliminationSolvesUptoCard
end Rows
end Go.Proofs.YtmddchceacmopaaGreatDoor

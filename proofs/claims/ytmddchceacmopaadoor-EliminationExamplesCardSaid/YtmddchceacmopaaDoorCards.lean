/-
  DERIVED. GIVEN WITH THE SEED: THE CARDS: each row of YtmddchceacmopaaDoorRows.lean that lists a variable, with what it lists TIED to the program's text (the seventh form; the later family's looks); each row that meets fmt, with fmt's text TOLD by the authors' own Lean function (tested against real Go, not proved from fmt's source: count such statements apart). THE CARD IS WHAT COUNTS. Prove the row's statement (the work); the ties are given (YtmddchceacmopaaDoorTie.lean); close each card by the builder's one call (the guide's Derived/Test/ToyasCard.lean, 'card_holds'). Laid BY PROGRAM, IN A SANDBOX (cutbox-door.mjs). By AI agents, Wed Nov 11 2026. No macro, syntax, notation, axiom, sorry.
-/
import Derived.Test.YtmddchceacmopaaDoorRows
import GoSem.ClaimSeven
namespace Go.Proofs.YtmddchceacmopaaDoor
namespace Rows

/-- THE TIED CARD OF 'flqlaw13.EliminationExamples'. -/
def eliminationExamplesCard : Claim7 := { stood := { row := eliminationExamplesRow, standIns := [], harness := (true, "972a991f2f57d473054efbb2992fad2b477b3c368b5245bb4c1424893be309b2"), looks := false }, kinds := [], alts := [], laidByText := true, laidKinds := [.data], laidTests := true, laidLooks := .later }
def EliminationExamplesCardSaid : Prop := Claim7.holds Tryd.pinned (.plain (OpenSpec.ofChange eliminationExamplesSpec)) eliminationExamplesCard

/-- THE TIED CARD OF 'flqlaw13.EliminationKeeps'. -/
def eliminationKeepsCard : Claim7 := { stood := { row := eliminationKeepsRow, standIns := [], harness := (true, "972a991f2f57d473054efbb2992fad2b477b3c368b5245bb4c1424893be309b2"), looks := false }, kinds := [], alts := [], laidByText := true, laidKinds := [.data], laidTests := true, laidLooks := .later }
def EliminationKeepsCardSaid : Prop := Claim7.holds Tryd.pinned (.plain (OpenSpec.ofChange eliminationKeepsSpec)) eliminationKeepsCard

/-- THE SECOND FORM's CARD OF 'flqlaw13.EliminationExamples'. -/
def eliminationExamplesUptoCard : Claim7 := { stood := { row := eliminationExamplesUptoRow, standIns := [], harness := (true, "972a991f2f57d473054efbb2992fad2b477b3c368b5245bb4c1424893be309b2"), looks := false }, kinds := [], alts := [], laidByText := true, laidKinds := [.data], laidTests := true, laidLooks := .later }
def EliminationExamplesUptoCardSaid : Prop := Claim7.holds Tryd.pinned (.plain (OpenSpec.upto eliminationExamplesSpec)) eliminationExamplesUptoCard

/-- THE SECOND FORM's CARD OF 'flqlaw13.EliminationKeeps'. -/
def eliminationKeepsUptoCard : Claim7 := { stood := { row := eliminationKeepsUptoRow, standIns := [], harness := (true, "972a991f2f57d473054efbb2992fad2b477b3c368b5245bb4c1424893be309b2"), looks := false }, kinds := [], alts := [], laidByText := true, laidKinds := [.data], laidTests := true, laidLooks := .later }
def EliminationKeepsUptoCardSaid : Prop := Claim7.holds Tryd.pinned (.plain (OpenSpec.upto eliminationKeepsSpec)) eliminationKeepsUptoCard
end Rows
end Go.Proofs.YtmddchceacmopaaDoor

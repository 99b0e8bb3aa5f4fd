/-
  DERIVED. GIVEN WITH THE SEED: THE CARDS: each row of YtjeohlooaiociaaGreatDoorRows.lean that lists a variable, with what it lists TIED to the program's text (the seventh form; the later family's looks); each row that meets fmt, with fmt's text TOLD by the authors' own Lean function (tested against real Go, not proved from fmt's source: count such statements apart). THE CARD IS WHAT COUNTS. Prove the row's statement (the work); the ties are given (YtjeohlooaiociaaGreatDoorTie.lean); close each card by the builder's one call (the guide's Derived/Test/ToyasCard.lean, 'card_holds'). Laid BY PROGRAM, IN A SANDBOX (cutbox-door.mjs). By AI agents, Wed Nov 11 2026. No macro, syntax, notation, axiom, sorry.
-/
import Derived.Test.YtjeohlooaiociaaGreatDoorRows
import GoSem.ClaimSeven
namespace Go.Proofs.YtjeohlooaiociaaGreatDoor
namespace Rows

/-- THE TIED CARD OF 'flqlaw17.ProofMakes'. -/
def proofMakesCard : Claim7 := { stood := { row := proofMakesRow, standIns := [], harness := (true, "822d9a7a2a7b4de125dacb92d6432dcc7a5d98213506f8c6ed69ea507e3d4cd8"), looks := false }, kinds := [], alts := [], laidByText := true, laidKinds := [.data], laidTests := true, laidLooks := .later }
def ProofMakesCardSaid : Prop := Claim7.holds Tryz.pinned (.plain (OpenSpec.ofChange proofMakesSpec)) proofMakesCard

/-- THE TIED CARD OF 'flqlaw17.ProofSound'. -/
def proofSoundCard : Claim7 := { stood := { row := proofSoundRow, standIns := [], harness := (true, "822d9a7a2a7b4de125dacb92d6432dcc7a5d98213506f8c6ed69ea507e3d4cd8"), looks := false }, kinds := [], alts := [], laidByText := true, laidKinds := [.data], laidTests := true, laidLooks := .later }
def ProofSoundCardSaid : Prop := Claim7.holds Tryz.pinned (.plain (OpenSpec.ofChange proofSoundSpec)) proofSoundCard

/-- THE TIED CARD OF 'flqlaw17.ProofDecodes'. -/
def proofDecodesCard : Claim7 := { stood := { row := proofDecodesRow, standIns := [], harness := (true, "822d9a7a2a7b4de125dacb92d6432dcc7a5d98213506f8c6ed69ea507e3d4cd8"), looks := false }, kinds := [], alts := [], laidByText := true, laidKinds := [.data], laidTests := true, laidLooks := .later }
def ProofDecodesCardSaid : Prop := Claim7.holds Tryz.pinned (.plain (OpenSpec.ofChange proofDecodesSpec)) proofDecodesCard

/-- THE TIED CARD OF 'flqlaw17.ProofRanks'. -/
def proofRanksCard : Claim7 := { stood := { row := proofRanksRow, standIns := [], harness := (true, "822d9a7a2a7b4de125dacb92d6432dcc7a5d98213506f8c6ed69ea507e3d4cd8"), looks := false }, kinds := [], alts := [], laidByText := true, laidKinds := [.data], laidTests := true, laidLooks := .later }
def ProofRanksCardSaid : Prop := Claim7.holds Tryz.pinned (.plain (OpenSpec.ofChange proofRanksSpec)) proofRanksCard

/-- THE TIED CARD OF 'flqlaw17.ProofEncodes'. -/
def proofEncodesCard : Claim7 := { stood := { row := proofEncodesRow, standIns := [], harness := (true, "822d9a7a2a7b4de125dacb92d6432dcc7a5d98213506f8c6ed69ea507e3d4cd8"), looks := false }, kinds := [], alts := [], laidByText := true, laidKinds := [.data], laidTests := true, laidLooks := .later }
def ProofEncodesCardSaid : Prop := Claim7.holds Tryz.pinned (.plain (OpenSpec.ofChange proofEncodesSpec)) proofEncodesCard

/-- THE SECOND FORM's CARD OF 'flqlaw17.ProofMakes'. -/
def proofMakesUptoCard : Claim7 := { stood := { row := proofMakesUptoRow, standIns := [], harness := (true, "822d9a7a2a7b4de125dacb92d6432dcc7a5d98213506f8c6ed69ea507e3d4cd8"), looks := false }, kinds := [], alts := [], laidByText := true, laidKinds := [.data], laidTests := true, laidLooks := .later }
def ProofMakesUptoCardSaid : Prop := Claim7.holds Tryz.pinned (.plain (OpenSpec.upto proofMakesSpec)) proofMakesUptoCard

/-- THE SECOND FORM's CARD OF 'flqlaw17.ProofSound'. -/
def proofSoundUptoCard : Claim7 := { stood := { row := proofSoundUptoRow, standIns := [], harness := (true, "822d9a7a2a7b4de125dacb92d6432dcc7a5d98213506f8c6ed69ea507e3d4cd8"), looks := false }, kinds := [], alts := [], laidByText := true, laidKinds := [.data], laidTests := true, laidLooks := .later }
def ProofSoundUptoCardSaid : Prop := Claim7.holds Tryz.pinned (.plain (OpenSpec.upto proofSoundSpec)) proofSoundUptoCard

/-- THE SECOND FORM's CARD OF 'flqlaw17.ProofDecodes'. -/
def proofDecodesUptoCard : Claim7 := { stood := { row := proofDecodesUptoRow, standIns := [], harness := (true, "822d9a7a2a7b4de125dacb92d6432dcc7a5d98213506f8c6ed69ea507e3d4cd8"), looks := false }, kinds := [], alts := [], laidByText := true, laidKinds := [.data], laidTests := true, laidLooks := .later }
def ProofDecodesUptoCardSaid : Prop := Claim7.holds Tryz.pinned (.plain (OpenSpec.upto proofDecodesSpec)) proofDecodesUptoCard

/-- THE SECOND FORM's CARD OF 'flqlaw17.ProofRanks'. -/
def proofRanksUptoCard : Claim7 := { stood := { row := proofRanksUptoRow, standIns := [], harness := (true, "822d9a7a2a7b4de125dacb92d6432dcc7a5d98213506f8c6ed69ea507e3d4cd8"), looks := false }, kinds := [], alts := [], laidByText := true, laidKinds := [.data], laidTests := true, laidLooks := .later }
def ProofRanksUptoCardSaid : Prop := Claim7.holds Tryz.pinned (.plain (OpenSpec.upto proofRanksSpec)) proofRanksUptoCard

/-- THE SECOND FORM's CARD OF 'flqlaw17.ProofEncodes'. -/
def proofEncodesUptoCard : Claim7 := { stood := { row := proofEncodesUptoRow, standIns := [], harness := (true, "822d9a7a2a7b4de125dacb92d6432dcc7a5d98213506f8c6ed69ea507e3d4cd8"), looks := false }, kinds := [], alts := [], laidByText := true, laidKinds := [.data], laidTests := true, laidLooks := .later }
def ProofEncodesUptoCardSaid : Prop := Claim7.holds Tryz.pinned (.plain (OpenSpec.upto proofEncodesSpec)) proofEncodesUptoCard
end Rows
end Go.Proofs.YtjeohlooaiociaaGreatDoor

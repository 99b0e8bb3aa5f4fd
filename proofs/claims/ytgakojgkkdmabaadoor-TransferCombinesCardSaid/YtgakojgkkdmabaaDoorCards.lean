/-
  DERIVED. GIVEN WITH THE SEED: THE CARDS: each row of YtgakojgkkdmabaaDoorRows.lean that lists a variable, with what it lists TIED to the program's text (the seventh form; the later family's looks); each row that meets fmt, with fmt's text TOLD by the authors' own Lean function (tested against real Go, not proved from fmt's source: count such statements apart). THE CARD IS WHAT COUNTS. Prove the row's statement (the work); the ties are given (YtgakojgkkdmabaaDoorTie.lean); close each card by the builder's one call (the guide's Derived/Test/ToyasCard.lean, 'card_holds'). Laid BY PROGRAM, IN A SANDBOX (cutbox-door.mjs). By AI agents, Wed Nov 11 2026. No macro, syntax, notation, axiom, sorry.
-/
import Derived.Test.YtgakojgkkdmabaaDoorRows
import GoSem.ClaimSeven
namespace Go.Proofs.YtgakojgkkdmabaaDoor
namespace Rows

/-- THE TIED CARD OF 'flqlaw3.TransferApplies'. -/
def transferAppliesCard : Claim7 := { stood := { row := transferAppliesRow, standIns := [], harness := (true, "1a33ecb029b968c9e12ae0ac1904c15760f95e0c4014a4e9316f8b9ec6bb1d2f"), looks := false }, kinds := [], alts := [], laidByText := true, laidKinds := [.data], laidTests := true, laidLooks := .later }
def TransferAppliesCardSaid : Prop := Claim7.holds Tryd.pinned (.plain (OpenSpec.ofChange transferAppliesSpec)) transferAppliesCard

/-- THE TIED CARD OF 'flqlaw3.TransferMonoid'. -/
def transferMonoidCard : Claim7 := { stood := { row := transferMonoidRow, standIns := [], harness := (true, "1a33ecb029b968c9e12ae0ac1904c15760f95e0c4014a4e9316f8b9ec6bb1d2f"), looks := false }, kinds := [], alts := [], laidByText := true, laidKinds := [.data], laidTests := true, laidLooks := .later }
def TransferMonoidCardSaid : Prop := Claim7.holds Tryd.pinned (.plain (OpenSpec.ofChange transferMonoidSpec)) transferMonoidCard

/-- THE TIED CARD OF 'flqlaw3.TransferStar'. -/
def transferStarCard : Claim7 := { stood := { row := transferStarRow, standIns := [], harness := (true, "1a33ecb029b968c9e12ae0ac1904c15760f95e0c4014a4e9316f8b9ec6bb1d2f"), looks := false }, kinds := [], alts := [], laidByText := true, laidKinds := [.data], laidTests := true, laidLooks := .later }
def TransferStarCardSaid : Prop := Claim7.holds Tryd.pinned (.plain (OpenSpec.ofChange transferStarSpec)) transferStarCard

/-- THE TIED CARD OF 'flqlaw3.TransferFull'. -/
def transferFullCard : Claim7 := { stood := { row := transferFullRow, standIns := [], harness := (true, "1a33ecb029b968c9e12ae0ac1904c15760f95e0c4014a4e9316f8b9ec6bb1d2f"), looks := false }, kinds := [], alts := [], laidByText := true, laidKinds := [.data], laidTests := true, laidLooks := .later }
def TransferFullCardSaid : Prop := Claim7.holds Tryd.pinned (.plain (OpenSpec.ofChange transferFullSpec)) transferFullCard

/-- THE TIED CARD OF 'flqlaw3.TransferDistributes'. -/
def transferDistributesCard : Claim7 := { stood := { row := transferDistributesRow, standIns := [], harness := (true, "1a33ecb029b968c9e12ae0ac1904c15760f95e0c4014a4e9316f8b9ec6bb1d2f"), looks := false }, kinds := [], alts := [], laidByText := true, laidKinds := [.data], laidTests := true, laidLooks := .later }
def TransferDistributesCardSaid : Prop := Claim7.holds Tryd.pinned (.plain (OpenSpec.ofChange transferDistributesSpec)) transferDistributesCard

/-- THE TIED CARD OF 'flqlaw3.TransferExamples'. -/
def transferExamplesCard : Claim7 := { stood := { row := transferExamplesRow, standIns := [], harness := (true, "1a33ecb029b968c9e12ae0ac1904c15760f95e0c4014a4e9316f8b9ec6bb1d2f"), looks := false }, kinds := [], alts := [], laidByText := true, laidKinds := [.data], laidTests := true, laidLooks := .later }
def TransferExamplesCardSaid : Prop := Claim7.holds Tryd.pinned (.plain (OpenSpec.ofChange transferExamplesSpec)) transferExamplesCard

/-- THE TIED CARD OF 'flqlaw3.TransferCombines'. -/
def transferCombinesCard : Claim7 := { stood := { row := transferCombinesRow, standIns := [], harness := (true, "1a33ecb029b968c9e12ae0ac1904c15760f95e0c4014a4e9316f8b9ec6bb1d2f"), looks := false }, kinds := [], alts := [], laidByText := true, laidKinds := [.data], laidTests := true, laidLooks := .later }
def TransferCombinesCardSaid : Prop := Claim7.holds Tryd.pinned (.plain (OpenSpec.ofChange transferCombinesSpec)) transferCombinesCard

/-- THE TIED CARD OF 'flqlaw3.TransferStarLeast'. -/
def transferStarLeastCard : Claim7 := { stood := { row := transferStarLeastRow, standIns := [], harness := (true, "1a33ecb029b968c9e12ae0ac1904c15760f95e0c4014a4e9316f8b9ec6bb1d2f"), looks := false }, kinds := [], alts := [], laidByText := true, laidKinds := [.data], laidTests := true, laidLooks := .later }
def TransferStarLeastCardSaid : Prop := Claim7.holds Tryd.pinned (.plain (OpenSpec.ofChange transferStarLeastSpec)) transferStarLeastCard

/-- THE TIED CARD OF 'flqlaw3.TransferMeans'. -/
def transferMeansCard : Claim7 := { stood := { row := transferMeansRow, standIns := [], harness := (true, "1a33ecb029b968c9e12ae0ac1904c15760f95e0c4014a4e9316f8b9ec6bb1d2f"), looks := false }, kinds := [], alts := [], laidByText := true, laidKinds := [.data], laidTests := true, laidLooks := .later }
def TransferMeansCardSaid : Prop := Claim7.holds Tryd.pinned (.plain (OpenSpec.ofChange transferMeansSpec)) transferMeansCard

/-- THE SECOND FORM's CARD OF 'flqlaw3.TransferApplies'. -/
def transferAppliesUptoCard : Claim7 := { stood := { row := transferAppliesUptoRow, standIns := [], harness := (true, "1a33ecb029b968c9e12ae0ac1904c15760f95e0c4014a4e9316f8b9ec6bb1d2f"), looks := false }, kinds := [], alts := [], laidByText := true, laidKinds := [.data], laidTests := true, laidLooks := .later }
def TransferAppliesUptoCardSaid : Prop := Claim7.holds Tryd.pinned (.plain (OpenSpec.upto transferAppliesSpec)) transferAppliesUptoCard

/-- THE SECOND FORM's CARD OF 'flqlaw3.TransferMonoid'. -/
def transferMonoidUptoCard : Claim7 := { stood := { row := transferMonoidUptoRow, standIns := [], harness := (true, "1a33ecb029b968c9e12ae0ac1904c15760f95e0c4014a4e9316f8b9ec6bb1d2f"), looks := false }, kinds := [], alts := [], laidByText := true, laidKinds := [.data], laidTests := true, laidLooks := .later }
def TransferMonoidUptoCardSaid : Prop := Claim7.holds Tryd.pinned (.plain (OpenSpec.upto transferMonoidSpec)) transferMonoidUptoCard

/-- THE SECOND FORM's CARD OF 'flqlaw3.TransferStar'. -/
def transferStarUptoCard : Claim7 := { stood := { row := transferStarUptoRow, standIns := [], harness := (true, "1a33ecb029b968c9e12ae0ac1904c15760f95e0c4014a4e9316f8b9ec6bb1d2f"), looks := false }, kinds := [], alts := [], laidByText := true, laidKinds := [.data], laidTests := true, laidLooks := .later }
def TransferStarUptoCardSaid : Prop := Claim7.holds Tryd.pinned (.plain (OpenSpec.upto transferStarSpec)) transferStarUptoCard

/-- THE SECOND FORM's CARD OF 'flqlaw3.TransferFull'. -/
def transferFullUptoCard : Claim7 := { stood := { row := transferFullUptoRow, standIns := [], harness := (true, "1a33ecb029b968c9e12ae0ac1904c15760f95e0c4014a4e9316f8b9ec6bb1d2f"), looks := false }, kinds := [], alts := [], laidByText := true, laidKinds := [.data], laidTests := true, laidLooks := .later }
def TransferFullUptoCardSaid : Prop := Claim7.holds Tryd.pinned (.plain (OpenSpec.upto transferFullSpec)) transferFullUptoCard

/-- THE SECOND FORM's CARD OF 'flqlaw3.TransferDistributes'. -/
def transferDistributesUptoCard : Claim7 := { stood := { row := transferDistributesUptoRow, standIns := [], harness := (true, "1a33ecb029b968c9e12ae0ac1904c15760f95e0c4014a4e9316f8b9ec6bb1d2f"), looks := false }, kinds := [], alts := [], laidByText := true, laidKinds := [.data], laidTests := true, laidLooks := .later }
def TransferDistributesUptoCardSaid : Prop := Claim7.holds Tryd.pinned (.plain (OpenSpec.upto transferDistributesSpec)) transferDistributesUptoCard

/-- THE SECOND FORM's CARD OF 'flqlaw3.TransferExamples'. -/
def transferExamplesUptoCard : Claim7 := { stood := { row := transferExamplesUptoRow, standIns := [], harness := (true, "1a33ecb029b968c9e12ae0ac1904c15760f95e0c4014a4e9316f8b9ec6bb1d2f"), looks := false }, kinds := [], alts := [], laidByText := true, laidKinds := [.data], laidTests := true, laidLooks := .later }
def TransferExamplesUptoCardSaid : Prop := Claim7.holds Tryd.pinned (.plain (OpenSpec.upto transferExamplesSpec)) transferExamplesUptoCard

/-- THE SECOND FORM's CARD OF 'flqlaw3.TransferCombines'. -/
def transferCombinesUptoCard : Claim7 := { stood := { row := transferCombinesUptoRow, standIns := [], harness := (true, "1a33ecb029b968c9e12ae0ac1904c15760f95e0c4014a4e9316f8b9ec6bb1d2f"), looks := false }, kinds := [], alts := [], laidByText := true, laidKinds := [.data], laidTests := true, laidLooks := .later }
def TransferCombinesUptoCardSaid : Prop := Claim7.holds Tryd.pinned (.plain (OpenSpec.upto transferCombinesSpec)) transferCombinesUptoCard

/-- THE SECOND FORM's CARD OF 'flqlaw3.TransferStarLeast'. -/
def transferStarLeastUptoCard : Claim7 := { stood := { row := transferStarLeastUptoRow, standIns := [], harness := (true, "1a33ecb029b968c9e12ae0ac1904c15760f95e0c4014a4e9316f8b9ec6bb1d2f"), looks := false }, kinds := [], alts := [], laidByText := true, laidKinds := [.data], laidTests := true, laidLooks := .later }
def TransferStarLeastUptoCardSaid : Prop := Claim7.holds Tryd.pinned (.plain (OpenSpec.upto transferStarLeastSpec)) transferStarLeastUptoCard

/-- THE SECOND FORM's CARD OF 'flqlaw3.TransferMeans'. -/
def transferMeansUptoCard : Claim7 := { stood := { row := transferMeansUptoRow, standIns := [], harness := (true, "1a33ecb029b968c9e12ae0ac1904c15760f95e0c4014a4e9316f8b9ec6bb1d2f"), looks := false }, kinds := [], alts := [], laidByText := true, laidKinds := [.data], laidTests := true, laidLooks := .later }
def TransferMeansUptoCardSaid : Prop := Claim7.holds Tryd.pinned (.plain (OpenSpec.upto transferMeansSpec)) transferMeansUptoCard
end Rows
end Go.Proofs.YtgakojgkkdmabaaDoor

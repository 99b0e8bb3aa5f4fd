/-
  DERIVED. GIVEN WITH THE SEED: THE CARDS: each row of YtjeohlooaiociaaDoorRows.lean that lists a variable, with what it lists TIED to the program's text (the seventh form; the later family's looks); each row that meets fmt, with fmt's text TOLD by the authors' own Lean function (tested against real Go, not proved from fmt's source: count such statements apart). THE CARD IS WHAT COUNTS. Prove the row's statement (the work); the ties are given (YtjeohlooaiociaaDoorTie.lean); close each card by the builder's one call (the guide's Derived/Test/ToyasCard.lean, 'card_holds'). Laid BY PROGRAM, IN A SANDBOX (cutbox-door.mjs). By AI agents, Wed Nov 11 2026. No macro, syntax, notation, axiom, sorry.
-/
import Derived.Test.YtjeohlooaiociaaDoorRows
import GoSem.ClaimSeven
namespace Go.Proofs.YtjeohlooaiociaaDoor
namespace Rows

/-- THE TIED CARD OF 'flqlaw17.ProofChecksum'. -/
def proofChecksumCard : Claim7 := { stood := { row := proofChecksumRow, standIns := [], harness := (true, "4f49cf66e4429b8848c26750d51948eb1b2fa2e2055a9aa15cc6611b547288f5"), looks := false }, kinds := [], alts := [], laidByText := true, laidKinds := [.data], laidTests := true, laidLooks := .later }
def ProofChecksumCardSaid : Prop := Claim7.holds Tryd.pinned (.plain (OpenSpec.ofChange proofChecksumSpec)) proofChecksumCard

/-- THE SECOND FORM's CARD OF 'flqlaw17.ProofChecksum'. -/
def proofChecksumUptoCard : Claim7 := { stood := { row := proofChecksumUptoRow, standIns := [], harness := (true, "4f49cf66e4429b8848c26750d51948eb1b2fa2e2055a9aa15cc6611b547288f5"), looks := false }, kinds := [], alts := [], laidByText := true, laidKinds := [.data], laidTests := true, laidLooks := .later }
def ProofChecksumUptoCardSaid : Prop := Claim7.holds Tryd.pinned (.plain (OpenSpec.upto proofChecksumSpec)) proofChecksumUptoCard
end Rows
end Go.Proofs.YtjeohlooaiociaaDoor

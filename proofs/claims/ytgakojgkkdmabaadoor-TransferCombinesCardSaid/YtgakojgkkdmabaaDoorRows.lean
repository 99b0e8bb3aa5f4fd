/-
  NARROWER THAN 'FOR EVERY INPUT', by the rows' own cells (each row's printed sentence says how): TransferApplies: laid · TransferMonoid: laid · TransferStar: laid · TransferFull: laid · TransferDistributes: laid · TransferExamples: laid · TransferCombines: laid · TransferStarLeast: laid · TransferMeans: laid.
  DERIVED. THE GIVEN ROWS OF THIS SEAT. 9 by the template 'for every input the law returns true; each argument reads behind the call as it read before'; 0 by the template 'total and deterministic' (their statements: YtgakojgkkdmabaaDoorTotals.lean).
  GIVEN WITH THE SEED: the statements are not yours to turn. If you find one false, say at which input.
  Laid BY PROGRAM, IN A SANDBOX (cutbox-rows.mjs): the forced cells as the released guide's own fill.sh prints them over the translation d28e98c7509529e2… (all of the seat's roots in one cut). By AI agents, Wed Nov 11 2026. No macro, syntax, notation, axiom, sorry.
-/
import Derived.Test.YtgakojgkkdmabaaDoorChecked
import GoSem.Claim
import GoSem.ClaimJoined
import GoSem.ClaimMapViews
import Derived.JoinedTies
import Derived.KernelRfl
namespace Go.Proofs.YtgakojgkkdmabaaDoor
/- THE CELL 'sum', in the pinned program and in every row, IS THE sha256 OF THE DUMP (.gsa) THAT YtgakojgkkdmabaaDoorProg.lean LOADS. Nothing in Lean hashes anything: it is a label: what it is worth is what the hold of that sum in a sandbox is worth. -/
noncomputable def Tryd.pinned : Pinned := { name := "ytgakojgkkdmabaadoor", sum := "d28e98c7509529e2d2221bfa960c6710ae5946a71ecbaa817ab0f0d70d00f28b", checked := Tryd.checked }
namespace Rows
def none {H : Type} : Left H := { results := [], args := [] }

/- WHAT THE LISTED PACKAGE-LEVEL VARIABLES READ AS WHEN THE CALL BEGINS. Each datum BY PROGRAM (the guide's laid-datum.mjs) off the statement by which the dump's own 'gosem.cut.vars' lays the variable. In a bare row this is a premise. The card (YtgakojgkkdmabaaDoorCards.lean) ties it to the program's text. -/
def laid_math_bits_deBruijn64tab {H : Type} : DataW H := .agg [.lit (.int .u8 0), .lit (.int .u8 1), .lit (.int .u8 56), .lit (.int .u8 2), .lit (.int .u8 57), .lit (.int .u8 49), .lit (.int .u8 28), .lit (.int .u8 3), .lit (.int .u8 61), .lit (.int .u8 58), .lit (.int .u8 42), .lit (.int .u8 50), .lit (.int .u8 38), .lit (.int .u8 29), .lit (.int .u8 17), .lit (.int .u8 4), .lit (.int .u8 62), .lit (.int .u8 47), .lit (.int .u8 59), .lit (.int .u8 36), .lit (.int .u8 45), .lit (.int .u8 43), .lit (.int .u8 51), .lit (.int .u8 22), .lit (.int .u8 53), .lit (.int .u8 39), .lit (.int .u8 33), .lit (.int .u8 30), .lit (.int .u8 24), .lit (.int .u8 18), .lit (.int .u8 12), .lit (.int .u8 5), .lit (.int .u8 63), .lit (.int .u8 55), .lit (.int .u8 48), .lit (.int .u8 27), .lit (.int .u8 60), .lit (.int .u8 41), .lit (.int .u8 37), .lit (.int .u8 16), .lit (.int .u8 46), .lit (.int .u8 35), .lit (.int .u8 44), .lit (.int .u8 21), .lit (.int .u8 52), .lit (.int .u8 32), .lit (.int .u8 23), .lit (.int .u8 11), .lit (.int .u8 54), .lit (.int .u8 26), .lit (.int .u8 40), .lit (.int .u8 15), .lit (.int .u8 34), .lit (.int .u8 20), .lit (.int .u8 31), .lit (.int .u8 10), .lit (.int .u8 25), .lit (.int .u8 14), .lit (.int .u8 19), .lit (.int .u8 9), .lit (.int .u8 13), .lit (.int .u8 8), .lit (.int .u8 7), .lit (.int .u8 6)]

/-- 'flqlaw3.TransferApplies': WHATEVER THE INPUT: true; the input reads as it did. -/
def transferAppliesSpec : ChangeSpec := { name := "transferApplies", fn := fun _ => fun
  | [d1, d2, d3, d4, d5] => { results := [.lit (.bool true)], args := [d1, d2, d3, d4, d5] }
  | _ => none }
def transferAppliesRow : OpenClaim := { program := "ytgakojgkkdmabaadoor", sum := "d28e98c7509529e2d2221bfa960c6710ae5946a71ecbaa817ab0f0d70d00f28b", func := "flowquery/flqlaw3.TransferApplies", spec := "transferApplies", unfollowed := true, recurses := true, named := ["math/bits.deBruijn64tab"], apart := false, laid := [("math/bits.deBruijn64tab", laid_math_bits_deBruijn64tab)] }
def TransferAppliesSaid : Prop := transferAppliesRow.holds Tryd.pinned (OpenSpec.ofChange transferAppliesSpec)

/-- ITS FALSE NEIGHBOUR: 'it returns false'. Refute it at one input. -/
def transferAppliesWrong : ChangeSpec := { name := "transferApplies", fn := fun _ => fun
  | [d1, d2, d3, d4, d5] => { results := [.lit (.bool false)], args := [d1, d2, d3, d4, d5] }
  | _ => none }
def TransferAppliesWrongFalsely : Prop := transferAppliesRow.holds Tryd.pinned (OpenSpec.ofChange transferAppliesWrong)

/-- 'flqlaw3.TransferMonoid': WHATEVER THE INPUT: true; the input reads as it did. -/
def transferMonoidSpec : ChangeSpec := { name := "transferMonoid", fn := fun _ => fun
  | [d] => { results := [.lit (.bool true)], args := [d] }
  | _ => none }
def transferMonoidRow : OpenClaim := { program := "ytgakojgkkdmabaadoor", sum := "d28e98c7509529e2d2221bfa960c6710ae5946a71ecbaa817ab0f0d70d00f28b", func := "flowquery/flqlaw3.TransferMonoid", spec := "transferMonoid", unfollowed := true, recurses := true, named := ["math/bits.deBruijn64tab"], apart := false, laid := [("math/bits.deBruijn64tab", laid_math_bits_deBruijn64tab)] }
def TransferMonoidSaid : Prop := transferMonoidRow.holds Tryd.pinned (OpenSpec.ofChange transferMonoidSpec)

/-- ITS FALSE NEIGHBOUR: 'it returns false'. Refute it at one input. -/
def transferMonoidWrong : ChangeSpec := { name := "transferMonoid", fn := fun _ => fun
  | [d] => { results := [.lit (.bool false)], args := [d] }
  | _ => none }
def TransferMonoidWrongFalsely : Prop := transferMonoidRow.holds Tryd.pinned (OpenSpec.ofChange transferMonoidWrong)

/-- 'flqlaw3.TransferStar': WHATEVER THE INPUT: true; the input reads as it did. -/
def transferStarSpec : ChangeSpec := { name := "transferStar", fn := fun _ => fun
  | [d1, d2] => { results := [.lit (.bool true)], args := [d1, d2] }
  | _ => none }
def transferStarRow : OpenClaim := { program := "ytgakojgkkdmabaadoor", sum := "d28e98c7509529e2d2221bfa960c6710ae5946a71ecbaa817ab0f0d70d00f28b", func := "flowquery/flqlaw3.TransferStar", spec := "transferStar", unfollowed := true, recurses := true, named := ["math/bits.deBruijn64tab"], apart := false, laid := [("math/bits.deBruijn64tab", laid_math_bits_deBruijn64tab)] }
def TransferStarSaid : Prop := transferStarRow.holds Tryd.pinned (OpenSpec.ofChange transferStarSpec)

/-- ITS FALSE NEIGHBOUR: 'it returns false'. Refute it at one input. -/
def transferStarWrong : ChangeSpec := { name := "transferStar", fn := fun _ => fun
  | [d1, d2] => { results := [.lit (.bool false)], args := [d1, d2] }
  | _ => none }
def TransferStarWrongFalsely : Prop := transferStarRow.holds Tryd.pinned (OpenSpec.ofChange transferStarWrong)

/-- 'flqlaw3.TransferFull': WHATEVER THE INPUT: true; the input reads as it did. -/
def transferFullSpec : ChangeSpec := { name := "transferFull", fn := fun _ => fun
  | [d] => { results := [.lit (.bool true)], args := [d] }
  | _ => none }
def transferFullRow : OpenClaim := { program := "ytgakojgkkdmabaadoor", sum := "d28e98c7509529e2d2221bfa960c6710ae5946a71ecbaa817ab0f0d70d00f28b", func := "flowquery/flqlaw3.TransferFull", spec := "transferFull", unfollowed := true, recurses := true, named := ["math/bits.deBruijn64tab"], apart := false, laid := [("math/bits.deBruijn64tab", laid_math_bits_deBruijn64tab)] }
def TransferFullSaid : Prop := transferFullRow.holds Tryd.pinned (OpenSpec.ofChange transferFullSpec)

/-- ITS FALSE NEIGHBOUR: 'it returns false'. Refute it at one input. -/
def transferFullWrong : ChangeSpec := { name := "transferFull", fn := fun _ => fun
  | [d] => { results := [.lit (.bool false)], args := [d] }
  | _ => none }
def TransferFullWrongFalsely : Prop := transferFullRow.holds Tryd.pinned (OpenSpec.ofChange transferFullWrong)

/-- 'flqlaw3.TransferDistributes': WHATEVER THE INPUT: true; the input reads as it did. -/
def transferDistributesSpec : ChangeSpec := { name := "transferDistributes", fn := fun _ => fun
  | [d] => { results := [.lit (.bool true)], args := [d] }
  | _ => none }
def transferDistributesRow : OpenClaim := { program := "ytgakojgkkdmabaadoor", sum := "d28e98c7509529e2d2221bfa960c6710ae5946a71ecbaa817ab0f0d70d00f28b", func := "flowquery/flqlaw3.TransferDistributes", spec := "transferDistributes", unfollowed := true, recurses := true, named := ["math/bits.deBruijn64tab"], apart := false, laid := [("math/bits.deBruijn64tab", laid_math_bits_deBruijn64tab)] }
def TransferDistributesSaid : Prop := transferDistributesRow.holds Tryd.pinned (OpenSpec.ofChange transferDistributesSpec)

/-- ITS FALSE NEIGHBOUR: 'it returns false'. Refute it at one input. -/
def transferDistributesWrong : ChangeSpec := { name := "transferDistributes", fn := fun _ => fun
  | [d] => { results := [.lit (.bool false)], args := [d] }
  | _ => none }
def TransferDistributesWrongFalsely : Prop := transferDistributesRow.holds Tryd.pinned (OpenSpec.ofChange transferDistributesWrong)

/-- 'flqlaw3.TransferExamples': WHATEVER THE INPUT: true; the input reads as it did. -/
def transferExamplesSpec : ChangeSpec := { name := "transferExamples", fn := fun _ => fun
  | [] => { results := [.lit (.bool true)], args := [] }
  | _ => none }
def transferExamplesRow : OpenClaim := { program := "ytgakojgkkdmabaadoor", sum := "d28e98c7509529e2d2221bfa960c6710ae5946a71ecbaa817ab0f0d70d00f28b", func := "flowquery/flqlaw3.TransferExamples", spec := "transferExamples", unfollowed := true, recurses := true, named := ["math/bits.deBruijn64tab"], apart := false, laid := [("math/bits.deBruijn64tab", laid_math_bits_deBruijn64tab)] }
def TransferExamplesSaid : Prop := transferExamplesRow.holds Tryd.pinned (OpenSpec.ofChange transferExamplesSpec)

/-- ITS FALSE NEIGHBOUR: 'it returns false'. Refute it at one input. -/
def transferExamplesWrong : ChangeSpec := { name := "transferExamples", fn := fun _ => fun
  | [] => { results := [.lit (.bool false)], args := [] }
  | _ => none }
def TransferExamplesWrongFalsely : Prop := transferExamplesRow.holds Tryd.pinned (OpenSpec.ofChange transferExamplesWrong)

/-- 'flqlaw3.TransferCombines': WHATEVER THE INPUT: true; the input reads as it did. -/
def transferCombinesSpec : ChangeSpec := { name := "transferCombines", fn := fun _ => fun
  | [d1, d2, d3] => { results := [.lit (.bool true)], args := [d1, d2, d3] }
  | _ => none }
def transferCombinesRow : OpenClaim := { program := "ytgakojgkkdmabaadoor", sum := "d28e98c7509529e2d2221bfa960c6710ae5946a71ecbaa817ab0f0d70d00f28b", func := "flowquery/flqlaw3.TransferCombines", spec := "transferCombines", unfollowed := true, recurses := true, named := ["math/bits.deBruijn64tab"], apart := false, laid := [("math/bits.deBruijn64tab", laid_math_bits_deBruijn64tab)] }
def TransferCombinesSaid : Prop := transferCombinesRow.holds Tryd.pinned (OpenSpec.ofChange transferCombinesSpec)

/-- ITS FALSE NEIGHBOUR: 'it returns false'. Refute it at one input. -/
def transferCombinesWrong : ChangeSpec := { name := "transferCombines", fn := fun _ => fun
  | [d1, d2, d3] => { results := [.lit (.bool false)], args := [d1, d2, d3] }
  | _ => none }
def TransferCombinesWrongFalsely : Prop := transferCombinesRow.holds Tryd.pinned (OpenSpec.ofChange transferCombinesWrong)

/-- 'flqlaw3.TransferStarLeast': WHATEVER THE INPUT: true; the input reads as it did. -/
def transferStarLeastSpec : ChangeSpec := { name := "transferStarLeast", fn := fun _ => fun
  | [d] => { results := [.lit (.bool true)], args := [d] }
  | _ => none }
def transferStarLeastRow : OpenClaim := { program := "ytgakojgkkdmabaadoor", sum := "d28e98c7509529e2d2221bfa960c6710ae5946a71ecbaa817ab0f0d70d00f28b", func := "flowquery/flqlaw3.TransferStarLeast", spec := "transferStarLeast", unfollowed := true, recurses := true, named := ["math/bits.deBruijn64tab"], apart := false, laid := [("math/bits.deBruijn64tab", laid_math_bits_deBruijn64tab)] }
def TransferStarLeastSaid : Prop := transferStarLeastRow.holds Tryd.pinned (OpenSpec.ofChange transferStarLeastSpec)

/-- ITS FALSE NEIGHBOUR: 'it returns false'. Refute it at one input. -/
def transferStarLeastWrong : ChangeSpec := { name := "transferStarLeast", fn := fun _ => fun
  | [d] => { results := [.lit (.bool false)], args := [d] }
  | _ => none }
def TransferStarLeastWrongFalsely : Prop := transferStarLeastRow.holds Tryd.pinned (OpenSpec.ofChange transferStarLeastWrong)

/-- 'flqlaw3.TransferMeans': WHATEVER THE INPUT: true; the input reads as it did. -/
def transferMeansSpec : ChangeSpec := { name := "transferMeans", fn := fun _ => fun
  | [d] => { results := [.lit (.bool true)], args := [d] }
  | _ => none }
def transferMeansRow : OpenClaim := { program := "ytgakojgkkdmabaadoor", sum := "d28e98c7509529e2d2221bfa960c6710ae5946a71ecbaa817ab0f0d70d00f28b", func := "flowquery/flqlaw3.TransferMeans", spec := "transferMeans", unfollowed := true, recurses := true, named := ["math/bits.deBruijn64tab"], apart := false, laid := [("math/bits.deBruijn64tab", laid_math_bits_deBruijn64tab)] }
def TransferMeansSaid : Prop := transferMeansRow.holds Tryd.pinned (OpenSpec.ofChange transferMeansSpec)

/-- ITS FALSE NEIGHBOUR: 'it returns false'. Refute it at one input. -/
def transferMeansWrong : ChangeSpec := { name := "transferMeans", fn := fun _ => fun
  | [d] => { results := [.lit (.bool false)], args := [d] }
  | _ => none }
def TransferMeansWrongFalsely : Prop := transferMeansRow.holds Tryd.pinned (OpenSpec.ofChange transferMeansWrong)

/- THE SECOND FORM. 'bulk': how many values and letters a reading holds, each counted each time it is reached (what is shared counts as often as it is met; a slice's spare places count too). A statement '..UptoSaid' is the law's where the arguments, and the package variables that the reading takes, are together of bulk at most 1048576: NARROWER than '..Said'. Prove '..Said' where nothing that the law and all that it calls make is longer than what came in: it says more and counts as full. Else prove '..UptoSaid'. A law counts once. -/
mutual
def uptoBulk {H : Type} : DataW H → Nat
  | .lit (.string bytes) => bytes.length + 1
  | .lit _ => 1
  | .nil => 1
  | .ptr d => uptoBulk d + 1
  | .slice elems spare => uptoBulkAll elems + uptoBulkAll spare + 1
  | .agg parts => uptoBulkAll parts + 1
  | .iface _ d => uptoBulk d + 1
  | .map entries => uptoBulkEntries entries + 1
  | .held _ => 1
def uptoBulkAll {H : Type} : List (DataW H) → Nat
  | [] => 0
  | d :: r => uptoBulk d + uptoBulkAll r
def uptoBulkEntries {H : Type} : List (Lit × DataW H) → Nat
  | [] => 0
  | x :: r => uptoBulkEntry x + uptoBulkEntries r
def uptoBulkEntry {H : Type} : Lit × DataW H → Nat
  | (.string bytes, d) => bytes.length + uptoBulk d + 1
  | (_, d) => uptoBulk d + 1
 end
def uptoSmall : (H : Type) → List (DataW H) → Bool := fun _ ds => decide (uptoBulkAll ds ≤ 1048576)
def OpenSpec.upto (s : _root_.Go.ChangeSpec) : _root_.Go.OpenSpec := { _root_.Go.OpenSpec.ofChange s with cond := some uptoSmall }

/-- 'flqlaw3.TransferApplies', WHERE WHAT IT READS IS OF BULK AT MOST 1048576: true; the input reads as it did. -/
def transferAppliesUptoRow : OpenClaim := { program := "ytgakojgkkdmabaadoor", sum := "d28e98c7509529e2d2221bfa960c6710ae5946a71ecbaa817ab0f0d70d00f28b", func := "flowquery/flqlaw3.TransferApplies", spec := "transferApplies", unfollowed := true, recurses := true, named := ["math/bits.deBruijn64tab"], apart := false, laid := [("math/bits.deBruijn64tab", laid_math_bits_deBruijn64tab)], narrowed := true }
def TransferAppliesUptoSaid : Prop := transferAppliesUptoRow.holds Tryd.pinned (OpenSpec.upto transferAppliesSpec)

/-- 'flqlaw3.TransferMonoid', WHERE WHAT IT READS IS OF BULK AT MOST 1048576: true; the input reads as it did. -/
def transferMonoidUptoRow : OpenClaim := { program := "ytgakojgkkdmabaadoor", sum := "d28e98c7509529e2d2221bfa960c6710ae5946a71ecbaa817ab0f0d70d00f28b", func := "flowquery/flqlaw3.TransferMonoid", spec := "transferMonoid", unfollowed := true, recurses := true, named := ["math/bits.deBruijn64tab"], apart := false, laid := [("math/bits.deBruijn64tab", laid_math_bits_deBruijn64tab)], narrowed := true }
def TransferMonoidUptoSaid : Prop := transferMonoidUptoRow.holds Tryd.pinned (OpenSpec.upto transferMonoidSpec)

/-- 'flqlaw3.TransferStar', WHERE WHAT IT READS IS OF BULK AT MOST 1048576: true; the input reads as it did. -/
def transferStarUptoRow : OpenClaim := { program := "ytgakojgkkdmabaadoor", sum := "d28e98c7509529e2d2221bfa960c6710ae5946a71ecbaa817ab0f0d70d00f28b", func := "flowquery/flqlaw3.TransferStar", spec := "transferStar", unfollowed := true, recurses := true, named := ["math/bits.deBruijn64tab"], apart := false, laid := [("math/bits.deBruijn64tab", laid_math_bits_deBruijn64tab)], narrowed := true }
def TransferStarUptoSaid : Prop := transferStarUptoRow.holds Tryd.pinned (OpenSpec.upto transferStarSpec)

/-- 'flqlaw3.TransferFull', WHERE WHAT IT READS IS OF BULK AT MOST 1048576: true; the input reads as it did. -/
def transferFullUptoRow : OpenClaim := { program := "ytgakojgkkdmabaadoor", sum := "d28e98c7509529e2d2221bfa960c6710ae5946a71ecbaa817ab0f0d70d00f28b", func := "flowquery/flqlaw3.TransferFull", spec := "transferFull", unfollowed := true, recurses := true, named := ["math/bits.deBruijn64tab"], apart := false, laid := [("math/bits.deBruijn64tab", laid_math_bits_deBruijn64tab)], narrowed := true }
def TransferFullUptoSaid : Prop := transferFullUptoRow.holds Tryd.pinned (OpenSpec.upto transferFullSpec)

/-- 'flqlaw3.TransferDistributes', WHERE WHAT IT READS IS OF BULK AT MOST 1048576: true; the input reads as it did. -/
def transferDistributesUptoRow : OpenClaim := { program := "ytgakojgkkdmabaadoor", sum := "d28e98c7509529e2d2221bfa960c6710ae5946a71ecbaa817ab0f0d70d00f28b", func := "flowquery/flqlaw3.TransferDistributes", spec := "transferDistributes", unfollowed := true, recurses := true, named := ["math/bits.deBruijn64tab"], apart := false, laid := [("math/bits.deBruijn64tab", laid_math_bits_deBruijn64tab)], narrowed := true }
def TransferDistributesUptoSaid : Prop := transferDistributesUptoRow.holds Tryd.pinned (OpenSpec.upto transferDistributesSpec)

/-- 'flqlaw3.TransferExamples', WHERE WHAT IT READS IS OF BULK AT MOST 1048576: true; the input reads as it did. -/
def transferExamplesUptoRow : OpenClaim := { program := "ytgakojgkkdmabaadoor", sum := "d28e98c7509529e2d2221bfa960c6710ae5946a71ecbaa817ab0f0d70d00f28b", func := "flowquery/flqlaw3.TransferExamples", spec := "transferExamples", unfollowed := true, recurses := true, named := ["math/bits.deBruijn64tab"], apart := false, laid := [("math/bits.deBruijn64tab", laid_math_bits_deBruijn64tab)], narrowed := true }
def TransferExamplesUptoSaid : Prop := transferExamplesUptoRow.holds Tryd.pinned (OpenSpec.upto transferExamplesSpec)

/-- 'flqlaw3.TransferCombines', WHERE WHAT IT READS IS OF BULK AT MOST 1048576: true; the input reads as it did. -/
def transferCombinesUptoRow : OpenClaim := { program := "ytgakojgkkdmabaadoor", sum := "d28e98c7509529e2d2221bfa960c6710ae5946a71ecbaa817ab0f0d70d00f28b", func := "flowquery/flqlaw3.TransferCombines", spec := "transferCombines", unfollowed := true, recurses := true, named := ["math/bits.deBruijn64tab"], apart := false, laid := [("math/bits.deBruijn64tab", laid_math_bits_deBruijn64tab)], narrowed := true }
def TransferCombinesUptoSaid : Prop := transferCombinesUptoRow.holds Tryd.pinned (OpenSpec.upto transferCombinesSpec)

/-- 'flqlaw3.TransferStarLeast', WHERE WHAT IT READS IS OF BULK AT MOST 1048576: true; the input reads as it did. -/
def transferStarLeastUptoRow : OpenClaim := { program := "ytgakojgkkdmabaadoor", sum := "d28e98c7509529e2d2221bfa960c6710ae5946a71ecbaa817ab0f0d70d00f28b", func := "flowquery/flqlaw3.TransferStarLeast", spec := "transferStarLeast", unfollowed := true, recurses := true, named := ["math/bits.deBruijn64tab"], apart := false, laid := [("math/bits.deBruijn64tab", laid_math_bits_deBruijn64tab)], narrowed := true }
def TransferStarLeastUptoSaid : Prop := transferStarLeastUptoRow.holds Tryd.pinned (OpenSpec.upto transferStarLeastSpec)

/-- 'flqlaw3.TransferMeans', WHERE WHAT IT READS IS OF BULK AT MOST 1048576: true; the input reads as it did. -/
def transferMeansUptoRow : OpenClaim := { program := "ytgakojgkkdmabaadoor", sum := "d28e98c7509529e2d2221bfa960c6710ae5946a71ecbaa817ab0f0d70d00f28b", func := "flowquery/flqlaw3.TransferMeans", spec := "transferMeans", unfollowed := true, recurses := true, named := ["math/bits.deBruijn64tab"], apart := false, laid := [("math/bits.deBruijn64tab", laid_math_bits_deBruijn64tab)], narrowed := true }
def TransferMeansUptoSaid : Prop := transferMeansUptoRow.holds Tryd.pinned (OpenSpec.upto transferMeansSpec)

end Rows
end Go.Proofs.YtgakojgkkdmabaaDoor

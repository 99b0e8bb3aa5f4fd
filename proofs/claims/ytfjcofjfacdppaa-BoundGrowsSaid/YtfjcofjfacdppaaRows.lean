/-
  No cell of these rows narrows 'for every input' (looked for: loops, veiled, ifaces, maps, wideKeys, modest, calm, conditions, laid).
  DERIVED. THE GIVEN ROWS OF THIS SEAT. 9 by the template 'for every input the law returns true; each argument reads behind the call as it read before'; 0 by the template 'total and deterministic' (their statements: YtfjcofjfacdppaaTotals.lean).
  GIVEN WITH THE SEED: the statements are not yours to turn. If you find one false, say at which input.
  Laid BY PROGRAM, IN A SANDBOX (cutbox-rows.mjs): the forced cells as the released guide's own fill.sh prints them over the translation c99852144ca70892… (all of the seat's roots in one cut). By AI agents, Wed Nov 11 2026. No macro, syntax, notation, axiom, sorry.
-/
import Derived.Test.YtfjcofjfacdppaaChecked
import GoSem.Claim
import GoSem.ClaimJoined
import GoSem.ClaimMapViews
import Derived.JoinedTies
import Derived.KernelRfl
namespace Go.Proofs.Ytfjcofjfacdppaa
/- THE CELL 'sum', in the pinned program and in every row, IS THE sha256 OF THE DUMP (.gsa) THAT YtfjcofjfacdppaaProg.lean LOADS. Nothing in Lean hashes anything: it is a label: what it is worth is what the hold of that sum in a sandbox is worth. -/
noncomputable def Try.pinned : Pinned := { name := "ytfjcofjfacdppaa", sum := "c99852144ca70892d3afe456b10c8b166879ef82007fbfe0e257e5514584ab69", checked := Try.checked }
namespace Rows
def none {H : Type} : Left H := { results := [], args := [] }

/-- 'flqlaw1.CounterAdds': WHATEVER THE INPUT: true; the input reads as it did. -/
def counterAddsSpec : ChangeSpec := { name := "counterAdds", fn := fun _ => fun
  | [d1, d2, d3] => { results := [.lit (.bool true)], args := [d1, d2, d3] }
  | _ => none }
def counterAddsRow : OpenClaim := { program := "ytfjcofjfacdppaa", sum := "c99852144ca70892d3afe456b10c8b166879ef82007fbfe0e257e5514584ab69", func := "flowquery/flqlaw1.CounterAdds", spec := "counterAdds", apart := false }
def CounterAddsSaid : Prop := counterAddsRow.holds Try.pinned (OpenSpec.ofChange counterAddsSpec)

/-- ITS FALSE NEIGHBOUR: 'it returns false'. Refute it at one input. -/
def counterAddsWrong : ChangeSpec := { name := "counterAdds", fn := fun _ => fun
  | [d1, d2, d3] => { results := [.lit (.bool false)], args := [d1, d2, d3] }
  | _ => none }
def CounterAddsWrongFalsely : Prop := counterAddsRow.holds Try.pinned (OpenSpec.ofChange counterAddsWrong)

/-- 'flqlaw1.CounterComputes': WHATEVER THE INPUT: true; the input reads as it did. -/
def counterComputesSpec : ChangeSpec := { name := "counterComputes", fn := fun _ => fun
  | [d1, d2] => { results := [.lit (.bool true)], args := [d1, d2] }
  | _ => none }
def counterComputesRow : OpenClaim := { program := "ytfjcofjfacdppaa", sum := "c99852144ca70892d3afe456b10c8b166879ef82007fbfe0e257e5514584ab69", func := "flowquery/flqlaw1.CounterComputes", spec := "counterComputes", apart := false }
def CounterComputesSaid : Prop := counterComputesRow.holds Try.pinned (OpenSpec.ofChange counterComputesSpec)

/-- ITS FALSE NEIGHBOUR: 'it returns false'. Refute it at one input. -/
def counterComputesWrong : ChangeSpec := { name := "counterComputes", fn := fun _ => fun
  | [d1, d2] => { results := [.lit (.bool false)], args := [d1, d2] }
  | _ => none }
def CounterComputesWrongFalsely : Prop := counterComputesRow.holds Try.pinned (OpenSpec.ofChange counterComputesWrong)

/-- 'flqlaw1.CounterNear': WHATEVER THE INPUT: true; the input reads as it did. -/
def counterNearSpec : ChangeSpec := { name := "counterNear", fn := fun _ => fun
  | [d1, d2] => { results := [.lit (.bool true)], args := [d1, d2] }
  | _ => none }
def counterNearRow : OpenClaim := { program := "ytfjcofjfacdppaa", sum := "c99852144ca70892d3afe456b10c8b166879ef82007fbfe0e257e5514584ab69", func := "flowquery/flqlaw1.CounterNear", spec := "counterNear", apart := false }
def CounterNearSaid : Prop := counterNearRow.holds Try.pinned (OpenSpec.ofChange counterNearSpec)

/-- ITS FALSE NEIGHBOUR: 'it returns false'. Refute it at one input. -/
def counterNearWrong : ChangeSpec := { name := "counterNear", fn := fun _ => fun
  | [d1, d2] => { results := [.lit (.bool false)], args := [d1, d2] }
  | _ => none }
def CounterNearWrongFalsely : Prop := counterNearRow.holds Try.pinned (OpenSpec.ofChange counterNearWrong)

/-- 'flqlaw1.CounterMultiplies': WHATEVER THE INPUT: true; the input reads as it did. -/
def counterMultipliesSpec : ChangeSpec := { name := "counterMultiplies", fn := fun _ => fun
  | [d1, d2, d3] => { results := [.lit (.bool true)], args := [d1, d2, d3] }
  | _ => none }
def counterMultipliesRow : OpenClaim := { program := "ytfjcofjfacdppaa", sum := "c99852144ca70892d3afe456b10c8b166879ef82007fbfe0e257e5514584ab69", func := "flowquery/flqlaw1.CounterMultiplies", spec := "counterMultiplies", apart := false }
def CounterMultipliesSaid : Prop := counterMultipliesRow.holds Try.pinned (OpenSpec.ofChange counterMultipliesSpec)

/-- ITS FALSE NEIGHBOUR: 'it returns false'. Refute it at one input. -/
def counterMultipliesWrong : ChangeSpec := { name := "counterMultiplies", fn := fun _ => fun
  | [d1, d2, d3] => { results := [.lit (.bool false)], args := [d1, d2, d3] }
  | _ => none }
def CounterMultipliesWrongFalsely : Prop := counterMultipliesRow.holds Try.pinned (OpenSpec.ofChange counterMultipliesWrong)

/-- 'flqlaw20.AgeingTurns': WHATEVER THE INPUT: true; the input reads as it did. -/
def ageingTurnsSpec : ChangeSpec := { name := "ageingTurns", fn := fun _ => fun
  | [d1, d2, d3, d4] => { results := [.lit (.bool true)], args := [d1, d2, d3, d4] }
  | _ => none }
def ageingTurnsRow : OpenClaim := { program := "ytfjcofjfacdppaa", sum := "c99852144ca70892d3afe456b10c8b166879ef82007fbfe0e257e5514584ab69", func := "flowquery/flqlaw20.AgeingTurns", spec := "ageingTurns", apart := false }
def AgeingTurnsSaid : Prop := ageingTurnsRow.holds Try.pinned (OpenSpec.ofChange ageingTurnsSpec)

/-- ITS FALSE NEIGHBOUR: 'it returns false'. Refute it at one input. -/
def ageingTurnsWrong : ChangeSpec := { name := "ageingTurns", fn := fun _ => fun
  | [d1, d2, d3, d4] => { results := [.lit (.bool false)], args := [d1, d2, d3, d4] }
  | _ => none }
def AgeingTurnsWrongFalsely : Prop := ageingTurnsRow.holds Try.pinned (OpenSpec.ofChange ageingTurnsWrong)

/-- 'flqlaw20.AgeingGrows': WHATEVER THE INPUT: true; the input reads as it did. -/
def ageingGrowsSpec : ChangeSpec := { name := "ageingGrows", fn := fun _ => fun
  | [d1, d2, d3, d4, d5] => { results := [.lit (.bool true)], args := [d1, d2, d3, d4, d5] }
  | _ => none }
def ageingGrowsRow : OpenClaim := { program := "ytfjcofjfacdppaa", sum := "c99852144ca70892d3afe456b10c8b166879ef82007fbfe0e257e5514584ab69", func := "flowquery/flqlaw20.AgeingGrows", spec := "ageingGrows", apart := false }
def AgeingGrowsSaid : Prop := ageingGrowsRow.holds Try.pinned (OpenSpec.ofChange ageingGrowsSpec)

/-- ITS FALSE NEIGHBOUR: 'it returns false'. Refute it at one input. -/
def ageingGrowsWrong : ChangeSpec := { name := "ageingGrows", fn := fun _ => fun
  | [d1, d2, d3, d4, d5] => { results := [.lit (.bool false)], args := [d1, d2, d3, d4, d5] }
  | _ => none }
def AgeingGrowsWrongFalsely : Prop := ageingGrowsRow.holds Try.pinned (OpenSpec.ofChange ageingGrowsWrong)

/-- 'flqlaw20.AgeingQuantum': WHATEVER THE INPUT: true; the input reads as it did. -/
def ageingQuantumSpec : ChangeSpec := { name := "ageingQuantum", fn := fun _ => fun
  | [d1, d2, d3, d4] => { results := [.lit (.bool true)], args := [d1, d2, d3, d4] }
  | _ => none }
def ageingQuantumRow : OpenClaim := { program := "ytfjcofjfacdppaa", sum := "c99852144ca70892d3afe456b10c8b166879ef82007fbfe0e257e5514584ab69", func := "flowquery/flqlaw20.AgeingQuantum", spec := "ageingQuantum", apart := false }
def AgeingQuantumSaid : Prop := ageingQuantumRow.holds Try.pinned (OpenSpec.ofChange ageingQuantumSpec)

/-- ITS FALSE NEIGHBOUR: 'it returns false'. Refute it at one input. -/
def ageingQuantumWrong : ChangeSpec := { name := "ageingQuantum", fn := fun _ => fun
  | [d1, d2, d3, d4] => { results := [.lit (.bool false)], args := [d1, d2, d3, d4] }
  | _ => none }
def AgeingQuantumWrongFalsely : Prop := ageingQuantumRow.holds Try.pinned (OpenSpec.ofChange ageingQuantumWrong)

/-- 'flqlaw22.BoundGrows': WHATEVER THE INPUT: true; the input reads as it did. -/
def boundGrowsSpec : ChangeSpec := { name := "boundGrows", fn := fun _ => fun
  | [d1, d2, d3, d4] => { results := [.lit (.bool true)], args := [d1, d2, d3, d4] }
  | _ => none }
def boundGrowsRow : OpenClaim := { program := "ytfjcofjfacdppaa", sum := "c99852144ca70892d3afe456b10c8b166879ef82007fbfe0e257e5514584ab69", func := "flowquery/flqlaw22.BoundGrows", spec := "boundGrows", apart := false }
def BoundGrowsSaid : Prop := boundGrowsRow.holds Try.pinned (OpenSpec.ofChange boundGrowsSpec)

/-- ITS FALSE NEIGHBOUR: 'it returns false'. Refute it at one input. -/
def boundGrowsWrong : ChangeSpec := { name := "boundGrows", fn := fun _ => fun
  | [d1, d2, d3, d4] => { results := [.lit (.bool false)], args := [d1, d2, d3, d4] }
  | _ => none }
def BoundGrowsWrongFalsely : Prop := boundGrowsRow.holds Try.pinned (OpenSpec.ofChange boundGrowsWrong)

/-- 'flqlaw22.BoundAgrees': WHATEVER THE INPUT: true; the input reads as it did. -/
def boundAgreesSpec : ChangeSpec := { name := "boundAgrees", fn := fun _ => fun
  | [d1, d2, d3, d4, d5] => { results := [.lit (.bool true)], args := [d1, d2, d3, d4, d5] }
  | _ => none }
def boundAgreesRow : OpenClaim := { program := "ytfjcofjfacdppaa", sum := "c99852144ca70892d3afe456b10c8b166879ef82007fbfe0e257e5514584ab69", func := "flowquery/flqlaw22.BoundAgrees", spec := "boundAgrees", apart := false }
def BoundAgreesSaid : Prop := boundAgreesRow.holds Try.pinned (OpenSpec.ofChange boundAgreesSpec)

/-- ITS FALSE NEIGHBOUR: 'it returns false'. Refute it at one input. -/
def boundAgreesWrong : ChangeSpec := { name := "boundAgrees", fn := fun _ => fun
  | [d1, d2, d3, d4, d5] => { results := [.lit (.bool false)], args := [d1, d2, d3, d4, d5] }
  | _ => none }
def BoundAgreesWrongFalsely : Prop := boundAgreesRow.holds Try.pinned (OpenSpec.ofChange boundAgreesWrong)

/- THE SECOND FORM. 'bulk': how many values and letters a reading holds, each counted each time it is reached (what is shared counts as often as it is met; a slice's spare places count too). A statement '..UptoSaid' is the law's where the arguments, and the package variables that the reading takes, are together of bulk at most 1048576: NARROWER than '..Said'. Prove '..Said' where nothing that the law and all that it calls make is longer than what came in: it says more and counts as full. Else prove '..UptoSaid'. A law counts once. -/
mutual
def uptoBulk {H : Type} : DataW H → Nat
  | .lit (.string bytes) => bytes.length + 1
  | .lit _ => 1
  | .nil => 1
  | .ptr d => uptoBulk d + 1
  | .slice elems spare => uptoBulkAll elems + uptoBulkAll spare + 1
  | .agg parts => uptoBulkAll parts + 1
  | .iface _ d => uptoBulk d + 1
  | .map entries => uptoBulkEntries entries + 1
  | .held _ => 1
def uptoBulkAll {H : Type} : List (DataW H) → Nat
  | [] => 0
  | d :: r => uptoBulk d + uptoBulkAll r
def uptoBulkEntries {H : Type} : List (Lit × DataW H) → Nat
  | [] => 0
  | x :: r => uptoBulkEntry x + uptoBulkEntries r
def uptoBulkEntry {H : Type} : Lit × DataW H → Nat
  | (.string bytes, d) => bytes.length + uptoBulk d + 1
  | (_, d) => uptoBulk d + 1
 end
def uptoSmall : (H : Type) → List (DataW H) → Bool := fun _ ds => decide (uptoBulkAll ds ≤ 1048576)
def OpenSpec.upto (s : _root_.Go.ChangeSpec) : _root_.Go.OpenSpec := { _root_.Go.OpenSpec.ofChange s with cond := some uptoSmall }

/-- 'flqlaw1.CounterAdds', WHERE WHAT IT READS IS OF BULK AT MOST 1048576: true; the input reads as it did. -/
def counterAddsUptoRow : OpenClaim := { program := "ytfjcofjfacdppaa", sum := "c99852144ca70892d3afe456b10c8b166879ef82007fbfe0e257e5514584ab69", func := "flowquery/flqlaw1.CounterAdds", spec := "counterAdds", apart := false, narrowed := true }
def CounterAddsUptoSaid : Prop := counterAddsUptoRow.holds Try.pinned (OpenSpec.upto counterAddsSpec)

/-- 'flqlaw1.CounterComputes', WHERE WHAT IT READS IS OF BULK AT MOST 1048576: true; the input reads as it did. -/
def counterComputesUptoRow : OpenClaim := { program := "ytfjcofjfacdppaa", sum := "c99852144ca70892d3afe456b10c8b166879ef82007fbfe0e257e5514584ab69", func := "flowquery/flqlaw1.CounterComputes", spec := "counterComputes", apart := false, narrowed := true }
def CounterComputesUptoSaid : Prop := counterComputesUptoRow.holds Try.pinned (OpenSpec.upto counterComputesSpec)

/-- 'flqlaw1.CounterNear', WHERE WHAT IT READS IS OF BULK AT MOST 1048576: true; the input reads as it did. -/
def counterNearUptoRow : OpenClaim := { program := "ytfjcofjfacdppaa", sum := "c99852144ca70892d3afe456b10c8b166879ef82007fbfe0e257e5514584ab69", func := "flowquery/flqlaw1.CounterNear", spec := "counterNear", apart := false, narrowed := true }
def CounterNearUptoSaid : Prop := counterNearUptoRow.holds Try.pinned (OpenSpec.upto counterNearSpec)

/-- 'flqlaw1.CounterMultiplies', WHERE WHAT IT READS IS OF BULK AT MOST 1048576: true; the input reads as it did. -/
def counterMultipliesUptoRow : OpenClaim := { program := "ytfjcofjfacdppaa", sum := "c99852144ca70892d3afe456b10c8b166879ef82007fbfe0e257e5514584ab69", func := "flowquery/flqlaw1.CounterMultiplies", spec := "counterMultiplies", apart := false, narrowed := true }
def CounterMultipliesUptoSaid : Prop := counterMultipliesUptoRow.holds Try.pinned (OpenSpec.upto counterMultipliesSpec)

/-- 'flqlaw20.AgeingTurns', WHERE WHAT IT READS IS OF BULK AT MOST 1048576: true; the input reads as it did. -/
def ageingTurnsUptoRow : OpenClaim := { program := "ytfjcofjfacdppaa", sum := "c99852144ca70892d3afe456b10c8b166879ef82007fbfe0e257e5514584ab69", func := "flowquery/flqlaw20.AgeingTurns", spec := "ageingTurns", apart := false, narrowed := true }
def AgeingTurnsUptoSaid : Prop := ageingTurnsUptoRow.holds Try.pinned (OpenSpec.upto ageingTurnsSpec)

/-- 'flqlaw20.AgeingGrows', WHERE WHAT IT READS IS OF BULK AT MOST 1048576: true; the input reads as it did. -/
def ageingGrowsUptoRow : OpenClaim := { program := "ytfjcofjfacdppaa", sum := "c99852144ca70892d3afe456b10c8b166879ef82007fbfe0e257e5514584ab69", func := "flowquery/flqlaw20.AgeingGrows", spec := "ageingGrows", apart := false, narrowed := true }
def AgeingGrowsUptoSaid : Prop := ageingGrowsUptoRow.holds Try.pinned (OpenSpec.upto ageingGrowsSpec)

/-- 'flqlaw20.AgeingQuantum', WHERE WHAT IT READS IS OF BULK AT MOST 1048576: true; the input reads as it did. -/
def ageingQuantumUptoRow : OpenClaim := { program := "ytfjcofjfacdppaa", sum := "c99852144ca70892d3afe456b10c8b166879ef82007fbfe0e257e5514584ab69", func := "flowquery/flqlaw20.AgeingQuantum", spec := "ageingQuantum", apart := false, narrowed := true }
def AgeingQuantumUptoSaid : Prop := ageingQuantumUptoRow.holds Try.pinned (OpenSpec.upto ageingQuantumSpec)

/-- 'flqlaw22.BoundGrows', WHERE WHAT IT READS IS OF BULK AT MOST 1048576: true; the input reads as it did. -/
def boundGrowsUptoRow : OpenClaim := { program := "ytfjcofjfacdppaa", sum := "c99852144ca70892d3afe456b10c8b166879ef82007fbfe0e257e5514584ab69", func := "flowquery/flqlaw22.BoundGrows", spec := "boundGrows", apart := false, narrowed := true }
def BoundGrowsUptoSaid : Prop := boundGrowsUptoRow.holds Try.pinned (OpenSpec.upto boundGrowsSpec)

/-- 'flqlaw22.BoundAgrees', WHERE WHAT IT READS IS OF BULK AT MOST 1048576: true; the input reads as it did. -/
def boundAgreesUptoRow : OpenClaim := { program := "ytfjcofjfacdppaa", sum := "c99852144ca70892d3afe456b10c8b166879ef82007fbfe0e257e5514584ab69", func := "flowquery/flqlaw22.BoundAgrees", spec := "boundAgrees", apart := false, narrowed := true }
def BoundAgreesUptoSaid : Prop := boundAgreesUptoRow.holds Try.pinned (OpenSpec.upto boundAgreesSpec)

end Rows
end Go.Proofs.Ytfjcofjfacdppaa

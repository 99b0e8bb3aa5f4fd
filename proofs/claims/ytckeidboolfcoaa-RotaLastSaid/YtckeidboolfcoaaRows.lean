/-
  No cell of these rows narrows 'for every input' (looked for: loops, veiled, ifaces, maps, wideKeys, modest, calm, conditions, laid).
  DERIVED. THE GIVEN ROWS OF THIS SEAT. 5 by the template 'for every input the law returns true; each argument reads behind the call as it read before'; 0 by the template 'total and deterministic' (their statements: YtckeidboolfcoaaTotals.lean).
  GIVEN WITH THE SEED: the statements are not yours to turn. If you find one false, say at which input.
  Laid BY PROGRAM, IN A SANDBOX (cutbox-rows.mjs): the forced cells as the released guide's own fill.sh prints them over the translation 624d230761b05bdb… (all of the seat's roots in one cut). By AI agents, Wed Nov 11 2026. No macro, syntax, notation, axiom, sorry.
-/
import Derived.Test.YtckeidboolfcoaaChecked
import GoSem.Claim
import GoSem.ClaimJoined
import GoSem.ClaimMapViews
import Derived.JoinedTies
import Derived.KernelRfl
namespace Go.Proofs.Ytckeidboolfcoaa
/- THE CELL 'sum', in the pinned program and in every row, IS THE sha256 OF THE DUMP (.gsa) THAT YtckeidboolfcoaaProg.lean LOADS. Nothing in Lean hashes anything: it is a label: what it is worth is what the hold of that sum in a sandbox is worth. -/
noncomputable def Try.pinned : Pinned := { name := "ytckeidboolfcoaa", sum := "624d230761b05bdb0460c1f5ca6232de24dbcb90537b590006eb625f968b626b", checked := Try.checked }
namespace Rows
def none {H : Type} : Left H := { results := [], args := [] }

/-- 'flqlaw21.RotaAgrees': WHATEVER THE INPUT: true; the input reads as it did. -/
def rotaAgreesSpec : ChangeSpec := { name := "rotaAgrees", fn := fun _ => fun
  | [d1, d2, d3, d4, d5] => { results := [.lit (.bool true)], args := [d1, d2, d3, d4, d5] }
  | _ => none }
def rotaAgreesRow : OpenClaim := { program := "ytckeidboolfcoaa", sum := "624d230761b05bdb0460c1f5ca6232de24dbcb90537b590006eb625f968b626b", func := "flowquery/flqlaw21.RotaAgrees", spec := "rotaAgrees", unfollowed := true, recurses := true, apart := false }
def RotaAgreesSaid : Prop := rotaAgreesRow.holds Try.pinned (OpenSpec.ofChange rotaAgreesSpec)

/-- ITS FALSE NEIGHBOUR: 'it returns false'. Refute it at one input. -/
def rotaAgreesWrong : ChangeSpec := { name := "rotaAgrees", fn := fun _ => fun
  | [d1, d2, d3, d4, d5] => { results := [.lit (.bool false)], args := [d1, d2, d3, d4, d5] }
  | _ => none }
def RotaAgreesWrongFalsely : Prop := rotaAgreesRow.holds Try.pinned (OpenSpec.ofChange rotaAgreesWrong)

/-- 'flqlaw21.RotaNew': WHATEVER THE INPUT: true; the input reads as it did. -/
def rotaNewSpec : ChangeSpec := { name := "rotaNew", fn := fun _ => fun
  | [d1, d2] => { results := [.lit (.bool true)], args := [d1, d2] }
  | _ => none }
def rotaNewRow : OpenClaim := { program := "ytckeidboolfcoaa", sum := "624d230761b05bdb0460c1f5ca6232de24dbcb90537b590006eb625f968b626b", func := "flowquery/flqlaw21.RotaNew", spec := "rotaNew", unfollowed := true, recurses := true, apart := false }
def RotaNewSaid : Prop := rotaNewRow.holds Try.pinned (OpenSpec.ofChange rotaNewSpec)

/-- ITS FALSE NEIGHBOUR: 'it returns false'. Refute it at one input. -/
def rotaNewWrong : ChangeSpec := { name := "rotaNew", fn := fun _ => fun
  | [d1, d2] => { results := [.lit (.bool false)], args := [d1, d2] }
  | _ => none }
def RotaNewWrongFalsely : Prop := rotaNewRow.holds Try.pinned (OpenSpec.ofChange rotaNewWrong)

/-- 'flqlaw21.RotaKeeps': WHATEVER THE INPUT: true; the input reads as it did. -/
def rotaKeepsSpec : ChangeSpec := { name := "rotaKeeps", fn := fun _ => fun
  | [d] => { results := [.lit (.bool true)], args := [d] }
  | _ => none }
def rotaKeepsRow : OpenClaim := { program := "ytckeidboolfcoaa", sum := "624d230761b05bdb0460c1f5ca6232de24dbcb90537b590006eb625f968b626b", func := "flowquery/flqlaw21.RotaKeeps", spec := "rotaKeeps", unfollowed := true, recurses := true, apart := false }
def RotaKeepsSaid : Prop := rotaKeepsRow.holds Try.pinned (OpenSpec.ofChange rotaKeepsSpec)

/-- ITS FALSE NEIGHBOUR: 'it returns false'. Refute it at one input. -/
def rotaKeepsWrong : ChangeSpec := { name := "rotaKeeps", fn := fun _ => fun
  | [d] => { results := [.lit (.bool false)], args := [d] }
  | _ => none }
def RotaKeepsWrongFalsely : Prop := rotaKeepsRow.holds Try.pinned (OpenSpec.ofChange rotaKeepsWrong)

/-- 'flqlaw21.RotaFair': WHATEVER THE INPUT: true; the input reads as it did. -/
def rotaFairSpec : ChangeSpec := { name := "rotaFair", fn := fun _ => fun
  | [d] => { results := [.lit (.bool true)], args := [d] }
  | _ => none }
def rotaFairRow : OpenClaim := { program := "ytckeidboolfcoaa", sum := "624d230761b05bdb0460c1f5ca6232de24dbcb90537b590006eb625f968b626b", func := "flowquery/flqlaw21.RotaFair", spec := "rotaFair", unfollowed := true, recurses := true, apart := false }
def RotaFairSaid : Prop := rotaFairRow.holds Try.pinned (OpenSpec.ofChange rotaFairSpec)

/-- ITS FALSE NEIGHBOUR: 'it returns false'. Refute it at one input. -/
def rotaFairWrong : ChangeSpec := { name := "rotaFair", fn := fun _ => fun
  | [d] => { results := [.lit (.bool false)], args := [d] }
  | _ => none }
def RotaFairWrongFalsely : Prop := rotaFairRow.holds Try.pinned (OpenSpec.ofChange rotaFairWrong)

/-- 'flqlaw21.RotaLast': WHATEVER THE INPUT: true; the input reads as it did. -/
def rotaLastSpec : ChangeSpec := { name := "rotaLast", fn := fun _ => fun
  | [d] => { results := [.lit (.bool true)], args := [d] }
  | _ => none }
def rotaLastRow : OpenClaim := { program := "ytckeidboolfcoaa", sum := "624d230761b05bdb0460c1f5ca6232de24dbcb90537b590006eb625f968b626b", func := "flowquery/flqlaw21.RotaLast", spec := "rotaLast", unfollowed := true, recurses := true, apart := false }
def RotaLastSaid : Prop := rotaLastRow.holds Try.pinned (OpenSpec.ofChange rotaLastSpec)

/-- ITS FALSE NEIGHBOUR: 'it returns false'. Refute it at one input. -/
def rotaLastWrong : ChangeSpec := { name := "rotaLast", fn := fun _ => fun
  | [d] => { results := [.lit (.bool false)], args := [d] }
  | _ => none }
def RotaLastWrongFalsely : Prop := rotaLastRow.holds Try.pinned (OpenSpec.ofChange rotaLastWrong)

/- THE SECOND FORM. 'bulk': how many values and letters a reading holds, each counted each time it is reached (what is shared counts as often as it is met; a slice's spare places count too). A statement '..UptoSaid' is the law's where the arguments, and the package variables that the reading takes, are together of bulk at most 1048576: NARROWER than '..Said'. Prove '..Said' where nothing that the law and all that it calls make is longer than what came in: it says more and counts as full. Else prove '..UptoSaid'. A law counts once. -/
mutual
def uptoBulk {H : Type} : DataW H → Nat
  | .lit (.string bytes) => bytes.length + 1
  | .lit _ => 1
  | .nil => 1
  | .ptr d => uptoBulk d + 1
  | .slice elems spare => uptoBulkAll elems + uptoBulkAll spare + 1
  | .agg parts => uptoBulkAll parts + 1
  | .iface _ d => uptoBulk d + 1
  | .map entries => uptoBulkEntries entries + 1
  | .held _ => 1
def uptoBulkAll {H : Type} : List (DataW H) → Nat
  | [] => 0
  | d :: r => uptoBulk d + uptoBulkAll r
def uptoBulkEntries {H : Type} : List (Lit × DataW H) → Nat
  | [] => 0
  | x :: r => uptoBulkEntry x + uptoBulkEntries r
def uptoBulkEntry {H : Type} : Lit × DataW H → Nat
  | (.string bytes, d) => bytes.length + uptoBulk d + 1
  | (_, d) => uptoBulk d + 1
 end
def uptoSmall : (H : Type) → List (DataW H) → Bool := fun _ ds => decide (uptoBulkAll ds ≤ 1048576)
def OpenSpec.upto (s : _root_.Go.ChangeSpec) : _root_.Go.OpenSpec := { _root_.Go.OpenSpec.ofChange s with cond := some uptoSmall }

/-- 'flqlaw21.RotaAgrees', WHERE WHAT IT READS IS OF BULK AT MOST 1048576: true; the input reads as it did. -/
def rotaAgreesUptoRow : OpenClaim := { program := "ytckeidboolfcoaa", sum := "624d230761b05bdb0460c1f5ca6232de24dbcb90537b590006eb625f968b626b", func := "flowquery/flqlaw21.RotaAgrees", spec := "rotaAgrees", unfollowed := true, recurses := true, apart := false, narrowed := true }
def RotaAgreesUptoSaid : Prop := rotaAgreesUptoRow.holds Try.pinned (OpenSpec.upto rotaAgreesSpec)

/-- 'flqlaw21.RotaNew', WHERE WHAT IT READS IS OF BULK AT MOST 1048576: true; the input reads as it did. -/
def rotaNewUptoRow : OpenClaim := { program := "ytckeidboolfcoaa", sum := "624d230761b05bdb0460c1f5ca6232de24dbcb90537b590006eb625f968b626b", func := "flowquery/flqlaw21.RotaNew", spec := "rotaNew", unfollowed := true, recurses := true, apart := false, narrowed := true }
def RotaNewUptoSaid : Prop := rotaNewUptoRow.holds Try.pinned (OpenSpec.upto rotaNewSpec)

/-- 'flqlaw21.RotaKeeps', WHERE WHAT IT READS IS OF BULK AT MOST 1048576: true; the input reads as it did. -/
def rotaKeepsUptoRow : OpenClaim := { program := "ytckeidboolfcoaa", sum := "624d230761b05bdb0460c1f5ca6232de24dbcb90537b590006eb625f968b626b", func := "flowquery/flqlaw21.RotaKeeps", spec := "rotaKeeps", unfollowed := true, recurses := true, apart := false, narrowed := true }
def RotaKeepsUptoSaid : Prop := rotaKeepsUptoRow.holds Try.pinned (OpenSpec.upto rotaKeepsSpec)

/-- 'flqlaw21.RotaFair', WHERE WHAT IT READS IS OF BULK AT MOST 1048576: true; the input reads as it did. -/
def rotaFairUptoRow : OpenClaim := { program := "ytckeidboolfcoaa", sum := "624d230761b05bdb0460c1f5ca6232de24dbcb90537b590006eb625f968b626b", func := "flowquery/flqlaw21.RotaFair", spec := "rotaFair", unfollowed := true, recurses := true, apart := false, narrowed := true }
def RotaFairUptoSaid : Prop := rotaFairUptoRow.holds Try.pinned (OpenSpec.upto rotaFairSpec)

/-- 'flqlaw21.RotaLast', WHERE WHAT IT READS IS OF BULK AT MOST 1048576: true; the input reads as it did. -/
def rotaLastUptoRow : OpenClaim := { program := "ytckeidboolfcoaa", sum := "624d230761b05bdb0460c1f5ca6232de24dbcb90537b590006eb625f968b626b", func := "flowquery/flqlaw21.RotaLast", spec := "rotaLast", unfollowed := true, recurses := true, apart := false, narrowed := true }
def RotaLastUptoSaid : Prop := rotaLastUptoRow.holds Try.pinned (OpenSpec.upto rotaLastSpec)

end Rows
end Go.Proofs.Ytckeidboolfcoaa

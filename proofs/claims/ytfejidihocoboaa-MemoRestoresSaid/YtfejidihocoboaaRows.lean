/-
  No cell of these rows narrows 'for every input' (looked for: loops, veiled, ifaces, maps, wideKeys, modest, calm, conditions, laid).
  DERIVED. THE GIVEN ROWS OF THIS SEAT. 5 by the template 'for every input the law returns true; each argument reads behind the call as it read before'; 0 by the template 'total and deterministic' (their statements: YtfejidihocoboaaTotals.lean).
  GIVEN WITH THE SEED: the statements are not yours to turn. If you find one false, say at which input.
  Laid BY PROGRAM, IN A SANDBOX (cutbox-rows.mjs): the forced cells as the released guide's own fill.sh prints them over the translation 796596f2f7dfa2cc… (all of the seat's roots in one cut). By AI agents, Wed Nov 11 2026. No macro, syntax, notation, axiom, sorry.
-/
import Derived.Test.YtfejidihocoboaaChecked
import GoSem.Claim
import GoSem.ClaimJoined
import GoSem.ClaimMapViews
import Derived.JoinedTies
import Derived.KernelRfl
namespace Go.Proofs.Ytfejidihocoboaa
/- THE CELL 'sum', in the pinned program and in every row, IS THE sha256 OF THE DUMP (.gsa) THAT YtfejidihocoboaaProg.lean LOADS. Nothing in Lean hashes anything: it is a label: what it is worth is what the hold of that sum in a sandbox is worth. -/
noncomputable def Try.pinned : Pinned := { name := "ytfejidihocoboaa", sum := "796596f2f7dfa2cce3d711eb2de67f9b3d8ccf3b65537d6ae485d1adfe853fa3", checked := Try.checked }
namespace Rows
def none {H : Type} : Left H := { results := [], args := [] }

/-- 'flqlaw19.MemoDrops': WHATEVER THE INPUT: true; the input reads as it did. -/
def memoDropsSpec : ChangeSpec := { name := "memoDrops", fn := fun _ => fun
  | [d] => { results := [.lit (.bool true)], args := [d] }
  | _ => none }
def memoDropsRow : OpenClaim := { program := "ytfejidihocoboaa", sum := "796596f2f7dfa2cce3d711eb2de67f9b3d8ccf3b65537d6ae485d1adfe853fa3", func := "flowquery/flqlaw19.MemoDrops", spec := "memoDrops", inPlace := ["slices.overlaps[flowquery/memo.key]"], unfollowed := true, recurses := true, plainKeys := false, apart := false }
def MemoDropsSaid : Prop := memoDropsRow.holds Try.pinned (OpenSpec.ofChange memoDropsSpec)

/-- ITS FALSE NEIGHBOUR: 'it returns false'. Refute it at one input. -/
def memoDropsWrong : ChangeSpec := { name := "memoDrops", fn := fun _ => fun
  | [d] => { results := [.lit (.bool false)], args := [d] }
  | _ => none }
def MemoDropsWrongFalsely : Prop := memoDropsRow.holds Try.pinned (OpenSpec.ofChange memoDropsWrong)

/-- 'flqlaw19.MemoNewest': WHATEVER THE INPUT: true; the input reads as it did. -/
def memoNewestSpec : ChangeSpec := { name := "memoNewest", fn := fun _ => fun
  | [d1, d2] => { results := [.lit (.bool true)], args := [d1, d2] }
  | _ => none }
def memoNewestRow : OpenClaim := { program := "ytfejidihocoboaa", sum := "796596f2f7dfa2cce3d711eb2de67f9b3d8ccf3b65537d6ae485d1adfe853fa3", func := "flowquery/flqlaw19.MemoNewest", spec := "memoNewest", inPlace := ["slices.overlaps[flowquery/memo.key]"], unfollowed := true, recurses := true, plainKeys := false, apart := false }
def MemoNewestSaid : Prop := memoNewestRow.holds Try.pinned (OpenSpec.ofChange memoNewestSpec)

/-- ITS FALSE NEIGHBOUR: 'it returns false'. Refute it at one input. -/
def memoNewestWrong : ChangeSpec := { name := "memoNewest", fn := fun _ => fun
  | [d1, d2] => { results := [.lit (.bool false)], args := [d1, d2] }
  | _ => none }
def MemoNewestWrongFalsely : Prop := memoNewestRow.holds Try.pinned (OpenSpec.ofChange memoNewestWrong)

/-- 'flqlaw19.MemoScript': WHATEVER THE INPUT: true; the input reads as it did. -/
def memoScriptSpec : ChangeSpec := { name := "memoScript", fn := fun _ => fun
  | [d1, d2] => { results := [.lit (.bool true)], args := [d1, d2] }
  | _ => none }
def memoScriptRow : OpenClaim := { program := "ytfejidihocoboaa", sum := "796596f2f7dfa2cce3d711eb2de67f9b3d8ccf3b65537d6ae485d1adfe853fa3", func := "flowquery/flqlaw19.MemoScript", spec := "memoScript", inPlace := ["slices.overlaps[flowquery/memo.key]"], unfollowed := true, recurses := true, plainKeys := false, apart := false }
def MemoScriptSaid : Prop := memoScriptRow.holds Try.pinned (OpenSpec.ofChange memoScriptSpec)

/-- ITS FALSE NEIGHBOUR: 'it returns false'. Refute it at one input. -/
def memoScriptWrong : ChangeSpec := { name := "memoScript", fn := fun _ => fun
  | [d1, d2] => { results := [.lit (.bool false)], args := [d1, d2] }
  | _ => none }
def MemoScriptWrongFalsely : Prop := memoScriptRow.holds Try.pinned (OpenSpec.ofChange memoScriptWrong)

/-- 'flqlaw19.MemoRestores': WHATEVER THE INPUT: true; the input reads as it did. -/
def memoRestoresSpec : ChangeSpec := { name := "memoRestores", fn := fun _ => fun
  | [d1, d2, d3, d4] => { results := [.lit (.bool true)], args := [d1, d2, d3, d4] }
  | _ => none }
def memoRestoresRow : OpenClaim := { program := "ytfejidihocoboaa", sum := "796596f2f7dfa2cce3d711eb2de67f9b3d8ccf3b65537d6ae485d1adfe853fa3", func := "flowquery/flqlaw19.MemoRestores", spec := "memoRestores", inPlace := ["slices.overlaps[flowquery/memo.key]"], unfollowed := true, recurses := true, plainKeys := false, apart := false }
def MemoRestoresSaid : Prop := memoRestoresRow.holds Try.pinned (OpenSpec.ofChange memoRestoresSpec)

/-- ITS FALSE NEIGHBOUR: 'it returns false'. Refute it at one input. -/
def memoRestoresWrong : ChangeSpec := { name := "memoRestores", fn := fun _ => fun
  | [d1, d2, d3, d4] => { results := [.lit (.bool false)], args := [d1, d2, d3, d4] }
  | _ => none }
def MemoRestoresWrongFalsely : Prop := memoRestoresRow.holds Try.pinned (OpenSpec.ofChange memoRestoresWrong)

/-- 'flqlaw19.MemoCopies': WHATEVER THE INPUT: true; the input reads as it did. -/
def memoCopiesSpec : ChangeSpec := { name := "memoCopies", fn := fun _ => fun
  | [d] => { results := [.lit (.bool true)], args := [d] }
  | _ => none }
def memoCopiesRow : OpenClaim := { program := "ytfejidihocoboaa", sum := "796596f2f7dfa2cce3d711eb2de67f9b3d8ccf3b65537d6ae485d1adfe853fa3", func := "flowquery/flqlaw19.MemoCopies", spec := "memoCopies", inPlace := ["slices.overlaps[flowquery/memo.key]"], unfollowed := true, recurses := true, plainKeys := false, apart := false }
def MemoCopiesSaid : Prop := memoCopiesRow.holds Try.pinned (OpenSpec.ofChange memoCopiesSpec)

/-- ITS FALSE NEIGHBOUR: 'it returns false'. Refute it at one input. -/
def memoCopiesWrong : ChangeSpec := { name := "memoCopies", fn := fun _ => fun
  | [d] => { results := [.lit (.bool false)], args := [d] }
  | _ => none }
def MemoCopiesWrongFalsely : Prop := memoCopiesRow.holds Try.pinned (OpenSpec.ofChange memoCopiesWrong)

/- THE SECOND FORM. 'bulk': how many values and letters a reading holds, each counted each time it is reached (what is shared counts as often as it is met; a slice's spare places count too). A statement '..UptoSaid' is the law's where the arguments, and the package variables that the reading takes, are together of bulk at most 1048576: NARROWER than '..Said'. Prove '..Said' where nothing that the law and all that it calls make is longer than what came in: it says more and counts as full. Else prove '..UptoSaid'. A law counts once. -/
mutual
def uptoBulk {H : Type} : DataW H → Nat
  | .lit (.string bytes) => bytes.length + 1
  | .lit _ => 1
  | .nil => 1
  | .ptr d => uptoBulk d + 1
  | .slice elems spare => uptoBulkAll elems + uptoBulkAll spare + 1
  | .agg parts => uptoBulkAll parts + 1
  | .iface _ d => uptoBulk d + 1
  | .map entries => uptoBulkEntries entries + 1
  | .held _ => 1
def uptoBulkAll {H : Type} : List (DataW H) → Nat
  | [] => 0
  | d :: r => uptoBulk d + uptoBulkAll r
def uptoBulkEntries {H : Type} : List (Lit × DataW H) → Nat
  | [] => 0
  | x :: r => uptoBulkEntry x + uptoBulkEntries r
def uptoBulkEntry {H : Type} : Lit × DataW H → Nat
  | (.string bytes, d) => bytes.length + uptoBulk d + 1
  | (_, d) => uptoBulk d + 1
 end
def uptoSmall : (H : Type) → List (DataW H) → Bool := fun _ ds => decide (uptoBulkAll ds ≤ 1048576)
def OpenSpec.upto (s : _root_.Go.ChangeSpec) : _root_.Go.OpenSpec := { _root_.Go.OpenSpec.ofChange s with cond := some uptoSmall }

/-- 'flqlaw19.MemoDrops', WHERE WHAT IT READS IS OF BULK AT MOST 1048576: true; the input reads as it did. -/
def memoDropsUptoRow : OpenClaim := { program := "ytfejidihocoboaa", sum := "796596f2f7dfa2cce3d711eb2de67f9b3d8ccf3b65537d6ae485d1adfe853fa3", func := "flowquery/flqlaw19.MemoDrops", spec := "memoDrops", inPlace := ["slices.overlaps[flowquery/memo.key]"], unfollowed := true, recurses := true, plainKeys := false, apart := false, narrowed := true }
def MemoDropsUptoSaid : Prop := memoDropsUptoRow.holds Try.pinned (OpenSpec.upto memoDropsSpec)

/-- 'flqlaw19.MemoNewest', WHERE WHAT IT READS IS OF BULK AT MOST 1048576: true; the input reads as it did. -/
def memoNewestUptoRow : OpenClaim := { program := "ytfejidihocoboaa", sum := "796596f2f7dfa2cce3d711eb2de67f9b3d8ccf3b65537d6ae485d1adfe853fa3", func := "flowquery/flqlaw19.MemoNewest", spec := "memoNewest", inPlace := ["slices.overlaps[flowquery/memo.key]"], unfollowed := true, recurses := true, plainKeys := false, apart := false, narrowed := true }
def MemoNewestUptoSaid : Prop := memoNewestUptoRow.holds Try.pinned (OpenSpec.upto memoNewestSpec)

/-- 'flqlaw19.MemoScript', WHERE WHAT IT READS IS OF BULK AT MOST 1048576: true; the input reads as it did. -/
def memoScriptUptoRow : OpenClaim := { program := "ytfejidihocoboaa", sum := "796596f2f7dfa2cce3d711eb2de67f9b3d8ccf3b65537d6ae485d1adfe853fa3", func := "flowquery/flqlaw19.MemoScript", spec := "memoScript", inPlace := ["slices.overlaps[flowquery/memo.key]"], unfollowed := true, recurses := true, plainKeys := false, apart := false, narrowed := true }
def MemoScriptUptoSaid : Prop := memoScriptUptoRow.holds Try.pinned (OpenSpec.upto memoScriptSpec)

/-- 'flqlaw19.MemoRestores', WHERE WHAT IT READS IS OF BULK AT MOST 1048576: true; the input reads as it did. -/
def memoRestoresUptoRow : OpenClaim := { program := "ytfejidihocoboaa", sum := "796596f2f7dfa2cce3d711eb2de67f9b3d8ccf3b65537d6ae485d1adfe853fa3", func := "flowquery/flqlaw19.MemoRestores", spec := "memoRestores", inPlace := ["slices.overlaps[flowquery/memo.key]"], unfollowed := true, recurses := true, plainKeys := false, apart := false, narrowed := true }
def MemoRestoresUptoSaid : Prop := memoRestoresUptoRow.holds Try.pinned (OpenSpec.upto memoRestoresSpec)

/-- 'flqlaw19.MemoCopies', WHERE WHAT IT READS IS OF BULK AT MOST 1048576: true; the input reads as it did. -/
def memoCopiesUptoRow : OpenClaim := { program := "ytfejidihocoboaa", sum := "796596f2f7dfa2cce3d711eb2de67f9b3d8ccf3b65537d6ae485d1adfe853fa3", func := "flowquery/flqlaw19.MemoCopies", spec := "memoCopies", inPlace := ["slices.overlaps[flowquery/memo.key]"], unfollowed := true, recurses := true, plainKeys := false, apart := false, narrowed := true }
def MemoCopiesUptoSaid : Prop := memoCopiesUptoRow.holds Try.pinned (OpenSpec.upto memoCopiesSpec)

end Rows
end Go.Proofs.Ytfejidihocoboaa

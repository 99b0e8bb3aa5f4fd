/- MemoNewest at arguments. -/
import Derived.Test.YtfejidihocoboaaN26
set_option linter.unusedVariables false
set_option linter.unusedSimpArgs false
namespace Go.Proofs.Ytfejidihocoboaa
open Go Go.RowKit
theorem wf_u8 {z : Int} (h : (Lit.int .u8 z).wf = true) : 0 ≤ z ∧ z ≤ 255 := by
  simp [Lit.wf, IntKind.min, IntKind.max, IntKind.signed, IntKind.bits] at h
  omega
theorem memoNewest_arg (sl : Value) (zs : List Int) (z : Int) (W : World) (h : Ints No W .u8 sl zs) (hz : ∀ z ∈ zs, (Lit.int .u8 z).wf = true) (hw : (Lit.int .u8 z).wf = true) :
    Calls Try.prog 4 #[sl, .int .u8 z] W (BoolPost true W) := by
  obtain ⟨a, c, rfl⟩ := Row.slice h
  obtain ⟨zc, rfl⟩ : ∃ zc : Nat, z = zc := ⟨z.toNat, by have := wf_u8 hw; omega⟩
  exact memoNewest_any a c zs zc W h (fun z hz2 => wf_u8 (hz z hz2)) (by have := wf_u8 hw; omega)
end Go.Proofs.Ytfejidihocoboaa

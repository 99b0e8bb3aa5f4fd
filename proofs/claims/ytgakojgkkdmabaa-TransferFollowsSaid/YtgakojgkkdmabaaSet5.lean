/- bitset: With, Diff, Union. -/
import Derived.Test.YtgakojgkkdmabaaSet4
namespace Go.Proofs.Ytgakojgkkdmabaa
open Go Go.RowKit

set_option maxRecDepth 100000 in
set_option maxHeartbeats 1000000 in
theorem with_any (M : Nat → Prop) (w m b : Nat) (sl : Value) (W : World) (hM : ∀ b, M b → b < W.heap.size) (hb : b < w) (h : SetAt No W sl w m) :
    Calls Try.prog 30 #[.agg #[.int .i64 (w : Int), sl], .int .i64 (b : Int)] W (SetEPost M w (m ||| 2 ^ b) W) := by
  have H := Lib.hid h
  obtain ⟨a, c, rfl⟩ := h.slice
  clear h
  go_enter Try.func30, Try.ntmps30
  go_wp2_with fail
  refine (changed_any (Also M W.heap.size) w m b _ _ (also_lt hM) hb (H.out.extNo (((Ext.refl _ _).alloc _).alloc _))).mono ?_
  rintro e1 w1 ⟨a1, c1, rfl, hs1, hx1⟩
  have hC := hx1.blk (n := W.heap.size + 1) (alloc_top (by simp)) (fun x => x.elim)
  have hxa : Ext No W w1 := (((Ext.refl _ _).alloc _).alloc _).transNo hx1
  have cC := cellOf hC
  have fC := freeOf hC
  clear hx1
  go_wp2_with fail
  refine ret_ex rfl ?_
  simp [results, Try.results30, go_sem, cC]
  exact ⟨_, _, rfl, Lib.hid (hs1.out.alsoBack (ext_set2 hxa)), ext2 hxa (by omega)⟩

/-! ### Diff and Union -/
theorem diff1_any (x y : Nat) (hx : x < 2 ^ 64) (_ : y < 2 ^ 64) (W : World) : Calls Try.prog 35 #[.int .u64 (x : Int), .int .u64 (y : Int)] W fun e w' => e = .returned (.int .u64 (diffN x y : Nat)) ∧ W = w' := by
  have h := bits_andNot x y hx
  go_enter Try.func35, Try.ntmps35
  go_wp2
  go_ret
  exact ⟨rfl, rfl⟩
theorem union1_any (x y : Nat) (hx : x < 2 ^ 64) (hy : y < 2 ^ 64) (W : World) : Calls Try.prog 36 #[.int .u64 (x : Int), .int .u64 (y : Int)] W fun e w' => e = .returned (.int .u64 ((x ||| y : Nat) : Int)) ∧ W = w' := by
  have h := bits_or x y hx hy
  go_enter Try.func36, Try.ntmps36
  go_wp2
  go_ret
  exact ⟨rfl, rfl⟩
end Go.Proofs.Ytgakojgkkdmabaa

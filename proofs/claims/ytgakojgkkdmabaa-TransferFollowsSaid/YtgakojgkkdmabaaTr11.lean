/- The reference's sets: Full, Same. -/
import Derived.Test.YtgakojgkkdmabaaTr10
namespace Go.Proofs.Ytgakojgkkdmabaa
open Go Go.RowKit

/-- a set that a function builds: the result's box C, the set's box D, its words in g -/
structure RMem (E : Nat → Prop) (W : World) (C D w m g : Nat) (wx : World) : Prop where
  ext : Ext E W wx
  boxC : wx.heap[C]? = some (.cells #[.int .i64 0, .slice none 0 0] 28 (0, 0))
  boxD : wx.heap[D]? = some (.cells #[.int .i64 (w : Int), .slice (some ⟨g, 0, none⟩) (nw w) (nw w)] 28 (0, 0))
  blk : BlkW wx g w m
  lowC : W.heap.size ≤ C
  lowD : W.heap.size ≤ D
  low : W.heap.size ≤ g
  neCD : C ≠ D
  neC : C ≠ g
  neD : D ≠ g
  hE : ∀ i, E i → i < W.heap.size
section
variable {E : Nat → Prop} {W wx wy : World} {C D w m g g2 m2 : Nat}
theorem RMem.step (h : RMem E W C D w m g wx) (hx : Ext E wx wy) : RMem E W C D w m g wy := by
  have h1 := h.lowC
  have h2 := h.lowD
  have h3 := h.low
  exact ⟨h.ext.trans hx, hx.blk h.boxC (fun e => by have := h.hE _ e; omega), hx.blk h.boxD (fun e => by have := h.hE _ e; omega), hx.blk h.blk (fun e => by have := h.hE _ e; omega), h1, h2, h3, h.neCD, h.neC, h.neD, h.hE⟩
theorem RMem.stepNo (h : RMem E W C D w m g wx) (hx : Ext No wx wy) : RMem E W C D w m g wy := h.step (hx.mono (fun _ _ x => x.elim))
theorem RMem.drew (h : RMem E W C D w m g wx) : RMem E W C D w m g wx.drew := h.stepNo (Ext.refl _ _).drew
theorem RMem.drewN (h : RMem E W C D w m g wx) (n : Nat) : RMem E W C D w m g (wx.drewN n) := h.stepNo ((Ext.refl _ _).drewN n)
theorem RMem.put (h : RMem E W C D w m g wx) (hb : BlkW wy g2 w m2) (hx : Ext No wx wy) (hg : wx.heap.size ≤ g2) : RMem E W C D w m2 g2 ((wy.setCell ⟨D, 0, none⟩ (.int .i64 (w : Int))).setCell ⟨D, 1, none⟩ (.slice (some ⟨g2, 0, none⟩) (nw w) (nw w))) := by
  have h1 := h.lowC
  have h2 := h.lowD
  have h3 := lt_of_block h.boxC
  have h4 := lt_of_block h.boxD
  have hs := h.stepNo hx
  have hy := ext_two (w1 := wy) hx (u0 := .int .i64 (w : Int)) (u1 := .slice (some ⟨g2, 0, none⟩) (nw w) (nw w)) D
  have hn := h.neCD
  refine ⟨hs.ext.trans2 hy (fun i hi e => by unfold At at e; omega), hy.blk hs.boxC (by unfold At; exact hn), (set_same (j := 1) (set_same (j := 0) hs.boxD)).trans rfl, hy.blk hb (by unfold At; omega), h1, h2, by omega, hn, by omega, by omega, h.hE⟩
theorem RMem.set {M : Nat → Prop} (h : RMem E W C D w m g wx) (hw : w ≤ 256) (hm : m < 2 ^ w) (hM : ∀ b, M b → b < W.heap.size) : SetAt M wx (.slice (some ⟨g, 0, none⟩) (nw w) (nw w)) w m := h.blk.set hw hm (fun e => by have := hM _ e; have := h.low; omega)
end
theorem fullN_succ (k : Nat) : (2 ^ k - 1) ||| 2 ^ k = 2 ^ (k + 1) - 1 := by
  refine Nat.eq_of_testBit_eq fun j => ?_
  rw [Nat.testBit_or, Nat.testBit_two_pow_sub_one, Nat.testBit_two_pow_sub_one, Nat.testBit_two_pow]
  by_cases h : k = j
  · subst h; simp
  · by_cases h2 : j < k
    · simp [h, h2, show j < k + 1 by omega]
    · simp [h, h2, show ¬ j < k + 1 by omega]
theorem fullN_lt {k w : Nat} (h : k ≤ w) : 2 ^ k - 1 < 2 ^ w := by
  have := Nat.pow_le_pow_right (n := 2) (by decide) h
  have := Nat.two_pow_pos k
  omega
def fullN (k : Nat) : Nat := 2 ^ k - 1

set_option maxHeartbeats 1000000 in
theorem rfull_any (w : Nat) (W : World) (hw : w ≤ 256) : Calls Try.prog 22 #[.int .i64 (w : Int)] W (ROwn w (fullN w) W) := by
  go_enter Try.func22, Try.ntmps22
  go_wp2_with fail
  have hxa : Ext No W (W.alloc (.cells #[.int .i64 0, .slice none 0 0] 28)) := (Ext.refl _ _).alloc _
  have hC : (W.alloc (.cells #[.int .i64 0, .slice none 0 0] 28)).heap[W.heap.size]? = some (.cells #[.int .i64 0, .slice none 0 0] 28 (0, 0)) := alloc_top rfl
  refine (rempty_any w _ hw).mono ?_
  rintro e1 w1 ⟨g, rfl, hb1, hg, hx1⟩
  have hC1 := hx1.blk hC no_no
  have hs1 := lt_of_block hC1
  have hs2 := lt_of_block hb1.out
  have hm1 := Lib.hid (show RMem No W W.heap.size w1.heap.size w (fullN 0) g (w1.alloc (.cells #[.int .i64 (w : Int), .slice (some ⟨g, 0, none⟩) (nw w) (nw w)] 28)) from
    ⟨(hxa.transNo hx1).alloc _, alloc_under hC1, alloc_top rfl, alloc_under hb1.out, Nat.le_refl _, by omega, by simp at hg; omega, by omega, by simp at hg; omega, by omega, fun _ x => x.elim⟩)
  clear hxa hC hx1 hb1 hg hC1 hs1 hs2
  go_wp2_with fail
  generalize (w1.alloc (.cells #[.int .i64 (w : Int), .slice (some ⟨g, 0, none⟩) (nw w) (nw w)] 28)) = W1 at *
  generalize w1.heap.size = D at *
  go_loopw [4] (fun i wr => ∃ (k g : Nat), k ≤ w ∧ i = .int .i64 k ∧ Hid (RMem No W W.heap.size D w (fullN k) g wr)) (fun i _ => w - (intOf i).toNat)
  case atStart => exact ⟨0, g, Nat.zero_le _, rfl, hm1⟩
  case round =>
    clear hm1
    obtain ⟨k, g, hk, rfl, hm⟩ := hrel
    rename World => wr
    by_cases hlt : k < w
    · have hpos : (0 : Int) ≤ (k : Int) := by omega
      have HKK : Hid (Value.int .i64 ((k : Int) + 1) = .int .i64 ((k + 1 : Nat) : Int)) := Lib.hid (by rw [show ((k + 1 : Nat) : Int) = (k : Int) + 1 from by omega])
      have cD := cellOf hm.out.boxD
      go_wp2_with fail
      refine (rput_any w (fullN k) k _ _ hlt (hm.out.set (M := No) hw (fullN_lt (Nat.le_of_lt hlt)) (fun _ x => x.elim))).mono ?_
      rintro e2 w2 ⟨g2, rfl, hb2, hg2, hx2⟩
      have hm2 := Lib.hid (hm.out.put hb2.out hx2 hg2)
      have fD := freeOf (hm.out.stepNo hx2).boxD
      have cD2 := cellOf (hm.out.stepNo hx2).boxD
      clear hm hb2 hg2 hx2 cD
      go_wp2_with fail
      go_roundw
      case rel => exact ⟨k + 1, g2, by omega, HKK.out, Lib.hid (by have := hm2.out; rw [show fullN k ||| 2 ^ k = fullN (k + 1) from fullN_succ k] at this; exact this)⟩
      case measure => simp [intOf]; omega
    · obtain rfl : k = w := by omega
      have cD := cellOf hm.out.boxD
      have cC := cellOf hm.out.boxC
      have fC := freeOf hm.out.boxC
      go_wp2_with fail
      refine ret_ex rfl ?_
      simp [results, Try.results22, go_sem, cC]
      have hx5 := ext_two hm.out.ext (u0 := .int .i64 (k : Int)) (u1 := .slice (some ⟨g, 0, none⟩) (nw k) (nw k)) W.heap.size
      have hlow := hm.out.low
      have hne := hm.out.neC
      exact ⟨_, rfl, Lib.hid (hx5.blk hm.out.blk (by unfold At; omega)), hlow, ext2 hm.out.ext (by omega)⟩
end Go.Proofs.Ytgakojgkkdmabaa

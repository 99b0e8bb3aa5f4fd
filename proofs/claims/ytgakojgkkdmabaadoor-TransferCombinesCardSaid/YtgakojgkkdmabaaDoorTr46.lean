/- Merged: Tr45 Tr46 -/
import Derived.Test.YtgakojgkkdmabaaDoorTrGp
import Derived.Test.YtgakojgkkdmabaaDoorTr32
import Derived.Test.YtgakojgkkdmabaaDoorTr33
import Derived.Test.YtgakojgkkdmabaaDoorTr30
import Derived.Test.YtgakojgkkdmabaaDoorREq
import Derived.Test.YtgakojgkkdmabaaDoorTr17
set_option linter.unusedVariables false
set_option linter.unusedSimpArgs false
/- Tr45 -/
namespace Go.Proofs.YtgakojgkkdmabaaDoor
open Go Go.RowKit
theorem membersN_congr {w m m' : Nat} (h : ∀ b, b < w → m.testBit b = m'.testBit b) : membersN w m = membersN w m' := by
 unfold membersN
 rw [List.filter_congr (fun b hb => h b (List.mem_range.1 hb))]
theorem copTo_congr {w g : Nat} {rs rs' : List Nat} (h : ∀ a b, a < w → b < w → g.testBit b = false → (rowAt rs a).testBit b = (rowAt rs' a).testBit b) : ∀ k, k ≤ w → copTo w g rs k = copTo w g rs' k
 | 0, _ => rfl
 | k + 1, hk => by
  have e : membersN w (diffN (rowAt rs k) g) = membersN w (diffN (rowAt rs' k) g) := membersN_congr (fun b hb => by
   rw [diffN_bit, diffN_bit]
   cases hg : g.testBit b with
   | true => simp
   | false => rw [h k b (by omega) hb hg])
  rw [copTo, copTo, copTo_congr h k (by omega), e]
theorem killTo_congr {w g : Nat} {rs rs' : List Nat} (hg : g < 2 ^ w) (h : ∀ a b, a < w → b < w → g.testBit b = false → (rowAt rs a).testBit b = (rowAt rs' a).testBit b) : killTo w g rs w = killTo w g rs' w := by
 refine bits_ext (killTo_lt hg w (Nat.le_refl _)) (killTo_lt hg w (Nat.le_refl _)) (fun b hb => ?_)
 rw [killTo_bit, killTo_bit, hasZ_nat hb, hasZ_nat hb]
 cases hgb : g.testBit b with
 | true => rfl
 | false => rw [h b b hb hb hgb]
theorem bool_ext {a b : Bool} (h : a = true ↔ b = true) : a = b := by cases a <;> cases b <;> simp_all
theorem applyT_lt {t : TrD} {s : Nat} (ho : TrOk t) (hs : s < 2 ^ t.w) : applyT t s < 2 ^ t.w := applyN_lt ho hs _
end Go.Proofs.YtgakojgkkdmabaaDoor

/- Tr46 -/
namespace Go.Proofs.YtgakojgkkdmabaaDoor
open Go Go.RowKit
structure SetBox (D : Nat) (w m : Nat) (a : Option Addr) (c : Nat) (wr : World) : Prop where
 box : wr.heap[D]? = some (.cells #[.int .i64 (w : Int), .slice a (nw w) c] 25 (0, 0))
 set : SetAt No wr (.slice a (nw w) c) w m
theorem SetBox.ext {D w m : Nat} {a : Option Addr} {c : Nat} {wr w' : World} (h : SetBox D w m a c wr) (hx : Ext No wr w') : SetBox D w m a c w' := ⟨hx.blk h.box no_no, h.set.extNo hx⟩
end Go.Proofs.YtgakojgkkdmabaaDoor

/- Tr46 -/
namespace Go.Proofs.YtgakojgkkdmabaaDoor
open Go Go.RowKit
section
variable {M M' : Nat → Prop} {D w n m : Nat} {t : TrD} {ag ak ac a : Option Addr} {cg ck cc c : Nat} {wr w' : World}
theorem TrAt.early (h : TrAt M wr (.slice ag (nw w) cg) (.slice ak (nw w) ck) (.slice ac n cc) t) (hM : ∀ i, M' i → wr.heap.size ≤ i) : TrAt M' wr (.slice ag (nw w) cg) (.slice ak (nw w) ck) (.slice ac n cc) t := h.mono (fun i hi e => absurd hi (Nat.not_lt.2 (hM i e)))
end
end Go.Proofs.YtgakojgkkdmabaaDoor

/- The laws' sanity check. -/
import Derived.Test.YtckeidboolfcoaaRota21
import Derived.Test.YtckeidboolfcoaaRota6
import Derived.Test.YtckeidboolfcoaaRota3c
namespace Go.Proofs.Ytckeidboolfcoaa
open Go Go.RowKit

/-- a variable that holds a ring; its seats lie in younger blocks -/
def BoxR (w : World) (B : Nat) (r : Ring) : Prop := ∃ a n c, w.heap[B]? = some (.cells #[.int .i64 r.base, .int .i64 r.per, .slice a n c, .int .i64 r.cur, .bool r.opn] 25 (0, 0)) ∧ Seats (Lo (B + 1)) w (.slice a n c) r.seats
theorem BoxR.fresh {w : World} {r : Ring} {a : Option Addr} {n c : Nat} (hs : Seats (Lo (w.heap.size + 1)) w (.slice a n c) r.seats) : BoxR (w.alloc (.cells #[.int .i64 r.base, .int .i64 r.per, .slice a n c, .int .i64 r.cur, .bool r.opn] 25)) w.heap.size r :=
  ⟨a, n, c, alloc_top rfl, Row.extNo hs ((Ext.refl _ _).alloc _)⟩
def wr5 (w : World) (B : Nat) (u0 u1 u2 u3 u4 : Value) : World := ((((w.setCell ⟨B, 0, none⟩ u0).setCell ⟨B, 1, none⟩ u1).setCell ⟨B, 2, none⟩ u2).setCell ⟨B, 3, none⟩ u3).setCell ⟨B, 4, none⟩ u4
theorem wr5_ext {w : World} {B : Nat} {u0 u1 u2 u3 u4 : Value} : Ext (At B) w (wr5 w B u0 u1 u2 u3 u4) := (((((Ext.refl _ _).setAt _ _).setAt _ _).setAt _ _).setAt _ _).setAt _ _
theorem BoxR.store {w : World} {B : Nat} {r r' : Ring} {a' : Option Addr} {n' c' : Nat} (h : BoxR w B r) (hs : Seats (Lo (B + 1)) w (.slice a' n' c') r'.seats) : BoxR (wr5 w B (.int .i64 r'.base) (.int .i64 r'.per) (.slice a' n' c') (.int .i64 r'.cur) (.bool r'.opn)) B r' := by
  obtain ⟨a, n, c, hb, _⟩ := h
  exact ⟨a', n', c', set_all5 _ _ _ _ _ hb, Row.ext hs wr5_ext (fun i _ e => by cases e; exact Nat.lt_succ_self _)⟩
theorem BoxR.extNo {w w' : World} {B : Nat} {r : Ring} (h : BoxR w B r) (hx : Ext No w w') : BoxR w' B r := by
  obtain ⟨a, n, c, hb, hs⟩ := h
  exact ⟨a, n, c, hx.blk hb (fun x => x.elim), Row.extNo hs hx⟩
theorem BoxR.lo {w : World} {B : Nat} {r : Ring} (h : BoxR w B r) : ∀ b, Lo (B + 1) b → b < w.heap.size := by
  obtain ⟨_, _, _, hb, _⟩ := h
  intro b h
  have := lt_of_block hb
  have : b < B + 1 := h
  omega
theorem BoxR.arg {w : World} {B : Nat} {r : Ring} (h : BoxR w B r) : ∃ a n c, w.heap[B]? = some (.cells #[.int .i64 r.base, .int .i64 r.per, .slice a n c, .int .i64 r.cur, .bool r.opn] 25 (0, 0)) ∧ RingV (Lo (B + 1)) w (.agg #[.int .i64 r.base, .int .i64 r.per, .slice a n c, .int .i64 r.cur, .bool r.opn]) r := by
  obtain ⟨a, n, c, hb, hs⟩ := h
  exact ⟨a, n, c, hb, _, rfl, hs⟩
theorem RingV.opens {M : Nat → Prop} {w : World} {v : Value} {r : Ring} (h : RingV M w v r) : ∃ a n c, v = .agg #[.int .i64 r.base, .int .i64 r.per, .slice a n c, .int .i64 r.cur, .bool r.opn] ∧ Seats M w (.slice a n c) r.seats := by
  obtain ⟨sl, rfl, hs⟩ := h
  obtain ⟨a, c, rfl⟩ := Row.slice hs
  exact ⟨a, _, c, rfl, hs⟩

def sane1 : Ring := ⟨2, 1000, [⟨5, 0, 0, 0⟩], 0, false⟩
def sane2 : Ring := ⟨2, 1000, [⟨5, 0, 0, 0⟩, ⟨6, 0, 0, 0⟩], 0, false⟩
def sane3 : Ring := ⟨2, 1000, [⟨5, 0, 0, 2⟩, ⟨6, 0, 0, 0⟩], 0, true⟩
def sane4 : Ring := ⟨2, 1000, [⟨5, 0, 0, 1⟩, ⟨6, 0, 0, 0⟩], 0, true⟩
def sane5 : Ring := ⟨2, 1000, [⟨5, 0, 1, -2⟩, ⟨6, 0, 0, 0⟩], 1, false⟩
def sane6 : Ring := ⟨2, 1000, [⟨5, 0, 1, -2⟩, ⟨6, 0, 0, 2⟩], 1, true⟩
def sane7 : Ring := ⟨2, 1000, [⟨5, 0, 1, -2⟩, ⟨6, 0, 1, 0⟩], 0, false⟩
def sane8 : Ring := ⟨2, 1000, [⟨5, 0, 2, 0⟩, ⟨6, 0, 1, 2⟩], 1, true⟩
theorem sane_0 : ringNew 2 1000 = (⟨2, 1000, [], 0, false⟩, 0) := by kernel_rfl
theorem sane_1 : ringAdd ⟨2, 1000, [], 0, false⟩ 5 0 = (sane1, 0) := by kernel_rfl
theorem sane_2 : ringAdd sane1 6 0 = (sane2, 0) := by kernel_rfl
theorem sane_3 : ringPick sane2 = ⟨sane3, 5, [⟨5, 2⟩], true⟩ := by kernel_rfl
theorem sane_4 : ringSpend sane3 1 false = (sane4, false, 0) := by kernel_rfl
theorem sane_5 : ringSpend sane4 3 false = (sane5, true, 0) := by kernel_rfl
theorem sane_6 : ringPick sane5 = ⟨sane6, 6, [⟨6, 2⟩], true⟩ := by kernel_rfl
theorem sane_7 : ringSpend sane6 2 false = (sane7, true, 0) := by kernel_rfl
theorem sane_8 : ringPick sane7 = ⟨sane8, 6, [⟨5, 2⟩, ⟨6, 2⟩], true⟩ := by kernel_rfl
end Go.Proofs.Ytckeidboolfcoaa

/- transfer: copied, bit. -/
import Derived.Test.YtgakojgkkdmabaaTr2
namespace Go.Proofs.Ytgakojgkkdmabaa
open Go Go.RowKit

def hasC (l : List (Int × Int)) (c : Int × Int) : Bool := decide (c ∈ l)
theorem hasC_true {l : List (Int × Int)} {c : Int × Int} {k : Nat} (hk : k < l.length) (h : l[k] = c) : hasC l c = true := decide_eq_true (h ▸ List.getElem_mem hk)
theorem hasC_false {l : List (Int × Int)} {c : Int × Int} (h : ∀ j (hj : j < l.length), l[j] ≠ c) : hasC l c = false := decide_eq_false (fun hm => by
  obtain ⟨j, hj, he⟩ := List.getElem_of_mem hm
  exact h j hj he)
theorem copied1_any (x c : Int × Int) (g : Nat) (W : World) (h0 : W.cell? ⟨g, 0, none⟩ = some (.int .i64 c.1)) (h1 : W.cell? ⟨g, 1, none⟩ = some (.int .i64 c.2)) :
    Calls Try.prog 39 #[.agg #[.int .i64 x.1, .int .i64 x.2], .pointer (some ⟨g, 0, none⟩)] W (BoolPost (x.1 == c.1 && x.2 == c.2) W) := by
  have hlt := World.block_lt_of_cell? W _ h0
  obtain ⟨x1, x2⟩ := x
  obtain ⟨c1, c2⟩ := c
  simp only at h0 h1 ⊢
  cases hb1 : x1 == c1 <;> cases hb2 : x2 == c2
  all_goals
    go_enter Try.func39, Try.ntmps39
    go_wp2
    go_ret
    exact ⟨rfl, by (repeat (first | (with_reducible exact Ext.refl _ _) | (with_reducible assumption) | (with_reducible refine Ext.drewN ?_ _) | (with_reducible refine Ext.drew ?_) | (with_reducible refine Ext.alloc ?_ _)))⟩

def findC (l : List (Int × Int)) (c : Int × Int) : Int := if l.idxOf c < l.length then l.idxOf c else -1
set_option maxHeartbeats 400000 in
theorem indexC_any (sl : Value) (l : List (Int × Int)) (c : Int × Int) (g : Nat) (W : World) (h : CopiesAt No W sl l) (h0 : W.cell? ⟨g, 0, none⟩ = some (.int .i64 c.1)) (h1 : W.cell? ⟨g, 1, none⟩ = some (.int .i64 c.2)) :
    Calls Try.prog 43 #[sl, .func (.func 39) #[] #[.pointer (some ⟨g, 0, none⟩)]] W fun e w' => (∃ z : Int, e = .returned (.int .i64 z) ∧ hasC l c = decide (0 ≤ z)) ∧ Ext No W w' := by
  have H := Lib.hid h
  obtain ⟨a, cap, rfl⟩ := Row.slice h
  have hlen := h.2.1
  clear h
  go_enter Try.func43, Try.ntmps43
  go_wp2
  go_loopw [5, 8] (fun _ i wr => ∃ k : Nat, k ≤ l.length ∧ i = .int .i64 k ∧ Ext No W wr ∧ Hid (∀ j (hj : j < l.length), j < k → l[j] ≠ c)) (fun _ i _ => l.length - (intOf i).toNat)
  case atStart => exact ⟨0, Nat.zero_le _, rfl, Ext.refl _ _, Lib.hid (fun j _ hj => absurd hj (Nat.not_lt_zero _))⟩
  case round =>
    obtain ⟨k, hk, rfl, hx, hm⟩ := hrel
    by_cases hlt : k < l.length
    · obtain ⟨b, off, cap', hsl, hb1, _, hcell⟩ := H.out.at hlt
      simp only [Value.slice.injEq] at hsl
      obtain ⟨rfl, _, rfl⟩ := hsl
      have hc0 := hx.keep h0
      have hc1 := hx.keep h1
      obtain ⟨q0, q1⟩ := hcell k hlt
      replace q0 := hx.keep q0
      replace q1 := hx.keep q1
      clear hcell
      by_cases he : l[k] = c
      · have HF := Lib.hid (hasC_true hlt he)
        have he1 : (l[k].1 == c.1 && l[k].2 == c.2) = true := by simp [he]
        clear he
        go_wp2_with (go_at_call 39; refine (copied1_any l[k] c g _ hc0 hc1).mono ?_; rw [he1]; rintro e w1 ⟨rfl, hx1⟩)
        go_ret
        exact ⟨⟨k, rfl, by rw [HF.out]; simp⟩, hx.trans hx1⟩
      · have he1 : (l[k].1 == c.1 && l[k].2 == c.2) = false := by
          rw [Bool.eq_false_iff]; intro hc; apply he
          simp only [Bool.and_eq_true, beq_iff_eq] at hc
          exact Prod.ext hc.1 hc.2
        have HN := Lib.hid he
        clear he
        go_wp2_with (go_at_call 39; refine (copied1_any l[k] c g _ hc0 hc1).mono ?_; rw [he1]; rintro e w1 ⟨rfl, hx1⟩)
        go_roundw
        case rel => exact ⟨k + 1, by omega, by go_num, hx.trans hx1, Lib.hid (fun j hj hjk => by by_cases e : j = k; (subst e; exact HN.out); exact hm.out j hj (by omega))⟩
        case measure => simp [intOf]; omega
    · have HF := Lib.hid (hasC_false (l := l) (c := c) (fun j hj => hm.out j hj (by omega)))
      go_wp2
      go_ret
      exact ⟨⟨-1, rfl, by rw [HF.out]; rfl⟩, hx⟩
theorem contains_any (sl : Value) (l : List (Int × Int)) (c : Int × Int) (g : Nat) (W : World) (h : CopiesAt No W sl l) (h0 : W.cell? ⟨g, 0, none⟩ = some (.int .i64 c.1)) (h1 : W.cell? ⟨g, 1, none⟩ = some (.int .i64 c.2)) :
    Calls Try.prog 38 #[sl, .func (.func 39) #[] #[.pointer (some ⟨g, 0, none⟩)]] W (BoolPost (hasC l c) W) := by
  go_enter Try.func38, Try.ntmps38
  go_wp2_with fail
  refine (indexC_any _ l c g _ h h0 h1).mono ?_
  rintro e w1 ⟨⟨z, rfl, hz⟩, hx⟩
  have HZ := Lib.hid hz
  clear hz
  by_cases hd : 0 ≤ z
  · go_wp2
    go_ret
    exact ⟨by rw [HZ.out, decide_eq_true hd]; rfl, hx⟩
  · go_wp2
    go_ret
    exact ⟨by rw [HZ.out, show decide (0 ≤ z) = false from decide_eq_false (by omega)]; rfl, hx⟩
theorem copied_any (wg wk : Int) (sg sk sc : Value) (l : List (Int × Int)) (c : Int × Int) (W : World) (hg : ∃ a n c, sg = .slice a n c) (hk : ∃ a n c, sk = .slice a n c) (h : CopiesAt No W sc l) :
    Calls Try.prog 31 #[.agg #[.int .i64 (wg : Int), sg, .int .i64 (wk : Int), sk, sc], .agg #[.int .i64 c.1, .int .i64 c.2]] W (BoolPost (hasC l c) W) := by
  have H := Lib.hid h
  obtain ⟨a, cap, rfl⟩ := Row.slice h
  obtain ⟨ag, ng, cg, rfl⟩ := hg
  obtain ⟨ak, nk, ck, rfl⟩ := hk
  clear h
  go_enter Try.func31, Try.ntmps31
  go_wp2_with fail
  refine (contains_any _ l c (W.heap.size + 1) _ (Row.extNo H.out (((Ext.refl _ _).alloc _).alloc _)) (cellOf (alloc_top (by simp)) 0) (cellOf (alloc_top (by simp)) 1)).mono ?_
  rintro e w1 ⟨rfl, hx⟩
  go_wp2
  go_ret
  exact ⟨rfl, Ext.transNo (by (repeat (first | (with_reducible exact Ext.refl _ _) | (with_reducible assumption) | (with_reducible refine Ext.drewN ?_ _) | (with_reducible refine Ext.drew ?_) | (with_reducible refine Ext.alloc ?_ _)))) hx⟩
end Go.Proofs.Ytgakojgkkdmabaa

/- The reference's over. -/
import Derived.Test.YtckeidboolfcoaaRota11
import Derived.Test.YtckeidboolfcoaaRota3
import Derived.StillTailTactics
import Derived.Test.YtckeidboolfcoaaRota0
namespace Go.Proofs.Ytckeidboolfcoaa
open Go Go.RowKit

def OverPost (g cap base0 : Nat) (base per : Int) (l : List Seat) (c : Nat) (w : World) (e : Ending) (w' : World) : Prop :=
  e = .returned (.agg #[.int .i64 base, .int .i64 per, .slice (some ⟨g, 0, none⟩) l.length cap, .int .i64 (wrapAt c l.length : Nat), .bool false]) ∧
  ∃ l', l' = l.set c ((l[c]?.getD ⟨0, 0, 0, 0⟩).older) ∧ OwnSeats w' base0 (.slice (some ⟨g, 0, none⟩) l.length cap) l' ∧ Ext (At g) w w'

set_option maxRecDepth 100000 in
set_option maxHeartbeats 2000000 in
theorem over_any (g cap base0 : Nat) (base per : Int) (l : List Seat) (c : Nat) (opn : Bool) (w : World) (hc : c < l.length) (hl : l.length ≤ 16)
    (hS : OwnSeats w base0 (.slice (some ⟨g, 0, none⟩) l.length cap) l) :
    Calls Try.prog 29 #[.agg #[.int .i64 base, .int .i64 per, .slice (some ⟨g, 0, none⟩) l.length cap, .int .i64 c, .bool opn]] w (OverPost g cap base0 base per l c w) := by
  have HS := Lib.hid hS
  have hg : g < w.heap.size := (World.ownsRow.lt hS g rfl).2
  obtain ⟨q0, q1, q2, q3⟩ := hS.at hc
  have fg := fun j => World.ownsRow.frozenAt hS j
  have c0 : (0 : Int) ≤ (c : Int) := by omega
  have c1 : (c : Int) < (l.length : Int) := by omega
  clear hS
  go_enter Try.func29, Try.ntmps29
  go_wp2_with fail
  have hx0 : Ext No w ((w.alloc (.cells #[.int .i64 base, .int .i64 per, .slice (some ⟨g, 0, none⟩) l.length cap, .int .i64 c, .bool opn] 25)).alloc (.cells #[.int .i64 0, .int .i64 0, .slice none 0 0, .int .i64 0, .bool false] 25)) := ((Ext.refl _ _).alloc _).alloc _
  have hB := alloc_under (o := .cells #[.int .i64 0, .int .i64 0, .slice none 0 0, .int .i64 0, .bool false] 25) (alloc_top (w := w) (o := .cells #[.int .i64 base, .int .i64 per, .slice (some ⟨g, 0, none⟩) l.length cap, .int .i64 c, .bool opn] 25) rfl)
  have hC := alloc_top (n := w.heap.size + 1) (w := w.alloc (.cells #[.int .i64 base, .int .i64 per, .slice (some ⟨g, 0, none⟩) l.length cap, .int .i64 c, .bool opn] 25)) (o := .cells #[.int .i64 0, .int .i64 0, .slice none 0 0, .int .i64 0, .bool false] 25) (by simp)
  have hS0 : OwnSeats ((w.alloc (.cells #[.int .i64 base, .int .i64 per, .slice (some ⟨g, 0, none⟩) l.length cap, .int .i64 c, .bool opn] 25)).alloc (.cells #[.int .i64 0, .int .i64 0, .slice none 0 0, .int .i64 0, .bool false] 25)) base0 (.slice (some ⟨g, 0, none⟩) l.length cap) l := ((World.ownsRow.alloc HS.out _).alloc _)
  clear q0 q1 q2 q3 fg
  generalize (w.alloc (.cells #[.int .i64 base, .int .i64 per, .slice (some ⟨g, 0, none⟩) l.length cap, .int .i64 c, .bool opn] 25)).alloc (.cells #[.int .i64 0, .int .i64 0, .slice none 0 0, .int .i64 0, .bool false] 25) = W at *
  obtain ⟨q0, q1, q2, q3⟩ := hS0.at hc
  have cB := cellOf hB
  go_still_tail 14, (by kernel_rfl)
  still_call ((radd_any _ _ _).mono (fun _ _ h => ⟨h.1, h.2.symm⟩))
  repeat still_step
  try refine wpStill_nil ?_
  change wpList _ _ _ _ _ W.drew
  have hx1 : Ext (At g) w (W.setCell ⟨g, c * 4 + 2, none⟩ (.int .i64 (addZ l[c].age 1))) := (hx0.ofNo (M := At g)).setCell (p := ⟨g, c * 4 + 2, none⟩) (fun _ => rfl) _
  have hS1 := (World.ownsRow.stored (w := W) hS0 (c * 4 + 2) (.int .i64 (addZ l[c].age 1))).1
  have hB1 := set_other (w := W) (a := ⟨g, c * 4 + 2, none⟩) (u := .int .i64 (addZ l[c].age 1)) hB (by simp; omega)
  have hC1 := set_other (w := W) (a := ⟨g, c * 4 + 2, none⟩) (u := .int .i64 (addZ l[c].age 1)) hC (by simp; omega)
  have fg := fun j => World.ownsRow.frozenAt hS0 j
  have HX := Lib.hid hx1
  have HS1 := Lib.hid hS1
  have cB1 := cellOf hB1
  have cC1 := cellOf hC1
  have fB1 := freeOf hB1
  have fC1 := freeOf hC1
  clear cB hx1 hS1 hS0 hx0
  have hcl : ((c : Int) + 1 == (l.length : Int)) = true ∧ (wrapAt c l.length : Int) = 0 ∨ ((c : Int) + 1 == (l.length : Int)) = false ∧ (wrapAt c l.length : Int) = (c : Int) + 1 := by
    by_cases h : c + 1 = l.length
    · exact .inl ⟨by simp; omega, by simp [wrapAt, h]⟩
    · exact .inr ⟨beq_eq_false_iff_ne.2 (by omega), by rw [wrapAt, Nat.mod_eq_of_lt (by omega)]; simp⟩
  have hg2 : l[c]?.getD ⟨0, 0, 0, 0⟩ = l[c] := by simp [hc]
  have hfs : flatS (l.set c (l[c]?.getD ⟨0, 0, 0, 0⟩).older) = (flatS l).set (c * 4 + 2) (.int .i64 (addZ l[c].age 1)) := by
    rw [hg2]; exact flatS_set l c hc _ 2 (by omega) _ rfl
  have HFS := Lib.hid hfs
  clear hg2 hfs
  rcases hcl with ⟨hcl, hwr⟩ | ⟨hcl, hwr⟩
  all_goals
    have HWR := Lib.hid hwr
    clear hwr
    go_wp2
    refine ret_ex rfl ?_
    simp [results, Try.results29, go_sem, cC1]
    refine ⟨by rw [HWR.out], _, rfl, ?_, ?_⟩
    · show World.ownsRow _ base0 _ 4 _ _ _
      rw [HFS.out, List.length_set]
      refine World.ownsRow.drew ?_
      repeat (first | (with_reducible exact HS1.out) | ((with_reducible refine ownsRow_setCell_other ?_ ?_ _); rotate_left; (simp [Value.ownBlock]; omega)))
    · refine Ext.drew ?_
      repeat (first | (with_reducible exact HX.out) | ((with_reducible refine Ext.own ?_ ?_ _); rotate_left; first | exact Nat.le_refl _ | exact Nat.le_succ _))
end Go.Proofs.Ytckeidboolfcoaa

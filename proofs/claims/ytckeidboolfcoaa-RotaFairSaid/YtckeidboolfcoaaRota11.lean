/- rota: end, in place: the walk. -/
import Derived.Test.YtckeidboolfcoaaRota10
import Derived.IntWalk
namespace Go.Proofs.Ytckeidboolfcoaa
open Go Go.RowKit

def wrapAt (c n : Nat) : Nat := (c + 1) % n
/-- what 'end' leaves: the box B and the row of seats in block g -/
def EndPost (B g cap base0 : Nat) (base per : Int) (l : List Seat) (c : Nat) (w : World) (e : Ending) (w' : World) : Prop :=
  e = .returned (.tuple #[]) ∧
  ∃ l', l' = l.set c ((l[c]?.getD ⟨0, 0, 0, 0⟩).older) ∧
  w'.heap[B]? = some (.cells #[.int .i64 base, .int .i64 per, .slice (some ⟨g, 0, none⟩) l.length cap, .int .i64 (wrapAt c l.length : Nat), .bool false] 25 (0, 0)) ∧
  OwnSeats w' base0 (.slice (some ⟨g, 0, none⟩) l.length cap) l' ∧ Ext (fun b => b = B ∨ b = g) w w'

set_option maxRecDepth 100000 in
set_option maxHeartbeats 2000000 in
theorem end_any (B g cap base0 : Nat) (base per : Int) (l : List Seat) (c : Nat) (opn : Bool) (w : World) (hc : c < l.length) (hl : l.length ≤ 16) (hne : g ≠ B)
    (hB : w.heap[B]? = some (.cells #[.int .i64 base, .int .i64 per, .slice (some ⟨g, 0, none⟩) l.length cap, .int .i64 c, .bool opn] 25 (0, 0)))
    (hS : OwnSeats w base0 (.slice (some ⟨g, 0, none⟩) l.length cap) l) :
    Calls Try.prog 35 #[.pointer (some ⟨B, 0, none⟩)] w (EndPost B g cap base0 base per l c w) := by
  have HS := Lib.hid hS
  have HB := Lib.hid hB
  obtain ⟨q0, q1, q2, q3⟩ := hS.at hc
  have fg := fun j => World.ownsRow.frozenAt hS j
  have cB := cellOf hB
  have fB := freeOf hB
  have c0 : (0 : Int) ≤ (c : Int) := by omega
  have c1 : (c : Int) < (l.length : Int) := by omega
  clear hS hB
  go_enter Try.func35, Try.ntmps35
  go_wp2_with fail
  go_quiet (fail)
  go_wp2_with (go_at_call 44; refine (older_any _ _).mono ?_; rintro e w' ⟨rfl, rfl⟩)
  have hB5 := set_other (w := w.drewN nq) (a := ⟨g, c * 4 + 2, none⟩) (u := .int .i64 (addZ l[c].age 1)) HB.out (by simp; exact fun h => hne h.symm)
  have hS5 := World.ownsRow.stored (w := w.drewN nq) HS.out (c * 4 + 2) (.int .i64 (addZ l[c].age 1))
  have hx5 : Ext (fun b => b = B ∨ b = g) w ((w.drewN nq).setCell ⟨g, c * 4 + 2, none⟩ (.int .i64 (addZ l[c].age 1))) := ((Ext.refl _ _).drewN _).setCell (fun _ => .inr rfl) _
  clear cB fB q0 q1 q2 q3 fg
  generalize (w.drewN nq).setCell ⟨g, c * 4 + 2, none⟩ (.int .i64 (addZ l[c].age 1)) = W at *
  have HS5 := Lib.hid hS5.1
  have cB := cellOf hB5
  have fB := freeOf hB5
  have HB5 := Lib.hid hB5
  clear hS5 hB5
  have e1 : IntKind.i64.wrap ((c : Int) + 1) = (c : Int) + 1 := IntWalk.i64_in _ (by omega)
  have e2 : (0 : Int) ≤ (c : Int) + 1 := by omega
  have e3 : ((l.length : Int) == 0) = false := beq_eq_false_iff_ne.2 (by omega)
  go_region
  all_goals
    go_wp2
    go_end0
    refine ⟨rfl, _, rfl, ?_, ?_, ?_⟩
    · have hm : ((c : Int) + 1) % (l.length : Int) = ((wrapAt c l.length : Nat) : Int) := by simp [wrapAt]
      rw [hm]
      exact (set_same (j := 4) (u := .bool false) (set_same (j := 3) (u := .int .i64 (wrapAt c l.length : Nat)) HB5.out)).trans rfl
    · have hg : l[c]?.getD ⟨0, 0, 0, 0⟩ = l[c] := by simp [hc]
      have hfs : flatS (l.set c (l[c]?.getD ⟨0, 0, 0, 0⟩).older) = (flatS l).set (c * 4 + 2) (.int .i64 (addZ l[c].age 1)) := by
        rw [hg]; exact flatS_set l c hc _ 2 (by omega) _ rfl
      show World.ownsRow _ base0 _ 4 _ _ _
      rw [hfs, List.length_set]
      exact ownsRow_setCell_other (ownsRow_setCell_other HS5.out (a := ⟨B, 3, none⟩) (by simp [Value.ownBlock]; exact hne) _) (a := ⟨B, 4, none⟩) (by simp [Value.ownBlock]; exact hne) _
    · exact ((hx5.setCell (p := ⟨B, 3, none⟩) (fun _ => .inl rfl) _).setCell (p := ⟨B, 4, none⟩) (fun _ => .inl rfl) _).drew
end Go.Proofs.Ytckeidboolfcoaa

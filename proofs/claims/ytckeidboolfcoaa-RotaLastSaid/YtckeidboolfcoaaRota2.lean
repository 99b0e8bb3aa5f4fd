/- slices.Clone at seats. -/
import Derived.Test.YtckeidboolfcoaaRing
import Derived.Test.YtckeidboolfcoaaApp
import Derived.Test.YtckeidboolfcoaaProg
import Derived.WalkSpells
namespace Go.Proofs.Ytckeidboolfcoaa
open Go Go.RowKit

theorem infoSeat : (Try.prog.info? 53).map (fun i => (i.zero, i.size, i.bytes)) = some (some (.agg #[.int .i64 0, .int .i64 0, .int .i64 0, .int .i64 0]), 4, 32) := by kernel_rfl
theorem flatS_one (l : List Seat) : ∀ u ∈ flatS l, u.oneCell' = true := by
  intro u hu
  obtain ⟨s, _, hs⟩ := List.mem_flatMap.1 hu
  simp only [Seat.cells, List.mem_cons, List.not_mem_nil, or_false] at hs
  rcases hs with rfl | rfl | rfl | rfl <;> rfl

def OwnSeats (w : World) (base : Nat) (sl : Value) (l : List Seat) : Prop := w.ownsRow base 53 4 sl l.length (flatS l)
def ClonePost (l : List Seat) (w : World) (e : Ending) (w' : World) : Prop := ∃ v, e = .returned v ∧ OwnSeats w' w.heap.size v l ∧ Ext No w w'

set_option maxHeartbeats 400000 in
theorem clone_any (sl : Value) (l : List Seat) (w : World) (h : Seats No w sl l) (hn : l.length ≤ 1048576) :
    Calls Try.prog 33 #[sl] w (ClonePost l w) := by
  obtain ⟨i0, hi, hz0, hz1, hz2⟩ := info_parts infoSeat
  have H := Lib.hid h
  obtain ⟨a, cap, rfl⟩ := h.slice
  clear h
  have ke := fun (w : World) (a : Option Addr) (n c : Nat) => Lib.run_eql_slice_nil (P := Try.prog) w 23 53 a n c 0 0 Try.underlying23
  cases a with
  | none =>
    have h0 : l.length = 0 := by
      rcases H.out.2.2 with ⟨a, c, h1, _, h2 | ⟨b, off, h2, _⟩⟩
      · exact h2
      · simp only [Value.slice.injEq] at h1; rw [h2] at h1; exact absurd h1.1 (by simp)
    have HL := Lib.hid (List.eq_nil_of_length_eq_zero h0)
    clear h0
    go_enter Try.func33, Try.ntmps33
    go_wp2
    go_ret
    exact ⟨_, rfl, by rw [HL.out]; exact World.ownsRow_nil _ _ _ _, Ext.refl _ _⟩
  | some ad =>
    go_enter Try.func33, Try.ntmps33
    go_wp2_with (at_builtin; refine wpList_app _ rfl (.tmp 5) (.tmp 6) 23 rfl w.heap.size 53 i0 _ 4 32 Try.underlying23 hi hz0 hz1 hz2 rfl (by omega) _ 0 [] rfl (World.ownsRow_made w #[] 0 (Nat.le_refl _) (Nat.zero_le _) rfl) No (some ad) l.length cap (flatS l) rfl (Row.extNo H.out ((Ext.refl _ _).alloc _)) (flatS_one l) (by omega) (by omega) (by simp) ?_; intro v1 w1 hown hg hat)
    go_ret
    simp only [Nat.zero_add, List.nil_append] at hown
    exact ⟨_, rfl, hown, ((Ext.refl _ _).alloc _).grown hg (fun k hk hlt => by cases hk; exact absurd hlt (Nat.lt_irrefl _))⟩
end Go.Proofs.Ytckeidboolfcoaa

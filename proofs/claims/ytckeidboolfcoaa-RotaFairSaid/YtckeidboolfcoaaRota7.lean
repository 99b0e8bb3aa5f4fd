/- rota: Remove. -/
import Derived.Test.YtckeidboolfcoaaRota1b
import Derived.Test.YtckeidboolfcoaaRota3
import Derived.Test.YtckeidboolfcoaaApp2
import Derived.Deep.RegionHeld3
namespace Go.Proofs.Ytckeidboolfcoaa
open Go Go.RowKit

def removed (r : Ring) (i : Nat) : Ring :=
  ⟨r.base, r.per, r.seats.take i ++ r.seats.drop (i + 1), if (i : Int) < r.cur then r.cur - 1 else if (i : Int) = r.cur ∧ r.cur = r.seats.length - 1 then 0 else r.cur, if (i : Int) = r.cur then false else r.opn⟩
def ringRemove (r : Ring) (id : Int) : Ring × Bool :=
  if findZ r.seats id < 0 ∨ ringOk r = false then (r, false) else (removed r (findZ r.seats id).toNat, true)
def RemPost (M : Nat → Prop) (r : Ring) (id : Int) (w : World) (e : Ending) (w' : World) : Prop :=
  ∃ v, e = .returned (.tuple #[v, .bool (ringRemove r id).2]) ∧ RingV M w' v (ringRemove r id).1 ∧ Ext No w w'
theorem RemPost.mk {M : Nat → Prop} {r r' : Ring} {id : Int} {c : Bool} {w w' : World} {e : Ending} {v : Value} (h : ringRemove r id = (r', c)) (he : e = .returned (.tuple #[v, .bool c])) (hv : RingV M w' v r') (hx : Ext No w w') : RemPost M r id w e w' :=
  ⟨v, by rw [h]; exact he, by rw [h]; exact hv, hx⟩
theorem remNo {r : Ring} {id : Int} (h : findZ r.seats id < 0 ∨ ringOk r = false) : ringRemove r id = (r, false) := by unfold ringRemove; rw [if_pos h]
theorem remYes {r : Ring} {id : Int} (h : ¬ (findZ r.seats id < 0 ∨ ringOk r = false)) : ringRemove r id = (removed r (findZ r.seats id).toNat, true) := by unfold ringRemove; rw [if_neg h]

set_option maxRecDepth 100000 in
set_option maxHeartbeats 2000000 in
theorem rem_no (M : Nat → Prop) (v : Value) (r : Ring) (id : Int) (w : World) (h : RingV M w v r) (hf : findZ r.seats id < 0 ∨ ringOk r = false) :
    Calls Try.prog 20 #[v, .int .i64 id] w (RemPost M r id w) := by
  have HW := Lib.hid h
  have HV := Lib.hid h.toNo
  have HA := Lib.hid (remNo hf)
  obtain ⟨sl, rfl, hs⟩ := h
  obtain ⟨a, cap, rfl⟩ := hs.slice
  have hlen := hs.2.1
  clear hs
  have hp : findZ r.seats id < 0 ∨ (0 ≤ findZ r.seats id ∧ ringOk r = false) := by
    by_cases h0 : findZ r.seats id < 0
    · exact .inl h0
    · exact .inr ⟨by omega, hf.resolve_left h0⟩
  clear hf
  rcases hp with g | ⟨g, gk⟩
  all_goals
    go_enter Try.func20, Try.ntmps20
    go_wp2_with fail
    have hx0 : Ext No w ((w.alloc (.cells #[.int .i64 r.base, .int .i64 r.per, .slice a r.seats.length cap, .int .i64 r.cur, .bool r.opn] 25)).alloc (.cells #[.int .i64 0, .int .i64 0, .slice none 0 0, .int .i64 0, .bool false] 25)) := ((Ext.refl _ _).alloc _).alloc _
    refine (find_any _ r _ _ (HV.out.extNo hx0)).mono ?_
    rintro e1 w1 ⟨rfl, hx1⟩
    have hB := hx1.blk (alloc_under (alloc_top (w := w) rfl)) (fun x => x.elim)
    have hC := hx1.blk (n := w.heap.size + 1) (alloc_top (by simp)) (fun x => x.elim)
    have hx := hx0.transNo hx1
    have cB := cellOf hB
    have cC := cellOf hC
    have fC := freeOf hC
    clear hx0 hx1
    go_wp2_with (go_at_call 23; refine (valid_any _ r _ (HV.out.extNo hx)).mono ?_; rintro e2 w2 ⟨rfl, hx2⟩; replace hB := hx2.blk hB (fun x => x.elim); replace hC := hx2.blk hC (fun x => x.elim); replace hx := hx.transNo hx2; have cB := cellOf hB; have cC := cellOf hC; have fC := freeOf hC; clear hx2)
    refine ret_ex rfl ?_
    simp [results, Try.results20, go_sem, cC]
    have hxe : Ext No w _ := hx
    refine RemPost.mk HA.out rfl (HW.out.extNo (w' := _) ?_) ?_
    all_goals repeat (first | (with_reducible assumption) | ((with_reducible refine Ext.own ?_ ?_ _); rotate_left; first | exact Nat.le_refl _ | exact Nat.le_succ _))

theorem findZ_ge {l : List Seat} {id : Int} (h : ¬ findZ l id < 0) : ∃ i : Nat, findZ l id = i ∧ i < l.length := by
  have := findZ_lt l id
  exact ⟨(findZ l id).toNat, by omega, by omega⟩
end Go.Proofs.Ytckeidboolfcoaa

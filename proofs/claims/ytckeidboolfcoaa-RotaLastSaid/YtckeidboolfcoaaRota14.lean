/- rota: Pick. -/
import Derived.Test.YtckeidboolfcoaaRota13
import Derived.Test.YtckeidboolfcoaaRota2
namespace Go.Proofs.Ytckeidboolfcoaa
open Go Go.RowKit

set_option maxRecDepth 100000 in
set_option maxHeartbeats 2000000 in
theorem pick_no (M : Nat → Prop) (v : Value) (r : Ring) (w : World) (h : RingV M w v r) (hf : ringOk r = false ∨ r.seats.length = 0) :
    Calls Try.prog 21 #[v] w (PickPost M r w) := by
  have HW := Lib.hid h
  have HV := Lib.hid h.toNo
  have HA := Lib.hid (ringPick_no hf)
  obtain ⟨sl, rfl, hs⟩ := h
  obtain ⟨a, cap, rfl⟩ := hs.slice
  have hlen := hs.2.1
  clear hs
  have hp : ringOk r = false ∨ (ringOk r = true ∧ r.seats.length = 0) := by
    cases h1 : ringOk r with
    | false => exact .inl rfl
    | true => exact .inr ⟨rfl, hf.resolve_left (by simp [h1])⟩
  clear hf
  rcases hp with gk | ⟨gk, g0⟩
  all_goals
    try (have g4 : ((r.seats.length : Int) == 0) = true := by simp [g0])
    try clear g0
    go_enter Try.func21, Try.ntmps21
    go_wp2_with fail
    have hx0 : Ext No w ((w.alloc (.cells #[.int .i64 r.base, .int .i64 r.per, .slice a r.seats.length cap, .int .i64 r.cur, .bool r.opn] 25)).alloc (.cells #[.int .i64 0, .int .i64 0, .slice none 0 0, .int .i64 0, .bool false] 25)) := ((Ext.refl _ _).alloc _).alloc _
    refine (valid_any _ r _ (HV.out.extNo hx0)).mono ?_
    rintro e1 w1 ⟨rfl, hx1⟩
    rw [gk]
    have hB := hx1.blk (alloc_under (alloc_top (w := w) rfl)) (fun x => x.elim)
    have hC := hx1.blk (n := w.heap.size + 1) (alloc_top (by simp)) (fun x => x.elim)
    have hx := hx0.transNo hx1
    have cB := cellOf hB
    have cC := cellOf hC
    have fC := freeOf hC
    clear hx0 hx1
    go_wp2_with fail
    refine ret_ex rfl ?_
    simp [results, Try.results21, go_sem, cC]
    have hxe : Ext No w _ := hx
    refine PickPost.mk HA.out rfl (HW.out.extNo (w' := _) ?_) (Row.nil _ _ _ _ _ (by omega)) ?_
    all_goals repeat (first | (with_reducible assumption) | ((with_reducible refine Ext.own ?_ ?_ _); rotate_left; first | exact Nat.le_refl _ | exact Nat.le_succ _))
end Go.Proofs.Ytckeidboolfcoaa

/- The reference's AddSeat. -/
import Derived.Test.YtckeidboolfcoaaRota3b
import Derived.Test.YtckeidboolfcoaaRota5
namespace Go.Proofs.Ytckeidboolfcoaa
open Go Go.RowKit

set_option maxRecDepth 100000 in
set_option maxHeartbeats 2000000 in
theorem radd_no (M : Nat → Prop) (v : Value) (r : Ring) (id p : Int) (w : World) (h : RingV M w v r)
    (hf : ringOk r = false ∨ (betB id 0 1073741824 && betB p 0 3) = false ∨ 0 ≤ findZ r.seats id ∨ r.seats.length = 16) :
    Calls Try.prog 24 #[v, .int .i64 id, .int .i64 p] w (AddPost M r id p w) := by
  have HV := Lib.hid h.toNo
  obtain ⟨sl, rfl, hs⟩ := h
  obtain ⟨a, cap, rfl⟩ := hs.slice
  have hlen := hs.2.1
  clear hs
  have H0 := Lib.hid (ring0_v M)
  obtain ⟨f1, k, hp⟩ : ∃ f1 : Bool, f1 = ringOk r ∧ (f1 = false ∨ (f1 = true ∧ (betB id 0 1073741824 = false ∨ (betB id 0 1073741824 = true ∧ betB p 0 3 = false) ∨ (betB id 0 1073741824 = true ∧ betB p 0 3 = true ∧ (0 ≤ findZ r.seats id ∨ (findZ r.seats id < 0 ∧ r.seats.length = 16)))))) := by
    refine ⟨_, rfl, ?_⟩
    cases h1 : ringOk r with
    | false => exact .inl rfl
    | true =>
      refine .inr ⟨rfl, ?_⟩
      cases h2 : betB id 0 1073741824 with
      | false => exact .inl rfl
      | true =>
        cases h3 : betB p 0 3 with
        | false => exact .inr (.inl ⟨rfl, rfl⟩)
        | true =>
          refine .inr (.inr ⟨rfl, rfl, ?_⟩)
          rw [h1, h2, h3] at hf
          rcases hf with h | h | h | h
          · exact absurd h (by simp)
          · exact absurd h (by simp)
          · exact .inl h
          · by_cases h4 : 0 ≤ findZ r.seats id
            · exact .inl h4
            · exact .inr ⟨by omega, h⟩
  clear hf
  have hp' : (f1 = false) ∨ (f1 = true ∧ betB id 0 1073741824 = false) ∨ (f1 = true ∧ betB id 0 1073741824 = true ∧ betB p 0 3 = false ∧ p < 0) ∨ (f1 = true ∧ betB id 0 1073741824 = true ∧ betB p 0 3 = false ∧ 0 ≤ p ∧ 3 < p) ∨ (f1 = true ∧ betB id 0 1073741824 = true ∧ betB p 0 3 = true ∧ (0 ≤ p ∧ p ≤ 3) ∧ (0 ≤ findZ r.seats id ∨ (findZ r.seats id < 0 ∧ r.seats.length = 16))) := by
    rcases hp with hp | ⟨hp, g1 | ⟨g1, g2⟩ | ⟨g1, g2, g3⟩⟩
    · exact .inl hp
    · exact .inr (.inl ⟨hp, g1⟩)
    · rcases betB_false g2 with t | ⟨t, t'⟩
      · exact .inr (.inr (.inl ⟨hp, g1, g2, t⟩))
      · exact .inr (.inr (.inr (.inl ⟨hp, g1, g2, t, t'⟩)))
    · exact .inr (.inr (.inr (.inr ⟨hp, g1, g2, betB_true g2, g3⟩)))
  clear hp
  rcases hp' with hp | ⟨hp, g1⟩ | ⟨hp, g1, g2, t⟩ | ⟨hp, g1, g2, t, t'⟩ | ⟨hp, g1, g2, ⟨t, t'⟩, g3 | ⟨g3, z4⟩⟩
  all_goals
    have HK := Lib.hid (show ringOk r = _ from k.symm.trans hp)
    clear k hp
    first
    | have HA := Lib.hid (addE1 (id := id) (p := p) HK.out)
    | have HA := Lib.hid (addE3a (p := p) HK.out g1)
    | have HA := Lib.hid (addE3b HK.out g1 g2)
    | have HA := Lib.hid (addE6b HK.out g1 g2 g3)
    | have HA := Lib.hid (addE7b HK.out g1 g2 g3 z4)
    try (have g4 : ((r.seats.length : Int) == 16) = true := by simp [z4])
    try (have Z4 := Lib.hid z4; clear z4)
    go_enter Try.func24, Try.ntmps24
    go_wp2_with fail
    have hx0 : Ext No w ((w.alloc (.cells #[.int .i64 r.base, .int .i64 r.per, .slice a r.seats.length cap, .int .i64 r.cur, .bool r.opn] 25)).alloc (.cells #[.int .i64 0, .int .i64 0, .slice none 0 0, .int .i64 0, .bool false] 25)) := ((Ext.refl _ _).alloc _).alloc _
    refine (rvalid_any _ r _ (HV.out.extNo hx0)).mono ?_
    rintro e1 w1 ⟨rfl, hx1⟩
    rw [HK.out]
    have hB := hx1.blk (alloc_under (alloc_top (w := w) rfl)) (fun x => x.elim)
    have hC := hx1.blk (n := w.heap.size + 1) (alloc_top (by simp)) (fun x => x.elim)
    have hx := hx0.transNo hx1
    have cB := cellOf hB
    have cC := cellOf hC
    have fC := freeOf hC
    clear hx0 hx1
    go_wp2_with (first | (go_at_call 36; refine (counter_any _ _).mono ?_; rintro e' w1 ⟨rfl, rfl⟩) | (go_at_call 37; refine (seat_any _ r _ _ (HV.out.extNo hx)).mono ?_; rintro e2 w2 ⟨rfl, hx2⟩; replace hB := hx2.blk hB (fun x => x.elim); replace hC := hx2.blk hC (fun x => x.elim); replace hx := hx.transNo hx2; have cB := cellOf hB; have cC := cellOf hC; have fC := freeOf hC; clear hx2))
    refine ret_ex rfl ?_
    simp [results, Try.results24, go_sem, cC]
    refine AddPost.mk HA.out rfl (ring0_v M _) ?_
    repeat (first | (with_reducible assumption) | ((with_reducible refine Ext.own ?_ ?_ _); rotate_left; first | exact Nat.le_refl _ | exact Nat.le_succ _))

end Go.Proofs.Ytckeidboolfcoaa

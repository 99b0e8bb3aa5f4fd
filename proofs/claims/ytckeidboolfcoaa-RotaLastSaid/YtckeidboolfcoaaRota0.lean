/- rota: between, New, find. -/
import Derived.Test.YtckeidboolfcoaaRing
import Derived.Test.YtckeidboolfcoaaTape
namespace Go.Proofs.Ytckeidboolfcoaa
open Go Go.RowKit

theorem ret_ex {P : Program} {fn : Func} {R : Ending → World → Prop} {a : Act} {w : World}
    (hd : a.defers = []) (h : ∃ v, (results fn a.tmps).run P w = .ok v w ∧ R (.returned v) w) : bodyPost P fn R .ret a w := by
  obtain ⟨v, hr, hR⟩ := h; exact ⟨hd, v, hr, hR⟩

theorem between_any (n l m : Int) (w : World) : Calls Try.prog 31 #[.int .i64 n, .int .i64 l, .int .i64 m] w fun e w' => e = .returned (.bool (betB n l m)) ∧ w = w' := by
  by_cases h1 : l ≤ n
  · by_cases h2 : n ≤ m
    · have HB := Lib.hid (show betB n l m = true by simp [betB, h1, h2])
      go_enter Try.func31, Try.ntmps31
      go_wp2
      go_ret
      exact ⟨by rw [HB.out]; rfl, rfl⟩
    · have HB := Lib.hid (show betB n l m = false by simp [betB, h2])
      go_enter Try.func31, Try.ntmps31
      go_wp2
      go_ret
      exact ⟨by rw [HB.out]; rfl, rfl⟩
  · have HB := Lib.hid (show betB n l m = false by simp [betB, h1])
    go_enter Try.func31, Try.ntmps31
    go_wp2
    go_ret
    exact ⟨by rw [HB.out]; rfl, rfl⟩

theorem find1_any (s : Seat) (c : Nat) (id : Int) (w : World) (hc : w.cell? ⟨c, 0, none⟩ = some (.int .i64 id)) :
    Calls Try.prog 41 #[s.val, .pointer (some ⟨c, 0, none⟩)] w fun e w' => e = .returned (.bool (s.id == id)) ∧ Ext No w w' := by
  have hlt := World.block_lt_of_cell? w _ hc
  go_enter Try.func41, Try.ntmps41
  simp only [Seat.val]
  go_wp2
  go_ret
  exact ⟨rfl, (Ext.refl _ _).alloc _⟩

set_option maxHeartbeats 400000 in
theorem indexFunc_any (sl : Value) (l : List Seat) (c : Nat) (id : Int) (w : World) (h : Seats No w sl l) (hc : w.cell? ⟨c, 0, none⟩ = some (.int .i64 id)) :
    Calls Try.prog 40 #[sl, .func (.func 41) #[] #[.pointer (some ⟨c, 0, none⟩)]] w fun e w' => e = .returned (.int .i64 (findZ l id)) ∧ Ext No w w' := by
  have H := Lib.hid h
  have hlt := World.block_lt_of_cell? w _ hc
  obtain ⟨a, cap, rfl⟩ := h.slice
  have hlen := h.2.1
  clear h
  go_enter Try.func40, Try.ntmps40
  go_wp2
  go_loopw [5, 8] (fun _ i wr => ∃ k : Nat, k ≤ l.length ∧ i = .int .i64 k ∧ Ext No w wr ∧ Hid (∀ j (hj : j < l.length), j < k → l[j].id ≠ id)) (fun _ i _ => l.length - (intOf i).toNat)
  case atStart => exact ⟨0, Nat.zero_le _, rfl, Ext.refl _ _, Lib.hid (fun j _ hj => absurd hj (Nat.not_lt_zero _))⟩
  case round =>
    obtain ⟨k, hk, rfl, hx, hm⟩ := hrel
    by_cases hlt : k < l.length
    · obtain ⟨b, off, cap', hsl, hb1, _, hcell⟩ := H.out.shape (by omega)
      simp only [Value.slice.injEq] at hsl
      obtain ⟨rfl, _, rfl⟩ := hsl
      have hc' := hx.keep hc
      obtain ⟨q0, q1, q2, q3⟩ := Seats.at hcell hlt
      replace q0 := hx.keep q0
      replace q1 := hx.keep q1
      replace q2 := hx.keep q2
      replace q3 := hx.keep q3
      have HC := Lib.hid hcell
      clear hcell
      by_cases he : l[k].id = id
      · have he' : (l[k].id == id) = true := by simp [he]
        have HF := Lib.hid (findZ_hit hlt hm.out he)
        clear he
        go_wp2_with (go_at_call 41; refine (find1_any l[k] c id _ (by assumption)).mono ?_; rintro e w1 ⟨rfl, hx1⟩)
        go_ret
        exact ⟨by rw [HF.out]; rfl, hx.trans hx1⟩
      · have he' : (l[k].id == id) = false := by simp [he]
        have HN := Lib.hid he
        clear he
        go_wp2_with (go_at_call 41; refine (find1_any l[k] c id _ (by assumption)).mono ?_; rintro e w1 ⟨rfl, hx1⟩)
        go_roundw
        case rel => exact ⟨k + 1, by omega, by go_num, hx.trans hx1, Lib.hid (fun j hj hjk => by by_cases e : j = k; (subst e; exact HN.out); exact hm.out j hj (by omega))⟩
        case measure => simp [intOf]; omega
    · have HF := Lib.hid (findZ_miss (l := l) (id := id) (fun j hj => hm.out j hj (by omega)))
      go_wp2
      go_ret
      exact ⟨by rw [HF.out]; rfl, hx⟩
end Go.Proofs.Ytckeidboolfcoaa

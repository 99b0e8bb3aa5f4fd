/- New of the program and of the reference; the reference's counter and Seat. -/
import Derived.Test.YtckeidboolfcoaaRota3
namespace Go.Proofs.Ytckeidboolfcoaa
open Go Go.RowKit

def ringNew (base per : Int) : Ring × Int := if (betB base 1 64 && betB per 1 1024) = true then (⟨base, per, [], 0, false⟩, 0) else (ring0, 3)
def NewRPost (base per : Int) (w : World) (e : Ending) (w' : World) : Prop :=
  ∃ v, e = .returned (.tuple #[v, .int .i64 (ringNew base per).2]) ∧ (∀ M, RingV M w' v (ringNew base per).1) ∧ Ext No w w'
theorem NewRPost.mk {base per c : Int} {r' : Ring} {w w' : World} {e : Ending} {v : Value} (h : ringNew base per = (r', c)) (he : e = .returned (.tuple #[v, .int .i64 c])) (hv : ∀ M, RingV M w' v r') (hx : Ext No w w') : NewRPost base per w e w' :=
  ⟨v, by rw [h]; exact he, by rw [h]; exact hv, hx⟩
theorem newR0 {base per : Int} (h : betB base 1 64 = true) (h2 : betB per 1 1024 = true) : ringNew base per = (⟨base, per, [], 0, false⟩, 0) := by unfold ringNew; rw [if_pos (by rw [h, h2]; rfl)]
theorem newR3 {base per : Int} (h : betB base 1 64 = false) : ringNew base per = (ring0, 3) := by unfold ringNew; rw [if_neg (by rw [h]; simp)]
theorem newR3b {base per : Int} (h : betB base 1 64 = true) (h2 : betB per 1 1024 = false) : ringNew base per = (ring0, 3) := by unfold ringNew; rw [if_neg (by rw [h, h2]; simp)]
theorem ringE_v (M : Nat → Prop) (w : World) (base per : Int) : RingV M w (.agg #[.int .i64 base, .int .i64 per, .slice none 0 0, .int .i64 0, .bool false]) ⟨base, per, [], 0, false⟩ := ⟨_, rfl, Row.nil _ _ _ _ _ (by omega)⟩

set_option maxHeartbeats 400000 in
theorem newR_any (base per : Int) (w : World) : Calls Try.prog 15 #[.int .i64 base, .int .i64 per] w (NewRPost base per w) := by
  cases h1 : betB base 1 64 with
  | false =>
    have HA := Lib.hid (newR3 (per := per) h1)
    go_enter Try.func15, Try.ntmps15
    go_wp2_with (go_at_call 31; refine (between_any _ _ _ _).mono ?_; rintro e' w1 ⟨rfl, rfl⟩)
    refine ret_ex rfl ?_
    simp [results, Try.results15, go_sem]
    exact NewRPost.mk HA.out rfl (fun M => ring0_v M _) ((Ext.refl _ _).alloc _)
  | true =>
    cases h2 : betB per 1 1024 with
    | false =>
      have HA := Lib.hid (newR3b h1 h2)
      go_enter Try.func15, Try.ntmps15
      go_wp2_with (go_at_call 31; refine (between_any _ _ _ _).mono ?_; rintro e' w1 ⟨rfl, rfl⟩)
      refine ret_ex rfl ?_
      simp [results, Try.results15, go_sem]
      exact NewRPost.mk HA.out rfl (fun M => ring0_v M _) ((Ext.refl _ _).alloc _)
    | true =>
      have HA := Lib.hid (newR0 h1 h2)
      go_enter Try.func15, Try.ntmps15
      go_wp2_with (go_at_call 31; refine (between_any _ _ _ _).mono ?_; rintro e' w1 ⟨rfl, rfl⟩)
      refine ret_ex rfl ?_
      simp [results, Try.results15, go_sem]
      exact NewRPost.mk HA.out rfl (fun M => ringE_v M _ _ _) ((Ext.refl _ _).alloc _)
theorem betB_true {n l m : Int} (h : betB n l m = true) : l ≤ n ∧ n ≤ m := by simpa [betB] using h
theorem betB_false {n l m : Int} (h : betB n l m = false) : n < l ∨ (l ≤ n ∧ m < n) := by simp [betB] at h; omega

set_option maxHeartbeats 400000 in
theorem rnewR_any (base per : Int) (w : World) : Calls Try.prog 16 #[.int .i64 base, .int .i64 per] w (NewRPost base per w) := by
  cases h1 : betB base 1 64 with
  | false =>
    have HA := Lib.hid (newR3 (per := per) h1)
    rcases betB_false h1 with g | ⟨g, g'⟩
    all_goals
      clear h1
      go_enter Try.func16, Try.ntmps16
      go_wp2
      refine ret_ex rfl ?_
      simp [results, Try.results16, go_sem]
      exact NewRPost.mk HA.out rfl (fun M => ring0_v M _) ((Ext.refl _ _).alloc _)
  | true =>
    obtain ⟨g1, g1'⟩ := betB_true h1
    cases h2 : betB per 1 1024 with
    | false =>
      have HA := Lib.hid (newR3b h1 h2)
      rcases betB_false h2 with g | ⟨g, g'⟩
      all_goals
        clear h1 h2
        go_enter Try.func16, Try.ntmps16
        go_wp2
        refine ret_ex rfl ?_
        simp [results, Try.results16, go_sem]
        exact NewRPost.mk HA.out rfl (fun M => ring0_v M _) ((Ext.refl _ _).alloc _)
    | true =>
      have HA := Lib.hid (newR0 h1 h2)
      obtain ⟨g2, g2'⟩ := betB_true h2
      clear h1 h2
      go_enter Try.func16, Try.ntmps16
      go_wp2
      refine ret_ex rfl ?_
      simp [results, Try.results16, go_sem]
      exact NewRPost.mk HA.out rfl (fun M => ringE_v M _ _ _) ((Ext.refl _ _).alloc _)

theorem counter_any (n : Int) (w : World) : Calls Try.prog 36 #[.int .i64 n] w fun e w' => e = .returned (.bool (betB n 0 1073741824)) ∧ w = w' := by
  cases h1 : betB n 0 1073741824 with
  | true =>
    obtain ⟨g1, g1'⟩ := betB_true h1
    clear h1
    go_enter Try.func36, Try.ntmps36
    go_wp2
    go_ret
    exact ⟨ret_bool (by first | rfl | (simp; done) | (simp; omega)), rfl⟩
  | false =>
    rcases betB_false h1 with g | ⟨g, g'⟩
    all_goals
      clear h1
      go_enter Try.func36, Try.ntmps36
      go_wp2
      go_ret
      exact ⟨ret_bool (by first | rfl | (simp; done) | (simp; omega)), rfl⟩

set_option maxHeartbeats 400000 in
theorem seat_any (v : Value) (r : Ring) (id : Int) (w : World) (h : RingV No w v r) :
    Calls Try.prog 37 #[v, .int .i64 id] w fun e w' => e = .returned (.int .i64 (findZ r.seats id)) ∧ Ext No w w' := by
  obtain ⟨sl, rfl, hs⟩ := h
  have H := Lib.hid hs
  obtain ⟨a, cap, rfl⟩ := hs.slice
  have hlen := hs.2.1
  clear hs
  go_enter Try.func37, Try.ntmps37
  go_wp2
  go_loop [5] (fun i => ∃ k : Nat, k ≤ r.seats.length ∧ i = .int .i64 k ∧ Hid (∀ j (hj : j < r.seats.length), j < k → r.seats[j].id ≠ id)) (fun i => r.seats.length - (intOf i).toNat)
  case atStart => exact ⟨0, Nat.zero_le _, rfl, Lib.hid (fun j _ hj => absurd hj (Nat.not_lt_zero _))⟩
  case round =>
    obtain ⟨k, hk, rfl, hm⟩ := hrel
    by_cases hlt : k < r.seats.length
    · obtain ⟨b, off, cap', hsl, hb1, _, q0, q1, q2, q3⟩ := Seats.lt H.out hlt
      simp only [Value.slice.injEq] at hsl
      obtain ⟨rfl, _, rfl⟩ := hsl
      by_cases he : r.seats[k].id = id
      · have he' : (r.seats[k].id == id) = true := by simp [he]
        have HF := Lib.hid (findZ_hit hlt hm.out he)
        clear he
        go_wp2
        go_ret
        exact ⟨by rw [HF.out]; rfl, (Ext.refl _ _).alloc _⟩
      · have he' : (r.seats[k].id == id) = false := by simp [he]
        have HN := Lib.hid he
        clear he
        go_wp2
        go_round
        case rel => exact ⟨k + 1, by omega, by go_num, Lib.hid (fun j hj hjk => by by_cases e : j = k; (subst e; exact HN.out); exact hm.out j hj (by omega))⟩
        case measure => simp [intOf]; omega
    · have HF := Lib.hid (findZ_miss (l := r.seats) (id := id) (fun j hj => hm.out j hj (by omega)))
      go_wp2
      go_ret
      exact ⟨by rw [HF.out]; rfl, (Ext.refl _ _).alloc _⟩
end Go.Proofs.Ytckeidboolfcoaa

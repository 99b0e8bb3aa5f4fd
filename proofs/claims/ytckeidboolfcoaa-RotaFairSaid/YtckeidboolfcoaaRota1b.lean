/- rota: Valid. -/
import Derived.Test.YtckeidboolfcoaaRota1
namespace Go.Proofs.Ytckeidboolfcoaa
open Go Go.RowKit


set_option maxRecDepth 100000 in
set_option maxHeartbeats 4000000 in
theorem valid_true (v : Value) (base per cur : Int) (seats : List Seat) (w : World) (h : RingV No w v ⟨base, per, seats, cur, true⟩) (hh : headOk ⟨base, per, seats, cur, true⟩ = true) :
    Calls Try.prog 23 #[v] w fun e w' => e = .returned (.bool (ringOk ⟨base, per, seats, cur, true⟩)) ∧ Ext No w w' := by
  have HV := Lib.hid h
  obtain ⟨sl, rfl, hs⟩ := h
  have H := Lib.hid hs
  obtain ⟨a, cap, rfl⟩ := hs.slice
  have hlen := hs.2.1
  clear hs
  obtain ⟨g1, g2, g3, g4, g5⟩ := head_true hh
  simp only at g1 g2 g3 g4 g5 hlen
  have HH := Lib.hid hh
  clear hh
  obtain ⟨g6, g7⟩ : 1 ≤ seats.length ∧ cur < seats.length := by
    rcases g5 with ⟨_, h⟩ | ⟨h, _⟩ | ⟨h, _⟩
    · exact h
    · exact absurd h (by simp)
    · exact absurd h (by simp)
  have g6' : ((seats.length : Int) == 0) = false := beq_eq_false_iff_ne.2 (by omega)
  have g6'' : ¬ (seats.length : Int) < 1 := by omega
  all_goals
    go_enter Try.func23, Try.ntmps23
    go_wp2_with (go_at_call 31; refine (between_any _ _ _ _).mono ?_; rintro e' w1 ⟨rfl, rfl⟩)
    have hx0 : Ext No w (w.alloc (.cells #[.int .i64 base, .int .i64 per, .slice a seats.length cap, .int .i64 cur, .bool true] 25)) := (Ext.refl _ _).alloc _
    have hB0 : (w.alloc (.cells #[.int .i64 base, .int .i64 per, .slice a seats.length cap, .int .i64 cur, .bool true] 25)).heap[w.heap.size]? = some (.cells #[.int .i64 base, .int .i64 per, .slice a seats.length cap, .int .i64 cur, .bool true] 25 (0, 0)) := alloc_top rfl
    clear g1 g2 g4 g7 g6' g6''
    go_loopw [50] (fun i wr => ∃ k : Nat, k ≤ seats.length ∧ i = .int .i64 k ∧ Ext No w wr ∧ Hid (∀ j (hj : j < seats.length), j < k → seatOk (⟨base, per, seats, cur, true⟩ : Ring) j seats[j] = true) ∧
        wr.heap[w.heap.size]? = some (.cells #[.int .i64 base, .int .i64 per, .slice a seats.length cap, .int .i64 cur, .bool true] 25 (0, 0))) (fun i _ => seats.length - (intOf i).toNat)
    case atStart => exact ⟨0, Nat.zero_le _, rfl, hx0, Lib.hid (fun j _ hj => absurd hj (Nat.not_lt_zero _)), hB0⟩
    case round =>
      clear hx0 hB0
      obtain ⟨k, hk, rfl, hx, hm, hB⟩ := hrel
      by_cases hlt : k < seats.length
      · obtain ⟨b, off, cap', hsl, hb1, _, q0, q1, q2, q3⟩ := Seats.lt H.out hlt
        simp only [Value.slice.injEq] at hsl
        obtain ⟨rfl, _, rfl⟩ := hsl
        replace q0 := hx.keep q0
        replace q1 := hx.keep q1
        replace q2 := hx.keep q2
        replace q3 := hx.keep q3
        have cB := cellOf hB
        have hBl := lt_of_block hB
        by_cases hat : (k : Int) = cur
        · skip
          have hat' : ((k : Int) == cur) = true := by simp [hat]
          by_cases hs : seatOk (⟨base, per, seats, cur, true⟩ : Ring) k seats[k] = true
          · obtain ⟨s1, s2, s3, s4, s5⟩ := seat_true hs
            simp only at s5
            rw [if_pos ⟨trivial, hat⟩] at s5
            have HS := Lib.hid hs
            clear hs hat
            go_wp2_with (go_at_call 31; refine (between_any _ _ _ _).mono ?_; rintro e' w1 ⟨rfl, rfl⟩)
            refine (find_any _ ⟨base, per, seats, cur, true⟩ _ _ (HV.out.extNo (hx.alloc _))).mono ?_
            rintro e2 w2 ⟨rfl, hx2⟩
            have hB2 := hx2.blk (alloc_under hB) (fun x => x.elim)
            have hS2 := hx2.blk (alloc_top rfl) (fun x => x.elim)
            have cB2 := cellOf hB2
            have cS2 := cellOf hS2
            have hx3 := (hx.alloc _).transNo hx2
            clear hx2
            go_wp2_with (go_at_call 31; refine (between_any _ _ _ _).mono ?_; rintro e' w1 ⟨rfl, rfl⟩)
            go_roundw
            case rel => exact ⟨k + 1, by omega, by go_num, hx3, Lib.hid (fun j hj hjk => by by_cases e : j = k; (subst e; exact HS.out); exact hm.out j hj (by omega)), hB2⟩
            case measure => simp [intOf]; omega
          · have HF := Lib.hid (ringOk_bad (r := (⟨base, per, seats, cur, true⟩ : Ring)) hlt (by simpa using hs))
            have hs' := seat_cases (by simpa using hs : seatOk (⟨base, per, seats, cur, true⟩ : Ring) k seats[k] = false)
            simp only at hs'
            rw [if_pos ⟨trivial, hat⟩] at hs'
            clear hs hat
            rcases hs' with s1 | ⟨s1, s2 | ⟨s2, s3 | ⟨s3, s4 | ⟨s4, s5⟩⟩⟩⟩
            · go_wp2_with (go_at_call 31; refine (between_any _ _ _ _).mono ?_; rintro e' w1 ⟨rfl, rfl⟩)
              go_ret
              exact ⟨by rw [HF.out]; rfl, hx.alloc _⟩
            all_goals
              go_wp2_with (go_at_call 31; refine (between_any _ _ _ _).mono ?_; rintro e' w1 ⟨rfl, rfl⟩)
              refine (find_any _ ⟨base, per, seats, cur, true⟩ _ _ (HV.out.extNo (hx.alloc _))).mono ?_
              rintro e2 w2 ⟨rfl, hx2⟩
              have hB2 := hx2.blk (alloc_under hB) (fun x => x.elim)
              have hS2 := hx2.blk (alloc_top rfl) (fun x => x.elim)
              have cB2 := cellOf hB2
              have cS2 := cellOf hS2
              have hx3 := (hx.alloc _).transNo hx2
              clear hx2
              go_wp2_with (go_at_call 31; refine (between_any _ _ _ _).mono ?_; rintro e' w1 ⟨rfl, rfl⟩)
              go_ret
              exact ⟨by rw [HF.out]; rfl, hx3⟩

        · skip
          have hat' : ((k : Int) == cur) = false := by simp [hat]
          by_cases hs : seatOk (⟨base, per, seats, cur, true⟩ : Ring) k seats[k] = true
          · obtain ⟨s1, s2, s3, s4, s5⟩ := seat_true hs
            simp only at s5
            rw [if_neg (fun x => hat x.2)] at s5
            have HS := Lib.hid hs
            clear hs hat
            go_wp2_with (go_at_call 31; refine (between_any _ _ _ _).mono ?_; rintro e' w1 ⟨rfl, rfl⟩)
            refine (find_any _ ⟨base, per, seats, cur, true⟩ _ _ (HV.out.extNo (hx.alloc _))).mono ?_
            rintro e2 w2 ⟨rfl, hx2⟩
            have hB2 := hx2.blk (alloc_under hB) (fun x => x.elim)
            have hS2 := hx2.blk (alloc_top rfl) (fun x => x.elim)
            have cB2 := cellOf hB2
            have cS2 := cellOf hS2
            have hx3 := (hx.alloc _).transNo hx2
            clear hx2
            go_wp2_with (go_at_call 31; refine (between_any _ _ _ _).mono ?_; rintro e' w1 ⟨rfl, rfl⟩)
            go_roundw
            case rel => exact ⟨k + 1, by omega, by go_num, hx3, Lib.hid (fun j hj hjk => by by_cases e : j = k; (subst e; exact HS.out); exact hm.out j hj (by omega)), hB2⟩
            case measure => simp [intOf]; omega
          · have HF := Lib.hid (ringOk_bad (r := (⟨base, per, seats, cur, true⟩ : Ring)) hlt (by simpa using hs))
            have hs' := seat_cases (by simpa using hs : seatOk (⟨base, per, seats, cur, true⟩ : Ring) k seats[k] = false)
            simp only at hs'
            rw [if_neg (fun x => hat x.2)] at hs'
            clear hs hat
            rcases hs' with s1 | ⟨s1, s2 | ⟨s2, s3 | ⟨s3, s4 | ⟨s4, s5⟩⟩⟩⟩
            · go_wp2_with (go_at_call 31; refine (between_any _ _ _ _).mono ?_; rintro e' w1 ⟨rfl, rfl⟩)
              go_ret
              exact ⟨by rw [HF.out]; rfl, hx.alloc _⟩
            all_goals
              go_wp2_with (go_at_call 31; refine (between_any _ _ _ _).mono ?_; rintro e' w1 ⟨rfl, rfl⟩)
              refine (find_any _ ⟨base, per, seats, cur, true⟩ _ _ (HV.out.extNo (hx.alloc _))).mono ?_
              rintro e2 w2 ⟨rfl, hx2⟩
              have hB2 := hx2.blk (alloc_under hB) (fun x => x.elim)
              have hS2 := hx2.blk (alloc_top rfl) (fun x => x.elim)
              have cB2 := cellOf hB2
              have cS2 := cellOf hS2
              have hx3 := (hx.alloc _).transNo hx2
              clear hx2
              go_wp2_with (go_at_call 31; refine (between_any _ _ _ _).mono ?_; rintro e' w1 ⟨rfl, rfl⟩)
              go_ret
              exact ⟨by rw [HF.out]; rfl, hx3⟩

      · have HF := Lib.hid (ringOk_all HH.out (fun i hi => hm.out i hi (by simp only at hi; omega)))
        go_wp2
        go_ret
        exact ⟨by rw [HF.out]; rfl, hx⟩

set_option maxRecDepth 100000 in
set_option maxHeartbeats 4000000 in
theorem valid_false (v : Value) (base per cur : Int) (seats : List Seat) (w : World) (h : RingV No w v ⟨base, per, seats, cur, false⟩) (hh : headOk ⟨base, per, seats, cur, false⟩ = true) :
    Calls Try.prog 23 #[v] w fun e w' => e = .returned (.bool (ringOk ⟨base, per, seats, cur, false⟩)) ∧ Ext No w w' := by
  have HV := Lib.hid h
  obtain ⟨sl, rfl, hs⟩ := h
  have H := Lib.hid hs
  obtain ⟨a, cap, rfl⟩ := hs.slice
  have hlen := hs.2.1
  clear hs
  obtain ⟨g1, g2, g3, g4, g5⟩ := head_true hh
  simp only at g1 g2 g3 g4 g5 hlen
  have HH := Lib.hid hh
  clear hh
  have g5' : (seats.length = 0 ∧ cur < 1) ∨ (1 ≤ seats.length ∧ cur < seats.length) := by
    rcases g5 with ⟨h, _⟩ | ⟨_, h⟩ | ⟨_, h⟩
    · exact absurd h (by simp)
    · exact .inl h
    · exact .inr h
  clear g5
  rcases g5' with ⟨z6, g7⟩ | ⟨g6, g7⟩
  all_goals
    try (have g6' : ((seats.length : Int) == 0) = false := beq_eq_false_iff_ne.2 (by omega))
    try (have g6'' : ¬ (seats.length : Int) < 1 := by omega)
    try (have g6' : ((seats.length : Int) == 0) = true := by simp [z6])
    try (have g6'' : (seats.length : Int) < 1 := by omega)
    try (have Z6 := Lib.hid z6; clear z6)
    go_enter Try.func23, Try.ntmps23
    go_wp2_with (go_at_call 31; refine (between_any _ _ _ _).mono ?_; rintro e' w1 ⟨rfl, rfl⟩)
    have hx0 : Ext No w (w.alloc (.cells #[.int .i64 base, .int .i64 per, .slice a seats.length cap, .int .i64 cur, .bool false] 25)) := (Ext.refl _ _).alloc _
    have hB0 : (w.alloc (.cells #[.int .i64 base, .int .i64 per, .slice a seats.length cap, .int .i64 cur, .bool false] 25)).heap[w.heap.size]? = some (.cells #[.int .i64 base, .int .i64 per, .slice a seats.length cap, .int .i64 cur, .bool false] 25 (0, 0)) := alloc_top rfl
    clear g1 g2 g4 g7 g6' g6''
    go_loopw [50] (fun i wr => ∃ k : Nat, k ≤ seats.length ∧ i = .int .i64 k ∧ Ext No w wr ∧ Hid (∀ j (hj : j < seats.length), j < k → seatOk (⟨base, per, seats, cur, false⟩ : Ring) j seats[j] = true) ∧
        wr.heap[w.heap.size]? = some (.cells #[.int .i64 base, .int .i64 per, .slice a seats.length cap, .int .i64 cur, .bool false] 25 (0, 0))) (fun i _ => seats.length - (intOf i).toNat)
    case atStart => exact ⟨0, Nat.zero_le _, rfl, hx0, Lib.hid (fun j _ hj => absurd hj (Nat.not_lt_zero _)), hB0⟩
    case round =>
      clear hx0 hB0
      obtain ⟨k, hk, rfl, hx, hm, hB⟩ := hrel
      by_cases hlt : k < seats.length
      · obtain ⟨b, off, cap', hsl, hb1, _, q0, q1, q2, q3⟩ := Seats.lt H.out hlt
        simp only [Value.slice.injEq] at hsl
        obtain ⟨rfl, _, rfl⟩ := hsl
        replace q0 := hx.keep q0
        replace q1 := hx.keep q1
        replace q2 := hx.keep q2
        replace q3 := hx.keep q3
        have cB := cellOf hB
        have hBl := lt_of_block hB
        by_cases hat : (k : Int) = cur
        · skip
          skip
          by_cases hs : seatOk (⟨base, per, seats, cur, false⟩ : Ring) k seats[k] = true
          · obtain ⟨s1, s2, s3, s4, s5⟩ := seat_true hs
            simp only at s5
            rw [if_neg (fun x => absurd x.1 (by simp))] at s5
            have HS := Lib.hid hs
            clear hs hat
            go_wp2_with (go_at_call 31; refine (between_any _ _ _ _).mono ?_; rintro e' w1 ⟨rfl, rfl⟩)
            refine (find_any _ ⟨base, per, seats, cur, false⟩ _ _ (HV.out.extNo (hx.alloc _))).mono ?_
            rintro e2 w2 ⟨rfl, hx2⟩
            have hB2 := hx2.blk (alloc_under hB) (fun x => x.elim)
            have hS2 := hx2.blk (alloc_top rfl) (fun x => x.elim)
            have cB2 := cellOf hB2
            have cS2 := cellOf hS2
            have hx3 := (hx.alloc _).transNo hx2
            clear hx2
            go_wp2_with (go_at_call 31; refine (between_any _ _ _ _).mono ?_; rintro e' w1 ⟨rfl, rfl⟩)
            go_roundw
            case rel => exact ⟨k + 1, by omega, by go_num, hx3, Lib.hid (fun j hj hjk => by by_cases e : j = k; (subst e; exact HS.out); exact hm.out j hj (by omega)), hB2⟩
            case measure => simp [intOf]; omega
          · have HF := Lib.hid (ringOk_bad (r := (⟨base, per, seats, cur, false⟩ : Ring)) hlt (by simpa using hs))
            have hs' := seat_cases (by simpa using hs : seatOk (⟨base, per, seats, cur, false⟩ : Ring) k seats[k] = false)
            simp only at hs'
            rw [if_neg (fun x => absurd x.1 (by simp))] at hs'
            clear hs hat
            rcases hs' with s1 | ⟨s1, s2 | ⟨s2, s3 | ⟨s3, s4 | ⟨s4, s5⟩⟩⟩⟩
            · go_wp2_with (go_at_call 31; refine (between_any _ _ _ _).mono ?_; rintro e' w1 ⟨rfl, rfl⟩)
              go_ret
              exact ⟨by rw [HF.out]; rfl, hx.alloc _⟩
            all_goals
              go_wp2_with (go_at_call 31; refine (between_any _ _ _ _).mono ?_; rintro e' w1 ⟨rfl, rfl⟩)
              refine (find_any _ ⟨base, per, seats, cur, false⟩ _ _ (HV.out.extNo (hx.alloc _))).mono ?_
              rintro e2 w2 ⟨rfl, hx2⟩
              have hB2 := hx2.blk (alloc_under hB) (fun x => x.elim)
              have hS2 := hx2.blk (alloc_top rfl) (fun x => x.elim)
              have cB2 := cellOf hB2
              have cS2 := cellOf hS2
              have hx3 := (hx.alloc _).transNo hx2
              clear hx2
              go_wp2_with (go_at_call 31; refine (between_any _ _ _ _).mono ?_; rintro e' w1 ⟨rfl, rfl⟩)
              go_ret
              exact ⟨by rw [HF.out]; rfl, hx3⟩

        · skip
          skip
          by_cases hs : seatOk (⟨base, per, seats, cur, false⟩ : Ring) k seats[k] = true
          · obtain ⟨s1, s2, s3, s4, s5⟩ := seat_true hs
            simp only at s5
            rw [if_neg (fun x => absurd x.1 (by simp))] at s5
            have HS := Lib.hid hs
            clear hs hat
            go_wp2_with (go_at_call 31; refine (between_any _ _ _ _).mono ?_; rintro e' w1 ⟨rfl, rfl⟩)
            refine (find_any _ ⟨base, per, seats, cur, false⟩ _ _ (HV.out.extNo (hx.alloc _))).mono ?_
            rintro e2 w2 ⟨rfl, hx2⟩
            have hB2 := hx2.blk (alloc_under hB) (fun x => x.elim)
            have hS2 := hx2.blk (alloc_top rfl) (fun x => x.elim)
            have cB2 := cellOf hB2
            have cS2 := cellOf hS2
            have hx3 := (hx.alloc _).transNo hx2
            clear hx2
            go_wp2_with (go_at_call 31; refine (between_any _ _ _ _).mono ?_; rintro e' w1 ⟨rfl, rfl⟩)
            go_roundw
            case rel => exact ⟨k + 1, by omega, by go_num, hx3, Lib.hid (fun j hj hjk => by by_cases e : j = k; (subst e; exact HS.out); exact hm.out j hj (by omega)), hB2⟩
            case measure => simp [intOf]; omega
          · have HF := Lib.hid (ringOk_bad (r := (⟨base, per, seats, cur, false⟩ : Ring)) hlt (by simpa using hs))
            have hs' := seat_cases (by simpa using hs : seatOk (⟨base, per, seats, cur, false⟩ : Ring) k seats[k] = false)
            simp only at hs'
            rw [if_neg (fun x => absurd x.1 (by simp))] at hs'
            clear hs hat
            rcases hs' with s1 | ⟨s1, s2 | ⟨s2, s3 | ⟨s3, s4 | ⟨s4, s5⟩⟩⟩⟩
            · go_wp2_with (go_at_call 31; refine (between_any _ _ _ _).mono ?_; rintro e' w1 ⟨rfl, rfl⟩)
              go_ret
              exact ⟨by rw [HF.out]; rfl, hx.alloc _⟩
            all_goals
              go_wp2_with (go_at_call 31; refine (between_any _ _ _ _).mono ?_; rintro e' w1 ⟨rfl, rfl⟩)
              refine (find_any _ ⟨base, per, seats, cur, false⟩ _ _ (HV.out.extNo (hx.alloc _))).mono ?_
              rintro e2 w2 ⟨rfl, hx2⟩
              have hB2 := hx2.blk (alloc_under hB) (fun x => x.elim)
              have hS2 := hx2.blk (alloc_top rfl) (fun x => x.elim)
              have cB2 := cellOf hB2
              have cS2 := cellOf hS2
              have hx3 := (hx.alloc _).transNo hx2
              clear hx2
              go_wp2_with (go_at_call 31; refine (between_any _ _ _ _).mono ?_; rintro e' w1 ⟨rfl, rfl⟩)
              go_ret
              exact ⟨by rw [HF.out]; rfl, hx3⟩

      · have HF := Lib.hid (ringOk_all HH.out (fun i hi => hm.out i hi (by simp only at hi; omega)))
        go_wp2
        go_ret
        exact ⟨by rw [HF.out]; rfl, hx⟩

theorem valid_any (v : Value) (r : Ring) (w : World) (h : RingV No w v r) :
    Calls Try.prog 23 #[v] w fun e w' => e = .returned (.bool (ringOk r)) ∧ Ext No w w' := by
  by_cases hh : headOk r = true
  · obtain ⟨base, per, seats, cur, opn⟩ := r
    cases opn with
    | true => exact valid_true v base per cur seats w h hh
    | false => exact valid_false v base per cur seats w h hh
  · have hh' : headOk r = false := by simpa using hh
    rw [ringOk_head hh']
    exact valid_no v r w h hh'
end Go.Proofs.Ytckeidboolfcoaa

/- rota: find, Valid. -/
import Derived.Test.YtckeidboolfcoaaRota0
namespace Go.Proofs.Ytckeidboolfcoaa
open Go Go.RowKit

theorem find_any (v : Value) (r : Ring) (id : Int) (w : World) (h : RingV No w v r) :
    Calls Try.prog 32 #[v, .int .i64 id] w fun e w' => e = .returned (.int .i64 (findZ r.seats id)) ∧ Ext No w w' := by
  obtain ⟨sl, rfl, hs⟩ := h
  have H := Lib.hid hs
  clear hs
  go_enter Try.func32, Try.ntmps32
  go_wp2_with fail
  have hx0 : Ext No w ((w.alloc (.cells #[.int .i64 r.base, .int .i64 r.per, sl, .int .i64 r.cur, .bool r.opn] 25)).alloc (.cells #[.int .i64 id] 3)) := ((Ext.refl _ _).alloc _).alloc _
  refine (indexFunc_any sl r.seats (w.heap.size + 1) id _ (H.out.extNo hx0) ?_).mono ?_
  · simp [go_sem]
  · rintro e w1 ⟨rfl, hx1⟩
    go_wp2
    go_ret
    exact ⟨rfl, hx0.trans hx1⟩

theorem ringOk_head {r : Ring} (h : headOk r = false) : ringOk r = false := by simp [ringOk, h]
theorem ringOk_all {r : Ring} (h : headOk r = true) (h2 : ∀ i (h : i < r.seats.length), seatOk r i r.seats[i] = true) : ringOk r = true := by simp [ringOk, h]; exact h2
theorem ringOk_bad {r : Ring} {i : Nat} (hi : i < r.seats.length) (h2 : seatOk r i r.seats[i] = false) : ringOk r = false := by
  simp only [ringOk, Bool.and_eq_false_iff, decide_eq_false_iff_not]
  right
  intro h
  have := h i hi
  rw [h2] at this
  exact absurd this (by simp)

theorem RingV.ext {M M' : Nat → Prop} {w w' : World} {v : Value} {r : Ring} (h : RingV M w v r) (hx : Ext M' w w') (hm : ∀ i, i < w.heap.size → M' i → M i) : RingV M w' v r := by
  obtain ⟨sl, h1, h2⟩ := h; exact ⟨sl, h1, Row.ext h2 hx hm⟩
theorem RingV.extNo {M : Nat → Prop} {w w' : World} {v : Value} {r : Ring} (h : RingV M w v r) (hx : Ext No w w') : RingV M w' v r := h.ext hx (fun _ _ x => x.elim)

theorem head_cases {r : Ring} (h : headOk r = false) : betB r.base 1 64 = false ∨ (betB r.base 1 64 = true ∧ betB r.per 1 1024 = false) ∨
    (betB r.base 1 64 = true ∧ betB r.per 1 1024 = true ∧ (16 < r.seats.length ∨ (r.seats.length ≤ 16 ∧ (r.cur < 0 ∨ (0 ≤ r.cur ∧
      ((r.seats.length = 0 ∧ 1 ≤ r.cur) ∨ (1 ≤ r.seats.length ∧ (r.seats.length : Int) ≤ r.cur) ∨ (r.seats.length = 0 ∧ r.cur < 1 ∧ r.opn = true))))))) := by
  cases h1 : betB r.base 1 64 with
  | false => exact .inl rfl
  | true =>
    right
    cases h2 : betB r.per 1 1024 with
    | false => exact .inl ⟨rfl, rfl⟩
    | true =>
      right
      refine ⟨rfl, rfl, ?_⟩
      rcases Nat.lt_or_ge 16 r.seats.length with h3 | h3
      · exact .inl h3
      · right
        refine ⟨h3, ?_⟩
        rcases Int.lt_or_le r.cur 0 with h4 | h4
        · exact .inl h4
        · right
          refine ⟨h4, ?_⟩
          simp only [headOk, h1, h2, Bool.true_and, decide_eq_true h3, decide_eq_true h4, Bool.and_eq_false_iff, decide_eq_false_iff_not, Bool.not_eq_false', Bool.and_eq_true, decide_eq_true_eq] at h
          by_cases h0 : r.seats.length = 0
          · rw [if_pos (by omega)] at h
            rcases h with h | ⟨h, _⟩
            · exact .inl ⟨h0, by omega⟩
            · by_cases h5 : r.cur < 1
              · exact .inr (.inr ⟨h0, h5, h⟩)
              · exact .inl ⟨h0, by omega⟩
          · rw [if_neg (by omega)] at h
            rcases h with h | ⟨_, h⟩
            · exact .inr (.inl ⟨by omega, by omega⟩)
            · exact absurd h h0
theorem head_true {r : Ring} (h : headOk r = true) : betB r.base 1 64 = true ∧ betB r.per 1 1024 = true ∧ r.seats.length ≤ 16 ∧ 0 ≤ r.cur ∧
    ((r.opn = true ∧ 1 ≤ r.seats.length ∧ r.cur < r.seats.length) ∨ (r.opn = false ∧ r.seats.length = 0 ∧ r.cur < 1) ∨ (r.opn = false ∧ 1 ≤ r.seats.length ∧ r.cur < r.seats.length)) := by
  simp only [headOk, Bool.and_eq_true, decide_eq_true_eq, Bool.not_eq_true', Bool.and_eq_false_iff, decide_eq_false_iff_not] at h
  obtain ⟨g1, g2, g3, g4, g5, g6⟩ := h
  refine ⟨g1, g2, g3, g4, ?_⟩
  by_cases h0 : r.seats.length = 0
  · rw [if_pos (by omega)] at g5
    rcases g6 with g6 | g6
    · exact .inr (.inl ⟨g6, h0, g5⟩)
    · exact absurd h0 g6
  · rw [if_neg (by omega)] at g5
    cases ho : r.opn with
    | true => exact .inl ⟨rfl, by omega, g5⟩
    | false => exact .inr (.inr ⟨rfl, by omega, g5⟩)

set_option maxRecDepth 100000 in
set_option maxHeartbeats 2000000 in
theorem valid_no (v : Value) (r : Ring) (w : World) (h : RingV No w v r) (hh : headOk r = false) :
    Calls Try.prog 23 #[v] w fun e w' => e = .returned (.bool false) ∧ Ext No w w' := by
  obtain ⟨sl, rfl, hs⟩ := h
  obtain ⟨a, cap, rfl⟩ := hs.slice
  have hlen := hs.2.1
  clear hs
  rcases head_cases hh with g | ⟨g, g1⟩ | ⟨g, g1, g2 | ⟨g2, g3 | ⟨g3, ⟨z4, g5⟩ | ⟨g4, g5⟩ | ⟨z4, g5, g6⟩⟩⟩⟩
  all_goals
    clear hh
    try (have g4' : ((r.seats.length : Int) == 0) = true := by simp [z4])
    try (have g4'' : (r.seats.length : Int) < 1 := by omega)
    try clear z4
    go_enter Try.func23, Try.ntmps23
    go_wp2_with (go_at_call 31; refine (between_any _ _ _ _).mono ?_; rintro e' w1 ⟨rfl, rfl⟩)
    go_ret
    exact ⟨rfl, (Ext.refl _ _).alloc _⟩

theorem seat_cases {r : Ring} {i : Nat} {s : Seat} (h : seatOk r i s = false) : betB s.id 0 1073741824 = false ∨ (betB s.id 0 1073741824 = true ∧ ((findZ r.seats s.id != i) = true ∨ ((findZ r.seats s.id != i) = false ∧
    (betB s.pri 0 3 = false ∨ (betB s.pri 0 3 = true ∧ (betB s.age 0 1073741824 = false ∨ (betB s.age 0 1073741824 = true ∧ (if r.opn = true ∧ (i : Int) = r.cur then betB s.dfc 1 64 else betB s.dfc (-7) 0) = false))))))) := by
  cases h1 : betB s.id 0 1073741824 with
  | false => exact .inl rfl
  | true =>
    refine .inr ⟨rfl, ?_⟩
    cases h2 : (findZ r.seats s.id != (i : Int)) with
    | true => exact .inl rfl
    | false =>
      refine .inr ⟨rfl, ?_⟩
      cases h3 : betB s.pri 0 3 with
      | false => exact .inl rfl
      | true =>
        refine .inr ⟨rfl, ?_⟩
        cases h4 : betB s.age 0 1073741824 with
        | false => exact .inl rfl
        | true =>
          refine .inr ⟨rfl, ?_⟩
          have h2' : (findZ r.seats s.id == (i : Int)) = true := by simpa using h2
          unfold seatOk at h
          rw [h1, h2', h3, h4] at h
          simpa using h
theorem seat_true {r : Ring} {i : Nat} {s : Seat} (h : seatOk r i s = true) : betB s.id 0 1073741824 = true ∧ (findZ r.seats s.id != i) = false ∧
    betB s.pri 0 3 = true ∧ betB s.age 0 1073741824 = true ∧ (if r.opn = true ∧ (i : Int) = r.cur then betB s.dfc 1 64 else betB s.dfc (-7) 0) = true := by
  simp only [seatOk, Bool.and_eq_true, beq_iff_eq] at h
  obtain ⟨h1, h2, h3, h4, h5⟩ := h
  exact ⟨h1, by simp [h2], h3, h4, h5⟩
theorem Seats.lt {M : Nat → Prop} {w : World} {sl : Value} {l : List Seat} (h : Seats M w sl l) {i : Nat} (hi : i < l.length) : ∃ b off cap, sl = .slice (some ⟨b, off, none⟩) l.length cap ∧ b < w.heap.size ∧ ¬ M b ∧
    w.cell? ⟨b, off + i * 4, none⟩ = some (.int .i64 l[i].id) ∧ w.cell? ⟨b, off + i * 4 + 1, none⟩ = some (.int .i64 l[i].pri) ∧
    w.cell? ⟨b, off + i * 4 + 2, none⟩ = some (.int .i64 l[i].age) ∧ w.cell? ⟨b, off + i * 4 + 3, none⟩ = some (.int .i64 l[i].dfc) := by
  obtain ⟨b, off, cap, h1, h2, h3, h4⟩ := Row.shape h (by omega)
  exact ⟨b, off, cap, h1, h2, h3, Seats.at h4 hi⟩

end Go.Proofs.Ytckeidboolfcoaa

/- Contracts of quanta and turns. -/
import Derived.Test.YtfjcofjfacdppaaL2
namespace Go.Proofs.Ytfjcofjfacdppaa
open Go.RowKit

def quantQ (b p a t : Int) : Int := addZ (addZ b p) (divZ a (if t < 1 then 1 else t))
def quantZ (b p a t : Int) : Int := if 64 < quantQ b p a t then 64 else if quantQ b p a t < 1 then 1 else quantQ b p a t
theorem quantZ_bd (b p a t : Int) : 1 ≤ quantZ b p a t ∧ quantZ b p a t ≤ 64 := by unfold quantZ; split <;> (try split) <;> omega
theorem quant_hi (b p a t : Int) (h : 64 < quantQ b p a t) : quantZ b p a t = 64 := by unfold quantZ; rw [if_pos h]
theorem quant_lo (b p a t : Int) (h : quantQ b p a t < 1) : quantZ b p a t = 1 := by unfold quantZ; rw [if_neg (by omega), if_pos h]
theorem quant_mid (b p a t : Int) (h : 1 ≤ quantQ b p a t) (h' : quantQ b p a t ≤ 64) : quantZ b p a t = quantQ b p a t := by unfold quantZ; rw [if_neg (by omega), if_neg (by omega)]
theorem quantQ_lo (b p a t : Int) (h : t < 1) : quantQ b p a t = addZ (addZ b p) (divZ a 1) := by unfold quantQ; rw [if_pos h]
theorem quantQ_hi (b p a t : Int) (h : ¬ t < 1) : quantQ b p a t = addZ (addZ b p) (divZ a t) := by unfold quantQ; rw [if_neg h]

theorem quantum_any (b p a t : Int) (w : World) : Calls Try.prog 26 #[.int .i64 b, .int .i64 p, .int .i64 a, .int .i64 t] w fun e w' => e = .returned (.int .i64 (quantZ b p a t)) ∧ w = w' := by
  by_cases ht : t < 1
  all_goals
    first
    | have hq := quantQ_lo b p a t ht
    | have hq := quantQ_hi b p a t ht
    by_cases h1 : quantQ b p a t < 1
    · have HZ := Lib.hid (quant_lo b p a t h1)
      rw [hq] at h1
      clear hq
      go_enter Try.func26, Try.ntmps26
      go_wp2_with (first | (go_at_call 12; refine (add_any _ _ _).mono ?_; rintro e w' ⟨rfl, rfl⟩) | (go_at_call 21; refine (div_any _ _ _).mono ?_; rintro e w' ⟨rfl, rfl⟩))
      go_ret
      exact ⟨by rw [HZ.out]; rfl, rfl⟩
    · by_cases h2 : 64 < quantQ b p a t
      · have HZ := Lib.hid (quant_hi b p a t h2)
        rw [hq] at h1 h2
        clear hq
        go_enter Try.func26, Try.ntmps26
        go_wp2_with (first | (go_at_call 12; refine (add_any _ _ _).mono ?_; rintro e w' ⟨rfl, rfl⟩) | (go_at_call 21; refine (div_any _ _ _).mono ?_; rintro e w' ⟨rfl, rfl⟩))
        go_ret
        exact ⟨by rw [HZ.out]; rfl, rfl⟩
      · have HZ := Lib.hid (quant_mid b p a t (by omega) (by omega))
        have HQ := Lib.hid hq
        rw [hq] at h1 h2
        clear hq
        go_enter Try.func26, Try.ntmps26
        go_wp2_with (first | (go_at_call 12; refine (add_any _ _ _).mono ?_; rintro e w' ⟨rfl, rfl⟩) | (go_at_call 21; refine (div_any _ _ _).mono ?_; rintro e w' ⟨rfl, rfl⟩))
        all_goals
          go_ret
          exact ⟨ret_int (by have := HZ.out; have := HQ.out; omega), rfl⟩

theorem rquantum_any (b p a t : Int) (w : World) : Calls Try.prog 27 #[.int .i64 b, .int .i64 p, .int .i64 a, .int .i64 t] w fun e w' => e = .returned (.int .i64 (quantZ b p a t)) ∧ w = w' := by
  by_cases ht : t < 1
  all_goals
    first
    | have hq := quantQ_lo b p a t ht
    | have hq := quantQ_hi b p a t ht
    by_cases h1 : quantQ b p a t < 1
    · have HZ := Lib.hid (quant_lo b p a t h1)
      rw [hq] at h1
      clear hq
      go_enter Try.func27, Try.ntmps27
      go_wp2_with (first | (go_at_call 17; refine (radd_any _ _ _).mono ?_; rintro e w' ⟨rfl, rfl⟩) | (go_at_call 22; refine (rdiv_any _ _ _).mono ?_; rintro e w' ⟨rfl, rfl⟩))
      go_ret
      exact ⟨by rw [HZ.out]; rfl, rfl⟩
    · by_cases h2 : 64 < quantQ b p a t
      · have HZ := Lib.hid (quant_hi b p a t h2)
        rw [hq] at h1 h2
        clear hq
        go_enter Try.func27, Try.ntmps27
        go_wp2_with (first | (go_at_call 17; refine (radd_any _ _ _).mono ?_; rintro e w' ⟨rfl, rfl⟩) | (go_at_call 22; refine (rdiv_any _ _ _).mono ?_; rintro e w' ⟨rfl, rfl⟩))
        go_ret
        exact ⟨by rw [HZ.out]; rfl, rfl⟩
      · have HZ := Lib.hid (quant_mid b p a t (by omega) (by omega))
        have HQ := Lib.hid hq
        rw [hq] at h1 h2
        clear hq
        go_enter Try.func27, Try.ntmps27
        go_wp2_with (first | (go_at_call 17; refine (radd_any _ _ _).mono ?_; rintro e w' ⟨rfl, rfl⟩) | (go_at_call 22; refine (rdiv_any _ _ _).mono ?_; rintro e w' ⟨rfl, rfl⟩))
        all_goals
          go_ret
          exact ⟨ret_int (by have := HZ.out; have := HQ.out; omega), rfl⟩

theorem older_any (a : Int) (w : World) : Calls Try.prog 28 #[.int .i64 a] w fun e w' => e = .returned (.int .i64 (addZ a 1)) ∧ w = w' := by
  go_enter Try.func28, Try.ntmps28
  go_wp2_with (first | (go_at_call 12; refine (add_any _ _ _).mono ?_; rintro e w' ⟨rfl, rfl⟩))
  go_ret
  exact ⟨rfl, rfl⟩

/-- what k turns spend -/
def spent (b p t : Int) : Nat → Int
  | 0 => 0
  | k + 1 => spent b p t k + quantZ b p k t
theorem spent_bd (b p t : Int) (k : Nat) : (k : Int) ≤ spent b p t k ∧ spent b p t k ≤ 64 * k := by
  induction k with
  | zero => simp [spent]
  | succ k ih => have := quantZ_bd b p k t; simp only [spent]; omega
theorem spent_mono (b p t : Int) (i j : Nat) (h : i ≤ j) : spent b p t i ≤ spent b p t j := by
  induction h with
  | refl => exact Int.le_refl _
  | step _ ih => have := quantZ_bd b p ‹Nat› t; simp only [spent]; omega
def turnsGo (b p t c : Int) : Nat → Nat → Nat
  | 0, n => n
  | f + 1, n => if spent b p t n < c then turnsGo b p t c f (n + 1) else n
theorem turnsGo_eq (b p t c : Int) (k : Nat) (h2 : c ≤ spent b p t k) : ∀ (f n : Nat), n + f ≥ k → n ≤ k → (∀ j, n ≤ j → j < k → spent b p t j < c) → turnsGo b p t c f n = k := by
  intro f
  induction f with
  | zero => intro n h3 h4 _; simp only [turnsGo]; omega
  | succ f ih =>
    intro n h3 h4 h5
    simp only [turnsGo]
    by_cases hn : n = k
    · subst hn; rw [if_neg (by omega)]
    · rw [if_pos (h5 n (Nat.le_refl _) (by omega))]
      exact ih (n + 1) (by omega) (by omega) (fun j hj hk => h5 j (by omega) hk)
/-- the least number of turns that spend a cost -/
def turnsZ (b p t c : Int) : Int := (turnsGo b p t (if 65536 < c then 65536 else c) (if 65536 < c then 65536 else c).toNat 0 : Nat)
theorem turns_fin (b p t c m : Int) (k : Nat) (hm : m = if 65536 < c then 65536 else c) (h1 : ∀ j, j < k → spent b p t j < m) (h2 : m ≤ spent b p t k) : turnsZ b p t c = k := by
  unfold turnsZ
  rw [← hm, turnsGo_eq b p t m k h2 _ _ ?_ (Nat.zero_le _) (fun j _ hj => h1 j hj)]
  by_cases hk : k = 0
  · omega
  · have := h1 (k - 1) (by omega)
    have := spent_bd b p t (k - 1)
    omega
theorem turns_step (b p t m : Int) (k : Nat) (h1 : ∀ j, j < k → spent b p t j < m) (h : spent b p t k < m) : ∀ j, j < k + 1 → spent b p t j < m := by
  intro j hj
  by_cases e : j = k
  · subst e; exact h
  · exact h1 j (by omega)

theorem turns_any (b p t c : Int) (w : World) : Calls Try.prog 23 #[.int .i64 b, .int .i64 p, .int .i64 t, .int .i64 c] w fun e w' => e = .returned (.int .i64 (turnsZ b p t c)) ∧ w = w' := by
  have key : ∀ (m : Int), m ≤ 65536 → m = (if 65536 < c then 65536 else c) → ∀ (k : Nat), (∀ j, j < k → spent b p t j < m) → k ≤ 65536 → ¬ spent b p t k < m → turnsZ b p t c = k :=
    fun m _ hm k h1 _ h2 => turns_fin b p t c m k hm h1 (by omega)
  have KEY := Lib.hid key
  clear key
  by_cases hc : 65536 < c
  · obtain ⟨m, hm, hm', HC⟩ : ∃ m : Int, m = (if 65536 < c then 65536 else c) ∧ m ≤ 65536 ∧ Hid (65536 = m) := ⟨65536, by rw [if_pos hc], by omega, Lib.hid rfl⟩
    have HM := Lib.hid hm
    clear hm
    go_enter Try.func23, Try.ntmps23
    go_wp2
    go_loop [9, 10] (fun l n => ∃ k : Nat, n = .int .i64 k ∧ l = .int .i64 (m - spent b p t k) ∧ Hid (∀ j, j < k → spent b p t j < m) ∧ k ≤ 65536) (fun l n => 65537 - (intOf n).toNat)
    case atStart => exact ⟨0, rfl, by simp [spent, HC.out], Lib.hid (fun j hj => absurd hj (Nat.not_lt_zero _)), by omega⟩
    case round =>
      obtain ⟨k, rfl, rfl, H1, hk⟩ := hrel
      have hb := spent_bd b p t k
      have hq := quantZ_bd b p k t
      have hm2 := HC.out
      by_cases hlt : spent b p t k < m
      · have hlt2 : 0 < m - spent b p t k := by omega
        have hk2 : k < 65536 := by omega
        clear hm2
        go_wp2_with (first | (go_at_call 26; refine (quantum_any _ _ _ _ _).mono ?_; rintro e w' ⟨rfl, rfl⟩))
        go_round
        case rel => exact ⟨k + 1, by go_num, by simp only [spent] <;> go_num, Lib.hid (turns_step b p t m k H1.out hlt), by omega⟩
        case measure => simp [intOf]; omega
      · have hlt2 : ¬ 0 < m - spent b p t k := by omega
        clear hm2
        go_wp2_with (first | (go_at_call 26; refine (quantum_any _ _ _ _ _).mono ?_; rintro e w' ⟨rfl, rfl⟩))
        go_ret
        exact ⟨ret_int (KEY.out m hm' HM.out k H1.out hk hlt).symm, rfl⟩
  
  · obtain ⟨m, hm, hm', HC⟩ : ∃ m : Int, m = (if 65536 < c then 65536 else c) ∧ m ≤ 65536 ∧ Hid (c = m) := ⟨c, by rw [if_neg hc], by omega, Lib.hid rfl⟩
    have HM := Lib.hid hm
    clear hm
    go_enter Try.func23, Try.ntmps23
    go_wp2
    go_loop [9, 10] (fun l n => ∃ k : Nat, n = .int .i64 k ∧ l = .int .i64 (m - spent b p t k) ∧ Hid (∀ j, j < k → spent b p t j < m) ∧ k ≤ 65536) (fun l n => 65537 - (intOf n).toNat)
    case atStart => exact ⟨0, rfl, by simp [spent, HC.out], Lib.hid (fun j hj => absurd hj (Nat.not_lt_zero _)), by omega⟩
    case round =>
      obtain ⟨k, rfl, rfl, H1, hk⟩ := hrel
      have hb := spent_bd b p t k
      have hq := quantZ_bd b p k t
      have hm2 := HC.out
      by_cases hlt : spent b p t k < m
      · have hlt2 : 0 < m - spent b p t k := by omega
        have hk2 : k < 65536 := by omega
        clear hm2
        go_wp2_with (first | (go_at_call 26; refine (quantum_any _ _ _ _ _).mono ?_; rintro e w' ⟨rfl, rfl⟩))
        go_round
        case rel => exact ⟨k + 1, by go_num, by simp only [spent] <;> go_num, Lib.hid (turns_step b p t m k H1.out hlt), by omega⟩
        case measure => simp [intOf]; omega
      · have hlt2 : ¬ 0 < m - spent b p t k := by omega
        clear hm2
        go_wp2_with (first | (go_at_call 26; refine (quantum_any _ _ _ _ _).mono ?_; rintro e w' ⟨rfl, rfl⟩))
        go_ret
        exact ⟨ret_int (KEY.out m hm' HM.out k H1.out hk hlt).symm, rfl⟩

theorem rturns_any (b p t c : Int) (w : World) : Calls Try.prog 24 #[.int .i64 b, .int .i64 p, .int .i64 t, .int .i64 c] w fun e w' => e = .returned (.int .i64 (turnsZ b p t c)) ∧ w = w' := by
  have key : ∀ (m : Int), m ≤ 65536 → m = (if 65536 < c then 65536 else c) → ∀ (k : Nat), (∀ j, j < k → spent b p t j < m) → k ≤ 65536 → ¬ spent b p t k < m → turnsZ b p t c = k :=
    fun m _ hm k h1 _ h2 => turns_fin b p t c m k hm h1 (by omega)
  have KEY := Lib.hid key
  clear key
  by_cases hc : 65536 < c
  · obtain ⟨m, hm, hm', HC⟩ : ∃ m : Int, m = (if 65536 < c then 65536 else c) ∧ m ≤ 65536 ∧ Hid (65536 = m) := ⟨65536, by rw [if_pos hc], by omega, Lib.hid rfl⟩
    have HM := Lib.hid hm
    clear hm
    go_enter Try.func24, Try.ntmps24
    go_wp2
    go_loop [10, 9] (fun l n => ∃ k : Nat, n = .int .i64 k ∧ l = .int .i64 (spent b p t k) ∧ Hid (∀ j, j < k → spent b p t j < m) ∧ k ≤ 65536) (fun l n => 65537 - (intOf n).toNat)
    case atStart => exact ⟨0, rfl, rfl, Lib.hid (fun j hj => absurd hj (Nat.not_lt_zero _)), by omega⟩
    case round =>
      obtain ⟨k, rfl, rfl, H1, hk⟩ := hrel
      have hb := spent_bd b p t k
      have hq := quantZ_bd b p k t
      have hm2 := HC.out
      by_cases hlt : spent b p t k < m
      · have hlt2 : spent b p t k < 65536 := by omega
        have hk2 : k < 65536 := by omega
        clear hm2
        go_wp2_with (first | (go_at_call 27; refine (rquantum_any _ _ _ _ _).mono ?_; rintro e w' ⟨rfl, rfl⟩))
        go_round
        case rel => exact ⟨k + 1, by go_num, by simp only [spent] <;> go_num, Lib.hid (turns_step b p t m k H1.out hlt), by omega⟩
        case measure => simp [intOf]; omega
      · have hlt2 : ¬ spent b p t k < 65536 := by omega
        clear hm2
        go_wp2_with (first | (go_at_call 27; refine (rquantum_any _ _ _ _ _).mono ?_; rintro e w' ⟨rfl, rfl⟩))
        go_ret
        exact ⟨ret_int (KEY.out m hm' HM.out k H1.out hk hlt).symm, rfl⟩
  
  · obtain ⟨m, hm, hm', HC⟩ : ∃ m : Int, m = (if 65536 < c then 65536 else c) ∧ m ≤ 65536 ∧ Hid (c = m) := ⟨c, by rw [if_neg hc], by omega, Lib.hid rfl⟩
    have HM := Lib.hid hm
    clear hm
    go_enter Try.func24, Try.ntmps24
    go_wp2
    go_loop [10, 9] (fun l n => ∃ k : Nat, n = .int .i64 k ∧ l = .int .i64 (spent b p t k) ∧ Hid (∀ j, j < k → spent b p t j < m) ∧ k ≤ 65536) (fun l n => 65537 - (intOf n).toNat)
    case atStart => exact ⟨0, rfl, rfl, Lib.hid (fun j hj => absurd hj (Nat.not_lt_zero _)), by omega⟩
    case round =>
      obtain ⟨k, rfl, rfl, H1, hk⟩ := hrel
      have hb := spent_bd b p t k
      have hq := quantZ_bd b p k t
      have hm2 := HC.out
      by_cases hlt : spent b p t k < m
      · have hlt2 : spent b p t k < c := by omega
        have hk2 : k < 65536 := by omega
        clear hm2
        go_wp2_with (first | (go_at_call 27; refine (rquantum_any _ _ _ _ _).mono ?_; rintro e w' ⟨rfl, rfl⟩))
        go_round
        case rel => exact ⟨k + 1, by go_num, by simp only [spent] <;> go_num, Lib.hid (turns_step b p t m k H1.out hlt), by omega⟩
        case measure => simp [intOf]; omega
      · have hlt2 : ¬ spent b p t k < c := by omega
        clear hm2
        go_wp2_with (first | (go_at_call 27; refine (rquantum_any _ _ _ _ _).mono ?_; rintro e w' ⟨rfl, rfl⟩))
        go_ret
        exact ⟨ret_int (KEY.out m hm' HM.out k H1.out hk hlt).symm, rfl⟩

theorem q1 : quantZ 4 1 10 5 = 7 := by decide
theorem q2 : quantZ 60 3 1000 1 = 64 := by decide
theorem q3 : turnsZ 4 0 1000 9 = 3 := by decide
theorem sane20_any (w : World) : Calls Try.prog 25 #[] w fun e w' => e = .returned (.bool true) ∧ w = w' := by
  have q1 := q1
  have q2 := q2
  have q3 := q3
  go_enter Try.func25, Try.ntmps25
  go_wp2_with (first | (go_at_call 26; refine (quantum_any _ _ _ _ _).mono ?_; rintro e w' ⟨rfl, rfl⟩) | (go_at_call 23; refine (turns_any _ _ _ _ _).mono ?_; rintro e w' ⟨rfl, rfl⟩))
  go_ret
  exact ⟨rfl, rfl⟩

theorem quantum_walk (b p a t : Int) (w : World) : Calls Try.prog 9 #[.int .i64 b, .int .i64 p, .int .i64 a, .int .i64 t] w fun e w' => e = .returned (.bool true) ∧ w = w' := by
  go_enter Try.func9, Try.ntmps9
  go_wp2_with (first | (go_at_call 26; refine (quantum_any _ _ _ _ _).mono ?_; rintro e w' ⟨rfl, rfl⟩) | (go_at_call 27; refine (rquantum_any _ _ _ _ _).mono ?_; rintro e w' ⟨rfl, rfl⟩) | (go_at_call 28; refine (older_any _ _).mono ?_; rintro e w' ⟨rfl, rfl⟩) | (go_at_call 17; refine (radd_any _ _ _).mono ?_; rintro e w' ⟨rfl, rfl⟩))
  go_loop [9] (fun i => ∃ k : Int, -1 ≤ k ∧ k < 77 ∧ i = .int .i64 k) (fun i => (80 - intOf i).toNat)
  case atStart => exact ⟨-1, by omega, by omega, rfl⟩
  case round =>
    obtain ⟨k, hk1, hk2, rfl⟩ := hrel
    by_cases hlt : k < 70
    · go_wp2_with (first | (go_at_call 26; refine (quantum_any _ _ _ _ _).mono ?_; rintro e w' ⟨rfl, rfl⟩) | (go_at_call 27; refine (rquantum_any _ _ _ _ _).mono ?_; rintro e w' ⟨rfl, rfl⟩) | (go_at_call 28; refine (older_any _ _).mono ?_; rintro e w' ⟨rfl, rfl⟩) | (go_at_call 17; refine (radd_any _ _ _).mono ?_; rintro e w' ⟨rfl, rfl⟩))
      all_goals
        go_round
        case rel => exact ⟨k + 7, by omega, by omega, by go_num⟩
        case measure => simp [intOf]; omega
    · go_wp2_with (first | (go_at_call 25; refine (sane20_any _).mono ?_; rintro e w' ⟨rfl, rfl⟩))
      go_ret
      exact ⟨rfl, rfl⟩

theorem turns_walk (b p t c : Int) (w : World) : Calls Try.prog 7 #[.int .i64 b, .int .i64 p, .int .i64 t, .int .i64 c] w fun e w' => e = .returned (.bool true) ∧ w = w' := by
  go_enter Try.func7, Try.ntmps7
  go_wp2_with (first | (go_at_call 23; refine (turns_any _ _ _ _ _).mono ?_; rintro e w' ⟨rfl, rfl⟩) | (go_at_call 24; refine (rturns_any _ _ _ _ _).mono ?_; rintro e w' ⟨rfl, rfl⟩) | (go_at_call 25; refine (sane20_any _).mono ?_; rintro e w' ⟨rfl, rfl⟩))
  go_loop [9] (fun i => ∃ k : Nat, k < 100 ∧ i = .int .i64 k) (fun i => (100 - intOf i).toNat)
  case atStart => exact ⟨0, by omega, rfl⟩
  case round =>
    obtain ⟨k, hk1, rfl⟩ := hrel
    by_cases hlt : k < 80
    · go_wp2_with (first | (go_at_call 23; refine (turns_any _ _ _ _ _).mono ?_; rintro e w' ⟨rfl, rfl⟩) | (go_at_call 24; refine (rturns_any _ _ _ _ _).mono ?_; rintro e w' ⟨rfl, rfl⟩) | (go_at_call 25; refine (sane20_any _).mono ?_; rintro e w' ⟨rfl, rfl⟩))
      all_goals
        go_round
        case rel => exact ⟨k + 9, by omega, by go_num⟩
        case measure => simp [intOf]; omega
    · go_wp2_with (first | (go_at_call 23; refine (turns_any _ _ _ _ _).mono ?_; rintro e w' ⟨rfl, rfl⟩) | (go_at_call 24; refine (rturns_any _ _ _ _ _).mono ?_; rintro e w' ⟨rfl, rfl⟩) | (go_at_call 25; refine (sane20_any _).mono ?_; rintro e w' ⟨rfl, rfl⟩))
      go_ret
      exact ⟨rfl, rfl⟩

theorem addZ_mono (a b c : Int) (h : clampZ a ≤ clampZ b) : addZ a c ≤ addZ b c := by
  unfold addZ
  have := clampZ_bd c
  generalize clampZ a = x at *
  generalize clampZ b = y at *
  generalize clampZ c = z at *
  simp only [clampZ]
  repeat' split
  all_goals omega
theorem clampZ_mono (a b : Int) (h : a ≤ b) : clampZ a ≤ clampZ b := by
  simp only [clampZ]
  repeat' split
  all_goals omega
theorem divZ_mono (a b c : Int) (h : clampZ a ≤ clampZ b) : divZ a c ≤ divZ b c := by
  unfold divZ
  split
  · exact Int.le_refl _
  · exact Int.ediv_le_ediv (by have := clampZ_bd c; omega) h
theorem quantZ_mono (b p a t b' p' a' : Int) (h : quantQ b p a t ≤ quantQ b' p' a' t) : quantZ b p a t ≤ quantZ b' p' a' t := by
  unfold quantZ
  repeat' split
  all_goals omega
theorem clamp_addZ (a n : Int) : clampZ a ≤ clampZ (addZ a n) := by
  rw [show clampZ (addZ a n) = addZ a n from clampZ_idem _]
  have ha := clampZ_bd a
  have hn := clampZ_bd n
  unfold addZ
  generalize clampZ a = x at *
  generalize clampZ n = y at *
  simp only [clampZ]
  repeat' split
  all_goals omega
theorem addZ_comm' (a b : Int) : addZ a b = addZ b a := by unfold addZ; rw [Int.add_comm]
theorem grow_b (b p a t n : Int) : quantZ b p a t ≤ quantZ (addZ b n) p a t :=
  quantZ_mono _ _ _ _ _ _ _ (addZ_mono _ _ _ (clampZ_mono _ _ (addZ_mono _ _ _ (clamp_addZ b n))))
theorem grow_p (b p a t n : Int) : quantZ b p a t ≤ quantZ b (addZ p n) a t := by
  refine quantZ_mono _ _ _ _ _ _ _ (addZ_mono _ _ _ (clampZ_mono _ _ ?_))
  rw [addZ_comm' b p, addZ_comm' b]
  exact addZ_mono _ _ _ (clamp_addZ p n)
theorem grow_a (b p a t n : Int) : quantZ b p a t ≤ quantZ b p (addZ a n) t := by
  refine quantZ_mono _ _ _ _ _ _ _ ?_
  unfold quantQ
  rw [addZ_comm' (addZ b p), addZ_comm' (addZ b p)]
  exact addZ_mono _ _ _ (clampZ_mono _ _ (divZ_mono _ _ _ (clamp_addZ a n)))
theorem turnsGo_le (b p t c : Int) : ∀ (f n : Nat), (n : Int) + f ≥ c → (n : Int) ≤ c ∨ n = 0 → (turnsGo b p t c f n : Int) ≤ c ∨ turnsGo b p t c f n = 0 := by
  intro f
  induction f with
  | zero => intro n h1 h2; simp only [turnsGo]; exact h2
  | succ f ih =>
    intro n h1 h2
    simp only [turnsGo]
    split
    · have := spent_bd b p t n
      exact ih (n + 1) (by omega) (by omega)
    · exact h2
theorem turnsZ_le (b p t n : Int) (h : 0 ≤ n) : turnsZ b p t n ≤ n := by
  unfold turnsZ
  have := turnsGo_le b p t (if 65536 < n then 65536 else n) (if 65536 < n then 65536 else n).toNat 0 (by split <;> omega) (by omega)
  revert this
  split <;> intro this <;> omega

theorem grows_walk (b p a t n : Int) (hn : 0 ≤ n) (hn2 : n ≤ 255) (w : World) : Calls Try.prog 8 #[.int .i64 b, .int .i64 p, .int .i64 a, .int .i64 t, .int .u8 n] w fun e w' => e = .returned (.bool true) ∧ w = w' := by
  have h1 := (quantZ_bd b p a t).1
  have h2 := (quantZ_bd b p a t).2
  have h3 := grow_b b p a t n
  have h4 := grow_p b p a t n
  have h5 := grow_a b p a t n
  have h6 := turnsZ_le b p t n hn
  go_enter Try.func8, Try.ntmps8
  go_wp2_with (first | (go_at_call 26; refine (quantum_any _ _ _ _ _).mono ?_; rintro e w' ⟨rfl, rfl⟩) | (go_at_call 17; refine (radd_any _ _ _).mono ?_; rintro e w' ⟨rfl, rfl⟩) | (go_at_call 23; refine (turns_any _ _ _ _ _).mono ?_; rintro e w' ⟨rfl, rfl⟩) | (go_at_call 25; refine (sane20_any _).mono ?_; rintro e w' ⟨rfl, rfl⟩))
  go_ret
  exact ⟨rfl, rfl⟩

end Go.Proofs.Ytfjcofjfacdppaa

/- IndexFunc of keys, with a function that deletes. -/
import Derived.Test.YtfejidihocoboaaN9
set_option linter.unusedVariables false
set_option linter.unusedSimpArgs false
namespace Go.Proofs.Ytfejidihocoboaa
open Go Go.RowKit
open Go.Maps (Keyed)
def delR (hB : Key3 → Bool) (D : List Key3) (R : Value → Value → Prop) : Value → Value → Prop := fun y v => (∀ x ∈ D, hB x = true → y ≠ keyV x) ∧ R y v
theorem delR_step (hB : Key3 → Bool) (D : List Key3) (x : Key3) (R : Value → Value → Prop) (y v : Value) : (¬ (hB x = true ∧ y = keyV x) ∧ delR hB D R y v) ↔ delR hB (D ++ [x]) R y v := by
  unfold delR
  simp only [List.mem_append, List.mem_singleton]
  constructor
  · rintro ⟨h1, h2, h3⟩
    exact ⟨fun q hq hb e => by
      rcases hq with hq | rfl
      · exact h2 q hq hb e
      · exact h1 ⟨hb, e⟩, h3⟩
  · rintro ⟨h1, h2⟩
    exact ⟨fun h3 => h1 x (.inr rfl) h3.1 h3.2, fun q hq => h1 q (.inl hq), h2⟩
theorem delR_none {hB : Key3 → Bool} {D : List Key3} (h : ∀ x ∈ D, hB x = false) (R : Value → Value → Prop) (y v : Value) : delR hB D R y v ↔ R y v := by
  unfold delR
  exact ⟨fun q => q.2, fun q => ⟨fun x hx hb => absurd hb (by rw [h x hx]; decide), q⟩⟩
def FirstD (hB : Key3 → Bool) (bm : Nat) (K : List Key3) (R : Value → Value → Prop) (W : World) (e : Ending) (w' : World) : Prop :=
  ∃ i : Nat, i ≤ K.length ∧ e = .returned (.int .i64 (if i < K.length then (i : Int) else -1)) ∧ Hid (∀ j (h : j < K.length), j < i → hB K[j] = false) ∧ Hid (∀ h : i < K.length, hB K[i] = true) ∧ Hid (MapR Try.prog 68 w' bm (delR hB (K.take (i + 1)) R)) ∧ Ext (At bm) W w'
set_option maxRecDepth 100000 in
set_option maxHeartbeats 4000000 in
theorem kindexf_any (hB : Key3 → Bool) (bm : Nat) (c1 c2 : Value) (Ok : World → Prop) (hF : DelFn hB bm c1 c2 Ok) (hOk : ∀ w w', Ok w → Ext (At bm) w w' → Ok w') (sl : Value) (K : List Key3) (R : Value → Value → Prop) (W : World) (hO : Ok W) (h : LAt kK (At bm) W sl K) (hok : ∀ x ∈ K, KeyOk x) (hR : MapR Try.prog 68 W bm R) :
    Calls Try.prog 76 #[sl, .func (.func 64) #[] #[c1, c2]] W (FirstD hB bm K R W) := by
  have H := Lib.hid h
  have HOK := Lib.hid hok
  have HO := Lib.hid hO
  have HOX := Lib.hid hOk
  have HF := Lib.hid hF
  have hlen63 := h.row.2.1
  obtain ⟨a, cap, rfl⟩ := h.slice
  obtain ⟨N, hN⟩ : ∃ N, N = K.length := ⟨_, rfl⟩
  rw [← hN] at H hlen63 ⊢
  have HN := Lib.hid hN
  have HR0 := Lib.hid hR
  clear h hN hok hO hOk hF hR
  go_enter Try.func76, Try.ntmps76
  go_wp2_with fail
  go_loopw [8] (fun i wr => ∃ k : Nat, i = .int .i64 k ∧ k ≤ N ∧ Hid (Ext (At bm) W wr) ∧ Hid (MapR Try.prog 68 wr bm R) ∧ Hid (∀ j (hj : j < K.length), j < k → hB K[j] = false)) (fun i _ => N - (intOf i).toNat)
  case atStart => exact ⟨0, rfl, Nat.zero_le _, Lib.hid (Ext.refl _ _), HR0, Lib.hid (fun j _ hj => absurd hj (Nat.not_lt_zero _))⟩
  case round =>
    clear HR0
    obtain ⟨k, rfl, hk, hx, hR, hm⟩ := hrel
    rename World => wr
    by_cases hlt : k < N
    · have hlz : (k : Int) < (N : Int) := by omega
      have hlz0 : (0 : Int) ≤ (k : Int) := by omega
      have HKK : Hid (Value.int .i64 ((k : Int) + 1) = .int .i64 ((k + 1 : Nat) : Int)) := Lib.hid (by rw [show ((k + 1 : Nat) : Int) = (k : Int) + 1 from by omega])
      have hkl : k < K.length := by have := HN.out; omega
      have HKL := Lib.hid hkl
      obtain ⟨b, off, cap', hsl, -, hnb, hc⟩ := H.out.atK hkl
      rw [← HN.out] at hsl
      simp only [Value.slice.injEq] at hsl
      obtain ⟨rfl, -, rfl⟩ := hsl
      obtain ⟨d0, d1, d2⟩ := hc k hkl
      replace d0 := hx.out.keepM d0 hnb
      replace d1 := hx.out.keepM d1 hnb
      replace d2 := hx.out.keepM d2 hnb
      obtain ⟨y, hy⟩ : ∃ y, y = K[k]'HKL.out := ⟨_, rfl⟩
      rw [← hy] at d0 d1 d2
      have HY := Lib.hid hy
      clear hy hkl hc hnb
      go_wp2_with fail
      go_at_call 64
      refine (HF.out y wr R (by rw [HY.out]; exact HOK.out _ (List.getElem_mem _)) (HOX.out _ _ HO.out hx.out) hR.out).mono ?_
      rintro e1 w1 ⟨rfl, hR1, hx1⟩
      cases hb : hB y with
      | true =>
        go_wp2_with fail
        go_ret
        refine ⟨k, by have := HN.out; omega, by rw [if_pos HKL.out]; rfl, hm, Lib.hid (fun h => by rw [← HY.out]; exact hb), Lib.hid (hR1.out.iff (fun q v => ?_)), hx.out.trans hx1⟩
        have e : K.take (k + 1) = K.take k ++ [y] := by rw [List.take_succ_eq_append_getElem HKL.out, ← HY.out]
        rw [e, ← delR_step, delR_none (fun q hq => by
          obtain ⟨j, hj, rfl⟩ := List.getElem_of_mem hq
          rw [List.length_take] at hj
          rw [List.getElem_take]
          exact hm.out j (by omega) (by omega))]
      | false =>
        go_wp2_with fail
        go_roundw
        case rel => exact ⟨k + 1, HKK.out, by omega, Lib.hid (hx.out.trans hx1), Lib.hid (hR1.out.iff (fun q v => by simp [hb])), Lib.hid (fun j hj hjk => by
          by_cases e : j = k
          · subst e; rw [← HY.out]; exact hb
          · exact hm.out j hj (by omega))⟩
        case measure => simp [intOf]; omega
    · have hge : ¬ (k : Int) < (N : Int) := by omega
      go_wp2_with fail
      go_ret
      refine ⟨k, by have := HN.out; omega, by rw [if_neg (by have := HN.out; omega)]; rfl, hm, Lib.hid (fun h => absurd h (by have := HN.out; omega)), Lib.hid (hR.out.iff (fun q v => ?_)), hx.out⟩
      rw [delR_none (fun q hq => by
        obtain ⟨j, hj, rfl⟩ := List.getElem_of_mem hq
        rw [List.length_take] at hj
        rw [List.getElem_take]
        exact hm.out j (by omega) (by have := HN.out; omega))]
end Go.Proofs.Ytfejidihocoboaa

/- Index, Contains, Clone of keys. -/
import Derived.Test.YtfejidihocoboaaN7
import Derived.Test.YtfejidihocoboaaHeldL
import Derived.Laws.StructEq
set_option linter.unusedVariables false
set_option linter.unusedSimpArgs false
namespace Go.Proofs.Ytfejidihocoboaa
open Go Go.RowKit
open Go.Maps (Keyed)
theorem key_cases (x y : Key3) : x = y ∨ (x ≠ y ∧ (x.1 == y.1) = false) ∨ (x ≠ y ∧ (x.1 == y.1) = true ∧ (x.2.1 == y.2.1) = false) ∨ (x ≠ y ∧ (x.1 == y.1) = true ∧ (x.2.1 == y.2.1) = true ∧ (x.2.2 == y.2.2) = false) := by
  obtain ⟨a, b, c⟩ := x
  obtain ⟨d, e, f⟩ := y
  by_cases h1 : a = d
  · by_cases h2 : b = e
    · by_cases h3 : c = f
      · exact .inl (by rw [h1, h2, h3])
      · exact .inr (.inr (.inr ⟨fun h => h3 (congrArg (fun q => q.2.2) h), by simp [h1], by simp [h2], by simp [h3]⟩))
    · exact .inr (.inr (.inl ⟨fun h => h2 (congrArg (fun q => q.2.1) h), by simp [h1], by simp [h2]⟩))
  · exact .inr (.inl ⟨fun h => h1 (congrArg (fun q => q.1) h), by simp [h1]⟩)
theorem LAt.atK {M : Nat → Prop} {w : World} {sl : Value} {L : List Key3} (h : LAt kK M w sl L) {i : Nat} (hi : i < L.length) : ∃ b off cap, sl = .slice (some ⟨b, off, none⟩) L.length cap ∧ b < w.heap.size ∧ ¬ M b ∧
    ∀ k (hk : k < L.length), w.cell? ⟨b, off + k * 3, none⟩ = some (.int .i64 L[k].1) ∧ w.cell? ⟨b, off + k * 3 + 1, none⟩ = some (.int .i64 L[k].2.1) ∧ w.cell? ⟨b, off + k * 3 + 2, none⟩ = some (.int .i64 L[k].2.2) := by
  obtain ⟨b, off, cap, h1, h2, h3, h4⟩ := h.at hi
  exact ⟨b, off, cap, h1, h2, h3, fun k hk => ⟨h4 k hk 0 _ (by decide) rfl, h4 k hk 1 _ (by decide) rfl, h4 k hk 2 _ (by decide) rfl⟩⟩
def IdxPost (x : Key3) (K : List Key3) (W : World) (e : Ending) (w' : World) : Prop := ∃ z : Int, e = .returned (.int .i64 z) ∧ (0 ≤ z ↔ x ∈ K) ∧ Ext No W w'
set_option maxRecDepth 100000 in
set_option maxHeartbeats 4000000 in
theorem kindex_any (x : Key3) (sl : Value) (K : List Key3) (W : World) (h : LAt kK No W sl K) : Calls Try.prog 67 #[sl, keyV x] W (IdxPost x K W) := by
  have H := Lib.hid h
  have hlen63 := h.row.2.1
  obtain ⟨a, cap, rfl⟩ := h.slice
  obtain ⟨N, hN⟩ : ∃ N, N = K.length := ⟨_, rfl⟩
  rw [← hN] at H hlen63 ⊢
  have HN := Lib.hid hN
  have hx0 : Ext No W (W.alloc (.cells #[.int .i64 x.1, .int .i64 x.2.1, .int .i64 x.2.2] 68)) := (Ext.refl _ _).alloc _
  have HX := Lib.hid hx0
  have HB := Lib.hid (alloc_top (w := W) (o := .cells #[.int .i64 x.1, .int .i64 x.2.1, .int .i64 x.2.2] 68) rfl)
  clear h hN hx0
  unfold keyV
  go_enter Try.func67, Try.ntmps67
  go_upto_region 1 with (fail)
  generalize (W.alloc (.cells #[.int .i64 x.1, .int .i64 x.2.1, .int .i64 x.2.2] 68)) = V at *
  go_wp2_with fail
  go_loopw [8] (fun i wr => ∃ k : Nat, i = .int .i64 k ∧ k ≤ N ∧ Hid (Ext No V wr) ∧ Hid (∀ j (hj : j < K.length), j < k → K[j] ≠ x)) (fun i _ => N - (intOf i).toNat)
  case atStart => exact ⟨0, rfl, Nat.zero_le _, Lib.hid (Ext.refl _ _), Lib.hid (fun j _ hj => absurd hj (Nat.not_lt_zero _))⟩
  case round =>
    obtain ⟨k, rfl, hk, hx, hm⟩ := hrel
    rename World => wr
    by_cases hlt : k < N
    · have hlz : (k : Int) < (N : Int) := by omega
      have hlz0 : (0 : Int) ≤ (k : Int) := by omega
      have HKK : Hid (Value.int .i64 ((k : Int) + 1) = .int .i64 ((k + 1 : Nat) : Int)) := Lib.hid (by rw [show ((k + 1 : Nat) : Int) = (k : Int) + 1 from by omega])
      have hkl : k < K.length := by have := HN.out; omega
      have HKL := Lib.hid hkl
      obtain ⟨b, off, cap', hsl, -, -, hc⟩ := (H.out.extNo HX.out).atK hkl
      rw [← HN.out] at hsl
      simp only [Value.slice.injEq] at hsl
      obtain ⟨rfl, -, rfl⟩ := hsl
      obtain ⟨c0, c1, c2⟩ := hc k hkl
      replace c0 := hx.out.keep c0
      replace c1 := hx.out.keep c1
      replace c2 := hx.out.keep c2
      have cB := cellOf (hx.out.blk HB.out no_no)
      obtain ⟨y, hy⟩ : ∃ y, y = K[k]'HKL.out := ⟨_, rfl⟩
      rw [← hy] at c0 c1 c2
      have HY := Lib.hid hy
      clear hy hkl hc
      rcases key_cases x y with rfl | hne | hne | hne
      · go_wp2_with fail
        go_quiet (fail)
        go_wp2_with fail
        go_ret
        exact ⟨_, rfl, ⟨fun _ => by rw [HY.out]; exact List.getElem_mem _, fun _ => hlz0⟩, HX.out.transNo (hx.out.drewN _)⟩
      · obtain ⟨hn, e1⟩ := hne
        go_wp2_with fail
        go_quiet (fail)
        go_wp2_with fail
        go_roundw
        case rel => exact ⟨k + 1, HKK.out, by omega, Lib.hid (hx.out.drewN _), Lib.hid (fun j hj hjk => by
          by_cases e : j = k
          · subst e; rw [← HY.out]; exact fun e => hn e.symm
          · exact hm.out j hj (by omega))⟩
        case measure => simp [intOf]; omega
      · obtain ⟨hn, e1, e2⟩ := hne
        go_wp2_with fail
        go_quiet (fail)
        go_wp2_with fail
        go_roundw
        case rel => exact ⟨k + 1, HKK.out, by omega, Lib.hid (hx.out.drewN _), Lib.hid (fun j hj hjk => by
          by_cases e : j = k
          · subst e; rw [← HY.out]; exact fun e => hn e.symm
          · exact hm.out j hj (by omega))⟩
        case measure => simp [intOf]; omega
      · obtain ⟨hn, e1, e2, e3⟩ := hne
        go_wp2_with fail
        go_quiet (fail)
        go_wp2_with fail
        go_roundw
        case rel => exact ⟨k + 1, HKK.out, by omega, Lib.hid (hx.out.drewN _), Lib.hid (fun j hj hjk => by
          by_cases e : j = k
          · subst e; rw [← HY.out]; exact fun e => hn e.symm
          · exact hm.out j hj (by omega))⟩
        case measure => simp [intOf]; omega
    · have hge : ¬ (k : Int) < (N : Int) := by omega
      go_wp2_with fail
      go_ret
      refine ⟨_, rfl, ⟨fun h => absurd h (by decide), fun h => ?_⟩, HX.out.transNo hx.out⟩
      obtain ⟨j, hj, hjx⟩ := List.getElem_of_mem h
      exact absurd hjx (hm.out j hj (by have := HN.out; omega))
theorem kcontains_any (x : Key3) (sl : Value) (K : List Key3) (W : World) (h : LAt kK No W sl K) : Calls Try.prog 42 #[sl, keyV x] W (BoolPost (decide (x ∈ K)) W) := by
  have hx0 : Ext No W (W.alloc (.cells #[.int .i64 x.1, .int .i64 x.2.1, .int .i64 x.2.2] 68)) := (Ext.refl _ _).alloc _
  have H := Lib.hid (h.extNo hx0)
  have HX := Lib.hid hx0
  clear h hx0
  unfold keyV
  go_enter Try.func42, Try.ntmps42
  go_wp2_with fail
  refine (kindex_any x _ K _ H.out).mono ?_
  rintro e1 w1 ⟨z, rfl, hz, hx1⟩
  go_wp2_with fail
  go_ret
  have e : decide (z ≥ 0) = decide (x ∈ K) := by
    by_cases h1 : x ∈ K
    · rw [decide_eq_true h1, decide_eq_true (hz.2 h1)]
    · rw [decide_eq_false h1, decide_eq_false (fun h2 => h1 (hz.1 h2))]
  exact ⟨by first | rw [e] | simp [← e], HX.out.transNo hx1⟩
end Go.Proofs.Ytfejidihocoboaa

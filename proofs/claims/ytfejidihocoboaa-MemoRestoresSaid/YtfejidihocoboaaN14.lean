/- Insertion sort of keys by ticks. -/
import Derived.Test.YtfejidihocoboaaN13
set_option linter.unusedVariables false
set_option linter.unusedSimpArgs false
namespace Go.Proofs.Ytfejidihocoboaa
open Go Go.RowKit
open Go.Maps (Keyed)
def ordF (f : Key3 → Int) (a b : Key3) : Prop := f a < f b ∨ (f a = f b ∧ ltK a b)
theorem ordF_trans {f : Key3 → Int} {a b c : Key3} (h : ordF f a b) (h' : ordF f b c) : ordF f a c := by
  unfold ordF at *
  rcases h with h | ⟨h, h2⟩
  · rcases h' with h' | ⟨h', _⟩
    · exact .inl (by omega)
    · exact .inl (by omega)
  · rcases h' with h' | ⟨h', h3⟩
    · exact .inl (by omega)
    · exact .inr ⟨by omega, ltK_trans h2 h3⟩
theorem swap_list {α : Type} {A C : List α} {x y : α} {j : Nat} (hA : A.length + 1 = j) : ((A ++ y :: x :: C).set j y).set (j - 1) x = A ++ x :: y :: C := by
  subst hA
  rw [Nat.add_sub_cancel, List.set_append_right _ _ (by omega), List.set_append_right _ _ (by omega)]
  simp
def SortInv (f : Key3 → Int) (K : List Key3) (k : Nat) (cur : List Key3) : Prop := ∃ P, cur = P ++ K.drop k ∧ P.length = k ∧ P.Pairwise (ordF f) ∧ P.Perm (K.take k)
theorem out_inv {f : Key3 → Int} {K A B : List Key3} {k : Nat} (hK : K.Pairwise ltK) (hk : k < K.length) (hA : A.length ≤ k) (ho : (A ++ B).Pairwise (ordF f)) (hp : (A ++ B).Perm (K.take k)) (hB : ∀ b ∈ B, ordF f K[k] b) (ha : ∀ a ∈ A, ordF f a K[k]) : SortInv f K (k + 1) (A ++ K[k] :: (B ++ K.drop (k + 1))) := by
  obtain ⟨o1, o2, o3⟩ := List.pairwise_append.1 ho
  refine ⟨A ++ K[k] :: B, by simp, ?_, List.pairwise_append.2 ⟨o1, List.pairwise_cons.2 ⟨hB, o2⟩, fun a h1 b h2 => ?_⟩, ?_⟩
  · have := hp.length_eq
    simp only [List.length_append, List.length_take, List.length_cons] at this ⊢
    omega
  · rcases List.mem_cons.1 h2 with rfl | h2
    · exact ha a h1
    · exact o3 a h1 b h2
  · rw [List.take_succ_eq_append_getElem hk]
    exact (List.perm_middle.trans (hp.cons _)).trans (List.perm_append_singleton _ _).symm
theorem last_ord {f : Key3 → Int} {K A B : List Key3} {k : Nat} {y : Key3} (hK : K.Pairwise ltK) (hk : k < K.length) (ho : (A ++ [y] ++ B).Pairwise (ordF f)) (hp : (A ++ [y] ++ B).Perm (K.take k)) (hf : f y ≤ f K[k]) : ∀ a ∈ A ++ [y], ordF f a K[k] := fun a ha => by
  have hy : ordF f y K[k] := by
    rcases Int.lt_or_eq_of_le hf with h | h
    · exact .inl h
    · refine .inr ⟨h, ?_⟩
      have h1 : y ∈ K.take k := hp.mem_iff.1 (by simp)
      obtain ⟨i, hi, rfl⟩ := List.getElem_of_mem h1
      rw [List.getElem_take]
      rw [List.length_take] at hi
      exact List.pairwise_iff_getElem.1 hK i k (by omega) hk (by omega)
  rcases List.mem_append.1 ha with h | h
  · have h2 := (List.pairwise_append.1 (List.pairwise_append.1 ho).1).2.2 a h y (by simp)
    exact ordF_trans h2 hy
  · rw [List.mem_singleton.1 h]; exact hy
def CmpFn (f : Key3 → Int) (K : List Key3) (c1 : Value) (Ok : World → Prop) : Prop :=
  ∀ (x y : Key3) (w : World), x ∈ K → y ∈ K → Ok w → Calls Try.prog 39 #[keyV x, keyV y, c1] w (fun e w' => e = .returned (.int .i64 (cmpZ (f x) (f y))) ∧ Ext No w w')
def SortPost (f : Key3 → Int) (g c : Nat) (K : List Key3) (W : World) (e : Ending) (w' : World) : Prop :=
  e = .returned (.tuple #[]) ∧ ∃ R, Hid (LOwn kK No w' 0 (.slice (some ⟨g, 0, none⟩) K.length c) R) ∧ Hid (R.Perm K) ∧ Hid (R.Pairwise (ordF f)) ∧ Ext (At g) W w'
set_option maxRecDepth 100000 in
set_option maxHeartbeats 8000000 in
theorem isort_any (f : Key3 → Int) (K : List Key3) (c1 : Value) (Ok : World → Prop) (g c : Nat) (W : World) (hC : CmpFn f K c1 Ok) (hOk : ∀ w w', Ok w → Ext (At g) w w' → Ok w') (hO : Ok W) (h : LOwn kK No W 0 (.slice (some ⟨g, 0, none⟩) K.length c) K) (hK : K.Pairwise ltK) (hn : K.length ≤ 1000) (hn1 : 1 ≤ K.length) :
    Calls Try.prog 77 #[.slice (some ⟨g, 0, none⟩) K.length c, .int .i64 0, .int .i64 (K.length : Int), .func (.func 39) #[] #[c1]] W (SortPost f g c K W) := by
  have HKP := Lib.hid hK
  have HC := Lib.hid hC
  have HOX := Lib.hid hOk
  have HO := Lib.hid hO
  have HS := Lib.hid h
  obtain ⟨N, hN⟩ : ∃ N, N = K.length := ⟨_, rfl⟩
  unfold SortPost
  rw [← hN] at hn hn1 HS ⊢
  have HN := Lib.hid hN
  have h0 : SortInv f K 1 K := ⟨K.take 1, (List.take_append_drop 1 K).symm, by rw [List.length_take]; omega, by
    cases K with
    | nil => exact List.Pairwise.nil
    | cons a l => simp, List.Perm.refl _⟩
  have HI := Lib.hid h0
  clear h hK hC hOk hO hN h0
  go_enter Try.func77, Try.ntmps77
  go_wp2_with fail
  go_loopw [8] (fun s8 wr => ∃ (k : Nat) (cur : List Key3), s8 = .int .i64 k ∧ 1 ≤ k ∧ k ≤ N ∧ Hid (cur.length = N) ∧ Hid (LOwn kK No wr 0 (.slice (some ⟨g, 0, none⟩) N c) cur) ∧ Hid (SortInv f K k cur) ∧ Hid (Ext (At g) W wr)) (fun s8 _ => N - (intOf s8).toNat)
  case atStart => exact ⟨1, K, rfl, Nat.le_refl _, hn1, Lib.hid HN.out.symm, HS, HI, Lib.hid (Ext.refl _ _)⟩
  case round =>
    clear HS HI
    obtain ⟨k, cur0, rfl, hk1, hkN, hcl0, hS0, hI0, hX0⟩ := hrel
    rename World => wr
    by_cases hlt : k < N
    · have hlz : (k : Int) < (N : Int) := by omega
      have HKK : Hid (Value.int .i64 ((k : Int) + 1) = .int .i64 ((k + 1 : Nat) : Int)) := Lib.hid (by rw [show ((k + 1 : Nat) : Int) = (k : Int) + 1 from by omega])
      have hkl : k < K.length := by have := HN.out; omega
      have HKL := Lib.hid hkl
      obtain ⟨x, hx⟩ : ∃ x, x = K[k]'HKL.out := ⟨_, rfl⟩
      have HXE := Lib.hid hx
      have HXK := Lib.hid (show x ∈ K from by rw [hx]; exact List.getElem_mem _)
      have HSTART : Hid (∃ A B : List Key3, cur0 = A ++ x :: (B ++ K.drop (k + 1)) ∧ A.length = k ∧ (A ++ B).Pairwise (ordF f) ∧ (A ++ B).Perm (K.take k) ∧ ∀ b ∈ B, ordF f x b) := Lib.hid (by
        obtain ⟨P, e1, e2, e3, e4⟩ := hI0.out
        refine ⟨P, [], ?_, e2, by rw [List.append_nil]; exact e3, by rw [List.append_nil]; exact e4, fun b hb => (by cases hb)⟩
        rw [e1, List.nil_append, hx, List.getElem_cons_drop])
      clear hx hkl hI0
      go_wp2_with fail
      go_loopw [9] (fun s9 wz => ∃ (j : Nat) (cur A B : List Key3), s9 = .int .i64 j ∧ j ≤ k ∧ Hid (cur.length = N) ∧ Hid (LOwn kK No wz 0 (.slice (some ⟨g, 0, none⟩) N c) cur) ∧ Hid (cur = A ++ x :: (B ++ K.drop (k + 1))) ∧ Hid (A.length = j) ∧ Hid ((A ++ B).Pairwise (ordF f)) ∧ Hid ((A ++ B).Perm (K.take k)) ∧ Hid (∀ b ∈ B, ordF f x b) ∧ Hid (Ext (At g) W wz)) (fun s9 _ => (intOf s9).toNat)
      case atStart =>
        obtain ⟨A, B, e1, e2, e3, e4, e5⟩ := HSTART.out
        exact ⟨k, cur0, A, B, rfl, Nat.le_refl _, hcl0, hS0, Lib.hid e1, Lib.hid e2, Lib.hid e3, Lib.hid e4, Lib.hid e5, hX0⟩
      case round =>
        clear HSTART hcl0 hS0 hX0
        obtain ⟨j, cur, A, B, rfl, hjk, hcl, hS, hcur, hA, hPW, hPM, hBx, hX⟩ := hrel
        rename World => wz
        cases j with
        | zero =>
          go_upto_region 4 with (fail)
          refine wp_region_held_drew (S := (fun w' => Ext No wz w')) (by kernel_rfl) ?_ (fun hHeld => ?_)
          · exact (Ext.refl _ _).drew
          refine held_take (i := 0) (v := ?_) rfl (by kernel_rfl) (by kernel_rfl) (by kernel_rfl) (fun _ _ _ h => h) rfl (fun w hSw => ?_) hHeld ?_
          rotate_left
          · go_simp; (try with_reducible rfl)
          try simp only [Act.put, List.setIfInBounds_toArray, List.set_cons_zero, List.set_cons_succ]
          refine held_take (i := 1) (v := ?_) rfl (by kernel_rfl) (by kernel_rfl) (by kernel_rfl) (fun _ _ _ h => h) rfl (fun w hSw => ?_) hHeld ?_
          rotate_left
          · go_simp; (try with_reducible rfl)
          try simp only [Act.put, List.setIfInBounds_toArray, List.set_cons_zero, List.set_cons_succ]
          refine held_take (i := 2) (v := ?_) rfl (by kernel_rfl) (by kernel_rfl) (by kernel_rfl) (fun _ _ _ h => h) rfl (fun w hSw => ?_) hHeld ?_
          rotate_left
          · go_simp; (try with_reducible rfl)
          try simp only [Act.put, List.setIfInBounds_toArray, List.set_cons_zero, List.set_cons_succ]
          refine held_take (i := 3) (v := ?_) rfl (by kernel_rfl) (by kernel_rfl) (by kernel_rfl) (fun _ _ _ h => h) rfl (fun w hSw => ?_) hHeld ?_
          rotate_left
          · go_simp; (try with_reducible rfl)
          try simp only [Act.put, List.setIfInBounds_toArray, List.set_cons_zero, List.set_cons_succ]
          refine held_skip (i := 4) rfl (by kernel_rfl) (by kernel_rfl) (by kernel_rfl) (fun _ _ _ h => h) rfl hHeld ?_
          try simp only [Act.put, List.setIfInBounds_toArray, List.set_cons_zero, List.set_cons_succ]
          refine held_skip (i := 5) rfl (by kernel_rfl) (by kernel_rfl) (by kernel_rfl) (fun _ _ _ h => h) rfl hHeld ?_
          try simp only [Act.put, List.setIfInBounds_toArray, List.set_cons_zero, List.set_cons_succ]
          refine held_skip (i := 6) rfl (by kernel_rfl) (by kernel_rfl) (by kernel_rfl) (fun _ _ _ h => h) rfl hHeld ?_
          try simp only [Act.put, List.setIfInBounds_toArray, List.set_cons_zero, List.set_cons_succ]
          refine held_skip (i := 7) rfl (by kernel_rfl) (by kernel_rfl) (by kernel_rfl) (fun _ _ _ h => h) rfl hHeld ?_
          try simp only [Act.put, List.setIfInBounds_toArray, List.set_cons_zero, List.set_cons_succ]
          refine held_skip (i := 8) rfl (by kernel_rfl) (by kernel_rfl) (by kernel_rfl) (fun _ _ _ h => h) rfl hHeld ?_
          try simp only [Act.put, List.setIfInBounds_toArray, List.set_cons_zero, List.set_cons_succ]
          refine held_skip (i := 9) rfl (by kernel_rfl) (by kernel_rfl) (by kernel_rfl) (fun _ _ _ h => h) rfl hHeld ?_
          try simp only [Act.put, List.setIfInBounds_toArray, List.set_cons_zero, List.set_cons_succ]
          refine held_skip (i := 10) rfl (by kernel_rfl) (by kernel_rfl) (by kernel_rfl) (fun _ _ _ h => h) rfl hHeld ?_
          try simp only [Act.put, List.setIfInBounds_toArray, List.set_cons_zero, List.set_cons_succ]
          refine held_skip (i := 11) rfl (by kernel_rfl) (by kernel_rfl) (by kernel_rfl) (fun _ _ _ h => h) rfl hHeld ?_
          try simp only [Act.put, List.setIfInBounds_toArray, List.set_cons_zero, List.set_cons_succ]
          refine held_skip (i := 12) rfl (by kernel_rfl) (by kernel_rfl) (by kernel_rfl) (fun _ _ _ h => h) rfl hHeld ?_
          try simp only [Act.put, List.setIfInBounds_toArray, List.set_cons_zero, List.set_cons_succ]
          refine held_skip (i := 13) rfl (by kernel_rfl) (by kernel_rfl) (by kernel_rfl) (fun _ _ _ h => h) rfl hHeld ?_
          try simp only [Act.put, List.setIfInBounds_toArray, List.set_cons_zero, List.set_cons_succ]
          refine held_skip (i := 14) rfl (by kernel_rfl) (by kernel_rfl) (by kernel_rfl) (fun _ _ _ h => h) rfl hHeld ?_
          try simp only [Act.put, List.setIfInBounds_toArray, List.set_cons_zero, List.set_cons_succ]
          refine held_skip (i := 15) rfl (by kernel_rfl) (by kernel_rfl) (by kernel_rfl) (fun _ _ _ h => h) rfl hHeld ?_
          try simp only [Act.put, List.setIfInBounds_toArray, List.set_cons_zero, List.set_cons_succ]
          refine held_take (i := 16) (v := ?_) rfl (by kernel_rfl) (by kernel_rfl) (by kernel_rfl) (fun _ _ _ h => h) rfl (fun w hSw => ?_) hHeld ?_
          rotate_left
          · go_simp; (try with_reducible rfl)
          try simp only [Act.put, List.setIfInBounds_toArray, List.set_cons_zero, List.set_cons_succ]
          refine wpAnyH_done (by kernel_rfl) ?_ _
          have hEnd := Lib.hid (show Ext No wz wz.drew from hHeld)
          go_wp2_with fail
          go_roundw
          case rel => exact ⟨k + 1, cur, HKK.out, by omega, by omega, hcl, Lib.hid (KOwn.ext hS.out hEnd.out no_no2), Lib.hid (by
            have h9 := out_inv HKP.out HKL.out (by have := hA.out; omega) hPW.out hPM.out (by rw [← HXE.out]; exact hBx.out) (fun a ha => by rw [List.eq_nil_of_length_eq_zero hA.out] at ha; cases ha)
            rw [← HXE.out, ← hcur.out] at h9
            exact h9), Lib.hid (hX.out.trans hEnd.out.ofNo)⟩
          case measure => simp [intOf]; omega
        | succ m =>
          obtain ⟨A', y, hA2⟩ : ∃ A' y, A = A' ++ [y] := by
            rcases List.eq_nil_or_concat A with h | ⟨A', y, h⟩
            · have := hA.out; rw [h] at this; cases this
            · exact ⟨A', y, by rw [h, List.concat_eq_append]⟩
          subst hA2
          have hA' : A'.length = m := by have := hA.out; simp at this; omega
          have HA' := Lib.hid hA'
          have hjl : m + 1 < cur.length := by rw [hcl.out]; omega
          have hml : m < cur.length := by omega
          have HJC := Lib.hid hjl
          have HMC := Lib.hid hml
          have hcx : cur[m + 1]'HJC.out = x := by
            have e : cur[m + 1]? = some x := by rw [hcur.out, List.getElem?_append_right (by simp; omega)]; simp [hA']
            rw [List.getElem?_eq_getElem hjl] at e
            exact Option.some.inj e
          have hcy : cur[m]'HMC.out = y := by
            have e : cur[m]? = some y := by rw [hcur.out, List.append_assoc, List.getElem?_append_right (by omega)]; simp [hA']
            rw [List.getElem?_eq_getElem hml] at e
            exact Option.some.inj e
          have HCX := Lib.hid (KOwn.cells hcl.out.symm hS.out hjl)
          have HCY := Lib.hid (KOwn.cells hcl.out.symm hS.out hml)
          rw [hcx] at HCX
          rw [hcy] at HCY
          have HXI := Lib.hid hcx
          have HYI := Lib.hid hcy
          have HYK := Lib.hid (show y ∈ K from List.mem_of_mem_take (hPM.out.mem_iff.1 (by simp)))
          clear hcx hcy hjl hml hA'
          rw [show ((m + 1 : Nat) : Int) = (m : Int) + 1 from by omega]
          have hmz0 : (0 : Int) ≤ (m : Int) := by omega
          have hmz1 : (0 : Int) < (m : Int) + 1 := by omega
          have hmz2 : (m : Int) + 1 < (N : Int) := by omega
          have hmz3 : (m : Int) < (N : Int) := by omega
          have hmz4 : (0 : Int) ≤ (m : Int) + 1 := by omega
          have hwr : IntKind.i64.wrap (m : Int) = (m : Int) := by rw [IntKind.wrap_i64]; omega
          go_upto_region 4 with (fail)
          refine wp_region_held_drew (S := (fun w' => Ext No wz w')) (by kernel_rfl) ?_ (fun hHeld => ?_)
          · exact (Ext.refl _ _).drew
          refine held_take (i := 0) (v := ?_) rfl (by kernel_rfl) (by kernel_rfl) (by kernel_rfl) (fun _ _ _ h => h) rfl (fun w hSw => ?_) hHeld ?_
          rotate_left
          · go_simp; (try with_reducible rfl)
          try simp only [Act.put, List.setIfInBounds_toArray, List.set_cons_zero, List.set_cons_succ]
          refine held_take (i := 1) (v := ?_) rfl (by kernel_rfl) (by kernel_rfl) (by kernel_rfl) (fun _ _ _ h => h) rfl (fun w hSw => ?_) hHeld ?_
          rotate_left
          · go_simp; (try with_reducible rfl)
          try simp only [Act.put, List.setIfInBounds_toArray, List.set_cons_zero, List.set_cons_succ]
          refine held_take (i := 2) (v := ?_) rfl (by kernel_rfl) (by kernel_rfl) (by kernel_rfl) (fun _ _ _ h => h) rfl (fun w hSw => ?_) hHeld ?_
          rotate_left
          · go_simp; (try with_reducible rfl)
          try simp only [Act.put, List.setIfInBounds_toArray, List.set_cons_zero, List.set_cons_succ]
          refine held_take (i := 3) (v := ?_) rfl (by kernel_rfl) (by kernel_rfl) (by kernel_rfl) (fun _ _ _ h => h) rfl (fun w hSw => ?_) hHeld ?_
          rotate_left
          · go_simp; (try with_reducible rfl)
          try simp only [Act.put, List.setIfInBounds_toArray, List.set_cons_zero, List.set_cons_succ]
          refine held_take (i := 4) (v := ?_) rfl (by kernel_rfl) (by kernel_rfl) (by kernel_rfl) (fun _ _ _ h => h) rfl (fun w hSw => ?_) hHeld ?_
          rotate_left
          · go_simp; (try with_reducible rfl)
          try simp only [Act.put, List.setIfInBounds_toArray, List.set_cons_zero, List.set_cons_succ]
          refine held_take (i := 5) (v := ?_) rfl (by kernel_rfl) (by kernel_rfl) (by kernel_rfl) (fun _ _ _ h => h) rfl (fun w hSw => ?_) hHeld ?_
          rotate_left
          · go_simp; (try with_reducible rfl)
          try simp only [Act.put, List.setIfInBounds_toArray, List.set_cons_zero, List.set_cons_succ]
          refine held_take (i := 6) (v := ?_) rfl (by kernel_rfl) (by kernel_rfl) (by kernel_rfl) (fun _ _ _ h => h) rfl (fun w hSw => ?_) hHeld ?_
          rotate_left
          · go_simp; (try with_reducible rfl)
          try simp only [Act.put, List.setIfInBounds_toArray, List.set_cons_zero, List.set_cons_succ]
          refine held_take (i := 7) (v := ?_) rfl (by kernel_rfl) (by kernel_rfl) (by kernel_rfl) (fun _ _ _ h => h) rfl (fun w hSw => ?_) hHeld ?_
          rotate_left
          · go_simp; (try with_reducible rfl)
          try simp only [Act.put, List.setIfInBounds_toArray, List.set_cons_zero, List.set_cons_succ]
          refine held_take (i := 8) (v := ?_) rfl (by kernel_rfl) (by kernel_rfl) (by kernel_rfl) (fun _ _ _ h => h) rfl (fun w hSw => ?_) hHeld ?_
          rotate_left
          · (have hEs : Ext No wz _ := hSw); (have x0 := hEs.keep HCX.out.1); (have x1 := hEs.keep HCX.out.2.1); (have x2 := hEs.keep HCX.out.2.2); go_simp; (try with_reducible rfl)
          try simp only [Act.put, List.setIfInBounds_toArray, List.set_cons_zero, List.set_cons_succ]
          refine held_take (i := 9) (v := ?_) rfl (by kernel_rfl) (by kernel_rfl) (by kernel_rfl) (fun _ _ _ h => h) rfl (fun w hSw => ?_) hHeld ?_
          rotate_left
          · go_simp; (try with_reducible rfl)
          try simp only [Act.put, List.setIfInBounds_toArray, List.set_cons_zero, List.set_cons_succ]
          refine held_take (i := 10) (v := ?_) rfl (by kernel_rfl) (by kernel_rfl) (by kernel_rfl) (fun _ _ _ h => h) rfl (fun w hSw => ?_) hHeld ?_
          rotate_left
          · go_simp; (try with_reducible rfl)
          try simp only [Act.put, List.setIfInBounds_toArray, List.set_cons_zero, List.set_cons_succ]
          refine held_take (i := 11) (v := ?_) rfl (by kernel_rfl) (by kernel_rfl) (by kernel_rfl) (fun _ _ _ h => h) rfl (fun w hSw => ?_) hHeld ?_
          rotate_left
          · go_simp; (try with_reducible rfl)
          try simp only [Act.put, List.setIfInBounds_toArray, List.set_cons_zero, List.set_cons_succ]
          refine held_take (i := 12) (v := ?_) rfl (by kernel_rfl) (by kernel_rfl) (by kernel_rfl) (fun _ _ _ h => h) rfl (fun w hSw => ?_) hHeld ?_
          rotate_left
          · go_simp; (try with_reducible rfl)
          try simp only [Act.put, List.setIfInBounds_toArray, List.set_cons_zero, List.set_cons_succ]
          refine held_take (i := 13) (v := ?_) rfl (by kernel_rfl) (by kernel_rfl) (by kernel_rfl) (fun _ _ _ h => h) rfl (fun w hSw => ?_) hHeld ?_
          rotate_left
          · (have hEs : Ext No wz _ := hSw); (have x0 := hEs.keep HCY.out.1); (have x1 := hEs.keep HCY.out.2.1); (have x2 := hEs.keep HCY.out.2.2); go_simp; (try with_reducible rfl)
          try simp only [Act.put, List.setIfInBounds_toArray, List.set_cons_zero, List.set_cons_succ]
          refine held_call (i := 14) rfl (by kernel_rfl) rfl (fun K hK => ?_)
          (go_simp; go_at_call 39; (refine (HC.out x y _ HXK.out HYK.out (HOX.out _ _ HO.out (hX.out.trans (show Ext No wz _ from hHeld).ofNo))).mono ?_); (rintro q1 w1 ⟨rfl, hyA⟩); go_simp)
          refine hK.out _ _ ?_ (fun hNew => ?_)
          · exact Ext.transNo (show Ext No wz _ from hHeld) hyA
          clear hK K hHeld
          have hHeld := hNew
          clear hNew
          clear hyA
          try simp only [Act.put, List.setIfInBounds_toArray, List.set_cons_zero, List.set_cons_succ]
          refine held_take (i := 15) (v := ?_) rfl (by kernel_rfl) (by kernel_rfl) (by kernel_rfl) (fun _ _ _ h => h) rfl (fun w hSw => ?_) hHeld ?_
          rotate_left
          · go_simp; (try with_reducible rfl)
          try simp only [Act.put, List.setIfInBounds_toArray, List.set_cons_zero, List.set_cons_succ]
          refine held_take (i := 16) (v := ?_) rfl (by kernel_rfl) (by kernel_rfl) (by kernel_rfl) (fun _ _ _ h => h) rfl (fun w hSw => ?_) hHeld ?_
          rotate_left
          · go_simp; (try with_reducible rfl)
          try simp only [Act.put, List.setIfInBounds_toArray, List.set_cons_zero, List.set_cons_succ]
          refine wpAnyH_done (by kernel_rfl) ?_ _
          have HE1 := Lib.hid (show Ext No wz w1 from hHeld)
          clear hHeld
          by_cases hcx : f x < f y
          · have hcz : cmpZ (f x) (f y) < 0 := by unfold cmpZ; rw [if_pos hcx]; decide
            go_wp2_with fail
            go_upto_region 6 with (fail)
            have HCX9 := Lib.hid hcx
            have HCX1 := Lib.hid (And.intro (HE1.out.keep HCX.out.1) (And.intro (HE1.out.keep HCX.out.2.1) (HE1.out.keep HCX.out.2.2)))
            have HCY1 := Lib.hid (And.intro (HE1.out.keep HCY.out.1) (And.intro (HE1.out.keep HCY.out.2.1) (HE1.out.keep HCY.out.2.2)))
            have HS1 := Lib.hid (KOwn.ext hS.out HE1.out no_no2)
            have HCL1 := Lib.hid (show (cur.set (m + 1) y).length = N from by rw [List.length_set]; exact hcl.out)
            have HMC1 := Lib.hid (show m < (cur.set (m + 1) y).length from by rw [List.length_set]; exact HMC.out)
            clear hcz hcx
            refine wp_region_heldL [15, 17] (fun w' => Ext No w1 w') (by kernel_rfl) ?_ (fun hHeld => ?_)
            · exact (Ext.refl _ _).drew
            have HE6 := Lib.hid (show Ext No w1 w1.drew from (Ext.refl _ _).drew)
            have HS6 := Lib.hid (KOwn.ext HS1.out HE6.out no_no2)
            generalize w1.drew = v0 at *
            refine heldL_free (i := 0) (v := ?_) rfl (by kernel_rfl) (by kernel_rfl) (by kernel_rfl) (by kernel_rfl) (by kernel_rfl) (fun _ _ _ h => h) rfl (fun w => ?_) hHeld ?_
            rotate_left
            · go_simp; (try with_reducible rfl)
            try simp only [Act.put, List.setIfInBounds_toArray, List.set_cons_zero, List.set_cons_succ]
            replace hHeld := (ST_set (T := [15, 17]) (i := 0) (by kernel_rfl) _ _).2 hHeld
            refine heldL_free (i := 1) (v := ?_) rfl (by kernel_rfl) (by kernel_rfl) (by kernel_rfl) (by kernel_rfl) (by kernel_rfl) (fun _ _ _ h => h) rfl (fun w => ?_) hHeld ?_
            rotate_left
            · go_simp; (try with_reducible rfl)
            try simp only [Act.put, List.setIfInBounds_toArray, List.set_cons_zero, List.set_cons_succ]
            replace hHeld := (ST_set (T := [15, 17]) (i := 1) (by kernel_rfl) _ _).2 hHeld
            refine heldL_free (i := 2) (v := ?_) rfl (by kernel_rfl) (by kernel_rfl) (by kernel_rfl) (by kernel_rfl) (by kernel_rfl) (fun _ _ _ h => h) rfl (fun w => ?_) hHeld ?_
            rotate_left
            · go_simp; (try with_reducible rfl)
            try simp only [Act.put, List.setIfInBounds_toArray, List.set_cons_zero, List.set_cons_succ]
            replace hHeld := (ST_set (T := [15, 17]) (i := 2) (by kernel_rfl) _ _).2 hHeld
            refine heldL_free (i := 3) (v := ?_) rfl (by kernel_rfl) (by kernel_rfl) (by kernel_rfl) (by kernel_rfl) (by kernel_rfl) (fun _ _ _ h => h) rfl (fun w => ?_) hHeld ?_
            rotate_left
            · go_simp; (try with_reducible rfl)
            try simp only [Act.put, List.setIfInBounds_toArray, List.set_cons_zero, List.set_cons_succ]
            replace hHeld := (ST_set (T := [15, 17]) (i := 3) (by kernel_rfl) _ _).2 hHeld
            refine heldL_free (i := 4) (v := ?_) rfl (by kernel_rfl) (by kernel_rfl) (by kernel_rfl) (by kernel_rfl) (by kernel_rfl) (fun _ _ _ h => h) rfl (fun w => ?_) hHeld ?_
            rotate_left
            · go_simp; (try with_reducible rfl)
            try simp only [Act.put, List.setIfInBounds_toArray, List.set_cons_zero, List.set_cons_succ]
            replace hHeld := (ST_set (T := [15, 17]) (i := 4) (by kernel_rfl) _ _).2 hHeld
            refine heldL_free (i := 5) (v := ?_) rfl (by kernel_rfl) (by kernel_rfl) (by kernel_rfl) (by kernel_rfl) (by kernel_rfl) (fun _ _ _ h => h) rfl (fun w => ?_) hHeld ?_
            rotate_left
            · go_simp; (try with_reducible rfl)
            try simp only [Act.put, List.setIfInBounds_toArray, List.set_cons_zero, List.set_cons_succ]
            replace hHeld := (ST_set (T := [15, 17]) (i := 5) (by kernel_rfl) _ _).2 hHeld
            refine heldL_free (i := 6) (v := ?_) rfl (by kernel_rfl) (by kernel_rfl) (by kernel_rfl) (by kernel_rfl) (by kernel_rfl) (fun _ _ _ h => h) rfl (fun w => ?_) hHeld ?_
            rotate_left
            · go_simp; (try with_reducible rfl)
            try simp only [Act.put, List.setIfInBounds_toArray, List.set_cons_zero, List.set_cons_succ]
            replace hHeld := (ST_set (T := [15, 17]) (i := 6) (by kernel_rfl) _ _).2 hHeld
            refine heldL_free (i := 7) (v := ?_) rfl (by kernel_rfl) (by kernel_rfl) (by kernel_rfl) (by kernel_rfl) (by kernel_rfl) (fun _ _ _ h => h) rfl (fun w => ?_) hHeld ?_
            rotate_left
            · go_simp; (try with_reducible rfl)
            try simp only [Act.put, List.setIfInBounds_toArray, List.set_cons_zero, List.set_cons_succ]
            replace hHeld := (ST_set (T := [15, 17]) (i := 7) (by kernel_rfl) _ _).2 hHeld
            refine heldL_free (i := 8) (v := ?_) rfl (by kernel_rfl) (by kernel_rfl) (by kernel_rfl) (by kernel_rfl) (by kernel_rfl) (fun _ _ _ h => h) rfl (fun w => ?_) hHeld ?_
            rotate_left
            · go_simp; (try with_reducible rfl)
            try simp only [Act.put, List.setIfInBounds_toArray, List.set_cons_zero, List.set_cons_succ]
            replace hHeld := (ST_set (T := [15, 17]) (i := 8) (by kernel_rfl) _ _).2 hHeld
            refine heldL_take (i := 9) (v := ?_) rfl (by kernel_rfl) (by kernel_rfl) (by kernel_rfl) (by kernel_rfl) (by kernel_rfl) (fun _ _ _ h => h) rfl (fun w hSw => ?_) hHeld ?_
            rotate_left
            · (have hEs : Ext No w1 _ := hSw); (have x0 := hEs.keep HCY1.out.1); (have x1 := hEs.keep HCY1.out.2.1); (have x2 := hEs.keep HCY1.out.2.2); go_simp; (try with_reducible rfl)
            try simp only [Act.put, List.setIfInBounds_toArray, List.set_cons_zero, List.set_cons_succ]
            replace hHeld := (ST_set (T := [15, 17]) (i := 9) (by kernel_rfl) _ _).2 hHeld
            refine heldL_free (i := 10) (v := ?_) rfl (by kernel_rfl) (by kernel_rfl) (by kernel_rfl) (by kernel_rfl) (by kernel_rfl) (fun _ _ _ h => h) rfl (fun w => ?_) hHeld ?_
            rotate_left
            · go_simp; (try with_reducible rfl)
            try simp only [Act.put, List.setIfInBounds_toArray, List.set_cons_zero, List.set_cons_succ]
            replace hHeld := (ST_set (T := [15, 17]) (i := 10) (by kernel_rfl) _ _).2 hHeld
            refine heldL_free (i := 11) (v := ?_) rfl (by kernel_rfl) (by kernel_rfl) (by kernel_rfl) (by kernel_rfl) (by kernel_rfl) (fun _ _ _ h => h) rfl (fun w => ?_) hHeld ?_
            rotate_left
            · go_simp; (try with_reducible rfl)
            try simp only [Act.put, List.setIfInBounds_toArray, List.set_cons_zero, List.set_cons_succ]
            replace hHeld := (ST_set (T := [15, 17]) (i := 11) (by kernel_rfl) _ _).2 hHeld
            refine heldL_free (i := 12) (v := ?_) rfl (by kernel_rfl) (by kernel_rfl) (by kernel_rfl) (by kernel_rfl) (by kernel_rfl) (fun _ _ _ h => h) rfl (fun w => ?_) hHeld ?_
            rotate_left
            · go_simp; (try with_reducible rfl)
            try simp only [Act.put, List.setIfInBounds_toArray, List.set_cons_zero, List.set_cons_succ]
            replace hHeld := (ST_set (T := [15, 17]) (i := 12) (by kernel_rfl) _ _).2 hHeld
            refine heldL_take (i := 13) (v := ?_) rfl (by kernel_rfl) (by kernel_rfl) (by kernel_rfl) (by kernel_rfl) (by kernel_rfl) (fun _ _ _ h => h) rfl (fun w hSw => ?_) hHeld ?_
            rotate_left
            · (have hEs : Ext No w1 _ := hSw); (have x0 := hEs.keep HCX1.out.1); (have x1 := hEs.keep HCX1.out.2.1); (have x2 := hEs.keep HCX1.out.2.2); go_simp; (try with_reducible rfl)
            try simp only [Act.put, List.setIfInBounds_toArray, List.set_cons_zero, List.set_cons_succ]
            replace hHeld := (ST_set (T := [15, 17]) (i := 13) (by kernel_rfl) _ _).2 hHeld
            refine heldL_free (i := 14) (v := ?_) rfl (by kernel_rfl) (by kernel_rfl) (by kernel_rfl) (by kernel_rfl) (by kernel_rfl) (fun _ _ _ h => h) rfl (fun w => ?_) hHeld ?_
            rotate_left
            · go_simp; (try with_reducible rfl)
            try simp only [Act.put, List.setIfInBounds_toArray, List.set_cons_zero, List.set_cons_succ]
            replace hHeld := (ST_set (T := [15, 17]) (i := 14) (by kernel_rfl) _ _).2 hHeld
            refine heldL_next1 (i := 15) (by kernel_rfl) (NextL.mk rfl rfl (fun K hK => ?_))
            ((obtain ⟨f0, f1, f2⟩ := KOwn.cells hcl.out.symm HS6.out HJC.out); (have fr := KOwn.free hcl.out.symm HS6.out); go_simp; (clear f0 f1 f2 fr))
            refine hK.out _ _ ?_ (fun hNew => ?_)
            · exact fun h => absurd h (by decide)
            clear hK K hHeld
            have hHeld := hNew
            clear hNew
            have HP1 := Lib.hid (KOwn.put hcl.out.symm HS6.out HJC.out y)
            have HE7 := Lib.hid (set3r (w := v0) g ((m + 1) * 3) (.int .i64 y.1) (.int .i64 y.2.1) (.int .i64 y.2.2))
            generalize (((v0.setCell ⟨g, (m + 1) * 3, none⟩ (.int .i64 y.1)).setCell ⟨g, (m + 1) * 3 + 1, none⟩ (.int .i64 y.2.1)).setCell ⟨g, (m + 1) * 3 + 2, none⟩ (.int .i64 y.2.2)) = v1 at *
            try simp only [Act.put, List.setIfInBounds_toArray, List.set_cons_zero, List.set_cons_succ]
            refine heldL_free (i := 16) (v := ?_) rfl (by kernel_rfl) (by kernel_rfl) (by kernel_rfl) (by kernel_rfl) (by kernel_rfl) (fun _ _ _ h => h) rfl (fun w => ?_) hHeld ?_
            rotate_left
            · go_simp; (try with_reducible rfl)
            try simp only [Act.put, List.setIfInBounds_toArray, List.set_cons_zero, List.set_cons_succ]
            replace hHeld := (ST_set (T := [15, 17]) (i := 16) (by kernel_rfl) _ _).2 hHeld
            refine heldL_next1 (i := 17) (by kernel_rfl) (NextL.mk rfl rfl (fun K hK => ?_))
            ((obtain ⟨f0, f1, f2⟩ := KOwn.cells HCL1.out.symm HP1.out HMC1.out); (have fr := KOwn.free HCL1.out.symm HP1.out); go_simp; (clear f0 f1 f2 fr))
            refine hK.out _ _ ?_ (fun hNew => ?_)
            · exact fun h => absurd h (by decide)
            clear hK K hHeld
            have hHeld := hNew
            clear hNew
            have HP2 := Lib.hid (KOwn.put HCL1.out.symm HP1.out HMC1.out x)
            have HE8 := Lib.hid (set3r (w := v1) g (m * 3) (.int .i64 x.1) (.int .i64 x.2.1) (.int .i64 x.2.2))
            generalize (((v1.setCell ⟨g, m * 3, none⟩ (.int .i64 x.1)).setCell ⟨g, m * 3 + 1, none⟩ (.int .i64 x.2.1)).setCell ⟨g, m * 3 + 2, none⟩ (.int .i64 x.2.2)) = v2 at *
            try simp only [Act.put, List.setIfInBounds_toArray, List.set_cons_zero, List.set_cons_succ]
            refine heldL_done (by kernel_rfl) ?_ _
            clear hHeld
            go_wp2_with fail
            go_roundw
            case rel => exact ⟨m, (cur.set (m + 1) y).set m x, A', y :: B, rfl, by omega, Lib.hid (by rw [List.length_set]; exact HCL1.out), HP2, Lib.hid (by
              rw [hcur.out, List.append_assoc]
              exact swap_list (j := m + 1) (by rw [HA'.out])), HA', Lib.hid (by have h9 := hPW.out; rw [List.append_assoc] at h9; exact h9), Lib.hid (by have h9 := hPM.out; rw [List.append_assoc] at h9; exact h9), Lib.hid (fun b hb => by
              have hxy : ordF f x y := .inl HCX9.out
              rcases List.mem_cons.1 hb with rfl | hb
              · exact hxy
              · exact hBx.out b hb), Lib.hid (((hX.out.trans HE1.out.ofNo).trans HE6.out.ofNo).trans (HE7.out.trans HE8.out))⟩
            case measure => simp [intOf]
          · have hcz : ¬ cmpZ (f x) (f y) < 0 := by unfold cmpZ; rw [if_neg hcx]; split <;> decide
            have HCX9 := Lib.hid (show f y ≤ f x from by omega)
            go_wp2_with fail
            clear hcz hcx
            go_roundw
            case rel => exact ⟨k + 1, cur, HKK.out, by omega, by omega, hcl, Lib.hid (KOwn.ext hS.out HE1.out no_no2), Lib.hid (by
              have h9 := out_inv HKP.out HKL.out (by have := hA.out; omega) hPW.out hPM.out (by rw [← HXE.out]; exact hBx.out) (last_ord HKP.out HKL.out hPW.out hPM.out (by rw [← HXE.out]; exact HCX9.out))
              rw [← HXE.out, ← hcur.out] at h9
              exact h9), Lib.hid (hX.out.trans HE1.out.ofNo)⟩
            case measure => simp [intOf]; omega
    · have hge : ¬ (k : Int) < (N : Int) := by omega
      go_wp2_with fail
      refine bodyPost_end (results_none rfl _ _ _) rfl ?_
      obtain ⟨P, e1, e2, e3, e4⟩ := hI0.out
      have hkN2 : k = N := by omega
      rw [List.drop_of_length_le (by have := HN.out; omega), List.append_nil] at e1
      rw [List.take_of_length_le (by have := HN.out; omega)] at e4
      subst e1
      exact ⟨rfl, cur0, hS0, Lib.hid e4, Lib.hid e3, hX0.out⟩
end Go.Proofs.Ytfejidihocoboaa

/- The walk of MemoRestores. -/
import Derived.Test.YtfejidihocoboaaN52
set_option linter.unusedVariables false
set_option linter.unusedSimpArgs false
namespace Go.Proofs.Ytfejidihocoboaa
open Go Go.RowKit
set_option maxRecDepth 100000 in
set_option maxHeartbeats 16000000 in
theorem memoRestores_any (sl : Value) (zs : List Int) (z y : Int) {u : Value} {LX : List EV} (W : World) (h : Ints No W .i64 sl zs) (hu : LAt kE No W u LX) (hkk : ∀ p ∈ LX, KeyOk p.1.key) : Calls Try.prog 6 #[sl, .int .i64 z, u, .int .i64 y] W (BoolPost true W) := by
  obtain ⟨iE, hiE, hE0, hE1, hE2⟩ := info_parts infoEnt
  have H := Lib.hid h
  obtain ⟨a, cap, rfl⟩ := Row.slice h
  have hlu63 := hu.row.2.1
  obtain ⟨ua, uc, rfl⟩ := hu.slice
  have HU := Lib.hid hu
  have HUK := Lib.hid hkk
  obtain ⟨NU, hNU⟩ : ∃ NU, NU = LX.length := ⟨_, rfl⟩
  rw [← hNU] at HU hlu63 ⊢
  have HNU := Lib.hid hNU
  clear h hu hkk hNU
  go_enter Try.func6, Try.ntmps6
  go_wp2_with fail
  refine (new_any _ zs W H.out).mono ?_
  rintro q1 w1 ⟨rfl, ht1, hx1, hs1⟩
  have HT1 := Lib.hid ht1
  have HX1 := Lib.hid (show Ext No W w1 from hx1)
  have HS1 := Lib.hid (show w1.heap.size = W.heap.size + 1 from hs1)
  clear ht1 hx1 hs1
  go_wp2_with fail
  refine (mnew_any 5 w1).mono ?_
  rintro q2 w2 ⟨-, hn, hx2⟩
  obtain ⟨T, bm, rfl, hP2⟩ := hn (by omega)
  have HX2 := Lib.hid hx2
  have HT2 := Lib.hid (HT1.out.ext hx2)
  have HP2 := Lib.hid hP2.out
  clear hn hx2 hP2 HT1
  unfold ptrV
  go_upto_region 6 with (fail)
  have HA0 := Lib.hid (ab_start (M := fun b => b ≤ W.heap.size) (tb := W.heap.size) HP2.out (fun b hb => by have := HS1.out; omega) HX2.out.size HT2.out (by omega) #[.pointer (some ⟨T, 0, none⟩), .pointer (some ⟨w2.heap.size, 0, none⟩)] 34)
  have HB0 := Lib.hid (show ((w2.alloc (.cells #[.int .i64 5, .slice none 0 0, .int .i64 0] 32)).alloc (.cells #[.pointer (some ⟨T, 0, none⟩), .pointer (some ⟨w2.heap.size, 0, none⟩)] 34)).heap[w2.heap.size + 1]? = some (.cells #[.pointer (some ⟨T, 0, none⟩), .pointer (some ⟨w2.heap.size, 0, none⟩)] 34 (0, 0)) from alloc_top (by simp))
  have HEND := Lib.hid (show ∀ w, Ext (fun b => b = W.heap.size ∨ TOwn T w2.heap.size bm (.slice none 0 0) (.slice none 0 0) [] b) ((w2.alloc (.cells #[.int .i64 5, .slice none 0 0, .int .i64 0] 32)).alloc (.cells #[.pointer (some ⟨T, 0, none⟩), .pointer (some ⟨w2.heap.size, 0, none⟩)] 34)) w → Ext No W w from fun w hw => ((HX1.out.transNo HX2.out).transNo (((Ext.refl No w2).alloc _).alloc _)).trans2 hw (fun i hi e => by
    rcases e with e | (e | e | e)
    · omega
    · have h9 := HP2.out.t.out i e
      have := HS1.out
      unfold Lo at h9
      omega
    · have := HX1.out.size; have := HX2.out.size; omega
    · cases e))
  have HBN := Lib.hid (show ∀ b, (b = W.heap.size ∨ TOwn T w2.heap.size bm (.slice none 0 0) (.slice none 0 0) [] b) → b ≠ w2.heap.size + 1 from fun b e e2 => by
    rcases e with e | (e | e | e)
    · have := HS1.out; have := HX2.out.size; omega
    · have := HP2.out.ownLt e; omega
    · omega
    · cases e)
  have HMM := Lib.hid (show ∀ b, b ≤ W.heap.size → b < ((w2.alloc (.cells #[.int .i64 5, .slice none 0 0, .int .i64 0] 32)).alloc (.cells #[.pointer (some ⟨T, 0, none⟩), .pointer (some ⟨w2.heap.size, 0, none⟩)] 34)).heap.size from fun b hb => by have := HS1.out; have := HX2.out.size; simp; omega)
  clear HX1 HX2 HS1 HP2 HT2 H
  generalize ((w2.alloc (.cells #[.int .i64 5, .slice none 0 0, .int .i64 0] 32)).alloc (.cells #[.pointer (some ⟨T, 0, none⟩), .pointer (some ⟨w2.heap.size, 0, none⟩)] 34)) = V0 at *
  generalize TOwn T w2.heap.size bm (.slice none 0 0) (.slice none 0 0) [] = OW at *
  generalize w2.heap.size + 1 = bb at *
  generalize w2.heap.size = D at *
  go_wp2_with fail
  go_loopw [13] (fun s13 wr => ∃ i : Nat, s13 = .int .i64 i ∧ i ≤ 12 ∧ Hid (ABx (fun b => b ≤ W.heap.size) V0 OW T D W.heap.size 5 (i : Int) True wr)) (fun s13 _ => 12 - (intOf s13).toNat)
  case atStart => exact ⟨0, rfl, by omega, Lib.hid ⟨_, _, _, _, _, _, _, HA0.out⟩⟩
  case round =>
    clear HA0
    obtain ⟨i, rfl, hi, hA⟩ := hrel
    rename World => wr
    obtain ⟨clk, es, bm, vk, v, L, LL, hA⟩ := hA.out
    have HA := Lib.hid hA
    clear hA
    by_cases hlt : i < 12
    · have hlz : (i : Int) < 12 := by omega
      have HKK : Hid (Value.int .i64 ((i : Int) + 1) = .int .i64 ((i + 1 : Nat) : Int)) := Lib.hid (by rw [show ((i + 1 : Nat) : Int) = (i : Int) + 1 from by omega])
      have cB := cellOf (HA.out.ext.blk HB0.out (fun e => HBN.out _ e rfl))
      go_wp2_with fail
      refine (act_any HA.out (fun b hb => hb) HMM.out (by omega) (by omega)).mono ?_
      rintro q3 w3 ⟨clk3, es3, bm3, vk3, v3, L3, LL3, rfl, hA3⟩
      go_wp2_with fail
      go_roundw
      case rel => exact ⟨i + 1, HKK.out, hlt, Lib.hid ⟨clk3, es3, bm3, vk3, v3, L3, LL3, by rw [show ((i + 1 : Nat) : Int) = (i : Int) + 1 from by omega]; exact hA3.out⟩⟩
      case measure => simp [intOf]; omega
    · have hge : ¬ (i : Int) < 12 := by omega
      obtain rfl : i = 12 := by omega
      have HE := Lib.hid (HEND.out _ HA.out.ext)
      have HBA := Lib.hid (HA.out.ext.blk HB0.out (fun e => HBN.out _ e rfl))
      have HM2 := Lib.hid (show ∀ b, b ≤ W.heap.size → b < wr.heap.size from fun b hb => Nat.lt_of_lt_of_le (HMM.out b hb) HA.out.ext.size)
      have HTL := Lib.hid (show W.heap.size < wr.heap.size from HM2.out _ (Nat.le_refl _))
      have hlen5 : LL.length ≤ 5 := by have h1 := HA.out.inv.len; rw [← HA.out.re, List.length_map] at h1; omega
      obtain ⟨an, cn, hvs⟩ := HA.out.two.r.list.slice
      obtain ⟨N, hN⟩ : ∃ N, N = LL.length := ⟨_, rfl⟩
      rw [← hN] at hvs hlen5
      subst hvs
      have HRW := Lib.hid (show Row No wr 6 (.slice an N cn) N (LL.flatMap kE.cells) from by have h9 := HA.out.two.r.list.row; rw [← hN] at h9; exact h9)
      have HNL := Lib.hid hN.symm
      have HNL2 := HNL
      have hya : Ext No wr (wr.alloc (.cells #[] 42)) := (Ext.refl _ _).alloc _
      have cBA := cellOf (hya.blk HBA.out no_no)
      have cDB := cellOf (hya.blk HA.out.two.r.box no_no)
      clear hya HMM HBN HB0 HEND hN
      go_upto_region 11 with (at_builtin; (refine wpList_app _ rfl (.tmp 47) (.tmp 52) 30 rfl wr.heap.size 42 iE _ 6 64 Try.underlying30 hiE hE0 hE1 hE2 rfl (by omega) (.slice (some ⟨wr.heap.size, 0, none⟩) 0 0) 0 [] rfl (empty_ownE (alloc_top rfl) (Nat.le_refl _)) No an N cn (LL.flatMap kE.cells) rfl (HRW.out.extNo ((Ext.refl No _).alloc _)) (LOwn.one HA.out.two.r.ents _ (fun p hp => hp)) (by omega) (by omega) (by simp) ?_); (intro v7 w7 hown1 hg1 hv1); (simp only [Nat.zero_add, List.nil_append] at hown1); (have HX7 := Lib.hid (show Ext No wr w7 from ((Ext.refl No wr).alloc (.cells #[] 42)).trans2 ((Ext.refl (fun bq => (Value.slice (some ⟨wr.heap.size, 0, none⟩) 0 0).ownBlock = some bq) _).grown hg1 (fun k hk _ => hk)) (fun k hk e => by have : wr.heap.size = k := Option.some.inj e; omega))); (have HO7 := Lib.hid hown1); (clear hown1 hg1 hv1); (obtain ⟨am, cm, hv7⟩ := (Row.ofOwns (M := No) HO7.out (fun _ _ x => x)).slice); (subst hv7))
      have HBA7 := Lib.hid (HX7.out.blk HBA.out no_no)
      have HDB7 := Lib.hid (HX7.out.blk HA.out.two.r.box no_no)
      clear cBA cDB
      refine wp_region_held_drew (S := (fun w' => Ext No w7 w')) (by kernel_rfl) ?_ (fun hHeld => ?_)
      · exact (Ext.refl _ _).drew
      refine held_take (i := 0) (v := ?_) rfl (by kernel_rfl) (by kernel_rfl) (by kernel_rfl) (fun _ _ _ h => h) rfl (fun w hSw => ?_) hHeld ?_
      rotate_left
      · go_simp; (try with_reducible rfl)
      try simp only [Act.put, List.setIfInBounds_toArray, List.set_cons_zero, List.set_cons_succ]
      refine held_take (i := 1) (v := ?_) rfl (by kernel_rfl) (by kernel_rfl) (by kernel_rfl) (fun _ _ _ h => h) rfl (fun w hSw => ?_) hHeld ?_
      rotate_left
      · (have hEs : Ext No w7 _ := hSw); (have x0 := cellOf (hEs.blk HBA7.out no_no)); go_simp; (try with_reducible rfl)
      try simp only [Act.put, List.setIfInBounds_toArray, List.set_cons_zero, List.set_cons_succ]
      refine held_take (i := 2) (v := ?_) rfl (by kernel_rfl) (by kernel_rfl) (by kernel_rfl) (fun _ _ _ h => h) rfl (fun w hSw => ?_) hHeld ?_
      rotate_left
      · go_simp; (try with_reducible rfl)
      try simp only [Act.put, List.setIfInBounds_toArray, List.set_cons_zero, List.set_cons_succ]
      refine held_take (i := 3) (v := ?_) rfl (by kernel_rfl) (by kernel_rfl) (by kernel_rfl) (fun _ _ _ h => h) rfl (fun w hSw => ?_) hHeld ?_
      rotate_left
      · go_simp; (try with_reducible rfl)
      try simp only [Act.put, List.setIfInBounds_toArray, List.set_cons_zero, List.set_cons_succ]
      refine held_take (i := 4) (v := ?_) rfl (by kernel_rfl) (by kernel_rfl) (by kernel_rfl) (fun _ _ _ h => h) rfl (fun w hSw => ?_) hHeld ?_
      rotate_left
      · (have hEs : Ext No w7 _ := hSw); (have x0 := cellOf (hEs.blk HDB7.out no_no)); go_simp; (try with_reducible rfl)
      try simp only [Act.put, List.setIfInBounds_toArray, List.set_cons_zero, List.set_cons_succ]
      refine held_take (i := 5) (v := ?_) rfl (by kernel_rfl) (by kernel_rfl) (by kernel_rfl) (fun _ _ _ h => h) rfl (fun w hSw => ?_) hHeld ?_
      rotate_left
      · go_simp; (try with_reducible rfl)
      try simp only [Act.put, List.setIfInBounds_toArray, List.set_cons_zero, List.set_cons_succ]
      refine held_take (i := 6) (v := ?_) rfl (by kernel_rfl) (by kernel_rfl) (by kernel_rfl) (fun _ _ _ h => h) rfl (fun w hSw => ?_) hHeld ?_
      rotate_left
      · go_simp; (try with_reducible rfl)
      try simp only [Act.put, List.setIfInBounds_toArray, List.set_cons_zero, List.set_cons_succ]
      refine wpAnyH_done (by kernel_rfl) ?_ _
      have HE11 := Lib.hid (show Ext No w7 w7.drew from hHeld)
      clear hHeld
      have HM := Lib.hid (show EMx W.heap.size W w7.drew (.slice am N cm) LL from by
        have h1 := LOwn.fresh (A := fun b => b ≤ W.heap.size) (v := .slice am N cm) (LL := LL) (by rw [HNL.out]; exact HO7.out) HX7.out (fun p hp => kE.mono (HA.out.two.r.okAll p hp) (fun i _ e => .inl (.inl e)))
        exact ⟨⟨row_base (h1.extNo HE11.out).own (HM2.out _ (Nat.le_refl _)), (h1.extNo HE11.out).ok⟩, fun p hp => (HA.out.inv.key p.1 (by rw [← HA.out.re]; exact List.mem_map_of_mem hp)).1, (HA.out.tape.ext HX7.out).ext HE11.out, ((HE.out.transNo HX7.out).transNo HE11.out).ofNo⟩)
      have HVL := Lib.hid (show ∀ p ∈ LL, validB p.1.s = true from fun p hp => HA.out.inv.val p.1 (by rw [← HA.out.re]; exact List.mem_map_of_mem hp))
      have HC0 := HA.out.inv.clk
      obtain ⟨hc0, hc12⟩ := HC0
      clear HA HBA HBA7 HDB7 HX7 HO7 HE11 HE HM2 HRW HNL
      generalize w7.drew = wm at *
      go_upto_region 12 with (fail)
      go_cut [61] (fun s61 wx => ∃ b : Bool, s61 = .bool b ∧ Hid (b = true ↔ 0 < N) ∧ Hid (EMx W.heap.size W wx (.slice am N cm) LL))
      case first =>
        by_cases h0 : 0 < N
        · have h0z : (0 : Int) < (N : Int) := by omega
          go_wp2_with fail
          go_meet
          exact ⟨true, by simp [h0z], Lib.hid ⟨fun _ => h0, fun _ => rfl⟩, HM⟩
        · have h0z : ¬ (0 : Int) < (N : Int) := by omega
          go_wp2_with fail
          go_meet
          exact ⟨false, by simp [h0z], Lib.hid ⟨fun h => (by cases h), fun h => absurd h h0⟩, HM⟩
      case rest =>
      clear HM
      obtain ⟨b61, rfl, hb61, HM⟩ := hcut
      rename World => wn
      apply_assumption
      go_cut [15, 16] (fun s15 s16 wx => ∃ (c n : Int) (LL' : List EV), s15 = .int .i64 c ∧ s16 = .int .i64 n ∧ c ≤ 6 ∧ n ≤ 30 ∧ Hid (LL'.length = N) ∧ Hid (EMx W.heap.size W wx (.slice am N cm) LL'))
      case first =>
        cases b61 with
        | false =>
          go_wp2_with fail
          go_meet
          exact ⟨5, clk, LL, rfl, rfl, by omega, by omega, HNL2, HM⟩
        | true =>
          have h0 : 0 < N := hb61.out.1 rfl
          have h0z : (1 : Int) ≤ (N : Int) := by omega
          go_upto_region 14 with (go_at_call 12; refine (next_lt W.heap.size (N : Int) h0z (by omega) _ HM.out.tape).mono ?_; rintro q9 w9 ⟨r8, rfl, hr8, ht9, hx9, hs9⟩; (replace HM := Lib.hid (HM.out.next hx9 ht9)); (clear ht9 hx9 hs9))
          go_upto_region 15 with (go_at_call 12; refine (next_lt W.heap.size 8 (by omega) (by omega) _ HM.out.tape).mono ?_; rintro q9 w9 ⟨r9, rfl, hr9, ht9, hx9, hs9⟩; (replace HM := Lib.hid (HM.out.next hx9 ht9)); (clear ht9 hx9 hs9))
          have hr8z0 : (0 : Int) ≤ (r8 : Int) := by omega
          obtain ⟨q, hq⟩ : ∃ q : Int, q = (r9 : Int) := ⟨_, rfl⟩
          rw [← hq] at hr9 ⊢
          clear hq
          by_cases hc0 : q = 0
          · have e0 : (q == 0) = true := by rw [beq_iff_eq]; omega
            obtain ⟨g, cg, hsg, -, -⟩ := HM.out.own.shape (by have := HNL2.out; omega)
            simp only [Value.slice.injEq] at hsg
            obtain ⟨rfl, -, rfl⟩ := hsg
            have hk : r8 < LL.length := by have := HNL2.out; omega
            have HKL := Lib.hid hk
            go_wp2_with (go_at_call 12; refine (next_lt W.heap.size (clk + 3) (by omega) (by omega) _ HM.out.tape).mono ?_; rintro q9 w9 ⟨r9, rfl, hr9, ht9, hx9, hs9⟩; (replace HM := Lib.hid (HM.out.next hx9 ht9)); (clear ht9 hx9 hs9); (have cE := HM.out.cell HNL2.out HKL.out); (obtain ⟨⟨cE2, cE3⟩, cE4, cE5⟩ := cE); (have fE := World.ownsRow.frozenAt (HNL2.out ▸ HM.out.own.own)))
            go_meet
            obtain ⟨LL', hl', hm'⟩ := HM.out.tick HNL2.out HKL.out ((r9 : Int) - 1)
            exact ⟨5, clk, LL', rfl, rfl, by omega, by omega, Lib.hid hl', Lib.hid hm'⟩
          by_cases hc1 : q = 1
          · have e0 : (q == 0) = false := by rw [beq_eq_false_iff_ne]; omega
            have e1 : (q == 1) = true := by rw [beq_iff_eq]; omega
            obtain ⟨g, cg, hsg, -, -⟩ := HM.out.own.shape (by have := HNL2.out; omega)
            simp only [Value.slice.injEq] at hsg
            obtain ⟨rfl, -, rfl⟩ := hsg
            have hk : r8 < LL.length := by have := HNL2.out; omega
            have HKL := Lib.hid hk
            go_wp2_with (go_at_call 12; refine (next_lt W.heap.size 5 (by omega) (by omega) _ HM.out.tape).mono ?_; rintro q9 w9 ⟨r9, rfl, hr9, ht9, hx9, hs9⟩; (replace HM := Lib.hid (HM.out.next hx9 ht9)); (clear ht9 hx9 hs9); (have cE := HM.out.cell HNL2.out HKL.out); (obtain ⟨⟨cE2, cE3⟩, cE4, cE5⟩ := cE); (have fE := World.ownsRow.frozenAt (HNL2.out ▸ HM.out.own.own)))
            go_meet
            obtain ⟨LL', hl', hm'⟩ := HM.out.node HNL2.out HKL.out ((r9 : Int) - 1) (by omega)
            exact ⟨5, clk, LL', rfl, rfl, by omega, by omega, Lib.hid hl', Lib.hid hm'⟩
          by_cases hc2 : q = 2
          · have e0 : (q == 0) = false := by rw [beq_eq_false_iff_ne]; omega
            have e1 : (q == 1) = false := by rw [beq_eq_false_iff_ne]; omega
            have e2 : (q == 2) = true := by rw [beq_iff_eq]; omega
            obtain ⟨g, cg, hsg, -, -⟩ := HM.out.own.shape (by have := HNL2.out; omega)
            simp only [Value.slice.injEq] at hsg
            obtain ⟨rfl, -, rfl⟩ := hsg
            have hk : r8 < LL.length := by have := HNL2.out; omega
            have HKL := Lib.hid hk
            have hcells := HM.out.cell HNL2.out HKL.out
            obtain ⟨⟨cE2, cE3⟩, cE4, cE5⟩ := hcells
            have hws := (HM.out.okAt HKL.out).mono (M' := No) (fun _ _ e => e.elim)
            obtain ⟨xa, xc, hxs⟩ := hws.slice
            rw [hxs] at cE4 hws
            have HWS := Lib.hid hws
            clear hws hxs
            rename World => wn2
            go_wp2_with (go_at_call 22; go_loud (refine (spoilS_any W.heap.size (LL[r8]'HKL.out).1.s _ _ HWS.out (by have := valid_len (HVL.out _ (List.getElem_mem HKL.out)); omega) HM.out.tape).mono ?_); rintro q9 w9 ⟨sw, sa, sc, sl9, rfl, hw9, ht9, hx9⟩; (have HWD := Lib.hid hw9.out); (have HSZ := Lib.hid (show g < wn2.heap.size ∧ W.heap.size < wn2.heap.size from ⟨(HM.out.own.lt g rfl).2, HM.out.tape.lt⟩)); (replace HM := Lib.hid (HM.out.next hx9 ht9)); (clear hw9 ht9 hx9); (have cE := HM.out.cell HNL2.out HKL.out); (obtain ⟨⟨cE2, cE3⟩, cE4, cE5⟩ := cE); (have fE := World.ownsRow.frozenAt (HNL2.out ▸ HM.out.own.own)))
            go_meet
            obtain ⟨LL', hl', hm'⟩ := HM.out.value HNL2.out HKL.out ⟨sw, sl9⟩ (.slice sa sl9.length sc) (HWD.out.mono (fun i _ e => by
              have h2 := HSZ.out
              unfold Lo
              rcases e with e | e <;> omega))
            exact ⟨5, clk, LL', rfl, rfl, by omega, by omega, Lib.hid hl', Lib.hid hm'⟩
          by_cases hc3 : q = 3
          · have e0 : (q == 0) = false := by rw [beq_eq_false_iff_ne]; omega
            have e1 : (q == 1) = false := by rw [beq_eq_false_iff_ne]; omega
            have e2 : (q == 2) = false := by rw [beq_eq_false_iff_ne]; omega
            have e3 : (q == 3) = true := by rw [beq_iff_eq]; omega
            go_wp2_with (go_at_call 12; refine (next_lt W.heap.size 8 (by omega) (by omega) _ HM.out.tape).mono ?_; rintro q9 w9 ⟨r9, rfl, hr9, ht9, hx9, hs9⟩; (replace HM := Lib.hid (HM.out.next hx9 ht9)); (clear ht9 hx9 hs9))
            go_meet
            exact ⟨(r9 : Int) - 1, clk, LL, rfl, rfl, by omega, by omega, HNL2, HM⟩
          by_cases hc4 : q = 4
          · have e0 : (q == 0) = false := by rw [beq_eq_false_iff_ne]; omega
            have e1 : (q == 1) = false := by rw [beq_eq_false_iff_ne]; omega
            have e2 : (q == 2) = false := by rw [beq_eq_false_iff_ne]; omega
            have e3 : (q == 3) = false := by rw [beq_eq_false_iff_ne]; omega
            have e4 : (q == 4) = true := by rw [beq_iff_eq]; omega
            go_wp2_with (go_at_call 12; refine (next_lt W.heap.size 20 (by omega) (by omega) _ HM.out.tape).mono ?_; rintro q9 w9 ⟨r9, rfl, hr9, ht9, hx9, hs9⟩; (replace HM := Lib.hid (HM.out.next hx9 ht9)); (clear ht9 hx9 hs9))
            go_meet
            exact ⟨5, (r9 : Int) - 1, LL, rfl, rfl, by omega, by omega, HNL2, HM⟩
          have e0 : (q == 0) = false := by rw [beq_eq_false_iff_ne]; omega
          have e1 : (q == 1) = false := by rw [beq_eq_false_iff_ne]; omega
          have e2 : (q == 2) = false := by rw [beq_eq_false_iff_ne]; omega
          have e3 : (q == 3) = false := by rw [beq_eq_false_iff_ne]; omega
          have e4 : (q == 4) = false := by rw [beq_eq_false_iff_ne]; omega
          go_wp2_with fail
          go_meet
          exact ⟨5, clk, LL, rfl, rfl, by omega, by omega, HNL2, HM⟩
      case rest =>
      clear HM hb61
      obtain ⟨c, n, LL', rfl, rfl, hc6, hn30, hl', HM⟩ := hcut
      rename World => wx
      have HLN := Lib.hid hl'.out
      apply_assumption
      go_wp2_with fail
      have hlist := HM.out.list
      rw [show (Value.slice am N cm) = Value.slice am LL'.length cm from by rw [HLN.out]] at hlist
      have HLI := Lib.hid (show LAt kE No wx (.slice am N cm) LL' from HM.out.list)
      clear hlist
      refine (mrestore_any c n wx HLI.out HM.out.key).mono ?_
      rintro q4 w4 ⟨hr1, hr2, hx4⟩
      have HX4 := Lib.hid hx4
      obtain ⟨RE, hRE⟩ : ∃ RE, RE = restE c (LL'.map Prod.fst) n := ⟨_, rfl⟩
      rw [← hRE] at hr1 hr2
      have HRE := Lib.hid hRE
      have eRR : (RE != RE) = false := by simp
      have HEX := Lib.hid (show ∀ w, Ext No wx w → Ext No W w from fun w hw => (HM.out.ext.transNo hw).mono (fun i hi e => absurd hi (Nat.not_lt.2 e)))
      clear hRE hx4
      by_cases h0 : RE = 0
      · obtain ⟨T2, bm2, vk2, L2, rfl, hP2, hL2⟩ := hr2 h0
        have HP2 := Lib.hid hP2.out
        have HL2 := Lib.hid hL2.out
        have eR0 : (RE == 0) = true := by rw [beq_iff_eq]; exact h0
        have HR0 := Lib.hid (show restE c (LL'.map Prod.fst) n = 0 from by rw [← HRE.out]; exact h0)
        subst h0
        clear hr1 hr2 hP2 hL2 eRR eR0
        unfold ptrV
        go_wp2_with fail
        refine (restorable_any c n w4 (HLI.out.extNo HX4.out)).mono ?_
        rintro q5 w5 ⟨rfl, hx5⟩
        rw [HR0.out]
        have HX5 := Lib.hid hx5
        clear hx5
        go_upto_region 30 with (fail)
        have HTW := Lib.hid (two_restored (BB := #[.pointer (some ⟨T2, 0, none⟩), .pointer (some ⟨w5.heap.size, 0, none⟩)]) (BT := 34) HM.out HP2.out HX4.out HX5.out)
        have HB2 := Lib.hid (show ((w5.alloc (.cells #[.int .i64 c, .slice am N cm, .int .i64 n] 32)).alloc (.cells #[.pointer (some ⟨T2, 0, none⟩), .pointer (some ⟨w5.heap.size, 0, none⟩)] 34)).heap[w5.heap.size + 1]? = some (.cells #[.pointer (some ⟨T2, 0, none⟩), .pointer (some ⟨w5.heap.size, 0, none⟩)] 34 (0, 0)) from alloc_top (by simp))
        have HI2 := Lib.hid (good_inv_err HR0.out (fun e he => by obtain ⟨p, hp, rfl⟩ := List.mem_map.1 he; exact HM.out.key p hp))
        have HT7 := Lib.hid (((HM.out.tape.ext HX4.out).ext HX5.out).ext (((Ext.refl No w5).alloc (.cells #[.int .i64 c, .slice am N cm, .int .i64 n] 32)).alloc (.cells #[.pointer (some ⟨T2, 0, none⟩), .pointer (some ⟨w5.heap.size, 0, none⟩)] 34)))
        have HE7 := Lib.hid (HEX.out _ ((HX4.out.transNo HX5.out).transNo (((Ext.refl No w5).alloc (.cells #[.int .i64 c, .slice am N cm, .int .i64 n] 32)).alloc (.cells #[.pointer (some ⟨T2, 0, none⟩), .pointer (some ⟨w5.heap.size, 0, none⟩)] 34))))
        have HA7 := Lib.hid (show AB (fun b => b ≤ W.heap.size) ((w5.alloc (.cells #[.int .i64 c, .slice am N cm, .int .i64 n] 32)).alloc (.cells #[.pointer (some ⟨T2, 0, none⟩), .pointer (some ⟨w5.heap.size, 0, none⟩)] 34)) (TOwn T2 w5.heap.size bm2 vk2 (.slice am N cm) L2) T2 w5.heap.size W.heap.size c n False ((w5.alloc (.cells #[.int .i64 c, .slice am N cm, .int .i64 n] 32)).alloc (.cells #[.pointer (some ⟨T2, 0, none⟩), .pointer (some ⟨w5.heap.size, 0, none⟩)] 34)) n (LL'.map Prod.fst) bm2 vk2 (.slice am N cm) L2 LL' from ⟨HTW.out, HL2.out, rfl, HI2.out, fun h => h.elim, HT7.out, Ext.refl _ _, fun b hb => .inl hb⟩)
        have HTB7 := Lib.hid (show W.heap.size < w5.heap.size from Nat.lt_of_lt_of_le HM.out.tape.lt (Nat.le_trans HX4.out.size HX5.out.size))
        have HBN := Lib.hid (show ∀ b, (b = W.heap.size ∨ TOwn T2 w5.heap.size bm2 vk2 (.slice am N cm) L2 b) → b ≠ w5.heap.size + 1 from fun b e e2 => by
          rcases e with e | e
          · have := HTB7.out; omega
          · subst e2; exact HTW.out.notBox HB2.out e)
        have HEND := Lib.hid (show ∀ w, Ext (fun b => b = W.heap.size ∨ TOwn T2 w5.heap.size bm2 vk2 (.slice am N cm) L2 b) ((w5.alloc (.cells #[.int .i64 c, .slice am N cm, .int .i64 n] 32)).alloc (.cells #[.pointer (some ⟨T2, 0, none⟩), .pointer (some ⟨w5.heap.size, 0, none⟩)] 34)) w → Ext No W w from fun w hw => HE7.out.trans2 hw (fun i hi e => by
          rcases e with e | e
          · omega
          · have h9 := HTW.out.out e; omega))
        have HMM := Lib.hid (show ∀ b, b ≤ W.heap.size → b < ((w5.alloc (.cells #[.int .i64 c, .slice am N cm, .int .i64 n] 32)).alloc (.cells #[.pointer (some ⟨T2, 0, none⟩), .pointer (some ⟨w5.heap.size, 0, none⟩)] 34)).heap.size from fun b hb => by have := HTB7.out; simp; omega)
        have HC0 := Lib.hid (show c ≤ 19 ∧ n ≤ 900 from ⟨by omega, by omega⟩)
        clear HTW HI2 HT7 HE7 HTB7 HP2 HL2 HM HX4 HX5 HEX HLI
        generalize ((w5.alloc (.cells #[.int .i64 c, .slice am N cm, .int .i64 n] 32)).alloc (.cells #[.pointer (some ⟨T2, 0, none⟩), .pointer (some ⟨w5.heap.size, 0, none⟩)] 34)) = V7 at *
        generalize TOwn T2 w5.heap.size bm2 vk2 (.slice am N cm) L2 = OW2 at *
        generalize w5.heap.size + 1 = b2 at *
        generalize w5.heap.size = D2 at *
        go_wp2_with fail
        go_loopw [21] (fun s21 wr => ∃ i : Nat, s21 = .int .i64 i ∧ i ≤ 10 ∧ Hid (ABx (fun b => b ≤ W.heap.size) V7 OW2 T2 D2 W.heap.size c (n + (i : Int)) False wr)) (fun s21 _ => 10 - (intOf s21).toNat)
        case atStart => exact ⟨0, rfl, by omega, Lib.hid ⟨_, _, _, _, _, _, _, by rw [show n + ((0 : Nat) : Int) = n from by omega]; exact HA7.out⟩⟩
        case round =>
          clear HA7
          obtain ⟨j, rfl, hj, hA⟩ := hrel
          rename World => wy
          obtain ⟨clk9, es9, bm9, vk9, v9, L9, LL9, hA⟩ := hA.out
          have HA := Lib.hid hA
          clear hA
          by_cases hlt : j < 10
          · have hlz : (j : Int) < 10 := by omega
            have HKK : Hid (Value.int .i64 ((j : Int) + 1) = .int .i64 ((j + 1 : Nat) : Int)) := Lib.hid (by rw [show ((j + 1 : Nat) : Int) = (j : Int) + 1 from by omega])
            have cB := cellOf (HA.out.ext.blk HB2.out (fun e => HBN.out _ e rfl))
            go_wp2_with fail
            refine (agrees_two HA.out.two HA.out.pe HA.out.re HA.out.inv (by have := HC0.out; omega)).mono ?_
            rintro q6 w6 ⟨rfl, hx6⟩
            have HA6 := Lib.hid (HA.out.stepNo hx6)
            have cB := cellOf (HA6.out.ext.blk HB2.out (fun e => HBN.out _ e rfl))
            go_wp2_with fail
            refine (act_any HA6.out (fun b hb => hb) HMM.out (by have := HC0.out; omega) (by have := HC0.out; omega)).mono ?_
            rintro q3 w3 ⟨clk3, es3, bm3, vk3, v3, L3, LL3, rfl, hA3⟩
            go_wp2_with fail
            go_roundw
            case rel => exact ⟨j + 1, HKK.out, hlt, Lib.hid ⟨clk3, es3, bm3, vk3, v3, L3, LL3, by rw [show n + ((j + 1 : Nat) : Int) = n + (j : Int) + 1 from by omega]; exact hA3.out⟩⟩
            case measure => simp [intOf]; omega
          · have hge : ¬ (j : Int) < 10 := by omega
            have HE9 := Lib.hid (HEND.out _ HA.out.ext)
            clear HA HMM HBN HB2 HEND
            go_wp2_with fail
            refine (mrestore_any z y wy (HU.out.extNo HE9.out) HUK.out).mono ?_
            rintro q20 w20 hq20
            obtain ⟨p20, rfl, hx20⟩ := hq20.val
            have HX20 := Lib.hid ((HE9.out).transNo hx20)
            obtain ⟨R2, hR2⟩ : ∃ R2, R2 = restE z (LX.map Prod.fst) y := ⟨_, rfl⟩
            rw [← hR2]
            clear hq20 hx20
            by_cases h40 : (40 : Int) < (NU : Int)
            · have hd40 : decide ((40 : Int) < (NU : Int)) = true := decide_eq_true h40
              go_wp2_with fail
              go_ret
              exact ⟨by first | rfl | simp [hd40], HX20.out⟩
            · have hd40 : decide ((40 : Int) < (NU : Int)) = false := decide_eq_false h40
              have eR2 : (R2 == R2) = true := by simp
              have HR2 := Lib.hid hR2
              clear hR2
              go_wp2_with fail
              refine (restorable_any z y w20 (HU.out.extNo HX20.out)).mono ?_
              rintro q21 w21 ⟨rfl, hx21⟩
              rw [← HR2.out]
              go_wp2_with fail
              refine (sane19_any w21).mono ?_
              rintro q22 w22 ⟨rfl, hx22⟩
              go_wp2_with fail
              go_ret
              exact ⟨by first | rfl | simp, (HX20.out.transNo hx21).transNo hx22⟩
      · have hr := hr1 h0
        subst hr
        have eR0 : (RE == 0) = false := by rw [beq_eq_false_iff_ne]; exact h0
        clear hr1 hr2 h0
        go_wp2_with fail
        refine (restorable_any c n w4 (HLI.out.extNo HX4.out)).mono ?_
        rintro q5 w5 ⟨rfl, hx5⟩
        rw [← HRE.out]
        have HE5 := Lib.hid (HEX.out _ (HX4.out.transNo hx5))
        clear HEX HX4 hx5 HM
        go_wp2_with fail
        refine (mrestore_any z y w5 (HU.out.extNo HE5.out) HUK.out).mono ?_
        rintro q20 w20 hq20
        obtain ⟨p20, rfl, hx20⟩ := hq20.val
        have HX20 := Lib.hid ((HE5.out).transNo hx20)
        obtain ⟨R2, hR2⟩ : ∃ R2, R2 = restE z (LX.map Prod.fst) y := ⟨_, rfl⟩
        rw [← hR2]
        clear hq20 hx20
        by_cases h40 : (40 : Int) < (NU : Int)
        · have hd40 : decide ((40 : Int) < (NU : Int)) = true := decide_eq_true h40
          go_wp2_with fail
          go_ret
          exact ⟨by first | rfl | simp [hd40], HX20.out⟩
        · have hd40 : decide ((40 : Int) < (NU : Int)) = false := decide_eq_false h40
          have eR2 : (R2 == R2) = true := by simp
          have HR2 := Lib.hid hR2
          clear hR2
          go_wp2_with fail
          refine (restorable_any z y w20 (HU.out.extNo HX20.out)).mono ?_
          rintro q21 w21 ⟨rfl, hx21⟩
          rw [← HR2.out]
          go_wp2_with fail
          refine (sane19_any w21).mono ?_
          rintro q22 w22 ⟨rfl, hx22⟩
          go_wp2_with fail
          go_ret
          exact ⟨by first | rfl | simp, (HX20.out.transNo hx21).transNo hx22⟩
end Go.Proofs.Ytfejidihocoboaa

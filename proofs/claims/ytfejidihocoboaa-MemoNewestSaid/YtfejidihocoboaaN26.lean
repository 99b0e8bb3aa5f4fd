/- The walk of MemoNewest. -/
import Derived.Test.YtfejidihocoboaaN25
set_option linter.unusedVariables false
set_option linter.unusedSimpArgs false
namespace Go.Proofs.Ytfejidihocoboaa
open Go Go.RowKit
open Go.Maps (Keyed)
theorem infoI19 : (Try.prog.info? 3).map (fun i => (i.zero, i.size, i.bytes)) = some (some (.int .i64 0), 1, 8) := by kernel_rfl
theorem new_both {c n : Nat} {clk : Int} {es U : List Ent} (h : NewI c clk es U) (hn : n < 10) (h0 : 0 ≤ clk ∧ clk ≤ 1000) :
    ∃ U' clk' es', putM c clk es (0, 1, n) (sS n) = ⟨0, clk', es'⟩ ∧ NewI c clk' es' U' ∧ (clk ≤ clk' ∧ clk' ≤ clk + 1) ∧ usedE U' = nextU (usedE U) n c := by
  by_cases hc : c = 0
  · subst hc
    obtain ⟨h1, rfl, h3⟩ := new_zero (n := n) h
    exact ⟨[], clk, es, h1, h, by omega, h3.symm⟩
  · obtain ⟨U', h1, h2, h3, h4⟩ := new_step h hn h0 hc
    obtain ⟨⟨er, ck, es'⟩, hr⟩ : ∃ r, r = putM c clk es (0, 1, (n : Int)) (sS n) := ⟨_, rfl⟩
    rw [← hr] at h1 h2 h3 ⊢
    simp only at h1 h2 h3
    subst h2 h3
    exact ⟨U', _, _, rfl, h1, by omega, h4⟩
theorem NewI.ne {c : Nat} {clk : Int} {es U : List Ent} (h : NewI c clk es U) {j : Nat} (hj : j < (usedE U).length) : ∃ m : Nat, m < 10 ∧ (usedE U)[j] = (m : Int) ∧ getE (0, 1, (m : Int)) es = (sS m, true) := by
  have hj2 : j < U.length := by simpa [usedE] using hj
  obtain ⟨m, h1, h2, h3⟩ := h.key U[j] (List.getElem_mem hj2)
  refine ⟨m, h1, ?_, ?_⟩
  · simp only [usedE, List.getElem_map, h2]
  · rw [← h3]
    exact getE_some (sorted_nodup h.sort) (h.perm.mem_iff.1 (List.getElem_mem hj2)) h2
theorem ints_ofOwn {M : Nat → Prop} {b : Nat} {w : World} {v : Value} {n : Nat} {l : List Int} (h : w.ownsRow b 3 1 v n (l.map (.int .i64))) (hm : ∀ k, b ≤ k → ¬ M k) (hn : n = l.length) : Ints M w .i64 v l := by
  subst hn
  exact Row.ofOwns h hm
theorem drop_ints {M : Nat → Prop} {w : World} {b off n cap k : Nat} {l : List Int} (h : Ints M w .i64 (.slice (some ⟨b, off, none⟩) n cap) l) (hn : l.length = n) (hk : k ≤ n) :
    Ints M w .i64 (.slice (if cap = k then some ⟨b, off, none⟩ else some ⟨b, off + k, none⟩) (n - k) (cap - k)) (l.drop k) := by
  subst hn
  have hcap := (show Row M w 1 (.slice (some ⟨b, off, none⟩) l.length cap) l.length (l.map (.int .i64)) from h).caps
  by_cases hc : cap = k
  · have e : k = l.length := by omega
    have e2 : l.drop k = [] := List.drop_of_length_le (by omega)
    rw [e2, show l.length - k = 0 from by omega]
    exact Row.nil _ _ _ _ _ (by omega)
  · rw [if_neg hc]
    have h9 := Row.drop (show Row M w 1 (.slice (some ⟨b, off, none⟩) l.length cap) l.length (l.map (.int .i64)) from h) hk
    rw [Nat.mul_one, ← List.map_drop] at h9
    unfold Ints
    rw [List.length_drop]
    exact h9
theorem int1_one (u : Int) : ∀ v ∈ ([Value.int .i64 u] : List Value), v.oneCell' = true := fun v hv => by rw [List.mem_singleton.1 hv]; rfl
set_option maxRecDepth 100000 in
set_option maxHeartbeats 8000000 in
theorem memoNewest_any (a : Option Addr) (cap : Nat) (zs : List Int) (zc : Nat) (W : World) (h : Ints No W .u8 (.slice a zs.length cap) zs) (hz : ∀ z ∈ zs, 0 ≤ z ∧ z ≤ 255) (hzc : zc ≤ 255) :
    Calls Try.prog 4 #[.slice a zs.length cap, .int .u8 (zc : Int)] W (BoolPost true W) := by
  obtain ⟨iI, hiI, hI0, hI1, hI2⟩ := info_parts infoI19
  obtain ⟨c, hc⟩ : ∃ c, c = zc % 6 := ⟨_, rfl⟩
  have hcz : (zc : Int) % 6 = (c : Int) := by omega
  have hc6 : c < 6 := by omega
  clear hc
  have HZ := Lib.hid hz
  have H := Lib.hid h
  obtain ⟨N, hN⟩ : ∃ N, N = zs.length := ⟨_, rfl⟩
  rw [← hN] at H ⊢
  have HN := Lib.hid hN
  have hN63 := h.2.1
  rw [← hN] at hN63
  clear h hz hN
  go_enter Try.func4, Try.ntmps4
  go_wp2_with fail
  refine (mnew_any (c : Int) W).mono ?_
  rintro e1 w1 ⟨-, hn, hx1⟩
  obtain ⟨T, bm, rfl, hP⟩ := hn (by omega)
  have HX1 := Lib.hid hx1
  clear hn hx1
  unfold ptrV
  go_wp2_with fail
  go_loopw [8, 9] (fun s8 s9 wr => ∃ (k : Nat) (bm : Nat) (vk : Value) (L : List PE) (clk : Int) (es U : List Ent), s9 = .int .i64 k ∧ k ≤ 40 ∧ Hid (PTab (Lo W.heap.size) wr T c clk bm vk L) ∧ Hid (L.map Prod.fst = es) ∧ Hid (NewI c clk es U) ∧ 0 ≤ clk ∧ clk ≤ k ∧ Hid (Ints (POwn T bm vk L) wr .i64 s8 (usedE U)) ∧ Hid (∀ b, POwn T bm vk L b → W.heap.size ≤ b) ∧ Hid (Ext No W wr)) (fun _ s9 _ => 40 - (intOf s9).toNat)
  case atStart => exact ⟨0, bm, _, [], 0, [], [], rfl, by omega, hP, Lib.hid rfl, Lib.hid ⟨List.Perm.refl _, List.Pairwise.nil, fun e he => (by cases he), fun e he => (by cases he), Nat.zero_le _, List.Pairwise.nil⟩, by omega, by omega, Lib.hid (Row.nil _ _ _ _ _ (by omega)), Lib.hid (fun b hb => Nat.not_lt.1 (hP.out.t.out b hb)), HX1⟩
  case round =>
    clear hP HX1
    obtain ⟨k, bm, vk, L, clk, es, U, rfl, hk40, hP, hL, hI, hc0, hck, hU, hO, hX⟩ := hrel
    rename World => wr
    by_cases hlt : k < N ∧ k < 40
    · obtain ⟨hlt, hlt40⟩ := hlt
      have hlz : (k : Int) < (N : Int) := by omega
      have hlz40 : (k : Int) < 40 := by omega
      have hlz0 : (0 : Int) ≤ (k : Int) := by omega
      have HKK : Hid (Value.int .i64 ((k : Int) + 1) = .int .i64 ((k + 1 : Nat) : Int)) := Lib.hid (by rw [show ((k + 1 : Nat) : Int) = (k : Int) + 1 from by omega])
      have hkl : k < zs.length := by have := HN.out; omega
      obtain ⟨b, off, cap', hsl, -, -, hcell⟩ := Row.shape H.out (by omega)
      simp only [Value.slice.injEq] at hsl
      obtain ⟨rfl, -, rfl⟩ := hsl
      have q0 := hX.out.keep (hcell k (.int .u8 zs[k]) (by simp [hkl]))
      obtain ⟨z, hz⟩ : ∃ z : Nat, zs[k] = (z : Int) := ⟨zs[k].toNat, by have := HZ.out _ (List.getElem_mem hkl); omega⟩
      have hz255 : z ≤ 255 := by have := HZ.out _ (List.getElem_mem hkl); omega
      rw [hz] at q0
      obtain ⟨n, hn⟩ : ∃ n, n = z % 10 := ⟨_, rfl⟩
      have hnz : (z : Int) % 10 = (n : Int) := by omega
      have hn10 : n < 10 := by omega
      clear hcell hz hn hkl
      go_wp2_with fail
      refine (lset_any n (by omega) wr).mono ?_
      rintro e2 w2 ⟨g, rfl, hb, hg, hx2⟩
      obtain ⟨U', clk', es', hpm, hI', hck', hUU⟩ := new_both (n := n) hI.out hn10 (by omega)
      have hU5 : U.length ≤ 5 := by have := hI.out.len; omega
      have hlen : L.length ≤ 5 := by
        have h1 := pts_len hL.out
        have h2 := hI.out.perm.length_eq
        have h3 := hI.out.len
        omega
      have hput := mput_any (0, 1, (n : Int)) (sS n) (keyS (by simp only; omega)) (setW (i := n) hb.out (fun e => by have := hP.out.ownLt e; omega)) (fun b hb => by have := hX.out.size; have := hx2.size; unfold Lo at hb; omega) (hP.out.stepNo hx2) (pts_keys hL.out hI.out.sort) (by omega)
      rw [hL.out, hpm] at hput
      have HPUT := Lib.hid hput
      have HX2 := Lib.hid hx2
      have HI' := Lib.hid hI'
      have HUU := Lib.hid hUU
      clear hput hb hx2 hpm hI' hUU hlen q0
      unfold ptrV at HPUT
      go_wp2_with fail
      refine HPUT.out.mono ?_
      rintro e3 w3 ⟨bm3, vk3, L3, rfl, hP3, hL3, hX3, hO3⟩
      have HU3 := Lib.hid (show Ints (POwn T bm3 vk3 L3) w3 .i64 u8 (usedE U) from Row.mono ((Row.mono (M' := fun b => POwn T bm vk L b ∨ POwn T bm3 vk3 L3 b) (Row.extNo hU.out HX2.out) (fun i hi e => e.elim id (fun e => (hO3.out i e).elim id (fun h => by omega)))).ext hX3 (fun i _ e => .inl e)) (fun i _ e => .inr e))
      have HX3 := Lib.hid (show Ext No W w3 from (hX.out.transNo HX2.out).trans2 hX3 (fun i hi e => by have := hO.out i e; omega))
      have HO3 := Lib.hid (show ∀ b, POwn T bm3 vk3 L3 b → W.heap.size ≤ b from fun b hb => (hO3.out b hb).elim (hO.out b) (fun h => Nat.le_trans (Nat.le_trans hX.out.size HX2.out.size) h))
      have hL3c : ¬ (c : Int) < (L3.length : Int) := by
        have h1 := pts_len hL3.out
        have h2 := HI'.out.perm.length_eq
        have h3 := HI'.out.len
        omega
      clear hP hL hI hU hO hX hX3 hO3 HPUT HX2
      go_wp2_with fail
      refine (mlen_any hP3.out).mono ?_
      rintro e4 w4 ⟨rfl, hw4⟩
      have hPX := hP3
      obtain ⟨wq, hwq⟩ : ∃ wq, wq = w3 := ⟨_, rfl⟩
      rw [← hwq] at hw4 hP3 HU3 HX3
      rw [hw4]
      clear hPX hw4 hwq
      obtain ⟨ua, uc, hus⟩ := Row.slice HU3.out
      subst hus
      obtain ⟨NU, hNU⟩ : ∃ NU, NU = (usedE U).length := ⟨_, rfl⟩
      have HNU := Lib.hid hNU
      rw [← hNU] at HU3 ⊢
      have hNU63 : NU ≤ 5 := by rw [hNU]; simp only [usedE, List.length_map]; omega
      clear hNU
      go_wp2_with fail
      clear hL3c
      go_loopw [11, 12] (fun s11 s12 wz => ∃ (j : Nat) (V : List Int), s12 = .int .i64 j ∧ j ≤ NU ∧ Hid (V = ((usedE U).take j).filter (fun u => !decide (u = (n : Int)))) ∧ Hid (wz.ownsRow wq.heap.size 3 1 s11 V.length (V.map (.int .i64))) ∧ Hid (Ext No wq wz)) (fun _ s12 _ => NU - (intOf s12).toNat)
      case atStart => exact ⟨0, [], rfl, Nat.zero_le _, Lib.hid rfl, Lib.hid (World.ownsRow_nil _ _ _ _), Lib.hid (Ext.refl _ _)⟩
      case round =>
        obtain ⟨j, V, rfl, hj, hV, hOV, hXZ⟩ := hrel
        rename World => wz
        have hVL : V.length ≤ 5 := by
          have h1 := congrArg List.length hV.out
          have h2 := List.length_filter_le (fun u => !decide (u = (n : Int))) ((usedE U).take j)
          rw [List.length_take] at h2
          omega
        by_cases hjl : j < NU
        · have hjz : (j : Int) < (NU : Int) := by omega
          have hjz0 : (0 : Int) ≤ (j : Int) := by omega
          have HJJ : Hid (Value.int .i64 ((j : Int) + 1) = .int .i64 ((j + 1 : Nat) : Int)) := Lib.hid (by rw [show ((j + 1 : Nat) : Int) = (j : Int) + 1 from by omega])
          have hju : j < (usedE U).length := by have := HNU.out; omega
          have HJU := Lib.hid hju
          obtain ⟨b, off, cap', hsl, -, -, hcell⟩ := Row.shape HU3.out (by omega)
          simp only [Value.slice.injEq] at hsl
          obtain ⟨rfl, -, rfl⟩ := hsl
          obtain ⟨u, hu⟩ : ∃ u, u = (usedE U)[j]'HJU.out := ⟨_, rfl⟩
          have q1 := hXZ.out.keep (hcell j (.int .i64 u) (by rw [hu]; simp [hju]))
          have HTS := Lib.hid (show (usedE U).take (j + 1) = (usedE U).take j ++ [u] from by rw [List.take_succ_eq_append_getElem hju, hu])
          clear hcell hu hju
          by_cases hun : u = (n : Int)
          · have hub : (u != (n : Int)) = false := by simp [hun]
            have HUN := Lib.hid hun
            clear hun
            go_wp2_with fail
            go_roundw
            case rel => exact ⟨j + 1, V, HJJ.out, by omega, Lib.hid (by rw [HTS.out, List.filter_append, List.filter_cons, if_neg (by simp [HUN.out]), List.filter_nil, List.append_nil]; exact hV.out), hOV, hXZ⟩
            case measure => simp [intOf]; omega
          · have hub : (u != (n : Int)) = true := by simp [hun]
            have HUN := Lib.hid hun
            clear hun
            go_wp2_with (at_builtin; (refine wpList_app _ rfl (.tmp 70) (.tmp 75) 22 rfl wq.heap.size 3 iI _ 1 8 Try.underlying22 hiI hI0 hI1 hI2 rfl (by omega) u11 V.length (V.map (.int .i64)) rfl (row_keep2 hOV.out ((Ext.refl No wz).alloc _) no_no2) No (some ⟨wz.heap.size, 0, none⟩) 1 1 [.int .i64 u] rfl (Row.block (cs := #[.int .i64 u]) (alloc_top rfl) rfl no_no (by omega)) (int1_one _) (by omega) (by omega) (by simp; have := hXZ.out.size; omega) ?_); (intro v9 w9 hown9 hg9 hv9); go_frame)
            have hX9 := Lib.hid ((hXZ.out.transNo ((Ext.refl No wz).alloc (.cells #[.int .i64 u] 3))).trans2 ((Ext.refl (fun k => u11.ownBlock = some k) _).grown hg9 (fun k hk _ => hk)) (fun i hi e => by have := (World.ownsRow.lt hOV.out i e).1; omega))
            go_roundw
            case rel => exact ⟨j + 1, V ++ [u], HJJ.out, by omega, Lib.hid (by rw [HTS.out, List.filter_append, List.filter_cons, if_pos (by simp [HUN.out]), List.filter_nil, hV.out]), Lib.hid (by rw [List.length_append, List.map_append]; exact hown9), hX9⟩
            case measure => simp [intOf]; omega
        · have hjN : j = NU := by omega
          have hge : ¬ (j : Int) < (NU : Int) := by omega
          have HVV := Lib.hid (show V = (usedE U).filter (fun u => !decide (u = (n : Int))) from by rw [hV.out, List.take_of_length_le (by have := HNU.out; omega)])
          clear hV
          go_upto_region 18 with (fail)
          go_upto_region 19 with (at_builtin; (refine wpList_app _ rfl (.tmp 77) (.tmp 79) 22 rfl wq.heap.size 3 iI _ 1 8 Try.underlying22 hiI hI0 hI1 hI2 rfl (by omega) u11 V.length (V.map (.int .i64)) rfl (row_keep2 hOV.out ((Ext.refl No wz).alloc _) no_no2) No (some ⟨wz.heap.size, 0, none⟩) 1 1 [.int .i64 (n : Int)] rfl (Row.block (cs := #[.int .i64 (n : Int)]) (alloc_top rfl) rfl no_no (by omega)) (int1_one _) (by omega) (by omega) (by simp; have := hXZ.out.size; omega) ?_); (intro v9 w9 hown9 hg9 hv9); go_frame)
          have HX9 := Lib.hid (show Ext No wq w9 from (hXZ.out.transNo ((Ext.refl No wz).alloc (.cells #[.int .i64 (n : Int)] 3))).trans2 ((Ext.refl (fun k => u11.ownBlock = some k) _).grown hg9 (fun k hk _ => hk)) (fun i hi e => by have := (World.ownsRow.lt hOV.out i e).1; omega))
          have HR9 := Lib.hid (show Ints (POwn T bm3 vk3 L3) w9 .i64 v9 (V ++ [(n : Int)]) from ints_ofOwn (l := V ++ [(n : Int)]) (by rw [List.map_append]; exact hown9) (fun b hb e => by have := hP3.out.ownLt e; omega) (by simp))
          have HNX := Lib.hid (show nextU (usedE U) (n : Int) c = (V ++ [(n : Int)]).drop ((V ++ [(n : Int)]).length - c) from by unfold nextU; rw [← HVV.out])
          have hV1 : (V ++ [(n : Int)]).length = V.length + 1 := by simp
          obtain ⟨M1, hM1⟩ : ∃ M1, M1 = V.length + 1 := ⟨_, rfl⟩
          obtain ⟨a9, c9, hs9⟩ := Row.slice HR9.out
          rw [hV1, ← hM1] at hs9
          subst hs9
          have HV1 := Lib.hid (hV1.trans hM1.symm)
          have hM16 : M1 ≤ 6 := by omega
          have hP9 := Lib.hid (hP3.out.stepNo HX9.out)
          have HXW := Lib.hid (HX3.out.transNo HX9.out)
          clear hown9 hg9 hv9 hOV hXZ hV1 hM1 HVV
          by_cases hcm : c < M1
          · have hcz2 : (c : Int) < (M1 : Int) := by omega
            have hrow : Row (POwn T bm3 vk3 L3) w9 1 (.slice a9 M1 c9) M1 ((V ++ [(n : Int)]).map (.int .i64)) := by have h9 := HR9.out; unfold Ints at h9; rw [HV1.out] at h9; exact h9
            obtain ⟨b9, off9, cc9, hs9, -, -, -⟩ := hrow.shape (by omega)
            simp only [Value.slice.injEq] at hs9
            obtain ⟨rfl, -, rfl⟩ := hs9
            have hcap := hrow.caps.1
            have d1 : (0 : Int) ≤ (M1 : Int) - (c : Int) := by omega
            have d2 : (M1 : Int) - (c : Int) ≤ (M1 : Int) := by omega
            have d3 : (M1 : Int) ≤ (c9 : Int) := by omega
            have d4 : ((M1 : Int) - (c : Int)).toNat = M1 - c := by omega
            have d5 : IntKind.i64.wrap ((M1 : Int) - (c : Int)) = (M1 : Int) - (c : Int) := by rw [IntKind.wrap_i64]; omega
            have hfin := drop_ints HR9.out HV1.out (k := M1 - c) (by omega)
            go_wp2_with fail
            go_roundw
            case rel => exact ⟨k + 1, bm3, vk3, L3, clk', es', U', HKK.out, by omega, hP9, hL3, HI', by omega, by omega, Lib.hid (by rw [HUU.out, HNX.out, HV1.out]; exact hfin), HO3, HXW⟩
            case measure => simp [intOf]; omega
          · have hcz2 : ¬ (c : Int) < (M1 : Int) := by omega
            go_wp2_with fail
            go_roundw
            case rel => exact ⟨k + 1, bm3, vk3, L3, clk', es', U', HKK.out, by omega, hP9, hL3, HI', by omega, by omega, Lib.hid (by rw [HUU.out, HNX.out, HV1.out, show M1 - c = 0 from by omega, List.drop_zero]; exact HR9.out), HO3, HXW⟩
            case measure => simp [intOf]; omega
    · have hEnd : Hid (¬ (k < N ∧ k < 40)) := Lib.hid hlt
      have hul : (usedE U).length ≤ 5 := by
        have h3 := hI.out.len
        simp only [usedE, List.length_map]
        omega
      obtain ⟨ua, uc, hus⟩ := Row.slice hU.out
      subst hus
      obtain ⟨NU, hNU⟩ : ∃ NU, NU = (usedE U).length := ⟨_, rfl⟩
      have HNU := Lib.hid hNU
      rw [← hNU] at hU hul ⊢
      have hLU : L.length = NU := by
        have h1 := pts_len hL.out
        have h2 := hI.out.perm.length_eq
        rw [hNU]; simp only [usedE, List.length_map]; omega
      have hL5 : L.length ≤ 5 := by omega
      have HLU := Lib.hid hLU
      clear hNU hLU hc0 hck hk40
      by_cases hkN : k < N
      · have hkz : (k : Int) < (N : Int) := by omega
        have hkz4 : ¬ (k : Int) < 40 := by have := hEnd.out; omega
        go_wp2_with fail
        go_loopw [13] (fun s13 wz => ∃ j : Nat, s13 = .int .i64 j ∧ j ≤ NU ∧ Hid (Ext No wr wz)) (fun s13 _ => NU - (intOf s13).toNat)
        case atStart => exact ⟨0, rfl, Nat.zero_le _, Lib.hid (Ext.refl _ _)⟩
        case round =>
          obtain ⟨j, rfl, hj, hXZ⟩ := hrel
          rename World => wz
          by_cases hjl : j < NU
          · have hjz : (j : Int) < (NU : Int) := by omega
            have hjz0 : (0 : Int) ≤ (j : Int) := by omega
            have HJJ : Hid (Value.int .i64 ((j : Int) + 1) = .int .i64 ((j + 1 : Nat) : Int)) := Lib.hid (by rw [show ((j + 1 : Nat) : Int) = (j : Int) + 1 from by omega])
            have hju : j < (usedE U).length := by have := HNU.out; omega
            obtain ⟨b, off, cap', hsl, -, -, hcell⟩ := Row.shape hU.out (by omega)
            simp only [Value.slice.injEq] at hsl
            obtain ⟨rfl, -, rfl⟩ := hsl
            obtain ⟨m, hm10, hmu, hget⟩ := hI.out.ne hju
            have q1 := hXZ.out.keep (hcell j (.int .i64 (m : Int)) (by rw [← hmu]; simp [hju]))
            have hg := mget_any (0, 1, (m : Int)) (keyS (by simp only; omega)) (hP.out.stepNo hXZ.out) (fun e he => by
              obtain ⟨n9, _, _, hs9⟩ := hI.out.key e.1 (hI.out.perm.mem_iff.2 (by rw [← hL.out]; exact List.mem_map_of_mem he))
              rw [hs9]
              exact validB_set (by omega) (Nat.pow_lt_pow_right (by decide) (Nat.mod_lt _ (by decide))))
            unfold GetPost at hg
            rw [hL.out, hget] at hg
            have HG := Lib.hid hg
            have HQ0 := Lib.hid q1
            clear hcell hju hmu hget hg
            unfold ptrV at HG
            go_wp2_with fail
            clear q1
            refine HG.out.mono ?_
            rintro e5 w5 ⟨ga, gc, rfl, hgw, hx5⟩
            have HX5 := Lib.hid (hXZ.out.transNo hx5)
            have HQ5 := Lib.hid (hx5.keep HQ0.out)
            have HGW := Lib.hid (hgw.out.mono (M' := No) (fun _ _ x => x.elim))
            clear hgw hx5 HG
            go_upto_region 25 with (fail)
            have hx6 : Ext No w5 (w5.alloc (.cells #[.int .i64 (sS m).width, .slice ga (sS m).words.length gc] 40)) := (Ext.refl _ _).alloc _
            have HVX := Lib.hid (alloc_top (w := w5) (o := .cells #[.int .i64 (sS m).width, .slice ga (sS m).words.length gc] 40) rfl)
            have HVW := Lib.hid (HGW.out.extNo hx6)
            have HQ := Lib.hid (hx6.keep HQ5.out)
            have HX9 := Lib.hid (HX5.out.transNo hx6)
            clear hx6
            generalize (w5.alloc (.cells #[.int .i64 (sS m).width, .slice ga (sS m).words.length gc] 40)) = wv at *
            generalize w5.heap.size = vb at *
            refine wp_region_held_drew (S := (fun w' => Ext No wv w')) (by kernel_rfl) ?_ (fun hHeld => ?_)
            · exact (Ext.refl _ _).drew
            have HEV := Lib.hid (show Ext No wv wv.drew from (Ext.refl _ _).drew)
            generalize wv.drew = v0 at *
            refine held_take (i := 0) (v := ?_) rfl (by kernel_rfl) (by kernel_rfl) (by kernel_rfl) (fun _ _ _ h => h) rfl (fun w hSw => ?_) hHeld ?_
            rotate_left
            · go_simp; (try with_reducible rfl)
            try simp only [Act.put, List.setIfInBounds_toArray, List.set_cons_zero, List.set_cons_succ]
            refine held_take (i := 1) (v := ?_) rfl (by kernel_rfl) (by kernel_rfl) (by kernel_rfl) (fun _ _ _ h => h) rfl (fun w hSw => ?_) hHeld ?_
            rotate_left
            · go_simp; (try with_reducible rfl)
            try simp only [Act.put, List.setIfInBounds_toArray, List.set_cons_zero, List.set_cons_succ]
            refine held_take (i := 2) (v := ?_) rfl (by kernel_rfl) (by kernel_rfl) (by kernel_rfl) (fun _ _ _ h => h) rfl (fun w hSw => ?_) hHeld ?_
            rotate_left
            · go_simp; (try with_reducible rfl)
            try simp only [Act.put, List.setIfInBounds_toArray, List.set_cons_zero, List.set_cons_succ]
            refine held_take (i := 3) (v := ?_) rfl (by kernel_rfl) (by kernel_rfl) (by kernel_rfl) (fun _ _ _ h => h) rfl (fun w hSw => ?_) hHeld ?_
            rotate_left
            · (have hEs : Ext No wv _ := hSw); (have x0 := cellOf (hEs.blk HVX.out no_no)); go_simp; (try with_reducible rfl)
            try simp only [Act.put, List.setIfInBounds_toArray, List.set_cons_zero, List.set_cons_succ]
            refine held_take (i := 4) (v := ?_) rfl (by kernel_rfl) (by kernel_rfl) (by kernel_rfl) (fun _ _ _ h => h) rfl (fun w hSw => ?_) hHeld ?_
            rotate_left
            · go_simp; (try with_reducible rfl)
            try simp only [Act.put, List.setIfInBounds_toArray, List.set_cons_zero, List.set_cons_succ]
            refine held_take (i := 5) (v := ?_) rfl (by kernel_rfl) (by kernel_rfl) (by kernel_rfl) (fun _ _ _ h => h) rfl (fun w hSw => ?_) hHeld ?_
            rotate_left
            · go_simp; (try with_reducible rfl)
            try simp only [Act.put, List.setIfInBounds_toArray, List.set_cons_zero, List.set_cons_succ]
            refine held_take (i := 6) (v := ?_) rfl (by kernel_rfl) (by kernel_rfl) (by kernel_rfl) (fun _ _ _ h => h) rfl (fun w hSw => ?_) hHeld ?_
            rotate_left
            · go_simp; (try with_reducible rfl)
            try simp only [Act.put, List.setIfInBounds_toArray, List.set_cons_zero, List.set_cons_succ]
            refine held_take (i := 7) (v := ?_) rfl (by kernel_rfl) (by kernel_rfl) (by kernel_rfl) (fun _ _ _ h => h) rfl (fun w hSw => ?_) hHeld ?_
            rotate_left
            · (have hEs : Ext No wv _ := hSw); (have x0 := hEs.keep HQ.out); go_simp; (try with_reducible rfl)
            try simp only [Act.put, List.setIfInBounds_toArray, List.set_cons_zero, List.set_cons_succ]
            refine held_call (i := 8) rfl (by kernel_rfl) rfl (fun K hK => ?_)
            (go_simp; go_at_call 17; (refine (lset_any m (by omega) _).mono ?_); (rintro q1 w1 ⟨g1, rfl, hb1, hg1, hyA⟩); go_simp)
            refine hK.out _ _ ?_ (fun hNew => ?_)
            · exact HEV.out.transNo hyA
            clear hK K hHeld
            have hHeld := hNew
            clear hNew
            have HE1 := Lib.hid (HEV.out.transNo hyA)
            have HB1 := Lib.hid hb1.out
            have HVB1 := Lib.hid (HVW.out.extNo HE1.out)
            clear hyA hb1
            try simp only [Act.put, List.setIfInBounds_toArray, List.set_cons_zero, List.set_cons_succ]
            refine held_call (i := 9) rfl (by kernel_rfl) rfl (fun K hK => ?_)
            (go_simp; go_at_call 20; (refine (rsame_any (sS m) (sS m) _ _ _ ⟨_, rfl, HVB1.out⟩ ⟨_, rfl, setW (i := m) HB1.out no_no⟩).mono ?_); (rintro q2 w2 ⟨rfl, hyA⟩); (rw [show sameB (sS m) (sS m) = true from decide_eq_true ⟨rfl, rfl⟩]); go_simp)
            refine hK.out _ _ ?_ (fun hNew => ?_)
            · exact HE1.out.transNo hyA
            clear hK K hHeld
            have hHeld := hNew
            clear hNew
            clear hyA
            try simp only [Act.put, List.setIfInBounds_toArray, List.set_cons_zero, List.set_cons_succ]
            refine held_take (i := 10) (v := ?_) rfl (by kernel_rfl) (by kernel_rfl) (by kernel_rfl) (fun _ _ _ h => h) rfl (fun w hSw => ?_) hHeld ?_
            rotate_left
            · go_simp; (try with_reducible rfl)
            try simp only [Act.put, List.setIfInBounds_toArray, List.set_cons_zero, List.set_cons_succ]
            refine held_take (i := 11) (v := ?_) rfl (by kernel_rfl) (by kernel_rfl) (by kernel_rfl) (fun _ _ _ h => h) rfl (fun w hSw => ?_) hHeld ?_
            rotate_left
            · go_simp; (try with_reducible rfl)
            try simp only [Act.put, List.setIfInBounds_toArray, List.set_cons_zero, List.set_cons_succ]
            refine wpAnyH_done (by kernel_rfl) ?_ _
            have HE2 := Lib.hid (show Ext No wv w2 from hHeld)
            clear hHeld
            go_wp2_with fail
            go_roundw
            case rel => exact ⟨j + 1, HJJ.out, by omega, Lib.hid (HX9.out.transNo HE2.out)⟩
            case measure => simp [intOf]; omega
          · have hge : ¬ (j : Int) < (NU : Int) := by omega
            go_wp2_with fail
            refine (mlen_any (hP.out.stepNo hXZ.out)).mono ?_
            rintro e6 w6 ⟨rfl, hw6⟩
            obtain ⟨wq, hwq⟩ : ∃ wq, wq = wz := ⟨_, rfl⟩
            rw [← hwq] at hw6 hXZ
            rw [hw6]
            clear hw6 hwq
            have hlu : ((L.length : Int) == (NU : Int)) = true := by rw [beq_iff_eq, HLU.out]
            go_wp2_with fail
            refine (sane19_any wq).mono ?_
            rintro e7 w7 ⟨rfl, hx7⟩
            go_wp2_with fail
            go_ret
            exact ⟨rfl, (hX.out.transNo hXZ.out).transNo hx7⟩
      · have hkz : ¬ (k : Int) < (N : Int) := by omega
        go_wp2_with fail
        go_loopw [13] (fun s13 wz => ∃ j : Nat, s13 = .int .i64 j ∧ j ≤ NU ∧ Hid (Ext No wr wz)) (fun s13 _ => NU - (intOf s13).toNat)
        case atStart => exact ⟨0, rfl, Nat.zero_le _, Lib.hid (Ext.refl _ _)⟩
        case round =>
          obtain ⟨j, rfl, hj, hXZ⟩ := hrel
          rename World => wz
          by_cases hjl : j < NU
          · have hjz : (j : Int) < (NU : Int) := by omega
            have hjz0 : (0 : Int) ≤ (j : Int) := by omega
            have HJJ : Hid (Value.int .i64 ((j : Int) + 1) = .int .i64 ((j + 1 : Nat) : Int)) := Lib.hid (by rw [show ((j + 1 : Nat) : Int) = (j : Int) + 1 from by omega])
            have hju : j < (usedE U).length := by have := HNU.out; omega
            obtain ⟨b, off, cap', hsl, -, -, hcell⟩ := Row.shape hU.out (by omega)
            simp only [Value.slice.injEq] at hsl
            obtain ⟨rfl, -, rfl⟩ := hsl
            obtain ⟨m, hm10, hmu, hget⟩ := hI.out.ne hju
            have q1 := hXZ.out.keep (hcell j (.int .i64 (m : Int)) (by rw [← hmu]; simp [hju]))
            have hg := mget_any (0, 1, (m : Int)) (keyS (by simp only; omega)) (hP.out.stepNo hXZ.out) (fun e he => by
              obtain ⟨n9, _, _, hs9⟩ := hI.out.key e.1 (hI.out.perm.mem_iff.2 (by rw [← hL.out]; exact List.mem_map_of_mem he))
              rw [hs9]
              exact validB_set (by omega) (Nat.pow_lt_pow_right (by decide) (Nat.mod_lt _ (by decide))))
            unfold GetPost at hg
            rw [hL.out, hget] at hg
            have HG := Lib.hid hg
            have HQ0 := Lib.hid q1
            clear hcell hju hmu hget hg
            unfold ptrV at HG
            go_wp2_with fail
            clear q1
            refine HG.out.mono ?_
            rintro e5 w5 ⟨ga, gc, rfl, hgw, hx5⟩
            have HX5 := Lib.hid (hXZ.out.transNo hx5)
            have HQ5 := Lib.hid (hx5.keep HQ0.out)
            have HGW := Lib.hid (hgw.out.mono (M' := No) (fun _ _ x => x.elim))
            clear hgw hx5 HG
            go_upto_region 25 with (fail)
            have hx6 : Ext No w5 (w5.alloc (.cells #[.int .i64 (sS m).width, .slice ga (sS m).words.length gc] 40)) := (Ext.refl _ _).alloc _
            have HVX := Lib.hid (alloc_top (w := w5) (o := .cells #[.int .i64 (sS m).width, .slice ga (sS m).words.length gc] 40) rfl)
            have HVW := Lib.hid (HGW.out.extNo hx6)
            have HQ := Lib.hid (hx6.keep HQ5.out)
            have HX9 := Lib.hid (HX5.out.transNo hx6)
            clear hx6
            generalize (w5.alloc (.cells #[.int .i64 (sS m).width, .slice ga (sS m).words.length gc] 40)) = wv at *
            generalize w5.heap.size = vb at *
            refine wp_region_held_drew (S := (fun w' => Ext No wv w')) (by kernel_rfl) ?_ (fun hHeld => ?_)
            · exact (Ext.refl _ _).drew
            have HEV := Lib.hid (show Ext No wv wv.drew from (Ext.refl _ _).drew)
            generalize wv.drew = v0 at *
            refine held_take (i := 0) (v := ?_) rfl (by kernel_rfl) (by kernel_rfl) (by kernel_rfl) (fun _ _ _ h => h) rfl (fun w hSw => ?_) hHeld ?_
            rotate_left
            · go_simp; (try with_reducible rfl)
            try simp only [Act.put, List.setIfInBounds_toArray, List.set_cons_zero, List.set_cons_succ]
            refine held_take (i := 1) (v := ?_) rfl (by kernel_rfl) (by kernel_rfl) (by kernel_rfl) (fun _ _ _ h => h) rfl (fun w hSw => ?_) hHeld ?_
            rotate_left
            · go_simp; (try with_reducible rfl)
            try simp only [Act.put, List.setIfInBounds_toArray, List.set_cons_zero, List.set_cons_succ]
            refine held_take (i := 2) (v := ?_) rfl (by kernel_rfl) (by kernel_rfl) (by kernel_rfl) (fun _ _ _ h => h) rfl (fun w hSw => ?_) hHeld ?_
            rotate_left
            · go_simp; (try with_reducible rfl)
            try simp only [Act.put, List.setIfInBounds_toArray, List.set_cons_zero, List.set_cons_succ]
            refine held_take (i := 3) (v := ?_) rfl (by kernel_rfl) (by kernel_rfl) (by kernel_rfl) (fun _ _ _ h => h) rfl (fun w hSw => ?_) hHeld ?_
            rotate_left
            · (have hEs : Ext No wv _ := hSw); (have x0 := cellOf (hEs.blk HVX.out no_no)); go_simp; (try with_reducible rfl)
            try simp only [Act.put, List.setIfInBounds_toArray, List.set_cons_zero, List.set_cons_succ]
            refine held_take (i := 4) (v := ?_) rfl (by kernel_rfl) (by kernel_rfl) (by kernel_rfl) (fun _ _ _ h => h) rfl (fun w hSw => ?_) hHeld ?_
            rotate_left
            · go_simp; (try with_reducible rfl)
            try simp only [Act.put, List.setIfInBounds_toArray, List.set_cons_zero, List.set_cons_succ]
            refine held_take (i := 5) (v := ?_) rfl (by kernel_rfl) (by kernel_rfl) (by kernel_rfl) (fun _ _ _ h => h) rfl (fun w hSw => ?_) hHeld ?_
            rotate_left
            · go_simp; (try with_reducible rfl)
            try simp only [Act.put, List.setIfInBounds_toArray, List.set_cons_zero, List.set_cons_succ]
            refine held_take (i := 6) (v := ?_) rfl (by kernel_rfl) (by kernel_rfl) (by kernel_rfl) (fun _ _ _ h => h) rfl (fun w hSw => ?_) hHeld ?_
            rotate_left
            · go_simp; (try with_reducible rfl)
            try simp only [Act.put, List.setIfInBounds_toArray, List.set_cons_zero, List.set_cons_succ]
            refine held_take (i := 7) (v := ?_) rfl (by kernel_rfl) (by kernel_rfl) (by kernel_rfl) (fun _ _ _ h => h) rfl (fun w hSw => ?_) hHeld ?_
            rotate_left
            · (have hEs : Ext No wv _ := hSw); (have x0 := hEs.keep HQ.out); go_simp; (try with_reducible rfl)
            try simp only [Act.put, List.setIfInBounds_toArray, List.set_cons_zero, List.set_cons_succ]
            refine held_call (i := 8) rfl (by kernel_rfl) rfl (fun K hK => ?_)
            (go_simp; go_at_call 17; (refine (lset_any m (by omega) _).mono ?_); (rintro q1 w1 ⟨g1, rfl, hb1, hg1, hyA⟩); go_simp)
            refine hK.out _ _ ?_ (fun hNew => ?_)
            · exact HEV.out.transNo hyA
            clear hK K hHeld
            have hHeld := hNew
            clear hNew
            have HE1 := Lib.hid (HEV.out.transNo hyA)
            have HB1 := Lib.hid hb1.out
            have HVB1 := Lib.hid (HVW.out.extNo HE1.out)
            clear hyA hb1
            try simp only [Act.put, List.setIfInBounds_toArray, List.set_cons_zero, List.set_cons_succ]
            refine held_call (i := 9) rfl (by kernel_rfl) rfl (fun K hK => ?_)
            (go_simp; go_at_call 20; (refine (rsame_any (sS m) (sS m) _ _ _ ⟨_, rfl, HVB1.out⟩ ⟨_, rfl, setW (i := m) HB1.out no_no⟩).mono ?_); (rintro q2 w2 ⟨rfl, hyA⟩); (rw [show sameB (sS m) (sS m) = true from decide_eq_true ⟨rfl, rfl⟩]); go_simp)
            refine hK.out _ _ ?_ (fun hNew => ?_)
            · exact HE1.out.transNo hyA
            clear hK K hHeld
            have hHeld := hNew
            clear hNew
            clear hyA
            try simp only [Act.put, List.setIfInBounds_toArray, List.set_cons_zero, List.set_cons_succ]
            refine held_take (i := 10) (v := ?_) rfl (by kernel_rfl) (by kernel_rfl) (by kernel_rfl) (fun _ _ _ h => h) rfl (fun w hSw => ?_) hHeld ?_
            rotate_left
            · go_simp; (try with_reducible rfl)
            try simp only [Act.put, List.setIfInBounds_toArray, List.set_cons_zero, List.set_cons_succ]
            refine held_take (i := 11) (v := ?_) rfl (by kernel_rfl) (by kernel_rfl) (by kernel_rfl) (fun _ _ _ h => h) rfl (fun w hSw => ?_) hHeld ?_
            rotate_left
            · go_simp; (try with_reducible rfl)
            try simp only [Act.put, List.setIfInBounds_toArray, List.set_cons_zero, List.set_cons_succ]
            refine wpAnyH_done (by kernel_rfl) ?_ _
            have HE2 := Lib.hid (show Ext No wv w2 from hHeld)
            clear hHeld
            go_wp2_with fail
            go_roundw
            case rel => exact ⟨j + 1, HJJ.out, by omega, Lib.hid (HX9.out.transNo HE2.out)⟩
            case measure => simp [intOf]; omega
          · have hge : ¬ (j : Int) < (NU : Int) := by omega
            go_wp2_with fail
            refine (mlen_any (hP.out.stepNo hXZ.out)).mono ?_
            rintro e6 w6 ⟨rfl, hw6⟩
            obtain ⟨wq, hwq⟩ : ∃ wq, wq = wz := ⟨_, rfl⟩
            rw [← hwq] at hw6 hXZ
            rw [hw6]
            clear hw6 hwq
            have hlu : ((L.length : Int) == (NU : Int)) = true := by rw [beq_iff_eq, HLU.out]
            go_wp2_with fail
            refine (sane19_any wq).mono ?_
            rintro e7 w7 ⟨rfl, hx7⟩
            go_wp2_with fail
            go_ret
            exact ⟨rfl, (hX.out.transNo hXZ.out).transNo hx7⟩
end Go.Proofs.Ytfejidihocoboaa

/- Known of the reference. -/
import Derived.Test.YtfejidihocoboaaN43
set_option linter.unusedVariables false
set_option linter.unusedSimpArgs false
namespace Go.Proofs.Ytfejidihocoboaa
open Go Go.RowKit
set_option maxRecDepth 100000 in
set_option maxHeartbeats 8000000 in
theorem rknown_any (p q : Int) {M : Nat → Prop} {W : World} {D : Nat} {cap clk : Int} {v : Value} {LL : List EV} (h : RTab M W D cap clk v LL) (hl : LL.length ≤ 1000) :
    Calls Try.prog 53 #[ptrV D, .int .i64 p, .int .i64 q] W (KnPost p q (LL.map Prod.fst) W) := by
  obtain ⟨iE, hiE, hE0, hE1, hE2⟩ := info_parts infoKn
  have H := Lib.hid h.list
  have HB := Lib.hid h.box
  obtain ⟨a, c, hsl0⟩ := h.list.slice
  rw [hsl0] at H HB
  obtain ⟨N, hN⟩ : ∃ N, N = LL.length := ⟨_, rfl⟩
  rw [← hN] at H HB hl
  have HN := Lib.hid hN
  clear h hN hsl0
  unfold ptrV
  have c0 := cellOf HB.out
  go_enter Try.func53, Try.ntmps53
  go_wp2_with fail
  clear c0
  go_loopw [7, 8] (fun s7 s8 wr => ∃ (k : Nat) (L1 : List KN), s8 = .int .i64 k ∧ k ≤ N ∧ Hid (L1.map Prod.fst = knownE p q ((LL.take k).map Prod.fst)) ∧ Hid (wr.ownsRow W.heap.size 106 3 s7 L1.length (L1.flatMap kW.cells)) ∧ Hid (∀ r ∈ L1, WordsAt No W r.2 r.1.2.words) ∧ Hid (Ext No W wr)) (fun _ s8 _ => N - (intOf s8).toNat)
  case atStart => exact ⟨0, [], rfl, Nat.zero_le _, Lib.hid rfl, Lib.hid (LOwn.nil kW No W W.heap.size).own, Lib.hid (fun _ h => by cases h), Lib.hid (Ext.refl _ _)⟩
  case round =>
    obtain ⟨k, L1, rfl, hk, hL1, hO, hWS, hx⟩ := hrel
    rename World => wr
    obtain ⟨a1, c1, hs5⟩ := (Row.ofOwns (M := No) hO.out (fun _ _ x => x)).slice
    obtain ⟨m, hm⟩ : ∃ m, m = L1.length := ⟨_, rfl⟩
    have hl1 : m ≤ k := by
      have h1 := congrArg List.length hL1.out
      unfold knownE at h1
      rw [List.length_map, List.length_map] at h1
      rw [hm, h1]
      exact Nat.le_trans (List.length_filter_le _ _) (by simp; omega)
    rw [← hm] at hs5 hO
    subst hs5
    have HMN := Lib.hid hm
    clear hm
    have cD := cellOf (hx.out.blk HB.out no_no)
    by_cases hlt : k < N
    · have hlz : (k : Int) < (N : Int) := by omega
      have hlz0 : (0 : Int) ≤ (k : Int) := by omega
      have HKK : Hid (Value.int .i64 ((k : Int) + 1) = .int .i64 ((k + 1 : Nat) : Int)) := Lib.hid (by rw [show ((k + 1 : Nat) : Int) = (k : Int) + 1 from by omega])
      have hkl : k < LL.length := by have := HN.out; omega
      have HKL := Lib.hid hkl
      have HWK := Lib.hid (H.out.ok _ (List.getElem_mem hkl))
      obtain ⟨wa, wc, hwa⟩ := HWK.out.slice
      obtain ⟨b, off, cap', hsl, -, -, hc⟩ := (H.out.extNo hx.out).atE hkl
      rw [← HN.out] at hsl
      simp only [Value.slice.injEq] at hsl
      obtain ⟨rfl, -, rfl⟩ := hsl
      obtain ⟨d0, d1, d2, d3, d4, d5⟩ := hc k hkl
      rw [hwa] at d4
      obtain ⟨y, hy⟩ : ∃ y, y = (LL[k]'HKL.out).1 := ⟨_, rfl⟩
      rw [← hy] at d0 d1 d2 d3 d4 d5 hwa
      have HPE := Lib.hid (show LL[k]'HKL.out = (y, .slice wa y.s.words.length wc) from Prod.ext hy.symm hwa)
      have HWY := Lib.hid (show WordsAt No W (.slice wa y.s.words.length wc) y.s.words from by have h9 := HWK.out; rw [HPE.out] at h9; exact h9)
      clear hy hkl hc hwa HWK
      go_upto_region 6 with (fail)
      have hxa : Ext No wr (wr.alloc (.cells #[.int .i64 y.key.1, .int .i64 y.key.2.1, .int .i64 y.key.2.2, .int .i64 y.s.width, .slice wa y.s.words.length wc, .int .i64 y.t] 42)) := (Ext.refl _ _).alloc _
      have HXR := Lib.hid (hx.out.transNo hxa)
      have cL := cellOf (alloc_top (w := wr) (o := .cells #[.int .i64 y.key.1, .int .i64 y.key.2.1, .int .i64 y.key.2.2, .int .i64 y.s.width, .slice wa y.s.words.length wc, .int .i64 y.t] 42) rfl)
      have HOW := Lib.hid (row_keep hO.out hxa (fun _ _ x => x))
      clear hxa d0 d1 d2 d3 d4 d5 cD
      generalize (wr.alloc (.cells #[.int .i64 y.key.1, .int .i64 y.key.2.1, .int .i64 y.key.2.2, .int .i64 y.s.width, .slice wa y.s.words.length wc, .int .i64 y.t] 42)) = wk at *
      have HNO : ¬ (y.key.1 = p ∧ y.key.2.1 = q) → Hid (L1.map Prod.fst = knownE p q ((LL.take (k + 1)).map Prod.fst)) := fun hno => Lib.hid (by
        rw [known_step HKL.out, HPE.out, ← hL1.out, if_neg (by simpa using hno), List.append_nil])
      have HNO := Lib.hid HNO
      by_cases hp : y.key.1 = p
      · by_cases hq : y.key.2.1 = q
        · have eb1 : (y.key.1 == p) = true := by simp [hp]
          have eb2 : (y.key.2.1 == q) = true := by simp [hq]
          have HEP := Lib.hid hp
          have HEK := Lib.hid hq
          clear hp hq HNO
          go_wp2_with (at_builtin; (refine wpList_app _ rfl (.tmp 36) (.tmp 42) 89 rfl W.heap.size 106 iE _ 3 40 Try.underlying89 hiE hE0 hE1 hE2 rfl (by omega) (.slice a1 m c1) m (L1.flatMap kW.cells) rfl (row_keep HOW.out ((Ext.refl No _).alloc _) (fun _ _ x => x)) No (some ⟨wk.heap.size, 0, none⟩) 1 1 [.int .i64 y.key.2.2, .int .i64 y.s.width, .slice wa y.s.words.length wc] rfl (Row.block (alloc_top rfl) rfl no_no (by omega)) (by simp [Value.oneCell']) (by omega) (by omega) (by have := HXR.out.size; simp; omega) ?_); (intro v9 w9 hown1 hg1 hv1); (have HX9 := Lib.hid (show Ext No W w9 from (HXR.out.transNo ((Ext.refl No _).alloc _)).trans2 ((Ext.refl (fun bq => (Value.slice a1 m c1).ownBlock = some bq) _).grown hg1 (fun k hk _ => hk)) (fun i hi e => by have := (World.ownsRow.lt HOW.out i e).1; omega))); (have HO9 := Lib.hid hown1); (clear hown1 hg1 hv1); (obtain ⟨a9, c9, rfl⟩ := (Row.ofOwns (M := No) HO9.out (fun _ _ x => x)).slice))
          go_roundw
          case rel => exact ⟨k + 1, L1 ++ [((y.key.2.2, y.s), .slice wa y.s.words.length wc)], HKK.out, by omega, Lib.hid (by rw [known_step HKL.out, HPE.out, ← hL1.out, List.map_append]; simp [HEP.out, HEK.out]), Lib.hid (by rw [List.length_append, List.flatMap_append, ← HMN.out]; exact HO9.out), Lib.hid (fun r hr => by
            rcases List.mem_append.1 hr with hr | hr
            · exact hWS.out r hr
            · rw [List.mem_singleton.1 hr]; exact HWY.out), HX9⟩
          case measure => simp [intOf]; omega
        · have eb1 : (y.key.1 == p) = true := by simp [hp]
          have eb2 : (y.key.2.1 == q) = false := by simp [hq]
          have HN3 := HNO.out (fun e => hq e.2)
          clear hp hq HNO
          go_wp2_with fail
          go_roundw
          case rel => exact ⟨k + 1, L1, HKK.out, by omega, HN3, Lib.hid (by rw [← HMN.out]; exact HOW.out), hWS, HXR⟩
          case measure => simp [intOf]; omega
      · have eb1 : (y.key.1 == p) = false := by simp [hp]
        have HN3 := HNO.out (fun e => hp e.1)
        clear hp HNO
        go_wp2_with fail
        go_roundw
        case rel => exact ⟨k + 1, L1, HKK.out, by omega, HN3, Lib.hid (by rw [← HMN.out]; exact HOW.out), hWS, HXR⟩
        case measure => simp [intOf]; omega
    · have hge : ¬ (k : Int) < (N : Int) := by omega
      go_wp2_with fail
      go_ret
      refine ⟨.slice a1 m c1, L1, rfl, Lib.hid ⟨by have h9 := Row.ofOwns (M := No) hO.out (fun _ _ x => x); rw [HMN.out] at h9 ⊢; exact h9, fun r hr => (hWS.out r hr).extNo hx.out⟩, Lib.hid ?_, hx.out⟩
      rw [hL1.out, List.take_of_length_le (by have := HN.out; omega)]
end Go.Proofs.Ytfejidihocoboaa

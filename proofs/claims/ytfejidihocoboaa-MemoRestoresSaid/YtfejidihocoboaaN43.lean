/- Known of both sides. -/
import Derived.Test.YtfejidihocoboaaN42
import Derived.Test.YtfejidihocoboaaN31
set_option linter.unusedVariables false
set_option linter.unusedSimpArgs false
namespace Go.Proofs.Ytfejidihocoboaa
open Go Go.RowKit
def knownE (p k : Int) (es : List Ent) : List (Int × RawSet) := (es.filter (fun e => decide (e.key.1 = p) && decide (e.key.2.1 = k))).map (fun e => (e.key.2.2, e.s))
theorem known_step {β : Type} {p k : Int} {L : List (Ent × β)} {j : Nat} (hj : j < L.length) : knownE p k ((L.take (j + 1)).map Prod.fst) = knownE p k ((L.take j).map Prod.fst) ++ (if (decide (L[j].1.key.1 = p) && decide (L[j].1.key.2.1 = k)) = true then [(L[j].1.key.2.2, L[j].1.s)] else []) := by
  unfold knownE
  rw [List.take_succ_eq_append_getElem hj, List.map_append, List.filter_append, List.map_append]
  congr 1
  cases h : (decide (L[j].1.key.1 = p) && decide (L[j].1.key.2.1 = k)) <;> simp_all
theorem infoKn : (Try.prog.info? 106).map (fun i => (i.zero, i.size, i.bytes)) = some (some (.agg #[.int .i64 0, .int .i64 0, .slice none 0 0]), 3, 40) := by kernel_rfl
def KnPost (p k : Int) (es : List Ent) (W : World) (e : Ending) (w' : World) : Prop := ∃ (v : Value) (LL : List KN), e = .returned v ∧ Hid (LAt kW No w' v LL) ∧ Hid (LL.map Prod.fst = knownE p k es) ∧ Ext No W w'
set_option maxRecDepth 100000 in
set_option maxHeartbeats 8000000 in
theorem mknown_any (p q : Int) {M : Nat → Prop} {W : World} {T bm : Nat} {cap clk : Int} {vk : Value} {L : List PE} (h : PTab M W T cap clk bm vk L) (hn : L.length ≤ 1000) (hv : ∀ e ∈ L, validB e.1.s = true) :
    Calls Try.prog 52 #[ptrV T, .int .i64 p, .int .i64 q] W (KnPost p q (L.map Prod.fst) W) := by
  obtain ⟨iE, hiE, hE0, hE1, hE2⟩ := info_parts infoKn
  have HP := Lib.hid h
  have HVV := Lib.hid hv
  obtain ⟨ak, ck, hak⟩ := h.t.keys.slice
  have hkl : (keysOf L).length = L.length := by simp [keysOf]
  obtain ⟨N, hN⟩ : ∃ N, N = L.length := ⟨_, rfl⟩
  rw [hkl, ← hN] at hak
  rw [← hN] at hn
  have HN := Lib.hid hN
  have HLK := Lib.hid (show LAt kK No W (.slice ak N ck) (keysOf L) from by rw [← hak]; exact KOwn.list h.t.keys no_no2)
  have HKN := Lib.hid (hkl.trans hN.symm)
  have cT := cellOf h.t.box
  rw [hak] at cT
  clear h hv hkl hN hak
  unfold ptrV
  go_enter Try.func52, Try.ntmps52
  go_wp2_with fail
  clear cT
  go_loopw [7, 15] (fun s7 s15 wr => ∃ (k : Nat) (LL : List KN), s15 = .int .i64 k ∧ k ≤ N ∧ Hid (LL.map Prod.fst = knownE p q ((L.take k).map Prod.fst)) ∧ Hid (LOwn kW (Lo W.heap.size) wr W.heap.size s7 LL) ∧ Hid (Ext No W wr)) (fun _ s15 _ => N - (intOf s15).toNat)
  case atStart => exact ⟨0, [], rfl, Nat.zero_le _, Lib.hid rfl, Lib.hid (LOwn.nil _ _ _ _), Lib.hid (Ext.refl _ _)⟩
  case round =>
    obtain ⟨k, LL, rfl, hk, hLL, hO, hX⟩ := hrel
    rename World => wr
    obtain ⟨a1, c1, hs7⟩ := hO.out.slice
    obtain ⟨n1, hn1⟩ : ∃ n1, n1 = LL.length := ⟨_, rfl⟩
    have hnk : n1 ≤ k := by
      have h1 := congrArg List.length hLL.out
      unfold knownE at h1
      rw [List.length_map, List.length_map] at h1
      rw [hn1, h1]
      exact Nat.le_trans (List.length_filter_le _ _) (by simp; omega)
    rw [← hn1] at hs7
    have HL1 := Lib.hid hn1
    clear hn1
    by_cases hlt : k < N
    · have hlz : (k : Int) < (N : Int) := by omega
      have hlz0 : (0 : Int) ≤ (k : Int) := by omega
      have HKK : Hid (Value.int .i64 ((k : Int) + 1) = .int .i64 ((k + 1 : Nat) : Int)) := Lib.hid (by rw [show ((k + 1 : Nat) : Int) = (k : Int) + 1 from by omega])
      have hk0 : k < L.length := by have := HN.out; omega
      have HKL0 := Lib.hid hk0
      have hkk : k < (keysOf L).length := by have := HKN.out; omega
      have HKK0 := Lib.hid hkk
      obtain ⟨b, off, cap', hsl, -, -, hc⟩ := HLK.out.atK hkk
      rw [HKN.out] at hsl
      simp only [Value.slice.injEq] at hsl
      obtain ⟨rfl, -, rfl⟩ := hsl
      obtain ⟨d0, d1, d2⟩ := hc k hkk
      replace d0 := hX.out.keep d0
      replace d1 := hX.out.keep d1
      replace d2 := hX.out.keep d2
      obtain ⟨e0, he0⟩ : ∃ e0, e0 = L[k]'HKL0.out := ⟨_, rfl⟩
      have hke : (keysOf L)[k]'HKK0.out = e0.1.key := by rw [he0]; simp [keysOf]
      rw [hke] at d0 d1 d2
      have HEQ := Lib.hid (show L[k]'HKL0.out = e0 from he0.symm)
      have HE0 := Lib.hid (show e0 ∈ L from by rw [he0]; exact List.getElem_mem _)
      have hl4 := valid_len (HVV.out e0 HE0.out)
      clear hc hkk hk0 hke he0
      go_upto_region 5 with (fail)
      clear d0 d1 d2
      have hxk : Ext No wr (wr.alloc (.cells #[.int .i64 e0.1.key.1, .int .i64 e0.1.key.2.1, .int .i64 e0.1.key.2.2] 68)) := (Ext.refl _ _).alloc _
      have HRK := Lib.hid hxk
      have HXK := Lib.hid (hX.out.transNo hxk)
      have HKB := Lib.hid (alloc_top (w := wr) (o := .cells #[.int .i64 e0.1.key.1, .int .i64 e0.1.key.2.1, .int .i64 e0.1.key.2.2] 68) rfl)
      clear hxk
      generalize (wr.alloc (.cells #[.int .i64 e0.1.key.1, .int .i64 e0.1.key.2.1, .int .i64 e0.1.key.2.2] 68)) = wk at *
      generalize wr.heap.size = kb at *
      have cK := cellOf HKB.out
      have HNO : ¬ (e0.1.key.1 = p ∧ e0.1.key.2.1 = q) → Hid (LL.map Prod.fst = knownE p q ((L.take (k + 1)).map Prod.fst)) := fun hno => Lib.hid (by
        rw [known_step HKL0.out, HEQ.out, ← hLL.out, if_neg (by simpa using hno), List.append_nil])
      have HNO := Lib.hid HNO
      by_cases hp : e0.1.key.1 = p
      · by_cases hq : e0.1.key.2.1 = q
        · have eb1 : (e0.1.key.1 == p) = true := by simp [hp]
          have eb2 : (e0.1.key.2.1 == q) = true := by simp [hq]
          have HEP := Lib.hid hp
          have HEK := Lib.hid hq
          clear hp hq
          rw [hs7]
          rw [← hs7]
          go_upto_region 6 with (fail)
          clear cK eb1 eb2
          have hPL := HP.out.stepNo HXK.out
          have HIL := Lib.hid (hPL.t.it e0 HE0.out)
          have HWL := Lib.hid (hPL.t.wd e0 HE0.out)
          unfold itemC at HIL
          obtain ⟨wa, wc, hwsl⟩ := HWL.out.slice
          rw [hwsl] at HIL HWL
          clear hwsl hPL hs7
          refine wp_region_heldL [15] (fun w' => Ext No wk w') (by kernel_rfl) ?_ (fun hHeld => ?_)
          · exact (Ext.refl _ _).drew
          have HEV := Lib.hid (show Ext No wk wk.drew from (Ext.refl _ _).drew)
          generalize wk.drew = v0 at *
          refine heldL_free (i := 0) (v := ?_) rfl (by kernel_rfl) (by kernel_rfl) (by kernel_rfl) (by kernel_rfl) (by kernel_rfl) (fun _ _ _ h => h) rfl (fun w => ?_) hHeld ?_
          rotate_left
          · go_simp; (try with_reducible rfl)
          try simp only [Act.put, List.setIfInBounds_toArray, List.set_cons_zero, List.set_cons_succ]
          replace hHeld := (ST_set (T := [15]) (i := 0) (by kernel_rfl) _ _).2 hHeld
          refine heldL_free (i := 1) (v := ?_) rfl (by kernel_rfl) (by kernel_rfl) (by kernel_rfl) (by kernel_rfl) (by kernel_rfl) (fun _ _ _ h => h) rfl (fun w => ?_) hHeld ?_
          rotate_left
          · go_simp; (try with_reducible rfl)
          try simp only [Act.put, List.setIfInBounds_toArray, List.set_cons_zero, List.set_cons_succ]
          replace hHeld := (ST_set (T := [15]) (i := 1) (by kernel_rfl) _ _).2 hHeld
          refine heldL_take (i := 2) (v := ?_) rfl (by kernel_rfl) (by kernel_rfl) (by kernel_rfl) (by kernel_rfl) (by kernel_rfl) (fun _ _ _ h => h) rfl (fun w hSw => ?_) hHeld ?_
          rotate_left
          · (have hEs : Ext No wk _ := hSw); (have x0 := cellOf (hEs.blk HKB.out no_no)); go_simp; (try with_reducible rfl)
          try simp only [Act.put, List.setIfInBounds_toArray, List.set_cons_zero, List.set_cons_succ]
          replace hHeld := (ST_set (T := [15]) (i := 2) (by kernel_rfl) _ _).2 hHeld
          refine heldL_free (i := 3) (v := ?_) rfl (by kernel_rfl) (by kernel_rfl) (by kernel_rfl) (by kernel_rfl) (by kernel_rfl) (fun _ _ _ h => h) rfl (fun w => ?_) hHeld ?_
          rotate_left
          · go_simp; (try with_reducible rfl)
          try simp only [Act.put, List.setIfInBounds_toArray, List.set_cons_zero, List.set_cons_succ]
          replace hHeld := (ST_set (T := [15]) (i := 3) (by kernel_rfl) _ _).2 hHeld
          refine heldL_free (i := 4) (v := ?_) rfl (by kernel_rfl) (by kernel_rfl) (by kernel_rfl) (by kernel_rfl) (by kernel_rfl) (fun _ _ _ h => h) rfl (fun w => ?_) hHeld ?_
          rotate_left
          · go_simp; (try with_reducible rfl)
          try simp only [Act.put, List.setIfInBounds_toArray, List.set_cons_zero, List.set_cons_succ]
          replace hHeld := (ST_set (T := [15]) (i := 4) (by kernel_rfl) _ _).2 hHeld
          refine heldL_free (i := 5) (v := ?_) rfl (by kernel_rfl) (by kernel_rfl) (by kernel_rfl) (by kernel_rfl) (by kernel_rfl) (fun _ _ _ h => h) rfl (fun w => ?_) hHeld ?_
          rotate_left
          · go_simp; (try with_reducible rfl)
          try simp only [Act.put, List.setIfInBounds_toArray, List.set_cons_zero, List.set_cons_succ]
          replace hHeld := (ST_set (T := [15]) (i := 5) (by kernel_rfl) _ _).2 hHeld
          refine heldL_take (i := 6) (v := ?_) rfl (by kernel_rfl) (by kernel_rfl) (by kernel_rfl) (by kernel_rfl) (by kernel_rfl) (fun _ _ _ h => h) rfl (fun w hSw => ?_) hHeld ?_
          rotate_left
          · (have hEs : Ext No wk _ := hSw); (have x0 := cellOf (hEs.blk (HXK.out.blk HP.out.t.box no_no) no_no)); go_simp; (try with_reducible rfl)
          try simp only [Act.put, List.setIfInBounds_toArray, List.set_cons_zero, List.set_cons_succ]
          replace hHeld := (ST_set (T := [15]) (i := 6) (by kernel_rfl) _ _).2 hHeld
          refine heldL_take (i := 7) (v := ?_) rfl (by kernel_rfl) (by kernel_rfl) (by kernel_rfl) (by kernel_rfl) (by kernel_rfl) (fun _ _ _ h => h) rfl (fun w hSw => ?_) hHeld ?_
          rotate_left
          · (have hEs : Ext No wk _ := hSw); (have x0 := cellOf (hEs.blk HKB.out no_no)); go_simp; (try with_reducible rfl)
          try simp only [Act.put, List.setIfInBounds_toArray, List.set_cons_zero, List.set_cons_succ]
          replace hHeld := (ST_set (T := [15]) (i := 7) (by kernel_rfl) _ _).2 hHeld
          refine heldL_take (i := 8) (v := ?_) rfl (by kernel_rfl) (by kernel_rfl) (by kernel_rfl) (by kernel_rfl) (by kernel_rfl) (fun _ _ _ h => h) rfl (fun w hSw => ?_) hHeld ?_
          rotate_left
          · (have hEs : Ext No wk _ := hSw); (have hl := ((HP.out.stepNo HXK.out).stepNo hEs).look HE0.out); (unfold keyV ptrV at hl); go_simp; (try with_reducible rfl)
          try simp only [Act.put, List.setIfInBounds_toArray, List.set_cons_zero, List.set_cons_succ]
          replace hHeld := (ST_set (T := [15]) (i := 8) (by kernel_rfl) _ _).2 hHeld
          refine heldL_free (i := 9) (v := ?_) rfl (by kernel_rfl) (by kernel_rfl) (by kernel_rfl) (by kernel_rfl) (by kernel_rfl) (fun _ _ _ h => h) rfl (fun w => ?_) hHeld ?_
          rotate_left
          · go_simp; (try with_reducible rfl)
          try simp only [Act.put, List.setIfInBounds_toArray, List.set_cons_zero, List.set_cons_succ]
          replace hHeld := (ST_set (T := [15]) (i := 9) (by kernel_rfl) _ _).2 hHeld
          refine heldL_free (i := 10) (v := ?_) rfl (by kernel_rfl) (by kernel_rfl) (by kernel_rfl) (by kernel_rfl) (by kernel_rfl) (fun _ _ _ h => h) rfl (fun w => ?_) hHeld ?_
          rotate_left
          · go_simp; (try with_reducible rfl)
          try simp only [Act.put, List.setIfInBounds_toArray, List.set_cons_zero, List.set_cons_succ]
          replace hHeld := (ST_set (T := [15]) (i := 10) (by kernel_rfl) _ _).2 hHeld
          refine heldL_take (i := 11) (v := ?_) rfl (by kernel_rfl) (by kernel_rfl) (by kernel_rfl) (by kernel_rfl) (by kernel_rfl) (fun _ _ _ h => h) rfl (fun w hSw => ?_) hHeld ?_
          rotate_left
          · (have hEs : Ext No wk _ := hSw); (have x0 := cellOf (hEs.blk HIL.out no_no)); go_simp; (try with_reducible rfl)
          try simp only [Act.put, List.setIfInBounds_toArray, List.set_cons_zero, List.set_cons_succ]
          replace hHeld := (ST_set (T := [15]) (i := 11) (by kernel_rfl) _ _).2 hHeld
          refine heldL_next1 (i := 12) (by kernel_rfl) (NextL.mk rfl rfl (fun K hK => ?_))
          (go_simp; go_at_call 33; (refine (mclone_any e0.1.s _ _ ((HWL.out.extNo HEV.out).mono (fun _ _ x => x.elim)) (by omega)).mono ?_); (rintro q1 w1 ⟨ca, cc, rfl, hw1, hyA⟩); go_simp)
          refine hK.out _ _ ?_ (fun hNew => ?_)
          · intro _; exact HEV.out.transNo hyA
          clear hK K hHeld
          have hHeld := hNew
          clear hNew
          have HE1 := Lib.hid (HEV.out.transNo hyA)
          have HW1 := Lib.hid hw1.out
          clear hyA hw1
          try simp only [Act.put, List.setIfInBounds_toArray, List.set_cons_zero, List.set_cons_succ]
          refine heldL_free (i := 13) (v := ?_) rfl (by kernel_rfl) (by kernel_rfl) (by kernel_rfl) (by kernel_rfl) (by kernel_rfl) (fun _ _ _ h => h) rfl (fun w => ?_) hHeld ?_
          rotate_left
          · go_simp; (try with_reducible rfl)
          try simp only [Act.put, List.setIfInBounds_toArray, List.set_cons_zero, List.set_cons_succ]
          replace hHeld := (ST_set (T := [15]) (i := 13) (by kernel_rfl) _ _).2 hHeld
          refine heldL_next1 (i := 14) (by kernel_rfl) (NextL.mk rfl rfl (fun K hK => ?_))
          go_simp
          refine hK.out _ _ ?_ (fun hNew => ?_)
          · intro _; exact (HE1.out.transNo ((Ext.refl No w1).alloc _))
          clear hK K hHeld
          have hHeld := hNew
          clear hNew
          have HSB := Lib.hid (alloc_top (w := w1) (o := .cells #[.int .i64 e0.1.key.2.2, .int .i64 e0.1.s.width, .slice ca e0.1.s.words.length cc] 106) rfl)
          have hya := (Ext.refl No w1).alloc (.cells #[.int .i64 e0.1.key.2.2, .int .i64 e0.1.s.width, .slice ca e0.1.s.words.length cc] 106)
          have HE2 := Lib.hid (HE1.out.transNo hya)
          have HW2 := Lib.hid (HW1.out.extNo hya)
          have HLO2 := Lib.hid ((hO.out.extNo HRK.out).extNo HE2.out)
          have HO2 := Lib.hid (show World.ownsRow _ W.heap.size 106 3 u7 n1 (LL.flatMap kW.cells) from by have h9 := HLO2.out.own; rw [← HL1.out] at h9; exact h9)
          have HWS2 := Lib.hid (Nat.le_trans HXK.out.size HE2.out.size)
          clear hya
          generalize (w1.alloc (.cells #[.int .i64 e0.1.key.2.2, .int .i64 e0.1.s.width, .slice ca e0.1.s.words.length cc] 106)) = w2 at *
          generalize w1.heap.size = sb at *
          try simp only [Act.put, List.setIfInBounds_toArray, List.set_cons_zero, List.set_cons_succ]
          refine heldL_next1 (i := 15) (by kernel_rfl) (NextL.mk rfl rfl (fun K hK => ?_))
          (refine wp_app _ (.tmp 29) (.tmp 43) 89 rfl W.heap.size 106 iE _ 3 40 Try.underlying89 hiE hE0 hE1 hE2 rfl (by omega) u7 n1 (LL.flatMap kW.cells) rfl HO2.out No (some ⟨sb, 0, none⟩) 1 1 (kW.cells ((e0.1.key.2.2, e0.1.s), .slice ca e0.1.s.words.length cc)) rfl (Row.block (cs := #[.int .i64 e0.1.key.2.2, .int .i64 e0.1.s.width, .slice ca e0.1.s.words.length cc]) HSB.out rfl no_no (by omega)) (by simp [kW, Value.oneCell']) (by omega) (by omega) HWS2.out ?_); (intro v' w9 hown1 hg1 hv1)
          refine hK.out _ _ ?_ (fun hNew => ?_)
          · exact fun h => absurd h (by decide)
          clear hK K hHeld
          have hHeld := hNew
          clear hNew
          have hE9 : Ext (fun bq => u7.ownBlock = some bq) w2 w9 := (Ext.refl _ _).grown hg1 (fun bq hk _ => hk)
          have HO9 := Lib.hid (LOwn.app (p := ((e0.1.key.2.2, e0.1.s), .slice ca e0.1.s.words.length cc)) HLO2.out (show WordsAt (fun b => Lo W.heap.size b ∨ u7.ownBlock = some b) w2 _ _ from HW2.out.mono (fun i hi e => by
            have h1 := HXK.out.size
            have h4 := HEV.out.size
            rcases e with e | e
            · unfold Lo at e ⊢; omega
            · have h2 := (hO.out.lt i e).2
              have h3 := HRK.out.size
              unfold Lo; omega)) (by rw [← HL1.out]; exact hown1) hE9 (fun i e => e) (hv1.imp id (fun e k hk => by rw [e] at hk; exact Nat.le_of_eq (Option.some.inj hk))))
          have HX9 := Lib.hid (show Ext No W w9 from (HXK.out.transNo HE2.out).trans2 hE9 (fun i hi e => by have h2 := (hO.out.lt i e).1; omega))
          obtain ⟨a9, c9, hv9⟩ := HO9.out.slice
          rw [List.length_append, List.length_singleton, ← HL1.out] at hv9
          subst hv9
          try simp only [Act.put, List.setIfInBounds_toArray, List.set_cons_zero, List.set_cons_succ]
          refine heldL_free (i := 16) (v := ?_) rfl (by kernel_rfl) (by kernel_rfl) (by kernel_rfl) (by kernel_rfl) (by kernel_rfl) (fun _ _ _ h => h) rfl (fun w => ?_) hHeld ?_
          rotate_left
          · go_simp; (try with_reducible rfl)
          try simp only [Act.put, List.setIfInBounds_toArray, List.set_cons_zero, List.set_cons_succ]
          replace hHeld := (ST_set (T := [15]) (i := 16) (by kernel_rfl) _ _).2 hHeld
          refine heldL_done (by kernel_rfl) ?_ _
          go_wp2_with fail
          go_roundw
          case rel => exact ⟨k + 1, LL ++ [((e0.1.key.2.2, e0.1.s), .slice ca e0.1.s.words.length cc)], HKK.out, by omega, Lib.hid (by rw [known_step HKL0.out, HEQ.out, ← hLL.out, List.map_append]; simp [HEP.out, HEK.out]), HO9, HX9⟩
          case measure => simp [intOf]; omega
        · have eb1 : (e0.1.key.1 == p) = true := by simp [hp]
          have eb2 : (e0.1.key.2.1 == q) = false := by simp [hq]
          have HN3 := HNO.out (fun e => hq e.2)
          clear hp hq HNO
          go_wp2_with fail
          go_roundw
          case rel => exact ⟨k + 1, LL, HKK.out, by omega, HN3, Lib.hid (hO.out.extNo HRK.out), HXK⟩
          case measure => simp [intOf]; omega
      · have eb1 : (e0.1.key.1 == p) = false := by simp [hp]
        have HN3 := HNO.out (fun e => hp e.1)
        clear hp HNO
        go_wp2_with fail
        go_roundw
        case rel => exact ⟨k + 1, LL, HKK.out, by omega, HN3, Lib.hid (hO.out.extNo HRK.out), HXK⟩
        case measure => simp [intOf]; omega
    · have hge : ¬ (k : Int) < (N : Int) := by omega
      go_wp2_with fail
      go_ret
      rw [hs7] at hO
      refine ⟨.slice a1 n1 c1, LL, rfl, Lib.hid (hO.out.list2 (M := No) (fun _ _ e => e) (fun _ e => e.elim)), Lib.hid ?_, hX.out⟩
      rw [hLL.out, List.take_of_length_le (by have := HN.out; omega)]
end Go.Proofs.Ytfejidihocoboaa

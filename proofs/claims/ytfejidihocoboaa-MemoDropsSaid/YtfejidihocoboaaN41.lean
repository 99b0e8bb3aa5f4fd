/- The walk of MemoDrops. -/
import Derived.Test.YtfejidihocoboaaN39
import Derived.Test.YtfejidihocoboaaN40
set_option linter.unusedVariables false
set_option linter.unusedSimpArgs false
namespace Go.Proofs.Ytfejidihocoboaa
open Go Go.RowKit
theorem two_start {M : Nat → Prop} {B T bm : Nat} {cap : Int} {w : World} (hP : PTab (Lo B) w T cap 0 bm (.slice none 0 0) []) (hB : ∀ b, M b → b < B) (hBw : B ≤ w.heap.size) :
    Two M (w.alloc (.cells #[.int .i64 cap, .slice none 0 0, .int .i64 0] 32)) T w.heap.size cap 0 0 bm (.slice none 0 0) (.slice none 0 0) [] [] := by
  have hx : Ext No w (w.alloc (.cells #[.int .i64 cap, .slice none 0 0, .int .i64 0] 32)) := (Ext.refl _ _).alloc _
  refine ⟨(hP.mono (fun i hi e => ?_)).stepNo hx, ⟨alloc_top rfl, LOwn.nil _ _ _ _, fun b hb e => ?_⟩⟩
  · rcases e with e | e | e
    · exact hB i e
    · omega
    · cases e
  · rcases hb with rfl | hb
    · rcases e with e | e
      · have := hB _ e; omega
      · have := hP.ownLt e; omega
    · cases hb
theorem ab_start {M : Nat → Prop} {B T bm tb : Nat} {cap : Int} {w : World} (hP : PTab (Lo B) w T cap 0 bm (.slice none 0 0) []) (hB : ∀ b, M b → b < B) (hBw : B ≤ w.heap.size) (ht : TapeOk w tb) (hc : 0 ≤ cap) (cs : Array Value) (Ty : TypeId) :
    AB M ((w.alloc (.cells #[.int .i64 cap, .slice none 0 0, .int .i64 0] 32)).alloc (.cells cs Ty)) (TOwn T w.heap.size bm (.slice none 0 0) (.slice none 0 0) []) T w.heap.size tb cap 0 True ((w.alloc (.cells #[.int .i64 cap, .slice none 0 0, .int .i64 0] 32)).alloc (.cells cs Ty)) 0 [] bm (.slice none 0 0) (.slice none 0 0) [] [] :=
  ⟨(two_start hP hB hBw).stepNo ((Ext.refl _ _).alloc _), rfl, rfl, Inv.nil cap hc, fun _ => TickD.nil, ht.ext (((Ext.refl _ _).alloc _).alloc _), Ext.refl _ _, fun b hb => .inl hb⟩
/-- where the pair stands in a box of its own: some pair in the world w -/
def ABx (M : Nat → Prop) (W0 : World) (OW : Nat → Prop) (T D tb : Nat) (cap K : Int) (td : Prop) (w : World) : Prop := ∃ (clk : Int) (es : List Ent) (bm : Nat) (vk v : Value) (L : List PE) (LL : List EV), AB M W0 OW T D tb cap K td w clk es bm vk v L LL
theorem EntPost.own {es : List Ent} {W : World} {e : Ending} {w' : World} (h : EntPost es W e w') : ∃ a c LL, e = .returned (.slice a es.length c) ∧ Hid (LOwn kE (Lo W.heap.size) w' W.heap.size (.slice a es.length c) LL) ∧ Hid (LL.map Prod.fst = es) ∧ Ext No W w' := by
  obtain ⟨v, LL, rfl, h1, h2, h3⟩ := h
  obtain ⟨a, c, rfl⟩ := h1.out.slice
  have hl : LL.length = es.length := by rw [← h2.out, List.length_map]
  rw [hl] at h1 ⊢
  exact ⟨a, c, LL, rfl, h1, h2, h3⟩
theorem mentriesE {M : Nat → Prop} {W : World} {T bm : Nat} {cap clk : Int} {vk : Value} {L : List PE} {es : List Ent} (h : PTab M W T cap clk bm vk L) (he : L.map Prod.fst = es) (hn : es.length ≤ 1000) (hv : ∀ e ∈ es, validB e.s = true) :
    Calls Try.prog 11 #[ptrV T] W (fun e w' => ∃ a c LL, e = .returned (.slice a es.length c) ∧ Hid (LOwn kE (Lo W.heap.size) w' W.heap.size (.slice a es.length c) LL) ∧ Hid (LL.map Prod.fst = es) ∧ Ext No W w') := by
  subst he
  exact (mentries_any h (by simpa using hn) (fun e h2 => hv _ (List.mem_map_of_mem h2))).mono (fun e w' h => h.own)
set_option maxRecDepth 100000 in
set_option maxHeartbeats 16000000 in
theorem memoDrops_any (sl : Value) (zs : List Int) (W : World) (h : Ints No W .i64 sl zs) : Calls Try.prog 3 #[sl] W (BoolPost true W) := by
  have H := Lib.hid h
  obtain ⟨a, cap, rfl⟩ := Row.slice h
  clear h
  go_enter Try.func3, Try.ntmps3
  go_wp2_with fail
  refine (new_any _ zs W H.out).mono ?_
  rintro q1 w1 ⟨rfl, ht1, hx1, hs1⟩
  have HT1 := Lib.hid ht1
  have HX1 := Lib.hid hx1
  have HS1 := Lib.hid hs1
  clear ht1 hx1 hs1
  go_wp2_with fail
  refine (mnew_any 8 w1).mono ?_
  rintro q2 w2 ⟨-, hn, hx2⟩
  obtain ⟨T, bm, rfl, hP2⟩ := hn (by decide)
  have HX2 := Lib.hid hx2
  have HT2 := Lib.hid (HT1.out.ext hx2)
  have HP2 := Lib.hid hP2.out
  clear hn hx2 hP2 HT1
  unfold ptrV
  go_upto_region 6 with (fail)
  have HA0 := Lib.hid (ab_start (M := fun b => b ≤ W.heap.size) (tb := W.heap.size) HP2.out (fun b hb => by have := HS1.out; omega) HX2.out.size HT2.out (by decide) #[.pointer (some ⟨T, 0, none⟩), .pointer (some ⟨w2.heap.size, 0, none⟩)] 34)
  have HB0 := Lib.hid (show ((w2.alloc (.cells #[.int .i64 8, .slice none 0 0, .int .i64 0] 32)).alloc (.cells #[.pointer (some ⟨T, 0, none⟩), .pointer (some ⟨w2.heap.size, 0, none⟩)] 34)).heap[w2.heap.size + 1]? = some (.cells #[.pointer (some ⟨T, 0, none⟩), .pointer (some ⟨w2.heap.size, 0, none⟩)] 34 (0, 0)) from alloc_top (by simp))
  have HEND := Lib.hid (show ∀ w, Ext (fun b => b = W.heap.size ∨ TOwn T w2.heap.size bm (.slice none 0 0) (.slice none 0 0) [] b) ((w2.alloc (.cells #[.int .i64 8, .slice none 0 0, .int .i64 0] 32)).alloc (.cells #[.pointer (some ⟨T, 0, none⟩), .pointer (some ⟨w2.heap.size, 0, none⟩)] 34)) w → Ext No W w from fun w hw => ((HX1.out.transNo HX2.out).transNo (((Ext.refl No w2).alloc _).alloc _)).trans2 hw (fun i hi e => by
    rcases e with e | (e | e | e)
    · omega
    · have h9 := HP2.out.t.out i e
      have := HS1.out
      unfold Lo at h9
      omega
    · have := HX1.out.size; have := HX2.out.size; omega
    · cases e))
  have HBN := Lib.hid (show ∀ b, (b = W.heap.size ∨ TOwn T w2.heap.size bm (.slice none 0 0) (.slice none 0 0) [] b) → b ≠ w2.heap.size + 1 from fun b e e2 => by
    rcases e with e | (e | e | e)
    · have := HS1.out; have := HX2.out.size; omega
    · have := HP2.out.ownLt e; omega
    · omega
    · cases e)
  have HMM := Lib.hid (show ∀ b, b ≤ W.heap.size → b < ((w2.alloc (.cells #[.int .i64 8, .slice none 0 0, .int .i64 0] 32)).alloc (.cells #[.pointer (some ⟨T, 0, none⟩), .pointer (some ⟨w2.heap.size, 0, none⟩)] 34)).heap.size from fun b hb => by have := HS1.out; have := HX2.out.size; simp; omega)
  clear HX1 HX2 HS1 HP2 HT2 H
  generalize ((w2.alloc (.cells #[.int .i64 8, .slice none 0 0, .int .i64 0] 32)).alloc (.cells #[.pointer (some ⟨T, 0, none⟩), .pointer (some ⟨w2.heap.size, 0, none⟩)] 34)) = V0 at *
  generalize TOwn T w2.heap.size bm (.slice none 0 0) (.slice none 0 0) [] = OW at *
  generalize w2.heap.size + 1 = bb at *
  generalize w2.heap.size = D at *
  go_wp2_with fail
  go_loopw [7] (fun s7 wr => ∃ i : Nat, s7 = .int .i64 i ∧ i ≤ 15 ∧ Hid (ABx (fun b => b ≤ W.heap.size) V0 OW T D W.heap.size 8 (i : Int) True wr)) (fun s7 _ => 15 - (intOf s7).toNat)
  case atStart => exact ⟨0, rfl, by omega, Lib.hid ⟨_, _, _, _, _, _, _, HA0.out⟩⟩
  case round =>
    clear HA0
    obtain ⟨i, rfl, hi, hA⟩ := hrel
    rename World => wr
    obtain ⟨clk, es, bm, vk, v, L, LL, hA⟩ := hA.out
    have HA := Lib.hid hA
    clear hA
    by_cases hlt : i < 15
    · have hlz : (i : Int) < 15 := by omega
      have HKK : Hid (Value.int .i64 ((i : Int) + 1) = .int .i64 ((i + 1 : Nat) : Int)) := Lib.hid (by rw [show ((i + 1 : Nat) : Int) = (i : Int) + 1 from by omega])
      have cB := cellOf (HA.out.ext.blk HB0.out (fun e => HBN.out _ e rfl))
      go_wp2_with fail
      refine (act_any HA.out (fun b hb => hb) HMM.out (by omega) (by decide)).mono ?_
      rintro q3 w3 ⟨clk3, es3, bm3, vk3, v3, L3, LL3, rfl, hA3⟩
      go_wp2_with fail
      go_roundw
      case rel => exact ⟨i + 1, HKK.out, hlt, Lib.hid ⟨clk3, es3, bm3, vk3, v3, L3, LL3, by rw [show ((i + 1 : Nat) : Int) = (i : Int) + 1 from by omega]; exact hA3.out⟩⟩
      case measure => simp [intOf]; omega
    · have hge : ¬ (i : Int) < 15 := by omega
      obtain rfl : i = 15 := by omega
      have HEXT := Lib.hid (HEND.out _ HA.out.ext)
      have HTP := Lib.hid HA.out.tape
      have HP := Lib.hid HA.out.two.p
      have HPE := Lib.hid HA.out.pe
      have HI := Lib.hid HA.out.inv
      have HTD := Lib.hid (HA.out.tick trivial)
      have HTO := Lib.hid (show ∀ b, POwn T bm vk L b → ¬ b ≤ W.heap.size from fun b hb e => HA.out.two.p.t.out b hb (.inl e))
      clear HA HMM HBN HB0
      obtain ⟨N, hN⟩ : ∃ N, N = es.length := ⟨_, rfl⟩
      have hN8 : N ≤ 8 := by have := HI.out.len; omega
      have HN := Lib.hid hN
      clear hN
      go_wp2_with fail
      refine (mentriesE HP.out HPE.out (by have := HN.out; omega) HI.out.val).mono ?_
      rintro q4 w4 ⟨a4, c4, LL4, rfl, -, -, hx4⟩
      rw [← HN.out]
      have HT4 := Lib.hid (HTP.out.ext hx4)
      have HP4 := Lib.hid (HP.out.stepNo hx4)
      have HE4 := Lib.hid (HEXT.out.transNo hx4)
      clear hx4 HTP HP HEXT
      go_upto_region 12 with (go_at_call 12; refine (next_lt W.heap.size _ (by decide) (by decide) _ HT4.out).mono ?_; (first | ((have _t := HQ5); (rintro q5 w5 ⟨n5, rfl, hn5, ht5, hx5, hs5⟩)) | ((rintro q5 w5 ⟨p5, rfl, hp5, ht5, hx5, hs5⟩); (have HQ5 := Lib.hid True.intro))); (replace HT4 := Lib.hid ht5); (replace HP4 := Lib.hid (HP4.out.ext hx5 (fun i _ e => .inl (Nat.le_of_eq e)))); (replace HE4 := Lib.hid (HE4.out.trans2 hx5 (fun i hi e => by have e2 : i = W.heap.size := e; omega))); (clear ht5 hx5 hs5))
      clear HQ5 HT4
      obtain ⟨es1, hes1⟩ : ∃ es1, es1 = dropE (p5 : Int) es := ⟨_, rfl⟩
      have HE1 := Lib.hid hes1
      clear hes1
      obtain ⟨N1, hN1⟩ : ∃ N1, N1 = es1.length := ⟨_, rfl⟩
      have HN1 := Lib.hid hN1
      clear hN1
      have hle1 : N1 ≤ N := by rw [HN1.out, HN.out, HE1.out]; exact List.length_filter_le _ _
      obtain ⟨G, hG⟩ : ∃ G, G = N - N1 := ⟨_, rfl⟩
      have HG := Lib.hid (show (es.length : Int) - ((dropE (p5 : Int) es).length : Int) = (G : Int) from by rw [← HE1.out, ← HN1.out, ← HN.out]; omega)
      have HI1 := Lib.hid (show Inv 8 clk (15 : Nat) es1 from by rw [HE1.out]; exact HI.out.sub List.filter_sublist)
      have HTD1 := Lib.hid (show TickD es1 from by rw [HE1.out]; exact HTD.out.sub List.filter_sublist)
      have hgn : (G : Int) + (N1 : Int) = (N : Int) := by omega
      have HGN := Lib.hid hgn
      clear hG hgn
      go_wp2_with fail
      refine (mdropE (p5 : Int) HP4.out HPE.out (by have := HN.out; omega)).mono ?_
      rintro q6 w6 ⟨bm6, vk6, L6, rfl, hP6, hL6, hX6, hO6⟩
      rw [HG.out]
      have HP6 := Lib.hid hP6.out
      have HL6 := Lib.hid (show L6.map Prod.fst = es1 from by rw [HE1.out]; exact hL6.out)
      have HE6 := Lib.hid (show Ext No W w6 from HE4.out.trans2 hX6 (fun i hi e => HTO.out i e (by omega)))
      have HO6 := Lib.hid (show ∀ b, POwn T bm6 vk6 L6 b → ¬ b < W.heap.size from fun b hb hlt2 => (hO6.out b hb).elim (fun e => HTO.out b e (by omega)) (fun e => by have := HE4.out.size; omega))
      clear hP6 hL6 hX6 hO6 HP4 HE4
      go_wp2_with fail
      refine (mentriesE HP6.out HL6.out (by have := HN1.out; omega) HI1.out.val).mono ?_
      rintro q7 w7 ⟨a7, c7, LL7, rfl, ho7, hl7, hx7⟩
      rw [← HN1.out] at ho7 ⊢
      have HLO7 := Lib.hid ho7.out
      have HLL7 := Lib.hid hl7.out
      have HOB7 := Lib.hid (show ∀ b, POwn T bm6 vk6 L6 b → b < w6.heap.size from fun b hb => HP6.out.ownLt hb)
      have HP7 := Lib.hid (HP6.out.stepNo hx7)
      have HE7 := Lib.hid (HE6.out.transNo hx7)
      have HS7 := Lib.hid hx7.size
      clear hx7 HP6 HE6 ho7 hl7
      have hw1 := HGN.out
      go_upto_region 16 with (fail)
      clear hw1
      have HLAT7 := Lib.hid (HLO7.out.list2 (M := No) (fun _ _ e => e) (fun _ e => e.elim))
      have HLN7 := Lib.hid (show LL7.length = N1 from by rw [HN1.out, ← HLL7.out, List.length_map])
      have HT7 := Lib.hid (show ∀ j (hj : j < LL7.length) (hj2 : j < es1.length), es1[j] = LL7[j].1 from fun j hj hj2 => by
        have h9 := HLL7.out
        subst h9
        exact List.getElem_map _)
      go_wp2_with fail
      go_loopw [13] (fun s13 wr => ∃ j : Nat, s13 = .int .i64 j ∧ j ≤ N1 ∧ Hid (Ext No w7 wr)) (fun s13 _ => N1 - (intOf s13).toNat)
      case atStart => exact ⟨0, rfl, Nat.zero_le _, Lib.hid (Ext.refl _ _)⟩
      case round =>
        obtain ⟨j, rfl, hj, hx⟩ := hrel
        rename World => wy
        by_cases hlt2 : j < N1
        · have hjz : (j : Int) < (N1 : Int) := by omega
          have hjz0 : 0 ≤ (j : Int) := by omega
          have HJJ : Hid (Value.int .i64 ((j : Int) + 1) = .int .i64 ((j + 1 : Nat) : Int)) := Lib.hid (by rw [show ((j + 1 : Nat) : Int) = (j : Int) + 1 from by omega])
          have hjl : j < LL7.length := by have := HLN7.out; omega
          obtain ⟨b, off, cap', hsl, -, -, hc⟩ := (HLAT7.out.extNo hx.out).atE hjl
          rw [HLN7.out] at hsl
          simp only [Value.slice.injEq] at hsl
          obtain ⟨rfl, -, rfl⟩ := hsl
          obtain ⟨d0, -⟩ := hc j hjl
          have hjn : ((LL7[j]'hjl).1.key.1 == (p5 : Int)) = false := drop_ne (es := es) (by
            have h1 : (LL7[j]'hjl).1 ∈ es1 := by rw [← HLL7.out]; exact List.mem_map_of_mem (List.getElem_mem hjl)
            rw [HE1.out] at h1
            exact h1)
          generalize (LL7[j]'hjl).1.key.1 = kj at *
          clear hc hjl
          go_wp2_with fail
          go_roundw
          case rel => exact ⟨j + 1, HJJ.out, hlt2, hx⟩
          case measure => simp [intOf]; omega
        · have hge2 : ¬ (j : Int) < (N1 : Int) := by omega
          obtain rfl : j = N1 := by omega
          have HP8 := Lib.hid (HP7.out.stepNo hx.out)
          have HE8 := Lib.hid (HE7.out.transNo hx.out)
          have HLO8 := Lib.hid (HLO7.out.extNo hx.out)
          have HS8 := Lib.hid (show w6.heap.size ≤ wy.heap.size from Nat.le_trans HS7.out hx.out.size)
          clear HS7 HE7 HP7 HLO7 HLAT7
          obtain ⟨es2, hes2⟩ : ∃ es2, es2 = evE (n5 : Int).toNat es1 := ⟨_, rfl⟩
          have HEV := Lib.hid hes2
          clear hes2
          obtain ⟨N2, hN2⟩ : ∃ N2, N2 = es2.length := ⟨_, rfl⟩
          have HN2 := Lib.hid hN2
          have hl2 := evE_len HI1.out.sort (n5 : Int).toNat
          rw [← HEV.out, ← hN2, ← HN1.out, Int.toNat_natCast] at hl2
          obtain ⟨O, hO⟩ : ∃ O, O = min n5 j := ⟨_, rfl⟩
          have HOM := Lib.hid hO
          have ho1 : (j : Int) - (O : Int) = (N2 : Int) := by omega
          have ho2 : O ≤ j := by omega
          have HOV := Lib.hid (show (es1.length : Int) - ((evE (n5 : Int).toNat es1).length : Int) = (O : Int) from by rw [← HEV.out, ← hN2, ← HN1.out]; omega)
          have HO1 := Lib.hid ho1
          have HI2 := Lib.hid (show ∀ e ∈ es2, validB e.s = true from fun e he => HI1.out.val e (by rw [HEV.out] at he; exact (List.mem_filter.1 he).1))
          clear hN2 hO hl2 ho1
          go_wp2_with fail
          refine (mevictE (n5 : Int) HP8.out HL6.out HI1.out.sort (by have := HN1.out; omega)).mono ?_
          rintro q9 w9 ⟨bm9, vk9, L9, rfl, hP9, hL9, hX9, hO9⟩
          rw [HOV.out]
          have HP9 := Lib.hid hP9.out
          have HL9 := Lib.hid (show L9.map Prod.fst = es2 from by rw [HEV.out]; exact hL9.out)
          have HLO9 := Lib.hid (HLO8.out.ext2 hX9 (fun i hi e => by have h1 := (HLO8.out.lt i hi).1; have h2 := HOB7.out i e; omega) (fun i hi e => HOB7.out i e))
          have HE9 := Lib.hid (HE8.out.trans2 hX9 (fun i hi e => HO6.out i e hi))
          clear hP9 hL9 hX9 hO9 HP8 HLO8 HE8 HOV
          go_wp2_with fail
          refine (mentriesE HP9.out HL9.out (by have h1 := HN2.out; have h2 := HO1.out; omega) HI2.out).mono ?_
          rintro q10 w10 ⟨a10, c10, LL10, rfl, ho10, hl10, hx10⟩
          rw [← HN2.out] at ho10 ⊢
          have HLA10 := Lib.hid (ho10.out.list2 (M := No) (fun _ _ e => e) (fun _ e => e.elim))
          have HLN10 := Lib.hid (show LL10.length = N2 from by rw [HN2.out, ← hl10.out, List.length_map])
          have HLL10 := Lib.hid hl10.out
          have HLA7 := Lib.hid ((HLO9.out.extNo hx10).list2 (M := No) (fun _ _ e => e) (fun _ e => e.elim))
          have HE10 := Lib.hid (HE9.out.transNo hx10)
          clear hx10 ho10 hl10 HP9 HLO9 HE9
          go_upto_region 23 with (fail)
          go_cut [95] (fun s95 wv => s95 = .bool false ∧ Hid (wv = w10))
          case first =>
            rcases Nat.le_total n5 j with hle | hle
            · obtain rfl : O = n5 := by have := HOM.out; omega
              have hz1 : (O : Int) ≤ (j : Int) := by omega
              have hb1 : ((N2 : Int) != (j : Int) - (O : Int)) = false := by rw [HO1.out]; simp
              go_wp2_with fail
              go_meet
              exact ⟨rfl, Lib.hid rfl⟩
            · obtain rfl : O = j := by have := HOM.out; omega
              have hb1 : ((N2 : Int) != 0) = false := by have := HO1.out; simp; omega
              by_cases hee : O = n5
              · subst hee
                go_wp2_with fail
                go_meet
                exact ⟨rfl, Lib.hid rfl⟩
              · have hz2 : ¬ (n5 : Int) ≤ (O : Int) := by omega
                go_wp2_with fail
                go_meet
                exact ⟨rfl, Lib.hid rfl⟩
          case rest =>
          obtain ⟨rfl, hwv⟩ := hcut
          rename World => wv
          obtain rfl : w10 = wv := hwv.out.symm
          clear hwv
          apply_assumption
          go_upto_region 25 with (fail)
          have HTK := Lib.hid (show ∀ q (hq : q < LL10.length) (hq2 : q < es2.length), es2[q] = LL10[q].1 from fun q hq hq2 => by
            have h9 := HLL10.out
            subst h9
            exact List.getElem_map _)
          clear HO6 HOB7 HTO HPE HL6
          have hn28 : N2 ≤ 8 := by have := HO1.out; omega
          go_wp2_with fail
          go_loopw [16, 17, 18, 19, 20, 21] (fun s16 s17 s18 s19 s20 s21 wr => ∃ i : Nat, s16 = .int .i64 i ∧ s17 = .int .i64 i ∧ i ≤ j ∧ Hid (Ext No w10 wr)) (fun _ s17 _ _ _ _ _ => j - (intOf s17).toNat)
          case atStart => exact ⟨0, rfl, rfl, Nat.zero_le _, Lib.hid (Ext.refl _ _)⟩
          case round =>
            obtain ⟨i, rfl, rfl, hi, hx⟩ := hrel
            rename World => wi
            by_cases hlt3 : i < j
            · have hiz : (i : Int) < (j : Int) := by omega
              have hiz0 : 0 ≤ (i : Int) := by omega
              have HII : Hid (Value.int .i64 ((i : Int) + 1) = .int .i64 ((i + 1 : Nat) : Int)) := Lib.hid (by rw [show ((i + 1 : Nat) : Int) = (i : Int) + 1 from by omega])
              have HIL := Lib.hid (show i < LL7.length from by have := HLN7.out; omega)
              have HIE := Lib.hid (show i < es1.length from by have := HN1.out; omega)
              obtain ⟨b, off, cap', hsl, -, -, hc⟩ := HLA7.out.atE HIL.out
              rw [HLN7.out] at hsl
              simp only [Value.slice.injEq] at hsl
              obtain ⟨rfl, -, rfl⟩ := hsl
              have HC7 := Lib.hid hc
              have HDI := Lib.hid (hc i HIL.out).2.2.2.2.2
              clear hc
              obtain ⟨t, ht⟩ : ∃ t, t = (LL7[i]'HIL.out).1.t := ⟨_, rfl⟩
              rw [← ht] at HDI
              have HTI := Lib.hid (show (es1[i]'HIE.out).t = t from by rw [ht, HT7.out i HIL.out HIE.out])
              clear ht
              go_wp2_with fail
              go_loopw [18, 19] (fun s18 s19 wr => ∃ (q o : Nat), s19 = .int .i64 q ∧ s18 = .int .i64 o ∧ q ≤ j ∧ Hid (o = olderE (es1.take q) t) ∧ Hid (Ext No w10 wr)) (fun _ s19 _ => j - (intOf s19).toNat)
              case atStart => exact ⟨0, 0, rfl, rfl, Nat.zero_le _, Lib.hid rfl, hx⟩
              case round =>
                clear hx
                obtain ⟨q, o, rfl, rfl, hq, hov, hx⟩ := hrel
                rename World => wo
                by_cases hlt4 : q < j
                · have hqz : (q : Int) < (j : Int) := by omega
                  have hqz0 : 0 ≤ (q : Int) := by omega
                  have HQQ : Hid (Value.int .i64 ((q : Int) + 1) = .int .i64 ((q + 1 : Nat) : Int)) := Lib.hid (by rw [show ((q + 1 : Nat) : Int) = (q : Int) + 1 from by omega])
                  have HOO : Hid (Value.int .i64 ((o : Int) + 1) = .int .i64 ((o + 1 : Nat) : Int)) := Lib.hid (by rw [show ((o + 1 : Nat) : Int) = (o : Int) + 1 from by omega])
                  have ho8 : o ≤ j := by
                    rw [hov.out]
                    unfold olderE
                    exact Nat.le_trans (List.length_filter_le _ _) (by rw [List.length_take]; omega)
                  have HQL := Lib.hid (show q < LL7.length from by have := HLN7.out; omega)
                  have HQE := Lib.hid (show q < es1.length from by have := HN1.out; omega)
                  have d1 := hx.out.keep (HC7.out q HQL.out).2.2.2.2.2
                  have d2 := hx.out.keep HDI.out
                  obtain ⟨tq, htq⟩ : ∃ tq, tq = (LL7[q]'HQL.out).1.t := ⟨_, rfl⟩
                  rw [← htq] at d1
                  have HTQ := Lib.hid (show (es1[q]'HQE.out).t = tq from by rw [htq, HT7.out q HQL.out HQE.out])
                  clear htq
                  by_cases hc : tq < t
                  · have HCC := Lib.hid hc
                    go_wp2_with fail
                    go_quiet (fail)
                    go_wp2_with fail
                    go_roundw
                    case rel => exact ⟨q + 1, o + 1, HQQ.out, HOO.out, hlt4, Lib.hid (by rw [older_step HQE.out, HTQ.out, if_pos HCC.out, ← hov.out]), Lib.hid (hx.out.drewN _)⟩
                    case measure => simp [intOf]; omega
                  · have HCC := Lib.hid hc
                    go_wp2_with fail
                    go_quiet (fail)
                    go_wp2_with fail
                    go_roundw
                    case rel => exact ⟨q + 1, o, HQQ.out, rfl, hlt4, Lib.hid (by rw [older_step HQE.out, HTQ.out, if_neg (by have := HCC.out; omega), ← hov.out]; rfl), Lib.hid (hx.out.drewN _)⟩
                    case measure => simp [intOf]; omega
                · have hge4 : ¬ (q : Int) < (j : Int) := by omega
                  obtain rfl : q = j := by omega
                  have HOL := Lib.hid (show o = olderE es1 t from by rw [hov.out, List.take_of_length_le (by have := HN1.out; omega)])
                  clear hov
                  go_wp2_with fail
                  go_loopw [20, 21] (fun s20 s21 wr => ∃ (r : Nat) (kb : Bool), s21 = .int .i64 r ∧ s20 = .bool kb ∧ r ≤ N2 ∧ Hid (kb = keptE (es2.take r) t) ∧ Hid (Ext No w10 wr)) (fun _ s21 _ => N2 - (intOf s21).toNat)
                  case atStart => exact ⟨0, false, rfl, rfl, Nat.zero_le _, Lib.hid rfl, hx⟩
                  case round =>
                    clear hx
                    obtain ⟨r, kb, rfl, rfl, hr, hkv, hx⟩ := hrel
                    rename World => wk
                    by_cases hlt5 : r < N2
                    · have hrz : (r : Int) < (N2 : Int) := by omega
                      have hrz0 : 0 ≤ (r : Int) := by omega
                      have HRR : Hid (Value.int .i64 ((r : Int) + 1) = .int .i64 ((r + 1 : Nat) : Int)) := Lib.hid (by rw [show ((r + 1 : Nat) : Int) = (r : Int) + 1 from by omega])
                      have HRL := Lib.hid (show r < LL10.length from by have := HLN10.out; omega)
                      have HRE := Lib.hid (show r < es2.length from by have := HN2.out; omega)
                      obtain ⟨b2, off2, cap2, hsl, -, -, hc⟩ := HLA10.out.atE HRL.out
                      rw [HLN10.out] at hsl
                      simp only [Value.slice.injEq] at hsl
                      obtain ⟨rfl, -, rfl⟩ := hsl
                      have d1 := hx.out.keep (hc r HRL.out).2.2.2.2.2
                      have d2 := hx.out.keep HDI.out
                      clear hc
                      obtain ⟨tq, htq⟩ : ∃ tq, tq = (LL10[r]'HRL.out).1.t := ⟨_, rfl⟩
                      rw [← htq] at d1
                      have HTQ := Lib.hid (show (es2[r]'HRE.out).t = tq from by rw [htq, HTK.out r HRL.out HRE.out])
                      clear htq
                      have HKS := Lib.hid (show keptE (es2.take (r + 1)) t = (kb || decide (tq = t)) from by rw [kept_step HRE.out, HTQ.out, ← hkv.out])
                      cases kb with
                      | true =>
                        go_wp2_with fail
                        go_quiet (fail)
                        go_wp2_with fail
                        go_roundw
                        case rel => exact ⟨r + 1, true, HRR.out, rfl, hlt5, Lib.hid (by rw [HKS.out]; rfl), Lib.hid (hx.out.drewN _)⟩
                        case measure => simp [intOf]; omega
                      | false =>
                        obtain ⟨eb, heb⟩ : ∃ eb : Bool, (tq == t) = eb := ⟨_, rfl⟩
                        have HEB := Lib.hid heb
                        go_wp2_with fail
                        go_quiet (fail)
                        go_wp2_with fail
                        go_roundw
                        case rel => exact ⟨r + 1, eb, HRR.out, rfl, hlt5, Lib.hid (by rw [HKS.out, ← HEB.out, Bool.false_or]; rfl), Lib.hid (hx.out.drewN _)⟩
                        case measure => simp [intOf]; omega
                    · have hge5 : ¬ (r : Int) < (N2 : Int) := by omega
                      obtain rfl : r = N2 := by omega
                      have hkl : kb = decide (O ≤ o) := by
                        rw [hkv.out, List.take_of_length_le (by have := HN2.out; omega), HEV.out, ← HTI.out, kept_law HTD1.out _ (List.getElem_mem HIE.out), Int.toNat_natCast, HTI.out, ← HOL.out, ← HN1.out, ← HOM.out]
                      clear hkv
                      by_cases hoo : O ≤ o
                      · rw [decide_eq_true hoo] at hkl
                        subst hkl
                        have hgz : decide ((o : Int) ≥ (O : Int)) = true := decide_eq_true (by omega)
                        go_wp2_with fail
                        go_roundw
                        case rel => exact ⟨i + 1, HII.out, HII.out, hlt3, hx⟩
                        case measure => simp [intOf]; omega
                      · rw [decide_eq_false hoo] at hkl
                        subst hkl
                        have hgz : decide ((o : Int) ≥ (O : Int)) = false := decide_eq_false (by omega)
                        go_wp2_with fail
                        go_roundw
                        case rel => exact ⟨i + 1, HII.out, HII.out, hlt3, hx⟩
                        case measure => simp [intOf]; omega
            · have hge3 : ¬ (i : Int) < (j : Int) := by omega
              obtain rfl : i = j := by omega
              go_wp2_with fail
              refine (sane19_any wi).mono ?_
              rintro q11 w11 ⟨rfl, hx11⟩
              go_wp2_with fail
              go_ret
              exact ⟨rfl, (HE10.out.transNo hx.out).transNo hx11⟩
end Go.Proofs.Ytfejidihocoboaa

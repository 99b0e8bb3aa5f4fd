/- The walk of MemoScript. -/
import Derived.Test.YtfejidihocoboaaN45
set_option linter.unusedVariables false
set_option linter.unusedSimpArgs false
namespace Go.Proofs.Ytfejidihocoboaa
open Go Go.RowKit
set_option maxRecDepth 100000 in
set_option maxHeartbeats 16000000 in
theorem memoScript_any (sl : Value) (zs : List Int) (z : Int) (W : World) (h : Ints No W .i64 sl zs) : Calls Try.prog 5 #[sl, .int .i64 z] W (BoolPost true W) := by
  have H := Lib.hid h
  obtain ⟨a, cap, rfl⟩ := Row.slice h
  clear h
  go_enter Try.func5, Try.ntmps5
  go_wp2_with fail
  refine (new_any _ zs W H.out).mono ?_
  rintro q1 w0 ⟨rfl, ht1, hx1, hs1⟩
  have HT0 := Lib.hid ht1
  have HX0 := Lib.hid hx1
  have HS0 := Lib.hid hs1
  clear ht1 hx1 hs1
  go_wp2_with fail
  refine (next_lt W.heap.size 6 (by decide) (by decide) _ HT0.out).mono ?_
  rintro q1 w1 ⟨c, rfl, hc6, ht1, hx1, hs1⟩
  have HT1 := Lib.hid ht1
  have HX1 := Lib.hid (show Ext No W w1 from HX0.out.trans2 hx1 (fun i hi e => by have e2 : i = W.heap.size := e; omega))
  have HS1 := Lib.hid (show w1.heap.size = W.heap.size + 1 from hs1.trans HS0.out)
  clear ht1 hx1 hs1 HT0 HX0 HS0
  go_wp2_with fail
  refine (mnew_any (c : Int) w1).mono ?_
  rintro q2 w2 ⟨-, hn, hx2⟩
  obtain ⟨T, bm, rfl, hP2⟩ := hn (by omega)
  have HX2 := Lib.hid hx2
  have HT2 := Lib.hid (HT1.out.ext hx2)
  have HP2 := Lib.hid hP2.out
  clear hn hx2 hP2 HT1
  unfold ptrV
  go_upto_region 7 with (fail)
  have HA0 := Lib.hid (ab_start (M := fun b => b ≤ W.heap.size) (tb := W.heap.size) HP2.out (fun b hb => by have := HS1.out; omega) HX2.out.size HT2.out (by omega) #[.pointer (some ⟨T, 0, none⟩), .pointer (some ⟨w2.heap.size, 0, none⟩)] 34)
  have HB0 := Lib.hid (show ((w2.alloc (.cells #[.int .i64 (c : Int), .slice none 0 0, .int .i64 0] 32)).alloc (.cells #[.pointer (some ⟨T, 0, none⟩), .pointer (some ⟨w2.heap.size, 0, none⟩)] 34)).heap[w2.heap.size + 1]? = some (.cells #[.pointer (some ⟨T, 0, none⟩), .pointer (some ⟨w2.heap.size, 0, none⟩)] 34 (0, 0)) from alloc_top (by simp))
  have HEND := Lib.hid (show ∀ w, Ext (fun b => b = W.heap.size ∨ TOwn T w2.heap.size bm (.slice none 0 0) (.slice none 0 0) [] b) ((w2.alloc (.cells #[.int .i64 (c : Int), .slice none 0 0, .int .i64 0] 32)).alloc (.cells #[.pointer (some ⟨T, 0, none⟩), .pointer (some ⟨w2.heap.size, 0, none⟩)] 34)) w → Ext No W w from fun w hw => ((HX1.out.transNo HX2.out).transNo (((Ext.refl No w2).alloc _).alloc _)).trans2 hw (fun i hi e => by
    rcases e with e | (e | e | e)
    · omega
    · have h9 := HP2.out.t.out i e
      have := HS1.out
      unfold Lo at h9
      omega
    · have := HX1.out.size; have := HX2.out.size; omega
    · cases e))
  have HBN := Lib.hid (show ∀ b, (b = W.heap.size ∨ TOwn T w2.heap.size bm (.slice none 0 0) (.slice none 0 0) [] b) → b ≠ w2.heap.size + 1 from fun b e e2 => by
    rcases e with e | (e | e | e)
    · have := HS1.out; have := HX2.out.size; omega
    · have := HP2.out.ownLt e; omega
    · omega
    · cases e)
  have HMM := Lib.hid (show ∀ b, b ≤ W.heap.size → b < ((w2.alloc (.cells #[.int .i64 (c : Int), .slice none 0 0, .int .i64 0] 32)).alloc (.cells #[.pointer (some ⟨T, 0, none⟩), .pointer (some ⟨w2.heap.size, 0, none⟩)] 34)).heap.size from fun b hb => by have := HS1.out; have := HX2.out.size; simp; omega)
  clear HX1 HX2 HS1 HP2 HT2 H
  generalize ((w2.alloc (.cells #[.int .i64 (c : Int), .slice none 0 0, .int .i64 0] 32)).alloc (.cells #[.pointer (some ⟨T, 0, none⟩), .pointer (some ⟨w2.heap.size, 0, none⟩)] 34)) = V0 at *
  generalize TOwn T w2.heap.size bm (.slice none 0 0) (.slice none 0 0) [] = OW at *
  generalize w2.heap.size + 1 = bb at *
  generalize w2.heap.size = D at *
  go_wp2_with fail
  go_loopw [10] (fun s10 wr => ∃ i : Nat, s10 = .int .i64 i ∧ i ≤ 40 ∧ Hid (ABx (fun b => b ≤ W.heap.size) V0 OW T D W.heap.size c (i : Int) True wr)) (fun s10 _ => 40 - (intOf s10).toNat)
  case atStart => exact ⟨0, rfl, by omega, Lib.hid ⟨_, _, _, _, _, _, _, HA0.out⟩⟩
  case round =>
    clear HA0
    obtain ⟨i, rfl, hi, hA⟩ := hrel
    rename World => wr
    obtain ⟨clk, es, bm, vk, v, L, LL, hA⟩ := hA.out
    have HA := Lib.hid hA
    clear hA
    by_cases hlt : i < 40
    · have hlz : (i : Int) < 40 := by omega
      have HKK : Hid (Value.int .i64 ((i : Int) + 1) = .int .i64 ((i + 1 : Nat) : Int)) := Lib.hid (by rw [show ((i + 1 : Nat) : Int) = (i : Int) + 1 from by omega])
      have cB := cellOf (HA.out.ext.blk HB0.out (fun e => HBN.out _ e rfl))
      go_wp2_with fail
      refine (act_any HA.out (fun b hb => hb) HMM.out (by omega) (by omega)).mono ?_
      rintro q3 w3 ⟨clk3, es3, bm3, vk3, v3, L3, LL3, rfl, hA3⟩
      have cB := cellOf (hA3.out.ext.blk HB0.out (fun e => HBN.out _ e rfl))
      go_wp2_with fail
      refine (agrees_two hA3.out.two hA3.out.pe hA3.out.re hA3.out.inv (by omega)).mono ?_
      rintro q4 w4 ⟨rfl, hx4⟩
      go_wp2_with fail
      go_roundw
      case rel => exact ⟨i + 1, HKK.out, hlt, Lib.hid ⟨clk3, es3, bm3, vk3, v3, L3, LL3, by rw [show ((i + 1 : Nat) : Int) = (i : Int) + 1 from by omega]; exact hA3.out.stepNo hx4⟩⟩
      case measure => simp [intOf]; omega
    · have hge : ¬ (i : Int) < 40 := by omega
      obtain rfl : i = 40 := by omega
      have HE := Lib.hid (HEND.out _ HA.out.ext)
      clear HA HMM HBN HB0 HEND
      go_wp2_with fail
      refine (mnew_any z wr).mono ?_
      rintro q5 w5 ⟨hb, hg, hx5⟩
      have HX5 := Lib.hid (HE.out.transNo hx5)
      by_cases h1 : z < 0
      · obtain rfl := hb (.inl h1)
        clear hb hg hx5
        go_wp2_with fail
        refine (sane19_any w5).mono ?_
        rintro q6 w6 ⟨rfl, hx6⟩
        go_wp2_with fail
        go_ret
        exact ⟨rfl, HX5.out.transNo hx6⟩
      · by_cases h2 : 512 < z
        · obtain rfl := hb (.inr h2)
          clear hb hg hx5
          go_wp2_with fail
          refine (sane19_any w5).mono ?_
          rintro q6 w6 ⟨rfl, hx6⟩
          go_wp2_with fail
          go_ret
          exact ⟨rfl, HX5.out.transNo hx6⟩
        · obtain ⟨T5, bm5, rfl, -⟩ := hg (by omega)
          have hd1 : decide (z < 0) = false := decide_eq_false h1
          have hd2 : decide (512 < z) = false := decide_eq_false h2
          clear hb hg hx5
          unfold ptrV
          go_wp2_with fail
          refine (sane19_any w5).mono ?_
          rintro q6 w6 ⟨rfl, hx6⟩
          go_wp2_with fail
          go_ret
          exact ⟨by first | rfl | (simp [hd1, hd2]), HX5.out.transNo hx6⟩
end Go.Proofs.Ytfejidihocoboaa

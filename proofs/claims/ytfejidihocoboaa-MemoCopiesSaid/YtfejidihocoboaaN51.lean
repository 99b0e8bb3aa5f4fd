/- The walk of MemoCopies. -/
import Derived.Test.YtfejidihocoboaaN50
import Derived.Test.YtfejidihocoboaaN45
set_option linter.unusedVariables false
set_option linter.unusedSimpArgs false
namespace Go.Proofs.Ytfejidihocoboaa
open Go Go.RowKit
/-- the copy beside the table that it was made from -/
theorem two_copy {M : Nat → Prop} {wa w1 w2 : World} {T D T2 D2 bm bm2 : Nat} {cap clk : Int} {vk v vk2 v2 : Value} {L L2 : List PE} {LL : List EV} (h : Two M wa T D cap clk clk bm vk v L LL) (hM : ∀ b, M b → b < wa.heap.size) (hP : PTab (Lo wa.heap.size) w1 T2 cap clk bm2 vk2 L2)
    (hR : RTab (fun b => ((M b ∨ POwn T bm vk L b) ∨ (wa.heap.size ≤ b ∧ b < w1.heap.size)) ∨ ROwnT D v b) w2 D2 cap clk v2 LL) (hO : ∀ b, ROwnT D2 v2 b → w1.heap.size ≤ b) (hx2 : Ext No w1 w2) : Two (fun b => M b ∨ TOwn T D bm vk v L b) w2 T2 D2 cap clk clk bm2 vk2 v2 L2 LL := by
  refine ⟨((hP.mono (M' := fun b => b < wa.heap.size ∨ w1.heap.size ≤ b) (fun i hi e => by unfold Lo; omega)).stepNo hx2).mono (fun i hi e => ?_), hR.mono (fun i hi e => ?_)⟩
  · rcases e with (e | e) | e
    · exact .inl (hM i e)
    · exact .inl (h.ownLt e)
    · exact .inr (hO i e)
  · rcases e with (e | e | e) | e
    · exact .inl (.inl (.inl e))
    · exact .inl (.inl (.inr e))
    · exact .inr e
    · have h1 := hP.ownLt e
      have h2 := hP.t.out i e
      unfold Lo at h2
      exact .inl (.inr ⟨by omega, h1⟩)
/-- two pairs of tables, each clear of the other -/
def PairX (tb T D T2 D2 : Nat) (cap Ka Kb : Int) (w : World) : Prop := ∃ (clk : Int) (es : List Ent) (bm : Nat) (vk v : Value) (L : List PE) (LL : List EV) (clk2 : Int) (es2 : List Ent) (bm2 : Nat) (vk2 v2 : Value) (L2 : List PE) (LL2 : List EV),
  (Two (fun b => b ≤ tb ∨ TOwn T2 D2 bm2 vk2 v2 L2 b) w T D cap clk clk bm vk v L LL ∧ L.map Prod.fst = es ∧ LL.map Prod.fst = es ∧ Inv cap clk Ka es) ∧ (Two (fun b => b ≤ tb ∨ TOwn T D bm vk v L b) w T2 D2 cap clk2 clk2 bm2 vk2 v2 L2 LL2 ∧ L2.map Prod.fst = es2 ∧ LL2.map Prod.fst = es2 ∧ Inv cap clk2 Kb es2) ∧ TapeOk w tb
section
variable {tb T D T2 D2 : Nat} {cap Ka Kb : Int} {w w' W : World}
theorem PairX.symm (h : PairX tb T D T2 D2 cap Ka Kb w) : PairX tb T2 D2 T D cap Kb Ka w := by
  obtain ⟨clk, es, bm, vk, v, L, LL, clk2, es2, bm2, vk2, v2, L2, LL2, h1, h2, h3⟩ := h
  exact ⟨clk2, es2, bm2, vk2, v2, L2, LL2, clk, es, bm, vk, v, L, LL, h2, h1, h3⟩
theorem PairX.stepNo (h : PairX tb T D T2 D2 cap Ka Kb w) (hx : Ext No w w') : PairX tb T D T2 D2 cap Ka Kb w' := by
  obtain ⟨clk, es, bm, vk, v, L, LL, clk2, es2, bm2, vk2, v2, L2, LL2, ⟨h1, h1b⟩, ⟨h2, h2b⟩, h3⟩ := h
  exact ⟨clk, es, bm, vk, v, L, LL, clk2, es2, bm2, vk2, v2, L2, LL2, ⟨h1.stepNo hx, h1b⟩, ⟨h2.stepNo hx, h2b⟩, h3.ext hx⟩
theorem Two.notBox {M : Nat → Prop} {bm : Nat} {clkP clkR : Int} {vk v : Value} {L : List PE} {LL : List EV} {q : Nat} {cs : Array Value} (h : Two M w T D cap clkP clkR bm vk v L LL) (hb : w.heap[q]? = some (.cells cs 34 (0, 0))) : ¬ TOwn T D bm vk v L q := by
  rintro ((e | e | e | ⟨p, hp, e⟩) | (e | e))
  · exact ne_type hb h.p.t.box (by decide) e
  · exact ne_map hb h.p.map e
  · obtain ⟨cur, hc⟩ := h.p.t.keyBlk e
    exact ne_type hb hc (by decide) rfl
  · exact ne_type hb (h.p.t.it p hp) (by decide) e.symm
  · exact ne_type hb h.r.box (by decide) e
  · obtain ⟨cur, hc⟩ := h.r.ents.blk e
    exact ne_type hb hc (by decide) rfl
def PairPost (tb T D T2 D2 : Nat) (cap Ka Kb : Int) (W : World) (e : Ending) (w' : World) : Prop :=
  e = .returned (.bool true) ∧ Hid (PairX tb T D T2 D2 cap Ka Kb w') ∧ Hid (Ext (fun b => tb ≤ b) W w') ∧ Hid (∀ q cs, tb < q → W.heap[q]? = some (.cells cs 34 (0, 0)) → w'.heap[q]? = some (.cells cs 34 (0, 0)))
theorem act_pair (h : PairX tb T D T2 D2 cap Ka Kb W) (hK : Ka ≤ 1000) (hcap : cap ≤ 19) :
    Calls Try.prog 10 #[.agg #[.pointer (some ⟨T, 0, none⟩), .pointer (some ⟨D, 0, none⟩)], .pointer (some ⟨tb, 0, none⟩)] W (PairPost tb T D T2 D2 cap (Ka + 1) Kb W) := by
  obtain ⟨clk, es, bm, vk, v, L, LL, clk2, es2, bm2, vk2, v2, L2, LL2, ⟨h1, e1, e2, i1⟩, ⟨h2, e3, e4, i2⟩, h3⟩ := h
  have hA : AB (fun b => b ≤ tb ∨ TOwn T2 D2 bm2 vk2 v2 L2 b) W (TOwn T D bm vk v L) T D tb cap Ka False W clk es bm vk v L LL := ⟨h1, e1, e2, i1, fun h => h.elim, h3, Ext.refl _ _, fun b hb => .inl hb⟩
  refine (act_any hA (fun b hb => .inl hb) (fun b hb => hb.elim (fun e => Nat.lt_of_le_of_lt e h3.lt) (fun e => h2.ownLt e)) hK hcap).mono ?_
  rintro e w' ⟨clk', es', bm', vk', v', L', LL', rfl, hB⟩
  have hB := hB.out
  have h4 : Two (fun b => b ≤ tb ∨ TOwn T D bm' vk' v' L' b) w' T2 D2 cap clk2 clk2 bm2 vk2 v2 L2 LL2 :=
    ((h2.mono (M' := fun b => (b ≤ tb ∨ TOwn T D bm vk v L b) ∨ W.heap.size ≤ b) (fun i hi e => e.elim id (fun e => by omega))).ext hB.ext (fun i _ e => .inl (e.elim (fun e => .inl (by omega)) .inr))).mono (fun i _ e => by
      rcases e with e | e
      · exact .inl (.inl e)
      · exact (hB.own i e).elim (fun e => .inl (.inr e)) .inr)
  refine ⟨rfl, Lib.hid ⟨clk', es', bm', vk', v', L', LL', clk2, es2, bm2, vk2, v2, L2, LL2, ⟨hB.two, hB.pe, hB.re, hB.inv⟩, ⟨h4, e3, e4, i2⟩, hB.tape⟩, Lib.hid (hB.ext.mono (fun i _ e => ?_)), Lib.hid (fun q cs hq hb => hB.ext.blk hb (fun e => ?_))⟩
  · rcases e with e | e
    · omega
    · have h5 := h1.out e
      omega
  · rcases e with e | e
    · omega
    · exact h1.notBox hb e
theorem agrees_pair (h : PairX tb T D T2 D2 cap Ka Kb W) (hcap : cap ≤ 19) :
    Calls Try.prog 21 #[.agg #[.pointer (some ⟨T, 0, none⟩), .pointer (some ⟨D, 0, none⟩)]] W (BoolPost true W) := by
  obtain ⟨clk, es, bm, vk, v, L, LL, clk2, es2, bm2, vk2, v2, L2, LL2, ⟨h1, e1, e2, i1⟩, -, -⟩ := h
  exact agrees_two h1 e1 e2 i1 hcap
end
set_option maxRecDepth 100000 in
set_option maxHeartbeats 16000000 in
theorem memoCopies_any (sl : Value) (zs : List Int) (W : World) (h : Ints No W .i64 sl zs) : Calls Try.prog 7 #[sl] W (BoolPost true W) := by
  have H := Lib.hid h
  obtain ⟨a, cap, rfl⟩ := Row.slice h
  clear h
  go_enter Try.func7, Try.ntmps7
  go_wp2_with fail
  refine (new_any _ zs W H.out).mono ?_
  rintro q1 w1 ⟨rfl, ht1, hx1, hs1⟩
  have HT1 := Lib.hid ht1
  have HX1 := Lib.hid (show Ext No W w1 from hx1)
  have HS1 := Lib.hid (show w1.heap.size = W.heap.size + 1 from hs1)
  clear ht1 hx1 hs1
  go_wp2_with fail
  refine (mnew_any 4 w1).mono ?_
  rintro q2 w2 ⟨-, hn, hx2⟩
  obtain ⟨T, bm, rfl, hP2⟩ := hn (by omega)
  have HX2 := Lib.hid hx2
  have HT2 := Lib.hid (HT1.out.ext hx2)
  have HP2 := Lib.hid hP2.out
  clear hn hx2 hP2 HT1
  unfold ptrV
  go_upto_region 6 with (fail)
  have HA0 := Lib.hid (ab_start (M := fun b => b ≤ W.heap.size) (tb := W.heap.size) HP2.out (fun b hb => by have := HS1.out; omega) HX2.out.size HT2.out (by omega) #[.pointer (some ⟨T, 0, none⟩), .pointer (some ⟨w2.heap.size, 0, none⟩)] 34)
  have HB0 := Lib.hid (show ((w2.alloc (.cells #[.int .i64 4, .slice none 0 0, .int .i64 0] 32)).alloc (.cells #[.pointer (some ⟨T, 0, none⟩), .pointer (some ⟨w2.heap.size, 0, none⟩)] 34)).heap[w2.heap.size + 1]? = some (.cells #[.pointer (some ⟨T, 0, none⟩), .pointer (some ⟨w2.heap.size, 0, none⟩)] 34 (0, 0)) from alloc_top (by simp))
  have HEND := Lib.hid (show ∀ w, Ext (fun b => b = W.heap.size ∨ TOwn T w2.heap.size bm (.slice none 0 0) (.slice none 0 0) [] b) ((w2.alloc (.cells #[.int .i64 4, .slice none 0 0, .int .i64 0] 32)).alloc (.cells #[.pointer (some ⟨T, 0, none⟩), .pointer (some ⟨w2.heap.size, 0, none⟩)] 34)) w → Ext No W w from fun w hw => ((HX1.out.transNo HX2.out).transNo (((Ext.refl No w2).alloc _).alloc _)).trans2 hw (fun i hi e => by
    rcases e with e | (e | e | e)
    · omega
    · have h9 := HP2.out.t.out i e
      have := HS1.out
      unfold Lo at h9
      omega
    · have := HX1.out.size; have := HX2.out.size; omega
    · cases e))
  have HBN := Lib.hid (show ∀ b, (b = W.heap.size ∨ TOwn T w2.heap.size bm (.slice none 0 0) (.slice none 0 0) [] b) → b ≠ w2.heap.size + 1 from fun b e e2 => by
    rcases e with e | (e | e | e)
    · have := HS1.out; have := HX2.out.size; omega
    · have := HP2.out.ownLt e; omega
    · omega
    · cases e)
  have HMM := Lib.hid (show ∀ b, b ≤ W.heap.size → b < ((w2.alloc (.cells #[.int .i64 4, .slice none 0 0, .int .i64 0] 32)).alloc (.cells #[.pointer (some ⟨T, 0, none⟩), .pointer (some ⟨w2.heap.size, 0, none⟩)] 34)).heap.size from fun b hb => by have := HS1.out; have := HX2.out.size; simp; omega)
  have HBL := Lib.hid (show W.heap.size < w2.heap.size + 1 from by have := HS1.out; have := HX2.out.size; omega)
  clear HX1 HX2 HS1 HP2 HT2 H
  generalize ((w2.alloc (.cells #[.int .i64 4, .slice none 0 0, .int .i64 0] 32)).alloc (.cells #[.pointer (some ⟨T, 0, none⟩), .pointer (some ⟨w2.heap.size, 0, none⟩)] 34)) = V0 at *
  generalize TOwn T w2.heap.size bm (.slice none 0 0) (.slice none 0 0) [] = OW at *
  generalize w2.heap.size + 1 = bb at *
  generalize w2.heap.size = D at *
  go_wp2_with fail
  go_loopw [7] (fun s7 wr => ∃ i : Nat, s7 = .int .i64 i ∧ i ≤ 10 ∧ Hid (ABx (fun b => b ≤ W.heap.size) V0 OW T D W.heap.size 4 (i : Int) True wr)) (fun s7 _ => 10 - (intOf s7).toNat)
  case atStart => exact ⟨0, rfl, by omega, Lib.hid ⟨_, _, _, _, _, _, _, HA0.out⟩⟩
  case round =>
    clear HA0
    obtain ⟨i, rfl, hi, hA⟩ := hrel
    rename World => wr
    obtain ⟨clk, es, bm, vk, v, L, LL, hA⟩ := hA.out
    have HA := Lib.hid hA
    clear hA
    by_cases hlt : i < 10
    · have hlz : (i : Int) < 10 := by omega
      have HKK : Hid (Value.int .i64 ((i : Int) + 1) = .int .i64 ((i + 1 : Nat) : Int)) := Lib.hid (by rw [show ((i + 1 : Nat) : Int) = (i : Int) + 1 from by omega])
      have cB := cellOf (HA.out.ext.blk HB0.out (fun e => HBN.out _ e rfl))
      go_wp2_with fail
      refine (act_any HA.out (fun b hb => hb) HMM.out (by omega) (by omega)).mono ?_
      rintro q3 w3 ⟨clk3, es3, bm3, vk3, v3, L3, LL3, rfl, hA3⟩
      go_wp2_with fail
      go_roundw
      case rel => exact ⟨i + 1, HKK.out, hlt, Lib.hid ⟨clk3, es3, bm3, vk3, v3, L3, LL3, by rw [show ((i + 1 : Nat) : Int) = (i : Int) + 1 from by omega]; exact hA3.out⟩⟩
      case measure => simp [intOf]; omega
    · have hge : ¬ (i : Int) < 10 := by omega
      obtain rfl : i = 10 := by omega
      have HE := Lib.hid (HEND.out _ HA.out.ext)
      have HBA := Lib.hid (HA.out.ext.blk HB0.out (fun e => HBN.out _ e rfl))
      have HM2 := Lib.hid (show ∀ b, b ≤ W.heap.size → b < wr.heap.size from fun b hb => Nat.lt_of_lt_of_le (HMM.out b hb) HA.out.ext.size)
      have HN := Lib.hid (show LL.length ≤ 1000 from by have h1 := HA.out.inv.len; rw [← HA.out.re, List.length_map] at h1; omega)
      have h1 := mcopy_any HA.out.two.p HA.out.pe HA.out.inv (by omega) (by omega)
      have HCP := Lib.hid h1
      clear HMM HBN HB0 HEND h1
      go_wp2_with fail
      refine HCP.out.mono ?_
      rintro q4 w4 ⟨T2, bm2, vk2, L2, rfl, hP4, hL4, hx4⟩
      have HP4 := Lib.hid hP4.out
      have HL4 := Lib.hid hL4.out
      have HX4 := Lib.hid hx4
      have HRM := Lib.hid (show RTab (fun b => (b ≤ W.heap.size ∨ POwn T bm vk L b) ∨ (wr.heap.size ≤ b ∧ b < w4.heap.size)) w4 D 4 clk v LL from (HA.out.two.r.mono (fun i hi e => e.elim id (fun e => by omega))).stepNo hx4)
      have HMR := Lib.hid (show ∀ b, ((b ≤ W.heap.size ∨ POwn T bm vk L b) ∨ (wr.heap.size ≤ b ∧ b < w4.heap.size)) → b < w4.heap.size from fun b e => by
        rcases e with (e | e) | e
        · exact Nat.lt_of_lt_of_le (HM2.out b e) HX4.out.size
        · exact Nat.lt_of_lt_of_le (HA.out.two.p.ownLt e) HX4.out.size
        · exact e.2)
      have HBA4 := Lib.hid (hx4.blk HBA.out no_no)
      have cB := cellOf HBA4.out
      clear hP4 hL4 hx4 HCP
      unfold ptrV
      go_upto_region 14 with (go_at_call 26; (refine (rcopy_any HRM.out HN.out HMR.out).mono ?_); (rintro q5 w5 ⟨D2, v2, rfl, hR5, hO5, hx5⟩); (have HR5 := Lib.hid hR5.out); (have HO5 := Lib.hid hO5.out); (have HX5 := Lib.hid hx5); (clear hR5 hO5 hx5); (unfold ptrV))
      have hya := (Ext.refl No w5).alloc (.cells #[.pointer (some ⟨T2, 0, none⟩), .pointer (some ⟨D2, 0, none⟩)] 34)
      have HB2 := Lib.hid (alloc_top (w := w5) (o := .cells #[.pointer (some ⟨T2, 0, none⟩), .pointer (some ⟨D2, 0, none⟩)] 34) rfl)
      have HBA5 := Lib.hid (hya.blk (HX5.out.blk HBA4.out no_no) no_no)
      have HPX := Lib.hid (show PairX W.heap.size T D T2 D2 4 (10 : Nat) 10 (w5.alloc (.cells #[.pointer (some ⟨T2, 0, none⟩), .pointer (some ⟨D2, 0, none⟩)] 34)) from by
        have hE5 := HX4.out.transNo HX5.out
        have h2 := two_copy HA.out.two HM2.out HP4.out HR5.out HO5.out HX5.out
        have h1 : Two (fun b => b ≤ W.heap.size ∨ TOwn T2 D2 bm2 vk2 v2 L2 b) w5 T D 4 clk clk bm vk v L LL := (HA.out.two.mono (M' := fun b => b ≤ W.heap.size ∨ wr.heap.size ≤ b) (fun i hi e => e.elim id (fun e => by omega))).stepNo hE5 |>.mono (fun i _ e => by
          rcases e with e | e | e
          · exact .inl e
          · have h9 := HP4.out.t.out i e
            unfold Lo at h9
            exact .inr (by omega)
          · exact .inr (Nat.le_trans HX4.out.size (HO5.out i e)))
        exact PairX.stepNo ⟨clk, es, bm, vk, v, L, LL, clk, es, bm2, vk2, v2, L2, LL, ⟨h1, HA.out.pe, HA.out.re, HA.out.inv⟩, ⟨h2, HL4.out, HA.out.re, HA.out.inv⟩, HA.out.tape.ext hE5⟩ ((Ext.refl _ _).alloc _))
      have HE5 := Lib.hid (((HE.out.transNo HX4.out).transNo HX5.out).transNo hya)
      have HBL2 := Lib.hid (show W.heap.size < w5.heap.size from Nat.lt_of_lt_of_le (HM2.out _ (Nat.le_refl _)) (Nat.le_trans HX4.out.size HX5.out.size))
      clear hya HA HE HBA HM2 HN HP4 HL4 HX4 HRM HMR HBA4 HR5 HO5 HX5 cB
      generalize (w5.alloc (.cells #[.pointer (some ⟨T2, 0, none⟩), .pointer (some ⟨D2, 0, none⟩)] 34)) = w6 at *
      generalize w5.heap.size = b2 at *
      go_wp2_with fail
      go_loopw [10] (fun s10 wr => ∃ i : Nat, s10 = .int .i64 i ∧ i ≤ 10 ∧ Hid (PairX W.heap.size T D T2 D2 4 (10 + (i : Int)) 10 wr) ∧ Hid (Ext No W wr) ∧ Hid (wr.heap[bb]? = some (.cells #[.pointer (some ⟨T, 0, none⟩), .pointer (some ⟨D, 0, none⟩)] 34 (0, 0))) ∧ Hid (wr.heap[b2]? = some (.cells #[.pointer (some ⟨T2, 0, none⟩), .pointer (some ⟨D2, 0, none⟩)] 34 (0, 0)))) (fun s10 _ => 10 - (intOf s10).toNat)
      case atStart => exact ⟨0, rfl, by omega, HPX, HE5, HBA5, HB2⟩
      case round =>
        clear HPX HE5 HBA5 HB2
        obtain ⟨j, rfl, hj, HPX, HE5, HBA5, HB2⟩ := hrel
        rename World => wx
        by_cases hlt2 : j < 10
        · have hlz2 : (j : Int) < 10 := by omega
          have HKK : Hid (Value.int .i64 ((j : Int) + 1) = .int .i64 ((j + 1 : Nat) : Int)) := Lib.hid (by rw [show ((j + 1 : Nat) : Int) = (j : Int) + 1 from by omega])
          have cB := cellOf HBA5.out
          go_wp2_with fail
          refine (act_pair HPX.out (by omega) (by omega)).mono ?_
          rintro q3 w3 ⟨rfl, hp3, hx3, hb3⟩
          have cB := cellOf (hb3.out _ _ HBL2.out HB2.out)
          go_wp2_with fail
          refine (agrees_pair hp3.out.symm (by omega)).mono ?_
          rintro q4 w4 ⟨rfl, hx4⟩
          go_wp2_with fail
          go_roundw
          case rel => exact ⟨j + 1, HKK.out, hlt2, Lib.hid (by rw [show (10 : Int) + ((j + 1 : Nat) : Int) = 10 + (j : Int) + 1 from by omega]; exact hp3.out.stepNo hx4), Lib.hid ((HE5.out.trans2 hx3.out (fun i hi e => by omega)).transNo hx4), Lib.hid (hx4.blk (hb3.out _ _ HBL.out HBA5.out) no_no), Lib.hid (hx4.blk (hb3.out _ _ HBL2.out HB2.out) no_no)⟩
          case measure => simp [intOf]; omega
        · have hge2 : ¬ (j : Int) < 10 := by omega
          obtain rfl : j = 10 := by omega
          have HPY := Lib.hid HPX.out.symm
          clear HPX
          go_wp2_with fail
          go_loopw [11] (fun s11 wr => ∃ i : Nat, s11 = .int .i64 i ∧ i ≤ 10 ∧ Hid (PairX W.heap.size T2 D2 T D 4 (10 + (i : Int)) (10 + ((10 : Nat) : Int)) wr) ∧ Hid (Ext No W wr) ∧ Hid (wr.heap[bb]? = some (.cells #[.pointer (some ⟨T, 0, none⟩), .pointer (some ⟨D, 0, none⟩)] 34 (0, 0))) ∧ Hid (wr.heap[b2]? = some (.cells #[.pointer (some ⟨T2, 0, none⟩), .pointer (some ⟨D2, 0, none⟩)] 34 (0, 0)))) (fun s11 _ => 10 - (intOf s11).toNat)
          case atStart => exact ⟨0, rfl, by omega, HPY, HE5, HBA5, HB2⟩
          case round =>
            clear HPY HE5 HBA5 HB2
            obtain ⟨k, rfl, hk, HPX, HE5, HBA5, HB2⟩ := hrel
            rename World => wy
            by_cases hlt3 : k < 10
            · have hlz3 : (k : Int) < 10 := by omega
              have HKK : Hid (Value.int .i64 ((k : Int) + 1) = .int .i64 ((k + 1 : Nat) : Int)) := Lib.hid (by rw [show ((k + 1 : Nat) : Int) = (k : Int) + 1 from by omega])
              have cB := cellOf HB2.out
              go_wp2_with fail
              refine (act_pair HPX.out (by omega) (by omega)).mono ?_
              rintro q3 w3 ⟨rfl, hp3, hx3, hb3⟩
              have cA := cellOf (hb3.out _ _ HBL.out HBA5.out)
              go_wp2_with fail
              refine (agrees_pair hp3.out.symm (by omega)).mono ?_
              rintro q4 w4 ⟨rfl, hx4⟩
              have cC := cellOf (hx4.blk (hb3.out _ _ HBL2.out HB2.out) no_no)
              go_wp2_with fail
              refine (agrees_pair (hp3.out.stepNo hx4) (by omega)).mono ?_
              rintro q5 w5 ⟨rfl, hx5⟩
              go_wp2_with fail
              go_roundw
              case rel => exact ⟨k + 1, HKK.out, hlt3, Lib.hid (by rw [show (10 : Int) + ((k + 1 : Nat) : Int) = 10 + (k : Int) + 1 from by omega]; exact (hp3.out.stepNo hx4).stepNo hx5), Lib.hid (((HE5.out.trans2 hx3.out (fun i hi e => by omega)).transNo hx4).transNo hx5), Lib.hid (hx5.blk (hx4.blk (hb3.out _ _ HBL.out HBA5.out) no_no) no_no), Lib.hid (hx5.blk (hx4.blk (hb3.out _ _ HBL2.out HB2.out) no_no) no_no)⟩
              case measure => simp [intOf]; omega
            · have hge3 : ¬ (k : Int) < 10 := by omega
              go_wp2_with fail
              refine (sane19_any wy).mono ?_
              rintro q6 w6 ⟨rfl, hx6⟩
              go_wp2_with fail
              go_ret
              exact ⟨rfl, HE5.out.transNo hx6⟩
end Go.Proofs.Ytfejidihocoboaa

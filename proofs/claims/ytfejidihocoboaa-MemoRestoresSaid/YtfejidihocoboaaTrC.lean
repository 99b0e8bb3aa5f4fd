/- Merged: Tr12 Tr13 Tr14 Tr15 -/
import Derived.Test.YtfejidihocoboaaTrB
import Derived.Test.YtfejidihocoboaaTape
import Derived.Deep.Onto
set_option linter.unusedVariables false
set_option linter.unusedSimpArgs false
/- Tr12 -/
namespace Go.Proofs.Ytfejidihocoboaa
open Go Go.RowKit
/-- a set that the tape gave -/
def GenSet (tb w : Nat) (W : World) (e : Ending) (w' : World) : Prop :=
  ∃ m g, m < 2 ^ w ∧ e = .returned (.agg #[.int .i64 (w : Int), .slice (some ⟨g, 0, none⟩) (nw w) (nw w)]) ∧ Hid (BlkW w' g w m) ∧ W.heap.size ≤ g ∧ TapeOk w' tb ∧ Ext (At tb) W w'
theorem RMem.tape {E : Nat → Prop} {W wx wy : World} {C D w m g tb : Nat} {u0 u1 : Value} (h : RMem E W C D w m g wx) (ht : TapeOk wy tb) (hb : tb < W.heap.size) : TapeOk ((wy.setCell ⟨D, 0, none⟩ u0).setCell ⟨D, 1, none⟩ u1) tb :=
  TapeOk.extAbove ht (ext_two (W := wy) (Ext.refl _ _) D) (fun i hi e => by have := h.lowD; unfold At at e; omega)
set_option maxHeartbeats 1000000 in
theorem gset_any (tb w : Nat) (W : World) (hw : w ≤ 256) (ht : TapeOk W tb) : Calls Try.prog 32 #[.pointer (some ⟨tb, 0, none⟩), .int .i64 (w : Int)] W (GenSet tb w W) := by
  have HT := Lib.hid ht
  have hlt0 := ht.lt
  clear ht
  go_enter Try.func32, Try.ntmps32
  go_wp2_with fail
  have hxa : Ext No W (W.alloc (.cells #[.int .i64 0, .slice none 0 0] 40)) := (Ext.refl _ _).alloc _
  have hC : (W.alloc (.cells #[.int .i64 0, .slice none 0 0] 40)).heap[W.heap.size]? = some (.cells #[.int .i64 0, .slice none 0 0] 40 (0, 0)) := alloc_top rfl
  refine (rempty_any w _ hw).mono ?_
  rintro e1 w1 ⟨g, rfl, hb1, hg, hx1⟩
  have hC1 := hx1.blk hC no_no
  have hs1 := lt_of_block hC1
  have hs2 := lt_of_block hb1.out
  have hx2 := (hxa.transNo hx1).alloc (.cells #[.int .i64 (w : Int), .slice (some ⟨g, 0, none⟩) (nw w) (nw w)] 40)
  have hm1 := Lib.hid (show RMem (At tb) W W.heap.size w1.heap.size w 0 g (w1.alloc (.cells #[.int .i64 (w : Int), .slice (some ⟨g, 0, none⟩) (nw w) (nw w)] 40)) from
    ⟨hx2.mono (fun _ _ x => x.elim), alloc_under hC1, alloc_top rfl, alloc_under hb1.out, Nat.le_refl _, by omega, by simp at hg; omega, by omega, by simp at hg; omega, by omega, fun _ x => by cases x; exact hlt0⟩)
  have HT1 := Lib.hid (HT.out.ext hx2)
  clear hxa hC hx1 hb1 hg hC1 hs1 hs2 hx2
  go_wp2_with fail
  generalize (w1.alloc (.cells #[.int .i64 (w : Int), .slice (some ⟨g, 0, none⟩) (nw w) (nw w)] 40)) = W1 at *
  generalize w1.heap.size = D at *
  go_loopw [6] (fun i wr => ∃ (k m g : Nat), k ≤ w ∧ m < 2 ^ w ∧ i = .int .i64 k ∧ Hid (RMem (At tb) W W.heap.size D w m g wr) ∧ Hid (TapeOk wr tb)) (fun i _ => w - (intOf i).toNat)
  case atStart => exact ⟨0, 0, g, Nat.zero_le _, Nat.two_pow_pos w, rfl, hm1, HT1⟩
  case round =>
    clear hm1 HT1 HT
    obtain ⟨k, m, g, hk, hmw, rfl, hm, ht⟩ := hrel
    rename World => wr
    have HMW := Lib.hid hmw
    clear hmw
    by_cases hlt : k < w
    · have hpos : (0 : Int) ≤ (k : Int) := by omega
      have HKK : Hid (Value.int .i64 ((k : Int) + 1) = .int .i64 ((k + 1 : Nat) : Int)) := Lib.hid (by rw [show ((k + 1 : Nat) : Int) = (k : Int) + 1 from by omega])
      go_wp2_with fail
      refine (next_lt tb 3 (by decide) (by decide) _ ht.out).mono ?_
      rintro e2 w2 ⟨r, rfl, hr, ht2, hx2, _⟩
      have hm2 := Lib.hid (hm.out.step hx2)
      have HT2 := Lib.hid ht2
      clear hm hx2 ht ht2
      by_cases h1 : r = 1
      · subst h1
        have cD := cellOf hm2.out.boxD
        go_wp2_with fail
        refine (rput_any w m k _ _ hlt (hm2.out.set (M := No) hw HMW.out (fun _ x => x.elim))).mono ?_
        rintro e3 w3 ⟨g3, rfl, hb3, hg3, hx3⟩
        have hm3 := Lib.hid (hm2.out.put hb3.out hx3 hg3)
        have HT3 := Lib.hid (hm2.out.tape (u0 := .int .i64 (w : Int)) (u1 := .slice (some ⟨g3, 0, none⟩) (nw w) (nw w)) (HT2.out.ext hx3) hlt0)
        have fD := freeOf (hm2.out.stepNo hx3).boxD
        have cD2 := cellOf (hm2.out.stepNo hx3).boxD
        clear hm2 HT2 hb3 hg3 hx3 cD
        go_wp2_with fail
        go_roundw
        case rel => exact ⟨k + 1, m ||| 2 ^ k, g3, by omega, orN_lt HMW.out (bitN_lt hlt), HKK.out, hm3, HT3⟩
        case measure => simp [intOf]; omega
      · have h1' : ¬ (r : Int) = 1 := by omega
        go_wp2_with fail
        go_roundw
        case rel => exact ⟨k + 1, m, g, by omega, HMW.out, HKK.out, hm2, HT2⟩
        case measure => simp [intOf]; omega
    · obtain rfl : k = w := by omega
      have cD := cellOf hm.out.boxD
      have cC := cellOf hm.out.boxC
      have fC := freeOf hm.out.boxC
      go_wp2_with fail
      refine ret_ex rfl ?_
      simp [results, Try.results32, go_sem, cC]
      have hx5 := ext_two (W := wr) (w1 := wr) (Ext.refl _ _) (u0 := .int .i64 (k : Int)) (u1 := .slice (some ⟨g, 0, none⟩) (nw k) (nw k)) W.heap.size
      have hlow := hm.out.low
      have hne := hm.out.neC
      exact ⟨m, _, HMW.out, rfl, Lib.hid (hx5.blk hm.out.blk (by unfold At; omega)), hlow, TapeOk.extAbove ht.out hx5 (fun i hi e => by unfold At at e; omega), ext2 hm.out.ext (Nat.le_refl _)⟩
end Go.Proofs.Ytfejidihocoboaa
/- Tr15 -/
namespace Go.Proofs.Ytfejidihocoboaa
open Go Go.RowKit
def sameB (s t : RawSet) : Bool := decide (s.width = t.width ∧ s.words = t.words)
theorem same_no {s t : RawSet} (h : ¬ (s.width = t.width ∧ s.words = t.words)) : sameB s t = false := decide_eq_false h
set_option maxRecDepth 100000 in
set_option maxHeartbeats 1000000 in
theorem rsame_any (s t : RawSet) (u v : Value) (W : World) (hs : RawV No W u s) (ht : RawV No W v t) : Calls Try.prog 20 #[u, v] W (BoolPost (sameB s t) W) := by
  obtain ⟨su, rfl, hu⟩ := hs
  obtain ⟨sv, rfl, hv⟩ := ht
  have HU := Lib.hid hu
  have HV := Lib.hid hv
  obtain ⟨au, cu, rfl⟩ := hu.slice
  obtain ⟨av, cv, rfl⟩ := hv.slice
  clear hu hv
  have hxa : Ext No W ((W.alloc (.cells #[.int .i64 s.width, .slice au s.words.length cu] 40)).alloc (.cells #[.int .i64 t.width, .slice av t.words.length cv] 40)) := ((Ext.refl _ _).alloc _).alloc _
  have hA : ((W.alloc (.cells #[.int .i64 s.width, .slice au s.words.length cu] 40)).alloc (.cells #[.int .i64 t.width, .slice av t.words.length cv] 40)).heap[W.heap.size]? = some (.cells #[.int .i64 s.width, .slice au s.words.length cu] 40 (0, 0)) := alloc_under (alloc_top rfl)
  have hB : ((W.alloc (.cells #[.int .i64 s.width, .slice au s.words.length cu] 40)).alloc (.cells #[.int .i64 t.width, .slice av t.words.length cv] 40)).heap[W.heap.size + 1]? = some (.cells #[.int .i64 t.width, .slice av t.words.length cv] 40 (0, 0)) := alloc_top (by simp)
  have cA := cellOf hA
  have cB := cellOf hB
  by_cases hw : s.width = t.width
  · by_cases hl : s.words.length = t.words.length
    · have hbig : s.words.length ≤ 9223372036854775807 := HU.out.row.2.1
      have HW := Lib.hid hw
      have HL := Lib.hid hl
      rw [← hw] at hA hB hxa ⊢
      rw [← hl] at hA hB hxa HV ⊢
      clear hw hl cA cB
      have cA := cellOf hA
      have cB := cellOf hB
      go_enter Try.func20, Try.ntmps20
      go_wp2_with fail
      generalize ((W.alloc (.cells #[.int .i64 s.width, .slice au s.words.length cu] 40)).alloc (.cells #[.int .i64 s.width, .slice av s.words.length cv] 40)) = W0 at *
      clear cA cB
      have hx0 : Hid (Ext No W0 W0) := Lib.hid (Ext.refl _ _)
      go_loopw [5] (fun i wr => ∃ k : Nat, k ≤ s.words.length ∧ i = .int .i64 k ∧ Hid (∀ j (h1 : j < s.words.length) (h2 : j < t.words.length), j < k → s.words[j] = t.words[j]) ∧ Hid (Ext No W0 wr)) (fun i _ => s.words.length - (intOf i).toNat)
      case atStart => exact ⟨0, Nat.zero_le _, rfl, Lib.hid (fun j _ _ h => by omega), hx0⟩
      case round =>
        clear hx0
        obtain ⟨k, hk, rfl, hq, hx⟩ := hrel
        rename World => wr
        have cA := cellOf (hx.out.blk hA no_no)
        have cB := cellOf (hx.out.blk hB no_no)
        have hpos : (0 : Int) ≤ (k : Int) := by omega
        by_cases hlt : k < s.words.length
        · have hlt2 : k < t.words.length := HL.out ▸ hlt
          obtain ⟨bu, ou, pu, hsu, _, _, hcu⟩ := (HU.out.extNo (hxa.transNo hx.out)).at hlt
          obtain ⟨bv, ov, pv, hsv, _, _, hcv⟩ := (HV.out.extNo (hxa.transNo hx.out)).at hlt2
          rw [← HL.out] at hsv
          simp only [Value.slice.injEq] at hsu hsv
          obtain ⟨rfl, _, rfl⟩ := hsu
          obtain ⟨rfl, _, rfl⟩ := hsv
          have q0 := hcu k hlt
          have q1 := hcv k hlt2
          obtain ⟨x, hxe⟩ : ∃ x, x = s.words[k] := ⟨_, rfl⟩
          obtain ⟨y, hye⟩ : ∃ y, y = t.words[k] := ⟨_, rfl⟩
          rw [← hxe] at q0
          rw [← hye] at q1
          have HXE := Lib.hid hxe
          have HYE := Lib.hid hye
          clear hcu hcv hxe hye
          have HKK : Hid (Value.int .i64 ((k : Int) + 1) = .int .i64 ((k + 1 : Nat) : Int)) := Lib.hid (by rw [show ((k + 1 : Nat) : Int) = (k : Int) + 1 from by omega])
          have hlz : (k : Int) < (s.words.length : Int) := by omega
          by_cases he : x = y
          · have hez : (x : Int) = (y : Int) := by omega
            go_wp2_with fail
            go_quiet (fail)
            go_wp2_with fail
            go_roundw
            case rel => exact ⟨k + 1, by omega, HKK.out, Lib.hid (fun j h1 h2 h3 => by
              by_cases hj : j < k
              · exact hq.out j h1 h2 hj
              · obtain rfl : j = k := by omega
                rw [← HXE.out, ← HYE.out, he]), Lib.hid (hx.out.drewN _)⟩
            case measure => simp [intOf]; omega
          · have hez : ¬ (x : Int) = (y : Int) := by omega
            have e : sameB s t = false := same_no (fun h => he (by rw [HXE.out, HYE.out]; simp only [h.2]))
            go_wp2_with fail
            go_quiet (fail)
            go_wp2_with fail
            go_ret
            rw [e]
            exact ⟨rfl, hxa.transNo (hx.out.drewN _)⟩
        · have hge : (s.words.length : Int) ≤ (k : Int) := by omega
          have e : sameB s t = true := decide_eq_true ⟨HW.out, List.ext_getElem HL.out (fun j h1 h2 => hq.out j h1 h2 (by omega))⟩
          go_wp2_with fail
          go_ret
          rw [e]
          exact ⟨rfl, hxa.transNo hx.out⟩
    · have e : sameB s t = false := same_no (fun h => hl (by rw [h.2]))
      rw [e]
      have hl' : ¬ (s.words.length : Int) = (t.words.length : Int) := by omega
      go_enter Try.func20, Try.ntmps20
      go_wp2_with fail
      go_ret
      exact ⟨rfl, by (repeat (first | (with_reducible exact Ext.refl _ _) | (with_reducible assumption) | (with_reducible refine Ext.drewN ?_ _) | (with_reducible refine Ext.drew ?_) | (with_reducible refine Ext.alloc ?_ _)))⟩
  · have e : sameB s t = false := same_no (fun h => hw h.1)
    rw [e]
    go_enter Try.func20, Try.ntmps20
    go_wp2_with fail
    go_ret
    exact ⟨rfl, by (repeat (first | (with_reducible exact Ext.refl _ _) | (with_reducible assumption) | (with_reducible refine Ext.drewN ?_ _) | (with_reducible refine Ext.drew ?_) | (with_reducible refine Ext.alloc ?_ _)))⟩
end Go.Proofs.Ytfejidihocoboaa

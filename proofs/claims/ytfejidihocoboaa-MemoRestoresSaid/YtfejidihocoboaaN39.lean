/- act: one call on both tables. -/
import Derived.Test.YtfejidihocoboaaN38
set_option linter.unusedVariables false
set_option linter.unusedSimpArgs false
namespace Go.Proofs.Ytfejidihocoboaa
open Go Go.RowKit
/-- a pair of tables that hold the same, and the tape; all that changed since W0 is the tape and what is in OW -/
structure AB (M : Nat → Prop) (W0 : World) (OW : Nat → Prop) (T D tb : Nat) (cap K : Int) (td : Prop) (w : World) (clk : Int) (es : List Ent) (bm : Nat) (vk v : Value) (L : List PE) (LL : List EV) : Prop where
  two : Two M w T D cap clk clk bm vk v L LL
  pe : L.map Prod.fst = es
  re : LL.map Prod.fst = es
  inv : Inv cap clk K es
  tick : td → TickD es
  tape : TapeOk w tb
  ext : Ext (fun b => b = tb ∨ OW b) W0 w
  own : ∀ b, TOwn T D bm vk v L b → OW b ∨ W0.heap.size ≤ b
section
variable {M : Nat → Prop} {W0 w w' : World} {OW : Nat → Prop} {T D tb bm bm' : Nat} {cap K K' clk clk' : Int} {td : Prop} {es es' : List Ent} {vk vk' v v' : Value} {L L' : List PE} {LL LL' : List EV}
theorem AB.stepNo (h : AB M W0 OW T D tb cap K td w clk es bm vk v L LL) (hx : Ext No w w') : AB M W0 OW T D tb cap K td w' clk es bm vk v L LL :=
  ⟨h.two.stepNo hx, h.pe, h.re, h.inv, h.tick, h.tape.ext hx, h.ext.transNo hx, h.own⟩
theorem AB.next (h : AB M W0 OW T D tb cap K td w clk es bm vk v L LL) (hMt : ∀ b, b ≤ tb → M b) (hx : Ext (At tb) w w') (ht : TapeOk w' tb) : AB M W0 OW T D tb cap K td w' clk es bm vk v L LL :=
  ⟨h.two.ext hx (fun i _ e => hMt i (by have e2 : i = tb := e; omega)), h.pe, h.re, h.inv, h.tick, ht, h.ext.trans2 hx (fun i _ e => .inl e), h.own⟩
theorem AB.fin (h : AB M W0 OW T D tb cap K td w clk es bm vk v L LL) (hMt : ∀ b, b ≤ tb → M b) (h2 : Two M w' T D cap clk' clk' bm' vk' v' L' LL') (pe' : L'.map Prod.fst = es') (re' : LL'.map Prod.fst = es') (hi : Inv cap clk' K' es' ∧ (TickD es → TickD es')) (hx : Ext (TOwn T D bm vk v L) w w') (ho : ∀ b, TOwn T D bm' vk' v' L' b → TOwn T D bm vk v L b ∨ w.heap.size ≤ b) : AB M W0 OW T D tb cap K' td w' clk' es' bm' vk' v' L' LL' :=
  ⟨h2, pe', re', hi.1, fun t => hi.2 (h.tick t), h.tape.extAbove hx (fun i hi e => h.two.out e (hMt i hi)), h.ext.trans2 hx (fun i hi e => (h.own i e).elim .inr (fun e => by omega)), fun b hb => (ho b hb).elim (fun e => h.own b e) (fun e => .inr (Nat.le_trans h.ext.size e))⟩
end
theorem inv_drop {cap clk K : Int} {es : List Ent} (h : Inv cap clk K es) (p : Int) : Inv cap clk (K + 1) (dropE p es) ∧ (TickD es → TickD (dropE p es)) := ⟨(h.sub List.filter_sublist).up (by omega), fun hd => hd.sub List.filter_sublist⟩
theorem inv_evict {cap clk K : Int} {es : List Ent} (h : Inv cap clk K es) (n : Nat) : Inv cap clk (K + 1) (evE n es) ∧ (TickD es → TickD (evE n es)) := ⟨(inv_ev h n).1.up (by omega), (inv_ev h n).2⟩
def ActPost (M : Nat → Prop) (W0 : World) (OW : Nat → Prop) (T D tb : Nat) (cap K : Int) (td : Prop) (e : Ending) (w' : World) : Prop :=
  ∃ (clk : Int) (es : List Ent) (bm : Nat) (vk v : Value) (L : List PE) (LL : List EV), e = .returned (.bool true) ∧ Hid (AB M W0 OW T D tb cap K td w' clk es bm vk v L LL)
set_option maxRecDepth 100000 in
set_option maxHeartbeats 16000000 in
theorem act_any {M : Nat → Prop} {W0 W : World} {OW : Nat → Prop} {T D tb bm : Nat} {cap K clk : Int} {td : Prop} {es : List Ent} {vk v : Value} {L : List PE} {LL : List EV} (h : AB M W0 OW T D tb cap K td W clk es bm vk v L LL) (hMt : ∀ b, b ≤ tb → M b) (hM : ∀ b, M b → b < W0.heap.size) (hK : K ≤ 1000) (hcap : cap ≤ 19) :
    Calls Try.prog 10 #[.agg #[.pointer (some ⟨T, 0, none⟩), .pointer (some ⟨D, 0, none⟩)], .pointer (some ⟨tb, 0, none⟩)] W (ActPost M W0 OW T D tb cap (K + 1) td) := by
  have hx0 : Ext No W (W.alloc (.cells #[.pointer (some ⟨T, 0, none⟩), .pointer (some ⟨D, 0, none⟩)] 34)) := (Ext.refl _ _).alloc _
  have HA := Lib.hid (h.stepNo hx0)
  have HB := Lib.hid (alloc_top (w := W) (o := .cells #[.pointer (some ⟨T, 0, none⟩), .pointer (some ⟨D, 0, none⟩)] 34) rfl)
  have HBT := Lib.hid (show W.heap.size ≠ tb from fun e => by have := h.tape.lt; omega)
  have HOL := Lib.hid (show ∀ b, TOwn T D bm vk v L b → b < W.heap.size from fun b hb => h.two.ownLt hb)
  have HMT := Lib.hid hMt
  have HMM := Lib.hid hM
  have HK := Lib.hid hK
  have HCAP := Lib.hid hcap
  clear h hMt hM hx0 hK hcap
  go_enter Try.func10, Try.ntmps10
  go_upto_region 1 with (fail)
  generalize (W.alloc (.cells #[.pointer (some ⟨T, 0, none⟩), .pointer (some ⟨D, 0, none⟩)] 34)) = V at *
  generalize W.heap.size = bb at *
  go_cut [5, 6, 7] (fun s5 s6 s7 wx => ∃ p n m : Int, s5 = .int .i64 p ∧ s6 = .int .i64 n ∧ s7 = .int .i64 m ∧ (-1 ≤ p ∧ p ≤ 1) ∧ (0 ≤ n ∧ n ≤ 2) ∧ (-1 ≤ m ∧ m ≤ 3) ∧ Hid (AB M W0 OW T D tb cap K td wx clk es bm vk v L LL) ∧ Hid (wx.heap[bb]? = some (.cells #[.pointer (some ⟨T, 0, none⟩), .pointer (some ⟨D, 0, none⟩)] 34 (0, 0))))
  case first =>
    go_upto_region 2 with (go_at_call 12; refine (next_lt tb _ (by decide) (by decide) _ HA.out.tape).mono ?_; rintro q1 w1 ⟨r1, rfl, hr1, ht1, hx1, hs1⟩; (replace HB := Lib.hid (hx1.blk HB.out (fun e => HBT.out e))); (replace HA := Lib.hid (HA.out.next HMT.out hx1 ht1)); (clear ht1 hx1 hs1))
    go_meet
    exact ⟨_, _, _, rfl, rfl, rfl, by omega, by omega, by omega, HA, HB⟩
  case rest =>
  clear HA HB
  obtain ⟨p, n, m, rfl, rfl, rfl, hp, hn, hm, HA, HB⟩ := hcut
  have HX := Lib.hid (show KeyOk (p, n, m) from by unfold KeyOk; simp only; omega)
  have HLT := Lib.hid (show ∀ b, TOwn T D bm vk v L b → b ≠ bb from fun b hb e => by have := HOL.out b hb; omega)
  rename World => wx
  apply_assumption
  go_upto_region 3 with (go_at_call 12; refine (next_lt tb 9 (by decide) (by decide) _ HA.out.tape).mono ?_; rintro q1 w1 ⟨r1, rfl, hr1, ht1, hx1, hs1⟩; (replace HB := Lib.hid (hx1.blk HB.out (fun e => HBT.out e))); (replace HA := Lib.hid (HA.out.next HMT.out hx1 ht1)); (clear ht1 hx1 hs1))
  have hq9 := hr1
  have hq0 : (0 : Int) ≤ (r1 : Int) := by omega
  obtain ⟨q, hq⟩ : ∃ q : Int, q = (r1 : Int) := ⟨_, rfl⟩
  rw [← hq] at hq9 hq0 ⊢
  clear hq hr1
  rename World => wz
  by_cases hc0 : q = 0
  · have e0 : (q == 0) = true := by rw [beq_iff_eq]; omega
    clear hc0 hq9 hq0
    go_upto_region 4 with (fail)
    refine wp_region_held_drew (S := (fun w' => w'.heap[bb]? = some (.cells #[.pointer (some ⟨T, 0, none⟩), .pointer (some ⟨D, 0, none⟩)] 34 (0, 0)))) (by kernel_rfl) ?_ (fun hHeld => ?_)
    · exact ((Ext.refl No wz).drew).blk HB.out no_no
    have hE0 := (Ext.refl No wz).drew
    have HV := Lib.hid (HA.out.stepNo hE0)
    have HBv := Lib.hid (hE0.blk HB.out no_no)
    clear hE0
    generalize wz.drew = v0 at *
    refine held_take (i := 0) (v := ?_) rfl (by kernel_rfl) (by kernel_rfl) (by kernel_rfl) (fun _ _ _ h => h) rfl (fun w hSw => ?_) hHeld ?_
    rotate_left
    · go_simp; (try with_reducible rfl)
    try simp only [Act.put, List.setIfInBounds_toArray, List.set_cons_zero, List.set_cons_succ]
    refine held_take (i := 1) (v := ?_) rfl (by kernel_rfl) (by kernel_rfl) (by kernel_rfl) (fun _ _ _ h => h) rfl (fun w hSw => ?_) hHeld ?_
    rotate_left
    · (have x0 := cellOf (show w.heap[bb]? = _ from hSw)); go_simp; (try with_reducible rfl)
    try simp only [Act.put, List.setIfInBounds_toArray, List.set_cons_zero, List.set_cons_succ]
    refine held_take (i := 2) (v := ?_) rfl (by kernel_rfl) (by kernel_rfl) (by kernel_rfl) (fun _ _ _ h => h) rfl (fun w hSw => ?_) hHeld ?_
    rotate_left
    · go_simp; (try with_reducible rfl)
    try simp only [Act.put, List.setIfInBounds_toArray, List.set_cons_zero, List.set_cons_succ]
    refine held_take (i := 3) (v := ?_) rfl (by kernel_rfl) (by kernel_rfl) (by kernel_rfl) (fun _ _ _ h => h) rfl (fun w hSw => ?_) hHeld ?_
    rotate_left
    · go_simp; (try with_reducible rfl)
    try simp only [Act.put, List.setIfInBounds_toArray, List.set_cons_zero, List.set_cons_succ]
    refine held_take (i := 4) (v := ?_) rfl (by kernel_rfl) (by kernel_rfl) (by kernel_rfl) (fun _ _ _ h => h) rfl (fun w hSw => ?_) hHeld ?_
    rotate_left
    · go_simp; (try with_reducible rfl)
    try simp only [Act.put, List.setIfInBounds_toArray, List.set_cons_zero, List.set_cons_succ]
    refine held_take (i := 6) (v := ?_) rfl (by kernel_rfl) (by kernel_rfl) (by kernel_rfl) (fun _ _ _ h => h) rfl (fun w hSw => ?_) hHeld ?_
    rotate_left
    · go_simp; (try with_reducible rfl)
    try simp only [Act.put, List.setIfInBounds_toArray, List.set_cons_zero, List.set_cons_succ]
    refine held_take (i := 7) (v := ?_) rfl (by kernel_rfl) (by kernel_rfl) (by kernel_rfl) (fun _ _ _ h => h) rfl (fun w hSw => ?_) hHeld ?_
    rotate_left
    · (have x0 := cellOf (show w.heap[bb]? = _ from hSw)); go_simp; (try with_reducible rfl)
    try simp only [Act.put, List.setIfInBounds_toArray, List.set_cons_zero, List.set_cons_succ]
    refine held_take (i := 8) (v := ?_) rfl (by kernel_rfl) (by kernel_rfl) (by kernel_rfl) (fun _ _ _ h => h) rfl (fun w hSw => ?_) hHeld ?_
    rotate_left
    · go_simp; (try with_reducible rfl)
    try simp only [Act.put, List.setIfInBounds_toArray, List.set_cons_zero, List.set_cons_succ]
    refine held_take (i := 9) (v := ?_) rfl (by kernel_rfl) (by kernel_rfl) (by kernel_rfl) (fun _ _ _ h => h) rfl (fun w hSw => ?_) hHeld ?_
    rotate_left
    · go_simp; (try with_reducible rfl)
    try simp only [Act.put, List.setIfInBounds_toArray, List.set_cons_zero, List.set_cons_succ]
    refine held_take (i := 10) (v := ?_) rfl (by kernel_rfl) (by kernel_rfl) (by kernel_rfl) (fun _ _ _ h => h) rfl (fun w hSw => ?_) hHeld ?_
    rotate_left
    · go_simp; (try with_reducible rfl)
    try simp only [Act.put, List.setIfInBounds_toArray, List.set_cons_zero, List.set_cons_succ]
    refine held_call (i := 5) rfl (by kernel_rfl) rfl (fun K hK => ?_)
    (go_simp; go_at_call 27; (refine (mtouchE (p, n, m) HX.out HV.out.two.p HV.out.pe).mono ?_); (rintro q1 w1 ⟨bm1, vk1, L1, rfl, hP1, hL1, hX1, hO1⟩); go_simp)
    refine hK.out _ _ ?_ (fun hNew => ?_)
    · exact hX1.blk HBv.out (fun e => HLT.out _ (.inl e) rfl)
    clear hK K hHeld
    have hHeld := hNew
    clear hNew
    have HT1 := Lib.hid (HV.out.two.stepP hP1.out hX1 hO1.out)
    have HL1 := Lib.hid hL1.out
    have HX1 := Lib.hid hX1
    have HO1 := Lib.hid hO1.out
    have HB1 := Lib.hid (hX1.blk HBv.out (fun e => HLT.out _ (.inl e) rfl))
    clear hP1 hL1 hX1 hO1
    try simp only [Act.put, List.setIfInBounds_toArray, List.set_cons_zero, List.set_cons_succ]
    refine held_call (i := 11) rfl (by kernel_rfl) rfl (fun K hK => ?_)
    (go_simp; go_at_call 28; (refine (rtouchE (p, n, m) HT1.out.r HV.out.re HV.out.inv.nodup).mono ?_); (rintro q2 w2 ⟨v2, LL2, rfl, hR2, hL2, hX2, hO2⟩); go_simp)
    refine hK.out _ _ ?_ (fun hNew => ?_)
    · exact hX2.blk HB1.out (fun e => HLT.out _ (.inr e) rfl)
    clear hK K hHeld
    have hHeld := hNew
    clear hNew
    have HT2 := Lib.hid (HT1.out.stepR hR2.out hX2 hO2.out)
    have HL2 := Lib.hid hL2.out
    have HX2 := Lib.hid hX2
    have HO2 := Lib.hid hO2.out
    clear hR2 hL2 hX2 hO2
    try simp only [Act.put, List.setIfInBounds_toArray, List.set_cons_zero, List.set_cons_succ]
    refine held_take (i := 12) (v := ?_) rfl (by kernel_rfl) (by kernel_rfl) (by kernel_rfl) (fun _ _ _ h => h) rfl (fun w hSw => ?_) hHeld ?_
    rotate_left
    · go_simp; (try with_reducible rfl)
    try simp only [Act.put, List.setIfInBounds_toArray, List.set_cons_zero, List.set_cons_succ]
    refine held_take (i := 13) (v := ?_) rfl (by kernel_rfl) (by kernel_rfl) (by kernel_rfl) (fun _ _ _ h => h) rfl (fun w hSw => ?_) hHeld ?_
    rotate_left
    · go_simp; (try with_reducible rfl)
    try simp only [Act.put, List.setIfInBounds_toArray, List.set_cons_zero, List.set_cons_succ]
    refine wpAnyH_done (by kernel_rfl) ?_ _
    clear hHeld
    go_wp2_with fail
    go_ret
    exact ⟨_, _, _, _, _, _, _, by simp, Lib.hid (HV.out.fin HMT.out HT2.out HL1.out HL2.out (inv_touch HV.out.inv HK.out (p, n, m)) ((HX1.out.mono (fun _ _ e => .inl e)).trans (HX2.out.mono (fun _ _ e => .inr e))) (fun b hb => hb.elim (fun e => (HO1.out b e).imp .inl id) (fun e => (HO2.out b e).elim (fun e => .inl (.inr e)) (fun e => .inr (Nat.le_trans HX1.out.size e)))))⟩
  by_cases hc1 : q = 1
  · have e0 : (q == 0) = false := by rw [beq_eq_false_iff_ne]; omega
    have e1 : (q == 1) = true := by rw [beq_iff_eq]; omega
    clear hc0 hc1 hq9 hq0
    go_upto_region 6 with (fail)
    refine wp_region_held_drew (S := (fun w' => w'.heap[bb]? = some (.cells #[.pointer (some ⟨T, 0, none⟩), .pointer (some ⟨D, 0, none⟩)] 34 (0, 0)))) (by kernel_rfl) ?_ (fun hHeld => ?_)
    · exact ((Ext.refl No wz).drew).blk HB.out no_no
    have hE0 := (Ext.refl No wz).drew
    have HV := Lib.hid (HA.out.stepNo hE0)
    have HBv := Lib.hid (hE0.blk HB.out no_no)
    clear hE0
    generalize wz.drew = v0 at *
    refine held_take (i := 0) (v := ?_) rfl (by kernel_rfl) (by kernel_rfl) (by kernel_rfl) (fun _ _ _ h => h) rfl (fun w hSw => ?_) hHeld ?_
    rotate_left
    · go_simp; (try with_reducible rfl)
    try simp only [Act.put, List.setIfInBounds_toArray, List.set_cons_zero, List.set_cons_succ]
    refine held_take (i := 1) (v := ?_) rfl (by kernel_rfl) (by kernel_rfl) (by kernel_rfl) (fun _ _ _ h => h) rfl (fun w hSw => ?_) hHeld ?_
    rotate_left
    · (have x0 := cellOf (show w.heap[bb]? = _ from hSw)); go_simp; (try with_reducible rfl)
    try simp only [Act.put, List.setIfInBounds_toArray, List.set_cons_zero, List.set_cons_succ]
    refine held_take (i := 2) (v := ?_) rfl (by kernel_rfl) (by kernel_rfl) (by kernel_rfl) (fun _ _ _ h => h) rfl (fun w hSw => ?_) hHeld ?_
    rotate_left
    · go_simp; (try with_reducible rfl)
    try simp only [Act.put, List.setIfInBounds_toArray, List.set_cons_zero, List.set_cons_succ]
    refine held_take (i := 4) (v := ?_) rfl (by kernel_rfl) (by kernel_rfl) (by kernel_rfl) (fun _ _ _ h => h) rfl (fun w hSw => ?_) hHeld ?_
    rotate_left
    · go_simp; (try with_reducible rfl)
    try simp only [Act.put, List.setIfInBounds_toArray, List.set_cons_zero, List.set_cons_succ]
    refine held_take (i := 5) (v := ?_) rfl (by kernel_rfl) (by kernel_rfl) (by kernel_rfl) (fun _ _ _ h => h) rfl (fun w hSw => ?_) hHeld ?_
    rotate_left
    · (have x0 := cellOf (show w.heap[bb]? = _ from hSw)); go_simp; (try with_reducible rfl)
    try simp only [Act.put, List.setIfInBounds_toArray, List.set_cons_zero, List.set_cons_succ]
    refine held_take (i := 6) (v := ?_) rfl (by kernel_rfl) (by kernel_rfl) (by kernel_rfl) (fun _ _ _ h => h) rfl (fun w hSw => ?_) hHeld ?_
    rotate_left
    · go_simp; (try with_reducible rfl)
    try simp only [Act.put, List.setIfInBounds_toArray, List.set_cons_zero, List.set_cons_succ]
    refine held_call (i := 3) rfl (by kernel_rfl) rfl (fun K hK => ?_)
    (go_simp; go_at_call 13; (refine (mdropE p HV.out.two.p HV.out.pe (by have := HV.out.inv.len; have := HCAP.out; omega)).mono ?_); (rintro q1 w1 ⟨bm1, vk1, L1, rfl, hP1, hL1, hX1, hO1⟩); go_simp)
    refine hK.out _ _ ?_ (fun hNew => ?_)
    · exact hX1.blk HBv.out (fun e => HLT.out _ (.inl e) rfl)
    clear hK K hHeld
    have hHeld := hNew
    clear hNew
    have HT1 := Lib.hid (HV.out.two.stepP hP1.out hX1 hO1.out)
    have HL1 := Lib.hid hL1.out
    have HX1 := Lib.hid hX1
    have HO1 := Lib.hid hO1.out
    have HB1 := Lib.hid (hX1.blk HBv.out (fun e => HLT.out _ (.inl e) rfl))
    clear hP1 hL1 hX1 hO1
    try simp only [Act.put, List.setIfInBounds_toArray, List.set_cons_zero, List.set_cons_succ]
    refine held_call (i := 7) rfl (by kernel_rfl) rfl (fun K hK => ?_)
    (go_simp; go_at_call 29; (refine (rdropE p HT1.out.r HV.out.re (by have := HV.out.inv.len; have := HCAP.out; omega) (HT1.out.maskR (fun b hb => Nat.lt_of_lt_of_le (HMM.out b hb) (Nat.le_trans HV.out.ext.size HX1.out.size)))).mono ?_); (rintro q2 w2 ⟨v2, LL2, rfl, hR2, hL2, hX2, hO2⟩); go_simp)
    refine hK.out _ _ ?_ (fun hNew => ?_)
    · exact hX2.blk HB1.out (fun e => HLT.out _ (.inr e) rfl)
    clear hK K hHeld
    have hHeld := hNew
    clear hNew
    have HT2 := Lib.hid (HT1.out.stepR hR2.out hX2 hO2.out)
    have HL2 := Lib.hid hL2.out
    have HX2 := Lib.hid hX2
    have HO2 := Lib.hid hO2.out
    clear hR2 hL2 hX2 hO2
    try simp only [Act.put, List.setIfInBounds_toArray, List.set_cons_zero, List.set_cons_succ]
    refine held_take (i := 8) (v := ?_) rfl (by kernel_rfl) (by kernel_rfl) (by kernel_rfl) (fun _ _ _ h => h) rfl (fun w hSw => ?_) hHeld ?_
    rotate_left
    · go_simp; (try with_reducible rfl)
    try simp only [Act.put, List.setIfInBounds_toArray, List.set_cons_zero, List.set_cons_succ]
    refine held_take (i := 9) (v := ?_) rfl (by kernel_rfl) (by kernel_rfl) (by kernel_rfl) (fun _ _ _ h => h) rfl (fun w hSw => ?_) hHeld ?_
    rotate_left
    · go_simp; (try with_reducible rfl)
    try simp only [Act.put, List.setIfInBounds_toArray, List.set_cons_zero, List.set_cons_succ]
    refine wpAnyH_done (by kernel_rfl) ?_ _
    clear hHeld
    go_wp2_with fail
    go_ret
    exact ⟨_, _, _, _, _, _, _, by simp, Lib.hid (HV.out.fin HMT.out HT2.out HL1.out HL2.out (inv_drop HV.out.inv p) ((HX1.out.mono (fun _ _ e => .inl e)).trans (HX2.out.mono (fun _ _ e => .inr e))) (fun b hb => hb.elim (fun e => (HO1.out b e).imp .inl id) (fun e => (HO2.out b e).elim (fun e => .inl (.inr e)) (fun e => .inr (Nat.le_trans HX1.out.size e)))))⟩
  by_cases hc2 : q = 2
  · have e0 : (q == 0) = false := by rw [beq_eq_false_iff_ne]; omega
    have e1 : (q == 1) = false := by rw [beq_eq_false_iff_ne]; omega
    have e2 : (q == 2) = true := by rw [beq_iff_eq]; omega
    clear hc0 hc1 hc2 hq9 hq0
    go_upto_region 9 with (go_at_call 12; refine (next_lt tb 4 (by decide) (by decide) _ HA.out.tape).mono ?_; rintro q1 w1 ⟨r1, rfl, hr1, ht1, hx1, hs1⟩; (replace HB := Lib.hid (hx1.blk HB.out (fun e => HBT.out e))); (replace HA := Lib.hid (HA.out.next HMT.out hx1 ht1)); (clear ht1 hx1 hs1))
    obtain ⟨z, hz⟩ : ∃ z : Int, z = (r1 : Int) - 1 := ⟨_, rfl⟩
    rw [← hz]
    clear hz hr1
    clear wz
    rename World => wz
    refine wp_region_held_drew (S := (fun w' => w'.heap[bb]? = some (.cells #[.pointer (some ⟨T, 0, none⟩), .pointer (some ⟨D, 0, none⟩)] 34 (0, 0)))) (by kernel_rfl) ?_ (fun hHeld => ?_)
    · exact ((Ext.refl No wz).drew).blk HB.out no_no
    have hE0 := (Ext.refl No wz).drew
    have HV := Lib.hid (HA.out.stepNo hE0)
    have HBv := Lib.hid (hE0.blk HB.out no_no)
    clear hE0
    generalize wz.drew = v0 at *
    refine held_take (i := 0) (v := ?_) rfl (by kernel_rfl) (by kernel_rfl) (by kernel_rfl) (fun _ _ _ h => h) rfl (fun w hSw => ?_) hHeld ?_
    rotate_left
    · go_simp; (try with_reducible rfl)
    try simp only [Act.put, List.setIfInBounds_toArray, List.set_cons_zero, List.set_cons_succ]
    refine held_take (i := 1) (v := ?_) rfl (by kernel_rfl) (by kernel_rfl) (by kernel_rfl) (fun _ _ _ h => h) rfl (fun w hSw => ?_) hHeld ?_
    rotate_left
    · (have x0 := cellOf (show w.heap[bb]? = _ from hSw)); go_simp; (try with_reducible rfl)
    try simp only [Act.put, List.setIfInBounds_toArray, List.set_cons_zero, List.set_cons_succ]
    refine held_take (i := 2) (v := ?_) rfl (by kernel_rfl) (by kernel_rfl) (by kernel_rfl) (fun _ _ _ h => h) rfl (fun w hSw => ?_) hHeld ?_
    rotate_left
    · go_simp; (try with_reducible rfl)
    try simp only [Act.put, List.setIfInBounds_toArray, List.set_cons_zero, List.set_cons_succ]
    refine held_take (i := 4) (v := ?_) rfl (by kernel_rfl) (by kernel_rfl) (by kernel_rfl) (fun _ _ _ h => h) rfl (fun w hSw => ?_) hHeld ?_
    rotate_left
    · go_simp; (try with_reducible rfl)
    try simp only [Act.put, List.setIfInBounds_toArray, List.set_cons_zero, List.set_cons_succ]
    refine held_take (i := 5) (v := ?_) rfl (by kernel_rfl) (by kernel_rfl) (by kernel_rfl) (fun _ _ _ h => h) rfl (fun w hSw => ?_) hHeld ?_
    rotate_left
    · (have x0 := cellOf (show w.heap[bb]? = _ from hSw)); go_simp; (try with_reducible rfl)
    try simp only [Act.put, List.setIfInBounds_toArray, List.set_cons_zero, List.set_cons_succ]
    refine held_take (i := 6) (v := ?_) rfl (by kernel_rfl) (by kernel_rfl) (by kernel_rfl) (fun _ _ _ h => h) rfl (fun w hSw => ?_) hHeld ?_
    rotate_left
    · go_simp; (try with_reducible rfl)
    try simp only [Act.put, List.setIfInBounds_toArray, List.set_cons_zero, List.set_cons_succ]
    refine held_call (i := 3) rfl (by kernel_rfl) rfl (fun K hK => ?_)
    (go_simp; go_at_call 14; (refine (mevictE z HV.out.two.p HV.out.pe HV.out.inv.sort (by have := HV.out.inv.len; have := HCAP.out; omega)).mono ?_); (rintro q1 w1 ⟨bm1, vk1, L1, rfl, hP1, hL1, hX1, hO1⟩); go_simp)
    refine hK.out _ _ ?_ (fun hNew => ?_)
    · exact hX1.blk HBv.out (fun e => HLT.out _ (.inl e) rfl)
    clear hK K hHeld
    have hHeld := hNew
    clear hNew
    have HT1 := Lib.hid (HV.out.two.stepP hP1.out hX1 hO1.out)
    have HL1 := Lib.hid hL1.out
    have HX1 := Lib.hid hX1
    have HO1 := Lib.hid hO1.out
    have HB1 := Lib.hid (hX1.blk HBv.out (fun e => HLT.out _ (.inl e) rfl))
    clear hP1 hL1 hX1 hO1
    try simp only [Act.put, List.setIfInBounds_toArray, List.set_cons_zero, List.set_cons_succ]
    refine held_call (i := 7) rfl (by kernel_rfl) rfl (fun K hK => ?_)
    (go_simp; go_at_call 30; (refine (revictE z HT1.out.r HV.out.re HV.out.inv.sort (by have := HV.out.inv.len; have := HCAP.out; omega) (HT1.out.maskR (fun b hb => Nat.lt_of_lt_of_le (HMM.out b hb) (Nat.le_trans HV.out.ext.size HX1.out.size)))).mono ?_); (rintro q2 w2 ⟨v2, LL2, rfl, hR2, hL2, hX2, hO2⟩); go_simp)
    refine hK.out _ _ ?_ (fun hNew => ?_)
    · exact hX2.blk HB1.out (fun e => HLT.out _ (.inr e) rfl)
    clear hK K hHeld
    have hHeld := hNew
    clear hNew
    have HT2 := Lib.hid (HT1.out.stepR hR2.out hX2 hO2.out)
    have HL2 := Lib.hid hL2.out
    have HX2 := Lib.hid hX2
    have HO2 := Lib.hid hO2.out
    clear hR2 hL2 hX2 hO2
    try simp only [Act.put, List.setIfInBounds_toArray, List.set_cons_zero, List.set_cons_succ]
    refine held_take (i := 8) (v := ?_) rfl (by kernel_rfl) (by kernel_rfl) (by kernel_rfl) (fun _ _ _ h => h) rfl (fun w hSw => ?_) hHeld ?_
    rotate_left
    · go_simp; (try with_reducible rfl)
    try simp only [Act.put, List.setIfInBounds_toArray, List.set_cons_zero, List.set_cons_succ]
    refine held_take (i := 9) (v := ?_) rfl (by kernel_rfl) (by kernel_rfl) (by kernel_rfl) (fun _ _ _ h => h) rfl (fun w hSw => ?_) hHeld ?_
    rotate_left
    · go_simp; (try with_reducible rfl)
    try simp only [Act.put, List.setIfInBounds_toArray, List.set_cons_zero, List.set_cons_succ]
    refine wpAnyH_done (by kernel_rfl) ?_ _
    clear hHeld
    go_wp2_with fail
    go_ret
    exact ⟨_, _, _, _, _, _, _, by simp, Lib.hid (HV.out.fin HMT.out HT2.out HL1.out HL2.out (inv_evict HV.out.inv z.toNat) ((HX1.out.mono (fun _ _ e => .inl e)).trans (HX2.out.mono (fun _ _ e => .inr e))) (fun b hb => hb.elim (fun e => (HO1.out b e).imp .inl id) (fun e => (HO2.out b e).elim (fun e => .inl (.inr e)) (fun e => .inr (Nat.le_trans HX1.out.size e)))))⟩
  by_cases hc3 : q = 3
  · have e0 : (q == 0) = false := by rw [beq_eq_false_iff_ne]; omega
    have e1 : (q == 1) = false := by rw [beq_eq_false_iff_ne]; omega
    have e2 : (q == 2) = false := by rw [beq_eq_false_iff_ne]; omega
    have e3 : (q == 3) = true := by rw [beq_iff_eq]; omega
    clear hc0 hc1 hc2 hc3 hq9 hq0
    obtain ⟨k, hk⟩ : ∃ k : Nat, m + 4 = (k : Int) := ⟨(m + 4).toNat, by omega⟩
    have hsl : (sS k).words.length ≤ 1048576 := by have h9 := valid_len (s := sS k) (validB_set (by omega) (Nat.pow_lt_pow_right (by decide) (Nat.mod_lt _ (by decide)))); omega
    go_upto_region 12 with (first | (go_at_call 17; go_loud (refine (lset_any k (by omega) _).mono ?_); rintro q1 w1 ⟨g1, rfl, hb1, hg1, hx1⟩; (have HG := Lib.hid hb1.out); (replace HB := Lib.hid (hx1.blk HB.out no_no)); (replace HA := Lib.hid (HA.out.stepNo hx1)); (clear hb1 hg1 hx1)) | (go_at_call 22; go_loud (refine (spoilS_any tb (sS k) _ _ (setW HG.out no_no) hsl HA.out.tape).mono ?_); rintro q1 w1 ⟨sw, sa, sc, sl, rfl, hw1, ht1, hx1⟩; (have HWD := Lib.hid (show WordsAt (fun b => M b ∨ TOwn T D bm vk v L b) w1 _ _ from hw1.out.mono (fun i _ e => show Lo _ i from e.elim (fun e => Nat.lt_of_lt_of_le (HMM.out i e) HA.out.ext.size) (fun e => HA.out.two.ownLt e)))); (replace HB := Lib.hid (hx1.blk HB.out (fun e => HBT.out e))); (replace HA := Lib.hid (HA.out.next HMT.out hx1 ht1)); (clear hw1 ht1 hx1 HG)))
    have hya := (Ext.refl No w1).alloc (.cells #[.int .i64 sw, .slice sa sl.length sc] 40)
    have HSB := Lib.hid (alloc_top (w := w1) (o := .cells #[.int .i64 sw, .slice sa sl.length sc] 40) rfl)
    have HLS := Lib.hid (show ∀ b, TOwn T D bm vk v L b → b ≠ w1.heap.size from fun b hb e => by have := HA.out.two.ownLt hb; omega)
    replace HB := Lib.hid (hya.blk HB.out no_no)
    replace HA := Lib.hid (HA.out.stepNo hya)
    replace HWD := Lib.hid (HWD.out.ext hya (fun _ _ e => e.elim))
    clear hya
    clear wz
    generalize (w1.alloc (.cells #[.int .i64 sw, .slice sa sl.length sc] 40)) = wz at *
    generalize w1.heap.size = sb at *
    refine wp_region_held_drew (S := (fun w' => w'.heap[bb]? = some (.cells #[.pointer (some ⟨T, 0, none⟩), .pointer (some ⟨D, 0, none⟩)] 34 (0, 0)) ∧ w'.heap[sb]? = some (.cells #[.int .i64 sw, .slice sa sl.length sc] 40 (0, 0)))) (by kernel_rfl) ?_ (fun hHeld => ?_)
    · exact ⟨((Ext.refl No wz).drew).blk HB.out no_no, ((Ext.refl No wz).drew).blk HSB.out no_no⟩
    have hE0 := (Ext.refl No wz).drew
    have HV := Lib.hid (HA.out.stepNo hE0)
    have HBv := Lib.hid (hE0.blk HB.out no_no)
    have HSv := Lib.hid (hE0.blk HSB.out no_no)
    have HWv := Lib.hid (HWD.out.ext hE0 (fun _ _ e => e.elim))
    clear hE0
    generalize wz.drew = v0 at *
    refine held_take (i := 0) (v := ?_) rfl (by kernel_rfl) (by kernel_rfl) (by kernel_rfl) (fun _ _ _ h => h) rfl (fun w hSw => ?_) hHeld ?_
    rotate_left
    · go_simp; (try with_reducible rfl)
    try simp only [Act.put, List.setIfInBounds_toArray, List.set_cons_zero, List.set_cons_succ]
    refine held_take (i := 1) (v := ?_) rfl (by kernel_rfl) (by kernel_rfl) (by kernel_rfl) (fun _ _ _ h => h) rfl (fun w hSw => ?_) hHeld ?_
    rotate_left
    · (have x0 := cellOf (show w.heap[bb]? = _ from hSw.1)); go_simp; (try with_reducible rfl)
    try simp only [Act.put, List.setIfInBounds_toArray, List.set_cons_zero, List.set_cons_succ]
    refine held_take (i := 2) (v := ?_) rfl (by kernel_rfl) (by kernel_rfl) (by kernel_rfl) (fun _ _ _ h => h) rfl (fun w hSw => ?_) hHeld ?_
    rotate_left
    · go_simp; (try with_reducible rfl)
    try simp only [Act.put, List.setIfInBounds_toArray, List.set_cons_zero, List.set_cons_succ]
    refine held_take (i := 3) (v := ?_) rfl (by kernel_rfl) (by kernel_rfl) (by kernel_rfl) (fun _ _ _ h => h) rfl (fun w hSw => ?_) hHeld ?_
    rotate_left
    · go_simp; (try with_reducible rfl)
    try simp only [Act.put, List.setIfInBounds_toArray, List.set_cons_zero, List.set_cons_succ]
    refine held_take (i := 4) (v := ?_) rfl (by kernel_rfl) (by kernel_rfl) (by kernel_rfl) (fun _ _ _ h => h) rfl (fun w hSw => ?_) hHeld ?_
    rotate_left
    · go_simp; (try with_reducible rfl)
    try simp only [Act.put, List.setIfInBounds_toArray, List.set_cons_zero, List.set_cons_succ]
    refine held_take (i := 5) (v := ?_) rfl (by kernel_rfl) (by kernel_rfl) (by kernel_rfl) (fun _ _ _ h => h) rfl (fun w hSw => ?_) hHeld ?_
    rotate_left
    · (have x0 := cellOf (show w.heap[sb]? = _ from hSw.2)); go_simp; (try with_reducible rfl)
    try simp only [Act.put, List.setIfInBounds_toArray, List.set_cons_zero, List.set_cons_succ]
    refine held_take (i := 7) (v := ?_) rfl (by kernel_rfl) (by kernel_rfl) (by kernel_rfl) (fun _ _ _ h => h) rfl (fun w hSw => ?_) hHeld ?_
    rotate_left
    · go_simp; (try with_reducible rfl)
    try simp only [Act.put, List.setIfInBounds_toArray, List.set_cons_zero, List.set_cons_succ]
    refine held_take (i := 8) (v := ?_) rfl (by kernel_rfl) (by kernel_rfl) (by kernel_rfl) (fun _ _ _ h => h) rfl (fun w hSw => ?_) hHeld ?_
    rotate_left
    · (have x0 := cellOf (show w.heap[bb]? = _ from hSw.1)); go_simp; (try with_reducible rfl)
    try simp only [Act.put, List.setIfInBounds_toArray, List.set_cons_zero, List.set_cons_succ]
    refine held_take (i := 9) (v := ?_) rfl (by kernel_rfl) (by kernel_rfl) (by kernel_rfl) (fun _ _ _ h => h) rfl (fun w hSw => ?_) hHeld ?_
    rotate_left
    · go_simp; (try with_reducible rfl)
    try simp only [Act.put, List.setIfInBounds_toArray, List.set_cons_zero, List.set_cons_succ]
    refine held_take (i := 10) (v := ?_) rfl (by kernel_rfl) (by kernel_rfl) (by kernel_rfl) (fun _ _ _ h => h) rfl (fun w hSw => ?_) hHeld ?_
    rotate_left
    · go_simp; (try with_reducible rfl)
    try simp only [Act.put, List.setIfInBounds_toArray, List.set_cons_zero, List.set_cons_succ]
    refine held_take (i := 11) (v := ?_) rfl (by kernel_rfl) (by kernel_rfl) (by kernel_rfl) (fun _ _ _ h => h) rfl (fun w hSw => ?_) hHeld ?_
    rotate_left
    · go_simp; (try with_reducible rfl)
    try simp only [Act.put, List.setIfInBounds_toArray, List.set_cons_zero, List.set_cons_succ]
    refine held_take (i := 12) (v := ?_) rfl (by kernel_rfl) (by kernel_rfl) (by kernel_rfl) (fun _ _ _ h => h) rfl (fun w hSw => ?_) hHeld ?_
    rotate_left
    · (have x0 := cellOf (show w.heap[sb]? = _ from hSw.2)); go_simp; (try with_reducible rfl)
    try simp only [Act.put, List.setIfInBounds_toArray, List.set_cons_zero, List.set_cons_succ]
    refine held_call (i := 6) rfl (by kernel_rfl) rfl (fun K hK => ?_)
    (go_simp; go_at_call 16; (refine (mputE (p, n, m) ⟨sw, sl⟩ HX.out (HWv.out.mono (fun i _ e => .inr (.inl e))) (HV.out.two.maskP (fun b hb => Nat.lt_of_lt_of_le (HMM.out b hb) HV.out.ext.size)) HV.out.two.p HV.out.pe HV.out.inv.sort (by have := HV.out.inv.len; have := HCAP.out; omega)).mono ?_); (rintro q1 w1 ⟨bm1, vk1, L1, rfl, hP1, hL1, hX1, hO1⟩); go_simp)
    refine hK.out _ _ ?_ (fun hNew => ?_)
    · exact ⟨hX1.blk HBv.out (fun e => HLT.out _ (.inl e) rfl), hX1.blk HSv.out (fun e => HLS.out _ (.inl e) rfl)⟩
    clear hK K hHeld
    have hHeld := hNew
    clear hNew
    have HT1 := Lib.hid (HV.out.two.stepP hP1.out hX1 hO1.out)
    have HL1 := Lib.hid hL1.out
    replace hX1 := Lib.hid hX1
    have HX1 := hX1
    have HO1 := Lib.hid hO1.out
    have HB1 := Lib.hid (hX1.out.blk HBv.out (fun e => HLT.out _ (.inl e) rfl))
    have HW1 := Lib.hid (show WordsAt (fun b => (M b ∨ POwn T bm1 vk1 L1 b) ∨ ROwnT D v b) w1 _ _ from (((HWv.out.mono (M' := fun b => (M b ∨ TOwn T D bm vk v L b) ∨ v0.heap.size ≤ b) (fun i hi e => e.elim id (fun e => absurd hi (Nat.not_lt.2 e)))).ext hX1.out (fun i _ e => .inl (.inr (.inl e)))).mono (fun i _ e => by
      rcases e with (e | e) | e
      · exact .inl (.inl e)
      · exact (HO1.out i e).elim (fun e => .inl (.inr (.inl e))) .inr
      · exact .inl (.inr (.inr e)))))
    have HS1 := Lib.hid (hX1.out.blk HSv.out (fun e => HLS.out _ (.inl e) rfl))
    clear hP1 hL1 hX1 hO1
    try simp only [Act.put, List.setIfInBounds_toArray, List.set_cons_zero, List.set_cons_succ]
    refine held_call (i := 13) rfl (by kernel_rfl) rfl (fun K hK => ?_)
    (go_simp; go_at_call 31; (refine (rputE (p, n, m) ⟨sw, sl⟩ HW1.out (HT1.out.maskR (fun b hb => Nat.lt_of_lt_of_le (HMM.out b hb) (Nat.le_trans HV.out.ext.size HX1.out.size))) HT1.out.r HV.out.re HV.out.inv.sort (by have := HV.out.inv.len; have := HCAP.out; omega)).mono ?_); (rintro q2 w2 ⟨v2, LL2, rfl, hR2, hL2, hX2, hO2⟩); go_simp)
    refine hK.out _ _ ?_ (fun hNew => ?_)
    · exact ⟨hX2.blk HB1.out (fun e => HLT.out _ (.inr e) rfl), hX2.blk HS1.out (fun e => HLS.out _ (.inr e) rfl)⟩
    clear hK K hHeld
    have hHeld := hNew
    clear hNew
    have HT2 := Lib.hid (HT1.out.stepR hR2.out hX2 hO2.out)
    have HL2 := Lib.hid hL2.out
    have HX2 := Lib.hid hX2
    have HO2 := Lib.hid hO2.out
    clear hR2 hL2 hX2 hO2
    try simp only [Act.put, List.setIfInBounds_toArray, List.set_cons_zero, List.set_cons_succ]
    refine held_take (i := 14) (v := ?_) rfl (by kernel_rfl) (by kernel_rfl) (by kernel_rfl) (fun _ _ _ h => h) rfl (fun w hSw => ?_) hHeld ?_
    rotate_left
    · go_simp; (try with_reducible rfl)
    try simp only [Act.put, List.setIfInBounds_toArray, List.set_cons_zero, List.set_cons_succ]
    refine held_take (i := 15) (v := ?_) rfl (by kernel_rfl) (by kernel_rfl) (by kernel_rfl) (fun _ _ _ h => h) rfl (fun w hSw => ?_) hHeld ?_
    rotate_left
    · go_simp; (try with_reducible rfl)
    try simp only [Act.put, List.setIfInBounds_toArray, List.set_cons_zero, List.set_cons_succ]
    refine wpAnyH_done (by kernel_rfl) ?_ _
    clear hHeld
    go_wp2_with fail
    go_ret
    exact ⟨_, _, _, _, _, _, _, by simp, Lib.hid (HV.out.fin HMT.out HT2.out HL1.out HL2.out (inv_put HV.out.inv HK.out (p, n, m) HX.out ⟨sw, sl⟩) ((HX1.out.mono (fun _ _ e => .inl e)).trans (HX2.out.mono (fun _ _ e => .inr e))) (fun b hb => hb.elim (fun e => (HO1.out b e).imp .inl id) (fun e => (HO2.out b e).elim (fun e => .inl (.inr e)) (fun e => .inr (Nat.le_trans HX1.out.size e)))))⟩
  have e0 : (q == 0) = false := by rw [beq_eq_false_iff_ne]; omega
  have e1 : (q == 1) = false := by rw [beq_eq_false_iff_ne]; omega
  have e2 : (q == 2) = false := by rw [beq_eq_false_iff_ne]; omega
  have e3 : (q == 3) = false := by rw [beq_eq_false_iff_ne]; omega
  clear hc0 hc1 hc2 hc3 hq9 hq0
  go_upto_region 14 with (first | (go_at_call 12; refine (next_lt tb 5 (by decide) (by decide) _ HA.out.tape).mono ?_; rintro q1 w1 ⟨r1, rfl, hr1, ht1, hx1, hs1⟩; (replace HB := Lib.hid (hx1.blk HB.out (fun e => HBT.out e))); (replace HA := Lib.hid (HA.out.next HMT.out hx1 ht1)); (clear ht1 hx1 hs1); (obtain ⟨k, hkk⟩ : ∃ k : Nat, k = r1 := ⟨_, rfl⟩); (rw [← hkk] at hr1 ⊢); (clear hkk)) | (go_at_call 32; go_loud (refine (gset_any tb k _ (by omega) HA.out.tape).mono ?_); rintro q1 w1 ⟨mm, g1, hmm, rfl, hb1, hg1, ht1, hx1⟩; (have HWD := Lib.hid (show WordsAt (fun b => M b ∨ TOwn T D bm vk v L b) w1 _ (setN k mm).words from (BlkW.set hb1.out (by omega) hmm (fun e => Nat.lt_irrefl g1 (Nat.lt_of_lt_of_le (e.elim (fun e => Nat.lt_of_lt_of_le (HMM.out g1 e) HA.out.ext.size) (fun e => HA.out.two.ownLt e)) hg1))).words)); (replace HB := Lib.hid (hx1.blk HB.out (fun e => HBT.out e))); (replace HA := Lib.hid (HA.out.next HMT.out hx1 ht1)); (clear hb1 hg1 ht1 hx1)))
  have hya := (Ext.refl No w1).alloc (.cells #[.int .i64 (k : Int), .slice (some ⟨g1, 0, none⟩) (nw k) (nw k)] 40)
  have HSB := Lib.hid (alloc_top (w := w1) (o := .cells #[.int .i64 (k : Int), .slice (some ⟨g1, 0, none⟩) (nw k) (nw k)] 40) rfl)
  have HLS := Lib.hid (show ∀ b, TOwn T D bm vk v L b → b ≠ w1.heap.size from fun b hb e => by have := HA.out.two.ownLt hb; omega)
  replace HB := Lib.hid (hya.blk HB.out no_no)
  replace HA := Lib.hid (HA.out.stepNo hya)
  replace HWD := Lib.hid (HWD.out.ext hya (fun _ _ e => e.elim))
  clear hya
  clear wz
  generalize (w1.alloc (.cells #[.int .i64 (k : Int), .slice (some ⟨g1, 0, none⟩) (nw k) (nw k)] 40)) = wz at *
  generalize w1.heap.size = sb at *
  refine wp_region_held_drew (S := (fun w' => w'.heap[bb]? = some (.cells #[.pointer (some ⟨T, 0, none⟩), .pointer (some ⟨D, 0, none⟩)] 34 (0, 0)) ∧ w'.heap[sb]? = some (.cells #[.int .i64 (k : Int), .slice (some ⟨g1, 0, none⟩) (nw k) (nw k)] 40 (0, 0)))) (by kernel_rfl) ?_ (fun hHeld => ?_)
  · exact ⟨((Ext.refl No wz).drew).blk HB.out no_no, ((Ext.refl No wz).drew).blk HSB.out no_no⟩
  have hE0 := (Ext.refl No wz).drew
  have HV := Lib.hid (HA.out.stepNo hE0)
  have HBv := Lib.hid (hE0.blk HB.out no_no)
  have HSv := Lib.hid (hE0.blk HSB.out no_no)
  have HWv := Lib.hid (HWD.out.ext hE0 (fun _ _ e => e.elim))
  clear hE0
  generalize wz.drew = v0 at *
  refine held_take (i := 0) (v := ?_) rfl (by kernel_rfl) (by kernel_rfl) (by kernel_rfl) (fun _ _ _ h => h) rfl (fun w hSw => ?_) hHeld ?_
  rotate_left
  · go_simp; (try with_reducible rfl)
  try simp only [Act.put, List.setIfInBounds_toArray, List.set_cons_zero, List.set_cons_succ]
  refine held_take (i := 1) (v := ?_) rfl (by kernel_rfl) (by kernel_rfl) (by kernel_rfl) (fun _ _ _ h => h) rfl (fun w hSw => ?_) hHeld ?_
  rotate_left
  · (have x0 := cellOf (show w.heap[bb]? = _ from hSw.1)); go_simp; (try with_reducible rfl)
  try simp only [Act.put, List.setIfInBounds_toArray, List.set_cons_zero, List.set_cons_succ]
  refine held_take (i := 2) (v := ?_) rfl (by kernel_rfl) (by kernel_rfl) (by kernel_rfl) (fun _ _ _ h => h) rfl (fun w hSw => ?_) hHeld ?_
  rotate_left
  · go_simp; (try with_reducible rfl)
  try simp only [Act.put, List.setIfInBounds_toArray, List.set_cons_zero, List.set_cons_succ]
  refine held_take (i := 3) (v := ?_) rfl (by kernel_rfl) (by kernel_rfl) (by kernel_rfl) (fun _ _ _ h => h) rfl (fun w hSw => ?_) hHeld ?_
  rotate_left
  · go_simp; (try with_reducible rfl)
  try simp only [Act.put, List.setIfInBounds_toArray, List.set_cons_zero, List.set_cons_succ]
  refine held_take (i := 4) (v := ?_) rfl (by kernel_rfl) (by kernel_rfl) (by kernel_rfl) (fun _ _ _ h => h) rfl (fun w hSw => ?_) hHeld ?_
  rotate_left
  · go_simp; (try with_reducible rfl)
  try simp only [Act.put, List.setIfInBounds_toArray, List.set_cons_zero, List.set_cons_succ]
  refine held_take (i := 5) (v := ?_) rfl (by kernel_rfl) (by kernel_rfl) (by kernel_rfl) (fun _ _ _ h => h) rfl (fun w hSw => ?_) hHeld ?_
  rotate_left
  · (have x0 := cellOf (show w.heap[sb]? = _ from hSw.2)); go_simp; (try with_reducible rfl)
  try simp only [Act.put, List.setIfInBounds_toArray, List.set_cons_zero, List.set_cons_succ]
  refine held_take (i := 7) (v := ?_) rfl (by kernel_rfl) (by kernel_rfl) (by kernel_rfl) (fun _ _ _ h => h) rfl (fun w hSw => ?_) hHeld ?_
  rotate_left
  · go_simp; (try with_reducible rfl)
  try simp only [Act.put, List.setIfInBounds_toArray, List.set_cons_zero, List.set_cons_succ]
  refine held_take (i := 8) (v := ?_) rfl (by kernel_rfl) (by kernel_rfl) (by kernel_rfl) (fun _ _ _ h => h) rfl (fun w hSw => ?_) hHeld ?_
  rotate_left
  · (have x0 := cellOf (show w.heap[bb]? = _ from hSw.1)); go_simp; (try with_reducible rfl)
  try simp only [Act.put, List.setIfInBounds_toArray, List.set_cons_zero, List.set_cons_succ]
  refine held_take (i := 9) (v := ?_) rfl (by kernel_rfl) (by kernel_rfl) (by kernel_rfl) (fun _ _ _ h => h) rfl (fun w hSw => ?_) hHeld ?_
  rotate_left
  · go_simp; (try with_reducible rfl)
  try simp only [Act.put, List.setIfInBounds_toArray, List.set_cons_zero, List.set_cons_succ]
  refine held_take (i := 10) (v := ?_) rfl (by kernel_rfl) (by kernel_rfl) (by kernel_rfl) (fun _ _ _ h => h) rfl (fun w hSw => ?_) hHeld ?_
  rotate_left
  · go_simp; (try with_reducible rfl)
  try simp only [Act.put, List.setIfInBounds_toArray, List.set_cons_zero, List.set_cons_succ]
  refine held_take (i := 11) (v := ?_) rfl (by kernel_rfl) (by kernel_rfl) (by kernel_rfl) (fun _ _ _ h => h) rfl (fun w hSw => ?_) hHeld ?_
  rotate_left
  · go_simp; (try with_reducible rfl)
  try simp only [Act.put, List.setIfInBounds_toArray, List.set_cons_zero, List.set_cons_succ]
  refine held_take (i := 12) (v := ?_) rfl (by kernel_rfl) (by kernel_rfl) (by kernel_rfl) (fun _ _ _ h => h) rfl (fun w hSw => ?_) hHeld ?_
  rotate_left
  · (have x0 := cellOf (show w.heap[sb]? = _ from hSw.2)); go_simp; (try with_reducible rfl)
  try simp only [Act.put, List.setIfInBounds_toArray, List.set_cons_zero, List.set_cons_succ]
  refine held_call (i := 6) rfl (by kernel_rfl) rfl (fun K hK => ?_)
  (go_simp; go_at_call 16; (refine (mputE (p, n, m) (setN k mm) HX.out (HWv.out.mono (fun i _ e => .inr (.inl e))) (HV.out.two.maskP (fun b hb => Nat.lt_of_lt_of_le (HMM.out b hb) HV.out.ext.size)) HV.out.two.p HV.out.pe HV.out.inv.sort (by have := HV.out.inv.len; have := HCAP.out; omega)).mono ?_); (rintro q1 w1 ⟨bm1, vk1, L1, rfl, hP1, hL1, hX1, hO1⟩); go_simp)
  refine hK.out _ _ ?_ (fun hNew => ?_)
  · exact ⟨hX1.blk HBv.out (fun e => HLT.out _ (.inl e) rfl), hX1.blk HSv.out (fun e => HLS.out _ (.inl e) rfl)⟩
  clear hK K hHeld
  have hHeld := hNew
  clear hNew
  have HT1 := Lib.hid (HV.out.two.stepP hP1.out hX1 hO1.out)
  have HL1 := Lib.hid hL1.out
  replace hX1 := Lib.hid hX1
  have HX1 := hX1
  have HO1 := Lib.hid hO1.out
  have HB1 := Lib.hid (hX1.out.blk HBv.out (fun e => HLT.out _ (.inl e) rfl))
  have HW1 := Lib.hid (show WordsAt (fun b => (M b ∨ POwn T bm1 vk1 L1 b) ∨ ROwnT D v b) w1 _ _ from (((HWv.out.mono (M' := fun b => (M b ∨ TOwn T D bm vk v L b) ∨ v0.heap.size ≤ b) (fun i hi e => e.elim id (fun e => absurd hi (Nat.not_lt.2 e)))).ext hX1.out (fun i _ e => .inl (.inr (.inl e)))).mono (fun i _ e => by
    rcases e with (e | e) | e
    · exact .inl (.inl e)
    · exact (HO1.out i e).elim (fun e => .inl (.inr (.inl e))) .inr
    · exact .inl (.inr (.inr e)))))
  have HS1 := Lib.hid (hX1.out.blk HSv.out (fun e => HLS.out _ (.inl e) rfl))
  clear hP1 hL1 hX1 hO1
  try simp only [Act.put, List.setIfInBounds_toArray, List.set_cons_zero, List.set_cons_succ]
  refine held_call (i := 13) rfl (by kernel_rfl) rfl (fun K hK => ?_)
  (go_simp; go_at_call 31; (refine (rputE (p, n, m) (setN k mm) HW1.out (HT1.out.maskR (fun b hb => Nat.lt_of_lt_of_le (HMM.out b hb) (Nat.le_trans HV.out.ext.size HX1.out.size))) HT1.out.r HV.out.re HV.out.inv.sort (by have := HV.out.inv.len; have := HCAP.out; omega)).mono ?_); (rintro q2 w2 ⟨v2, LL2, rfl, hR2, hL2, hX2, hO2⟩); go_simp)
  refine hK.out _ _ ?_ (fun hNew => ?_)
  · exact ⟨hX2.blk HB1.out (fun e => HLT.out _ (.inr e) rfl), hX2.blk HS1.out (fun e => HLS.out _ (.inr e) rfl)⟩
  clear hK K hHeld
  have hHeld := hNew
  clear hNew
  have HT2 := Lib.hid (HT1.out.stepR hR2.out hX2 hO2.out)
  have HL2 := Lib.hid hL2.out
  have HX2 := Lib.hid hX2
  have HO2 := Lib.hid hO2.out
  clear hR2 hL2 hX2 hO2
  try simp only [Act.put, List.setIfInBounds_toArray, List.set_cons_zero, List.set_cons_succ]
  refine held_take (i := 14) (v := ?_) rfl (by kernel_rfl) (by kernel_rfl) (by kernel_rfl) (fun _ _ _ h => h) rfl (fun w hSw => ?_) hHeld ?_
  rotate_left
  · go_simp; (try with_reducible rfl)
  try simp only [Act.put, List.setIfInBounds_toArray, List.set_cons_zero, List.set_cons_succ]
  refine held_take (i := 15) (v := ?_) rfl (by kernel_rfl) (by kernel_rfl) (by kernel_rfl) (fun _ _ _ h => h) rfl (fun w hSw => ?_) hHeld ?_
  rotate_left
  · go_simp; (try with_reducible rfl)
  try simp only [Act.put, List.setIfInBounds_toArray, List.set_cons_zero, List.set_cons_succ]
  refine wpAnyH_done (by kernel_rfl) ?_ _
  clear hHeld
  go_wp2_with fail
  go_ret
  exact ⟨_, _, _, _, _, _, _, by simp, Lib.hid (HV.out.fin HMT.out HT2.out HL1.out HL2.out (inv_put HV.out.inv HK.out (p, n, m) HX.out (setN k mm)) ((HX1.out.mono (fun _ _ e => .inl e)).trans (HX2.out.mono (fun _ _ e => .inr e))) (fun b hb => hb.elim (fun e => (HO1.out b e).imp .inl id) (fun e => (HO2.out b e).elim (fun e => .inl (.inr e)) (fun e => .inr (Nat.le_trans HX1.out.size e)))))⟩
end Go.Proofs.Ytfejidihocoboaa

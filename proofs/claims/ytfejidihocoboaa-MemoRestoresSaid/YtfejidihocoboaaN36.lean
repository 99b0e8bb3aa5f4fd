/- Merged: N34 N36 -/
import Derived.Test.YtfejidihocoboaaN28
import Derived.Test.YtfejidihocoboaaN33
import Derived.Test.YtfejidihocoboaaN37
import Derived.Deep.CutBlock
set_option linter.unusedVariables false
set_option linter.unusedSimpArgs false
/- N34 -/
namespace Go.Proofs.Ytfejidihocoboaa
open Go Go.RowKit
theorem lt_cases (x y : Key3) : (∃ b : Bool, (x.1 != y.1) = true ∧ decide (x.1 < y.1) = b ∧ decide (ltK x y) = b) ∨ (∃ b : Bool, (x.1 != y.1) = false ∧ (x.2.1 != y.2.1) = true ∧ decide (x.2.1 < y.2.1) = b ∧ decide (ltK x y) = b) ∨
    (∃ b : Bool, (x.1 != y.1) = false ∧ (x.2.1 != y.2.1) = false ∧ decide (x.2.2 < y.2.2) = b ∧ decide (ltK x y) = b) := by
  obtain ⟨a, b, c⟩ := x
  obtain ⟨d, e, f⟩ := y
  unfold ltK
  by_cases h1 : a = d
  · by_cases h2 : b = e
    · exact .inr (.inr ⟨_, by simp [h1], by simp [h2], rfl, decide_eq_decide.2 (by simp only; omega)⟩)
    · exact .inr (.inl ⟨_, by simp [h1], by simp [h2], rfl, decide_eq_decide.2 (by simp only; omega)⟩)
  · exact .inl ⟨_, by simp [h1], rfl, decide_eq_decide.2 (by simp only; omega)⟩
set_option maxRecDepth 100000 in
set_option maxHeartbeats 4000000 in
theorem rbefore_any (x y : Key3) (w1 w2 t1 t2 : Int) (a1 a2 : Option Addr) (n1 n2 c1 c2 : Nat) (W : World) :
    Calls Try.prog 55 #[.agg #[.int .i64 x.1, .int .i64 x.2.1, .int .i64 x.2.2, .int .i64 w1, .slice a1 n1 c1, .int .i64 t1], .agg #[.int .i64 y.1, .int .i64 y.2.1, .int .i64 y.2.2, .int .i64 w2, .slice a2 n2 c2, .int .i64 t2]] W (BoolPost (decide (ltK x y)) W) := by
  have hx0 : Ext No W ((W.alloc (.cells #[.int .i64 x.1, .int .i64 x.2.1, .int .i64 x.2.2, .int .i64 w1, .slice a1 n1 c1, .int .i64 t1] 42)).alloc (.cells #[.int .i64 y.1, .int .i64 y.2.1, .int .i64 y.2.2, .int .i64 w2, .slice a2 n2 c2, .int .i64 t2] 42)) := ((Ext.refl _ _).alloc _).alloc _
  have HX := Lib.hid hx0
  have cA := cellOf (show ((W.alloc (.cells #[.int .i64 x.1, .int .i64 x.2.1, .int .i64 x.2.2, .int .i64 w1, .slice a1 n1 c1, .int .i64 t1] 42)).alloc (.cells #[.int .i64 y.1, .int .i64 y.2.1, .int .i64 y.2.2, .int .i64 w2, .slice a2 n2 c2, .int .i64 t2] 42)).heap[W.heap.size]? = some (.cells #[.int .i64 x.1, .int .i64 x.2.1, .int .i64 x.2.2, .int .i64 w1, .slice a1 n1 c1, .int .i64 t1] 42 (0, 0)) from alloc_under (alloc_top rfl))
  have cB := cellOf (show ((W.alloc (.cells #[.int .i64 x.1, .int .i64 x.2.1, .int .i64 x.2.2, .int .i64 w1, .slice a1 n1 c1, .int .i64 t1] 42)).alloc (.cells #[.int .i64 y.1, .int .i64 y.2.1, .int .i64 y.2.2, .int .i64 w2, .slice a2 n2 c2, .int .i64 t2] 42)).heap[W.heap.size + 1]? = some (.cells #[.int .i64 y.1, .int .i64 y.2.1, .int .i64 y.2.2, .int .i64 w2, .slice a2 n2 c2, .int .i64 t2] 42 (0, 0)) from alloc_top (by simp))
  clear hx0
  unfold BoolPost
  rcases lt_cases x y with ⟨b, e1, e2, e3⟩ | ⟨b, e1, e2, e3, e4⟩ | ⟨b, e1, e2, e3, e4⟩
  · rw [e3]
    clear e3
    go_enter Try.func55, Try.ntmps55
    go_upto_region 1 with (fail)
    generalize ((W.alloc (.cells #[.int .i64 x.1, .int .i64 x.2.1, .int .i64 x.2.2, .int .i64 w1, .slice a1 n1 c1, .int .i64 t1] 42)).alloc (.cells #[.int .i64 y.1, .int .i64 y.2.1, .int .i64 y.2.2, .int .i64 w2, .slice a2 n2 c2, .int .i64 t2] 42)) = V at *
    go_wp2_with fail
    go_ret
    exact ⟨by first | rfl | (simp only [e2]; rfl) | (simp only [e3]; rfl), HX.out⟩
  · rw [e4]
    clear e4
    go_enter Try.func55, Try.ntmps55
    go_upto_region 1 with (fail)
    generalize ((W.alloc (.cells #[.int .i64 x.1, .int .i64 x.2.1, .int .i64 x.2.2, .int .i64 w1, .slice a1 n1 c1, .int .i64 t1] 42)).alloc (.cells #[.int .i64 y.1, .int .i64 y.2.1, .int .i64 y.2.2, .int .i64 w2, .slice a2 n2 c2, .int .i64 t2] 42)) = V at *
    go_wp2_with fail
    go_ret
    exact ⟨by first | rfl | (simp only [e2]; rfl) | (simp only [e3]; rfl), HX.out⟩
  · rw [e4]
    clear e4
    go_enter Try.func55, Try.ntmps55
    go_upto_region 1 with (fail)
    generalize ((W.alloc (.cells #[.int .i64 x.1, .int .i64 x.2.1, .int .i64 x.2.2, .int .i64 w1, .slice a1 n1 c1, .int .i64 t1] 42)).alloc (.cells #[.int .i64 y.1, .int .i64 y.2.1, .int .i64 y.2.2, .int .i64 w2, .slice a2 n2 c2, .int .i64 t2] 42)) = V at *
    go_wp2_with fail
    go_ret
    exact ⟨by first | rfl | (simp only [e2]; rfl) | (simp only [e3]; rfl), HX.out⟩
end Go.Proofs.Ytfejidihocoboaa

/- N36 -/
namespace Go.Proofs.Ytfejidihocoboaa
open Go Go.RowKit
theorem RTab.insF {M : Nat → Prop} {W w w' : World} {D : Nat} {cap clk : Int} {v v' : Value} {LL LL' : List EV} (h : RTab M W D cap clk v LL) (hM : ∀ b, M b → b < W.heap.size) (hown : w.ownsRow W.heap.size kE.T kE.s v' LL'.length (LL'.flatMap kE.cells)) (hE : Ext No W w) (hok : ∀ p ∈ LL', kE.ok (fun b => M b ∨ b = D) W p)
    (hx : Ext (At D) w w') (hb : w'.heap[D]? = some (.cells #[.int .i64 cap, v', .int .i64 clk] 32 (0, 0))) : RTab M w' D cap clk v' LL' ∧ Ext (ROwnT D v) W w' ∧ (∀ b, ROwnT D v' b → ROwnT D v b ∨ W.heap.size ≤ b) := by
  have hl := LOwn.fresh hown hE hok
  refine ⟨(h.stepNo hE).setE hx hb ⟨row_base hl.own (Nat.zero_le _), hl.ok⟩ (fun g hg e => by have h1 := (hl.lt g hg).1; have h2 := hM g e; omega), hE.ofNo.trans (hx.mono (fun i _ e => .inl e)), fun b hb2 => ?_⟩
  rcases hb2 with e | e
  · exact .inl (.inl e)
  · exact .inr (hl.lt b e).1
theorem ins_fst {x : Key3} {s : RawSet} {t : Int} {sl : Value} {L1 : List EV} {P : Nat} (hP : P = posK (keysE (L1.map Prod.fst)) x) : (L1.take P ++ [((⟨x, s, t⟩ : Ent), sl)] ++ L1.drop P).map Prod.fst = insE (L1.map Prod.fst) ⟨x, s, t⟩ := by
  unfold insE
  rw [List.map_append, List.map_append, List.map_take, List.map_drop, ← hP]
  simp
set_option maxRecDepth 100000 in
set_option maxHeartbeats 8000000 in
theorem rtput_any (x : Key3) (s : RawSet) {M : Nat → Prop} {W : World} {D : Nat} {cap clk : Int} {v sl : Value} {LL : List EV} (hs : WordsAt (fun b => M b ∨ ROwnT D v b) W sl s.words) (hM : ∀ b, M b → b < W.heap.size) (h : RTab M W D cap clk v LL) (hS : (keysE (LL.map Prod.fst)).Pairwise ltK) (hn : LL.length ≤ 1000) :
    Calls Try.prog 31 #[ptrV D, .int .i64 x.1, .int .i64 x.2.1, .int .i64 x.2.2, .agg #[.int .i64 s.width, sl]] W (RPost M D cap (ROwnT D v) (.returned (.int .i64 (putM cap clk (LL.map Prod.fst) x s).err)) (putM cap clk (LL.map Prod.fst) x s).clk (putM cap clk (LL.map Prod.fst) x s).es W) := by
  obtain ⟨sa, sc, rfl⟩ := hs.slice
  have hx0 : Ext No W (W.alloc (.cells #[.int .i64 s.width, .slice sa s.words.length sc] 40)) := (Ext.refl _ _).alloc _
  have HX0 := Lib.hid hx0
  have HB := Lib.hid (alloc_top (w := W) (o := .cells #[.int .i64 s.width, .slice sa s.words.length sc] 40) rfl)
  have H := Lib.hid (h.stepNo hx0)
  have HWO := Lib.hid hs
  have HW := Lib.hid ((hs.mono (M' := No) (fun _ _ x => x.elim)).extNo hx0)
  have HMM := Lib.hid hM
  have HSO := Lib.hid hS
  have HLN := Lib.hid hn
  have HOW := Lib.hid (fun b (hb : ROwnT D v b) => h.ownLt hb)
  clear h hs hM hS hx0 hn
  have hptr : ptrV D = .pointer (some ⟨D, 0, none⟩) := rfl
  rw [hptr]
  clear hptr
  cases hv : validB s with
  | false =>
    have hp : putM cap clk (LL.map Prod.fst) x s = ⟨1, clk, LL.map Prod.fst⟩ := by unfold putM; rw [if_pos hv]
    rw [hp]
    clear hp
    go_enter Try.func31, Try.ntmps31
    go_upto_region 1 with (fail)
    generalize (W.alloc (.cells #[.int .i64 s.width, .slice sa s.words.length sc] 40)) = V at *
    have cB := cellOf HB.out
    go_wp2_with fail
    refine (rvalid_any _ s V ⟨_, rfl, HW.out⟩).mono ?_
    rintro e1 w1 ⟨rfl, hx1⟩
    rw [hv]
    go_wp2_with fail
    go_ret
    exact ⟨v, LL, rfl, Lib.hid (H.out.stepNo hx1), Lib.hid rfl, (HX0.out.transNo hx1).ofNo, Lib.hid (fun b hb => .inl hb)⟩
  | true =>
  by_cases hbk : badK x
  · have hp : putM cap clk (LL.map Prod.fst) x s = ⟨3, clk, LL.map Prod.fst⟩ := by unfold putM; rw [if_neg (by rw [hv]; decide), if_pos hbk]
    rw [hp]
    clear hp
    unfold badK at hbk
    go_enter Try.func31, Try.ntmps31
    go_upto_region 1 with (fail)
    generalize (W.alloc (.cells #[.int .i64 s.width, .slice sa s.words.length sc] 40)) = V at *
    have cB := cellOf HB.out
    go_wp2_with fail
    refine (rvalid_any _ s V ⟨_, rfl, HW.out⟩).mono ?_
    rintro e1 w1 ⟨rfl, hx1⟩
    rw [hv]
    have hfin : ∀ w : World, Ext No w1 w → RPost M D cap (ROwnT D v) (.returned (.int .i64 3)) clk (LL.map Prod.fst) W (.returned (.int .i64 3)) w := fun w hw => ⟨v, LL, rfl, Lib.hid ((H.out.stepNo hx1).stepNo hw), Lib.hid rfl, ((HX0.out.transNo hx1).transNo hw).ofNo, Lib.hid (fun b hb => .inl hb)⟩
    have HFIN := Lib.hid hfin
    clear hfin cB
    by_cases b1 : x.1 < 0
    · go_wp2_with fail
      go_ret
      exact HFIN.out _ (Ext.refl _ _)
    · by_cases b2 : x.2.1 < 0
      · go_wp2_with fail
        go_ret
        exact HFIN.out _ (Ext.refl _ _)
      · have b3 : x.2.2 < 0 := by omega
        go_wp2_with fail
        go_ret
        exact HFIN.out _ (Ext.refl _ _)
  · have hnb : ¬ x.1 < 0 ∧ ¬ x.2.1 < 0 ∧ ¬ x.2.2 < 0 := by unfold badK at hbk; omega
    obtain ⟨b1, b2, b3⟩ := hnb
    by_cases hc0 : cap = 0
    · have hp : putM cap clk (LL.map Prod.fst) x s = ⟨0, clk, LL.map Prod.fst⟩ := by unfold putM; rw [if_neg (by rw [hv]; decide), if_neg hbk, if_pos hc0]
      rw [hp]
      clear hp hbk
      go_enter Try.func31, Try.ntmps31
      go_upto_region 1 with (fail)
      generalize (W.alloc (.cells #[.int .i64 s.width, .slice sa s.words.length sc] 40)) = V at *
      have cB := cellOf HB.out
      go_wp2_with fail
      refine (rvalid_any _ s V ⟨_, rfl, HW.out⟩).mono ?_
      rintro e1 w1 ⟨rfl, hx1⟩
      rw [hv]
      have cT := cellOf (hx1.blk H.out.box no_no)
      subst hc0
      go_wp2_with fail
      go_ret
      exact ⟨v, LL, rfl, Lib.hid (H.out.stepNo hx1), Lib.hid rfl, (HX0.out.transNo hx1).ofNo, Lib.hid (fun b hb => .inl hb)⟩
    · obtain ⟨ES, hES, hp⟩ : ∃ ES, ES = (if x ∈ keysE (LL.map Prod.fst) then putL x s (addZ clk 1) (LL.map Prod.fst) else insE (fullE cap (LL.map Prod.fst)) ⟨x, s, addZ clk 1⟩) ∧ putM cap clk (LL.map Prod.fst) x s = ⟨0, addZ clk 1, ES⟩ := by
        refine ⟨_, rfl, ?_⟩
        unfold putM
        rw [if_neg (by rw [hv]; decide), if_neg hbk, if_neg hc0]
        by_cases hk : x ∈ keysE (LL.map Prod.fst)
        · rw [if_pos hk, if_pos hk]
        · rw [if_neg hk, if_neg hk]
      have HES0 := Lib.hid hES
      rw [hp]
      clear hp hES hbk
      have hcb : (cap == 0) = false := by rw [beq_eq_false_iff_ne]; exact hc0
      clear hc0
      obtain ⟨iE, hiE, hE0, hE1, hE2⟩ := info_parts infoEnt
      go_enter Try.func31, Try.ntmps31
      go_upto_region 1 with (fail)
      generalize (W.alloc (.cells #[.int .i64 s.width, .slice sa s.words.length sc] 40)) = V at *
      have cB := cellOf HB.out
      go_wp2_with fail
      refine (rvalid_any _ s V ⟨_, rfl, HW.out⟩).mono ?_
      rintro e1 w1 ⟨rfl, hx1⟩
      rw [hv]
      have cT := cellOf (hx1.blk H.out.box no_no)
      go_wp2_with fail
      refine (rfind_any x (H.out.stepNo hx1)).mono ?_
      rintro e2 w2 ⟨hfind, hx2⟩
      have HX2 := Lib.hid ((HX0.out.transNo hx1).transNo hx2)
      have HP2 := Lib.hid ((H.out.stepNo hx1).stepNo hx2)
      have HVB2 := Lib.hid (hx2.blk (hx1.blk HB.out no_no) no_no)
      clear cB cT hx2 hx1 H HX0 HB HW hcb b1 b2 b3
      obtain ⟨z, rfl, hz⟩ : ∃ z : Int, e2 = .returned (.int .i64 z) ∧ ((z = -1 ∧ x ∉ keysE (LL.map Prod.fst)) ∨ ∃ k : Nat, z = (k : Int) ∧ ∃ h : k < LL.length, LL[k].1.key = x) := by
        rcases hfind with ⟨rfl, h1⟩ | ⟨k, rfl, h1⟩
        · exact ⟨-1, rfl, .inl ⟨rfl, h1⟩⟩
        · exact ⟨_, rfl, .inr ⟨k, rfl, h1⟩⟩
      clear hfind
      go_upto_region 8 with (fail)
      go_cut [39] (fun s39 wx => s39 = .bool (decide (z ≥ 0)) ∧ Hid (wx = w2))
      case first =>
        go_wp2_with fail
        go_meet
        exact ⟨rfl, Lib.hid rfl⟩
      case rest =>
      obtain ⟨rfl, hwx⟩ := hcut
      rename World => wx
      obtain rfl : w2 = wx := hwx.out.symm
      clear hwx
      apply_assumption
      go_cut [] (fun wy => ∃ (v1 : Value) (L1 : List EV), Hid (RTab M wy D cap clk v1 L1) ∧ Hid (Ext (ROwnT D v) W wy) ∧ Hid (∀ b, ROwnT D v1 b → ROwnT D v b ∨ W.heap.size ≤ b) ∧ Hid (wy.heap[W.heap.size]? = some (.cells #[.int .i64 s.width, .slice sa s.words.length sc] 40 (0, 0))) ∧ Hid ((keysE (L1.map Prod.fst)).Pairwise ltK) ∧ Hid (L1.length ≤ 1000) ∧ Hid (insE (L1.map Prod.fst) ⟨x, s, addZ clk 1⟩ = ES))
      case first =>
        rcases hz with ⟨rfl, hnk⟩ | ⟨k, rfl, hk, hkx⟩
        · have hm1 : decide ((-1 : Int) ≥ 0) = false := by decide
          have HES := Lib.hid (show ES = insE (fullE cap (LL.map Prod.fst)) ⟨x, s, addZ clk 1⟩ from by rw [HES0.out, if_neg hnk])
          obtain ⟨a, c, hsl0⟩ := HP2.out.list.slice
          have HB2 := Lib.hid (show w2.heap[D]? = some (.cells #[.int .i64 cap, .slice a LL.length c, .int .i64 clk] 32 (0, 0)) from by rw [← hsl0]; exact HP2.out.box)
          clear hnk hsl0
          have cT := cellOf HB2.out
          by_cases hf : (LL.length : Int) = cap
          · have HFULL := Lib.hid hf
            have hfb : ((LL.length : Int) == cap) = true := by rw [beq_iff_eq]; exact hf
            clear hf
            go_wp2_with fail
            go_quiet (fail)
            go_wp2_with fail
            have hd := (Ext.refl No w2).drewN nq
            refine (revict_any 1 (HP2.out.stepNo hd) HSO.out HLN.out (fun b hb => Nat.lt_of_lt_of_le (HMM.out b hb) (Nat.le_trans HX2.out.size hd.size))).mono ?_
            rintro e5 w5 ⟨v1, L1, rfl, hP, hL, hX, hO⟩
            go_wp2_with fail
            go_meet
            have hfe : evE (1 : Int).toNat (LL.map Prod.fst) = fullE cap (LL.map Prod.fst) := by unfold fullE; rw [if_pos (by rw [List.length_map]; exact HFULL.out)]; rfl
            refine ⟨v1, L1, hP, Lib.hid ((HX2.out.transNo hd).ofNo.trans hX), Lib.hid (fun b hb => (hO.out b hb).imp id (fun e => Nat.le_trans (HX2.out.transNo hd).size e)), Lib.hid (hX.blk (hd.blk HVB2.out no_no) (fun e => by have := HOW.out _ e; omega)), Lib.hid ?_, Lib.hid ?_, Lib.hid ?_⟩
            · rw [hL.out]; exact evE_sorted _ HSO.out
            · have h1 := congrArg List.length hL.out
              rw [List.length_map] at h1
              have h2 : (evE (1 : Int).toNat (LL.map Prod.fst)).length ≤ (LL.map Prod.fst).length := List.length_filter_le _ _
              rw [List.length_map] at h2
              have := HLN.out
              omega
            · rw [hL.out, hfe]; exact HES.out.symm
          · have HFULL := Lib.hid hf
            have hfb : ((LL.length : Int) == cap) = false := by rw [beq_eq_false_iff_ne]; exact hf
            clear hf
            go_wp2_with fail
            go_quiet (fail)
            go_wp2_with fail
            go_meet
            have hd := (Ext.refl No w2).drewN nq
            have hfe : LL.map Prod.fst = fullE cap (LL.map Prod.fst) := by unfold fullE; rw [if_neg (by rw [List.length_map]; exact HFULL.out)]
            exact ⟨v, LL, Lib.hid (HP2.out.stepNo hd), Lib.hid (HX2.out.transNo hd).ofNo, Lib.hid (fun b hb => .inl hb), Lib.hid (hd.blk HVB2.out no_no), HSO, HLN, Lib.hid (by rw [HES.out, ← hfe])⟩
        · have hm1 : decide ((k : Int) ≥ 0) = true := decide_eq_true (by omega)
          have hmem : x ∈ keysE (LL.map Prod.fst) := by rw [← hkx]; exact List.mem_map_of_mem (List.mem_map_of_mem (List.getElem_mem hk))
          have HES := Lib.hid (show ES = putL x s (addZ clk 1) (LL.map Prod.fst) from by rw [HES0.out, if_pos hmem])
          have HKX := Lib.hid hkx
          clear hmem hkx
          go_wp2_with fail
          refine (rremove_any k HP2.out hk HLN.out (fun b hb => Nat.lt_of_lt_of_le (HMM.out b hb) HX2.out.size)).mono ?_
          rintro e5 w5 ⟨v1, L1, rfl, hP, hL, hX, hO⟩
          go_wp2_with fail
          go_meet
          refine ⟨v1, L1, hP, Lib.hid (HX2.out.ofNo.trans hX), Lib.hid (fun b hb => (hO.out b hb).imp id (fun e => Nat.le_trans HX2.out.size e)), Lib.hid (hX.blk HVB2.out (fun e => by have := HOW.out _ e; omega)), Lib.hid ?_, Lib.hid ?_, Lib.hid ?_⟩
          · rw [hL.out]; exact erase_sorted HSO.out k
          · have h1 := congrArg List.length hL.out
            have h2 := List.length_eraseIdx_le (LL.map Prod.fst) k
            rw [List.length_map] at h1 h2
            have := HLN.out
            omega
          · rw [hL.out, HES.out, ← HKX.out]
            have h9 := insE_erase HSO.out (i := k) (by rw [List.length_map]; exact hk) s (addZ clk 1)
            rw [List.getElem_map] at h9
            exact h9
      case rest =>
      clear hz
      obtain ⟨v1, L1, hP3, hX3, hO3, hV3, hS3, hL3, hE3⟩ := hcut
      rename World => w3
      apply_assumption
      obtain ⟨a1, c1, hsl1⟩ := hP3.out.list.slice
      obtain ⟨m, hm⟩ : ∃ m, m = L1.length := ⟨_, rfl⟩
      rw [← hm] at hsl1
      subst hsl1
      have HMN := Lib.hid hm
      have hm1000 : m ≤ 1000 := by rw [hm]; exact hL3.out
      clear hm
      have hDW := HOW.out D (.inl rfl)
      have hB4 := (set_same (j := 2) (u := .int .i64 (addZ clk 1)) hP3.out.box).trans rfl
      have HB4 := Lib.hid hB4
      have HP4 := Lib.hid (hP3.out.setC ((Ext.refl (At D) w3).setAt 2 _) hB4)
      have HX4 := Lib.hid (hX3.out.trans (((Ext.refl (At D) w3).setAt 2 (.int .i64 (addZ clk 1))).mono (fun i _ e => show ROwnT D v i from .inl e)))
      have HVB4 := Lib.hid (set_other (a := ⟨D, 2, none⟩) (u := .int .i64 (addZ clk 1)) hV3.out (show W.heap.size ≠ D from by omega))
      have c3 := cellOf hP3.out.box
      have f3 := freeOf hP3.out.box
      clear hB4 hP3 hX3 hV3
      go_wp2_with fail
      refine (radd_any clk 1 _).mono ?_
      rintro e4 w3b ⟨rfl, rfl⟩
      go_upto_region 13 with (fail)
      clear c3 f3
      generalize w3.setCell ⟨D, 2, none⟩ (.int .i64 (addZ clk 1)) = w4 at *
      go_cut [12] (fun s12 wy => ∃ eb : Nat, s12 = .pointer (some ⟨eb, 0, none⟩) ∧ Hid (wy.heap[eb]? = some (.cells #[.int .i64 x.1, .int .i64 x.2.1, .int .i64 x.2.2, .int .i64 s.width, .slice sa s.words.length sc, .int .i64 (addZ clk 1)] 42 (0, 0))) ∧ Hid (Ext No w4 wy))
      case first =>
        refine wp_region_heldL [10] (fun w' => Ext No w4 w') (by kernel_rfl) ?_ (fun hHeld => ?_)
        · exact (Ext.refl _ _).drew
        have HEV := Lib.hid (show Ext No w4 w4.drew from (Ext.refl _ _).drew)
        generalize w4.drew = v0 at *
        refine heldL_free (i := 0) (v := ?_) rfl (by kernel_rfl) (by kernel_rfl) (by kernel_rfl) (by kernel_rfl) (by kernel_rfl) (fun _ _ _ h => h) rfl (fun w => ?_) hHeld ?_
        rotate_left
        · go_simp; (try with_reducible rfl)
        try simp only [Act.put, List.setIfInBounds_toArray, List.set_cons_zero, List.set_cons_succ]
        replace hHeld := (ST_set (T := [10]) (i := 0) (by kernel_rfl) _ _).2 hHeld
        refine heldL_free (i := 1) (v := ?_) rfl (by kernel_rfl) (by kernel_rfl) (by kernel_rfl) (by kernel_rfl) (by kernel_rfl) (fun _ _ _ h => h) rfl (fun w => ?_) hHeld ?_
        rotate_left
        · go_simp; (try with_reducible rfl)
        try simp only [Act.put, List.setIfInBounds_toArray, List.set_cons_zero, List.set_cons_succ]
        replace hHeld := (ST_set (T := [10]) (i := 1) (by kernel_rfl) _ _).2 hHeld
        refine heldL_free (i := 2) (v := ?_) rfl (by kernel_rfl) (by kernel_rfl) (by kernel_rfl) (by kernel_rfl) (by kernel_rfl) (fun _ _ _ h => h) rfl (fun w => ?_) hHeld ?_
        rotate_left
        · go_simp; (try with_reducible rfl)
        try simp only [Act.put, List.setIfInBounds_toArray, List.set_cons_zero, List.set_cons_succ]
        replace hHeld := (ST_set (T := [10]) (i := 2) (by kernel_rfl) _ _).2 hHeld
        refine heldL_take (i := 3) (v := ?_) rfl (by kernel_rfl) (by kernel_rfl) (by kernel_rfl) (by kernel_rfl) (by kernel_rfl) (fun _ _ _ h => h) rfl (fun w hSw => ?_) hHeld ?_
        rotate_left
        · (have hEs : Ext No w4 _ := hSw); (have x0 := cellOf (hEs.blk HVB4.out no_no)); go_simp; (try with_reducible rfl)
        try simp only [Act.put, List.setIfInBounds_toArray, List.set_cons_zero, List.set_cons_succ]
        replace hHeld := (ST_set (T := [10]) (i := 3) (by kernel_rfl) _ _).2 hHeld
        refine heldL_free (i := 4) (v := ?_) rfl (by kernel_rfl) (by kernel_rfl) (by kernel_rfl) (by kernel_rfl) (by kernel_rfl) (fun _ _ _ h => h) rfl (fun w => ?_) hHeld ?_
        rotate_left
        · go_simp; (try with_reducible rfl)
        try simp only [Act.put, List.setIfInBounds_toArray, List.set_cons_zero, List.set_cons_succ]
        replace hHeld := (ST_set (T := [10]) (i := 4) (by kernel_rfl) _ _).2 hHeld
        refine heldL_free (i := 5) (v := ?_) rfl (by kernel_rfl) (by kernel_rfl) (by kernel_rfl) (by kernel_rfl) (by kernel_rfl) (fun _ _ _ h => h) rfl (fun w => ?_) hHeld ?_
        rotate_left
        · go_simp; (try with_reducible rfl)
        try simp only [Act.put, List.setIfInBounds_toArray, List.set_cons_zero, List.set_cons_succ]
        replace hHeld := (ST_set (T := [10]) (i := 5) (by kernel_rfl) _ _).2 hHeld
        refine heldL_free (i := 6) (v := ?_) rfl (by kernel_rfl) (by kernel_rfl) (by kernel_rfl) (by kernel_rfl) (by kernel_rfl) (fun _ _ _ h => h) rfl (fun w => ?_) hHeld ?_
        rotate_left
        · go_simp; (try with_reducible rfl)
        try simp only [Act.put, List.setIfInBounds_toArray, List.set_cons_zero, List.set_cons_succ]
        replace hHeld := (ST_set (T := [10]) (i := 6) (by kernel_rfl) _ _).2 hHeld
        refine heldL_take (i := 7) (v := ?_) rfl (by kernel_rfl) (by kernel_rfl) (by kernel_rfl) (by kernel_rfl) (by kernel_rfl) (fun _ _ _ h => h) rfl (fun w hSw => ?_) hHeld ?_
        rotate_left
        · (have hEs : Ext No w4 _ := hSw); (have x0 := cellOf (hEs.blk HB4.out no_no)); go_simp; (try with_reducible rfl)
        try simp only [Act.put, List.setIfInBounds_toArray, List.set_cons_zero, List.set_cons_succ]
        replace hHeld := (ST_set (T := [10]) (i := 7) (by kernel_rfl) _ _).2 hHeld
        refine heldL_free (i := 8) (v := ?_) rfl (by kernel_rfl) (by kernel_rfl) (by kernel_rfl) (by kernel_rfl) (by kernel_rfl) (fun _ _ _ h => h) rfl (fun w => ?_) hHeld ?_
        rotate_left
        · go_simp; (try with_reducible rfl)
        try simp only [Act.put, List.setIfInBounds_toArray, List.set_cons_zero, List.set_cons_succ]
        replace hHeld := (ST_set (T := [10]) (i := 8) (by kernel_rfl) _ _).2 hHeld
        refine heldL_next1 (i := 9) (by kernel_rfl) (NextL.mk rfl rfl (fun K hK => ?_))
        go_simp
        refine hK.out _ _ ?_ (fun hNew => ?_)
        · intro _; exact HEV.out.alloc _
        clear hK K hHeld
        have hHeld := hNew
        clear hNew
        have HEB := Lib.hid (alloc_top (w := v0) (o := .cells #[.int .i64 0, .int .i64 0, .int .i64 0, .int .i64 0, .slice none 0 0, .int .i64 0] 42) rfl)
        have hya := (Ext.refl No v0).alloc (.cells #[.int .i64 0, .int .i64 0, .int .i64 0, .int .i64 0, .slice none 0 0, .int .i64 0] 42)
        have HEW := Lib.hid (show w4.heap.size ≤ v0.heap.size from HEV.out.size)
        have HEX := Lib.hid (HEV.out.transNo hya)
        clear hya
        generalize (v0.alloc (.cells #[.int .i64 0, .int .i64 0, .int .i64 0, .int .i64 0, .slice none 0 0, .int .i64 0] 42)) = v1w at *
        generalize v0.heap.size = eb at *
        try simp only [Act.put, List.setIfInBounds_toArray, List.set_cons_zero, List.set_cons_succ]
        refine heldL_next1 (i := 10) (by kernel_rfl) (NextL.mk rfl rfl (fun K hK => ?_))
        ((have cE := cellOf HEB.out); (have fE := freeOf HEB.out); go_simp; (clear cE fE))
        refine hK.out _ _ ?_ (fun hNew => ?_)
        · exact fun h => absurd h (by decide)
        clear hK K hHeld
        have hHeld := hNew
        clear hNew
        try simp only [Act.put, List.setIfInBounds_toArray, List.set_cons_zero, List.set_cons_succ]
        refine heldL_done (by kernel_rfl) ?_ _
        clear hHeld
        have HE5 := Lib.hid ((set_same (j := 5) (u := .int .i64 (addZ clk 1)) (set_same (j := 4) (u := .slice sa s.words.length sc) (set_same (j := 3) (u := .int .i64 s.width) (set_same (j := 2) (u := .int .i64 x.2.2) (set_same (j := 1) (u := .int .i64 x.2.1) (set_same (j := 0) (u := .int .i64 x.1) HEB.out)))))).trans rfl)
        have HX5a := Lib.hid (((((((Ext.refl (At eb) v1w).setAt 0 (.int .i64 x.1)).setAt 1 (.int .i64 x.2.1)).setAt 2 (.int .i64 x.2.2)).setAt 3 (.int .i64 s.width)).setAt 4 (.slice sa s.words.length sc)).setAt 5 (.int .i64 (addZ clk 1)))
        have HX5 := Lib.hid (HEX.out.trans2 HX5a.out (fun i hi e => by have e2 : i = eb := e; have := HEW.out; omega))
        go_wp2_with fail
        go_meet
        exact ⟨eb, rfl, HE5, HX5⟩
      case rest =>
      obtain ⟨eb, rfl, hE5, hX5⟩ := hcut
      rename World => w5
      have HP5 := Lib.hid (HP4.out.stepNo hX5.out)
      have HB5 := Lib.hid (hX5.out.blk HB4.out no_no)
      have HX5 := Lib.hid (HX4.out.trans2 hX5.out (fun _ _ e => e.elim))
      obtain ⟨P, hPp⟩ : ∃ P, P = posK (keysE (L1.map Prod.fst)) x := ⟨_, rfl⟩
      have hPm : P ≤ m := by rw [hPp, HMN.out]; have := posK_le (keysE (L1.map Prod.fst)) x; simpa [keysE] using this
      have HPP := Lib.hid hPp
      clear hPp HP4 HB4 HX4 HVB4 hX5
      apply_assumption
      go_upto_block 0 with (fail)
      go_cut [13] (fun s13 wx => s13 = .int .i64 (P : Int) ∧ Hid (Ext No w5 wx))
      case first =>
        go_wp2_with fail
        go_loopw [13] (fun s13 wr => ∃ k : Nat, s13 = .int .i64 k ∧ k ≤ m ∧ Hid (∀ j (hj : j < L1.length), j < k → ltK L1[j].1.key x) ∧ Hid (Ext No w5 wr)) (fun s13 _ => m - (intOf s13).toNat)
        case atStart => exact ⟨0, rfl, Nat.zero_le _, Lib.hid (fun j _ hj => absurd hj (Nat.not_lt_zero _)), Lib.hid (Ext.refl _ _)⟩
        case round =>
          obtain ⟨k, rfl, hk, hlts, hx⟩ := hrel
          rename World => wr
          have HBr := Lib.hid (hx.out.blk HB5.out no_no)
          have HEr := Lib.hid (hx.out.blk hE5.out no_no)
          have hend : (∀ hk2 : k < L1.length, ¬ ltK L1[k].1.key x) → P = k := fun h => by
            rw [HPP.out]
            refine (posK_eq hS3.out (by have := HMN.out; simp [keysE]; omega) (fun j hj hjk => ?_) (fun hk2 => ?_)).symm
            · have h9 := hlts.out j (by simpa [keysE] using hj) hjk
              simpa [keysE] using h9
            · have h9 := h (by simpa [keysE] using hk2)
              simpa [keysE] using h9
          have HEND := Lib.hid hend
          clear hend
          by_cases hlt : k < m
          · have hlz : decide ((k : Int) < (m : Int)) = true := decide_eq_true (by omega)
            have hlz1 : (k : Int) < (m : Int) := by omega
            have hlz0 : (0 : Int) ≤ (k : Int) := by omega
            have HKK : Hid (Value.int .i64 ((k : Int) + 1) = .int .i64 ((k + 1 : Nat) : Int)) := Lib.hid (by rw [show ((k + 1 : Nat) : Int) = (k : Int) + 1 from by omega])
            have hkl : k < L1.length := by have := HMN.out; omega
            have HKL := Lib.hid hkl
            obtain ⟨wa, wc, hwa⟩ := (HP5.out.list.ok _ (List.getElem_mem hkl)).slice
            obtain ⟨b, off, cap', hsl, -, -, hc⟩ := (HP5.out.list.extNo hx.out).atE hkl
            rw [← HMN.out] at hsl
            simp only [Value.slice.injEq] at hsl
            obtain ⟨rfl, -, rfl⟩ := hsl
            obtain ⟨d0, d1, d2, d3, d4, d5⟩ := hc k hkl
            rw [hwa] at d4
            obtain ⟨y, hy⟩ : ∃ y, y = (L1[k]'HKL.out).1 := ⟨_, rfl⟩
            rw [← hy] at d0 d1 d2 d3 d4 d5
            have HY := Lib.hid hy
            clear hy hkl hc hwa
            go_upto_region 15 with (fail)
            refine wp_region_held_drew (S := (fun w' => Ext No wr w')) (by kernel_rfl) ?_ (fun hHeld => ?_)
            · exact (Ext.refl _ _).drew
            refine held_take (i := 0) (v := ?_) rfl (by kernel_rfl) (by kernel_rfl) (by kernel_rfl) (fun _ _ _ h => h) rfl (fun w hSw => ?_) hHeld ?_
            rotate_left
            · go_simp; (try with_reducible rfl)
            try simp only [Act.put, List.setIfInBounds_toArray, List.set_cons_zero, List.set_cons_succ]
            refine held_take (i := 1) (v := ?_) rfl (by kernel_rfl) (by kernel_rfl) (by kernel_rfl) (fun _ _ _ h => h) rfl (fun w hSw => ?_) hHeld ?_
            rotate_left
            · go_simp; (try with_reducible rfl)
            try simp only [Act.put, List.setIfInBounds_toArray, List.set_cons_zero, List.set_cons_succ]
            refine held_take (i := 2) (v := ?_) rfl (by kernel_rfl) (by kernel_rfl) (by kernel_rfl) (fun _ _ _ h => h) rfl (fun w hSw => ?_) hHeld ?_
            rotate_left
            · go_simp; (try with_reducible rfl)
            try simp only [Act.put, List.setIfInBounds_toArray, List.set_cons_zero, List.set_cons_succ]
            refine held_take (i := 3) (v := ?_) rfl (by kernel_rfl) (by kernel_rfl) (by kernel_rfl) (fun _ _ _ h => h) rfl (fun w hSw => ?_) hHeld ?_
            rotate_left
            · go_simp; (try with_reducible rfl)
            try simp only [Act.put, List.setIfInBounds_toArray, List.set_cons_zero, List.set_cons_succ]
            refine held_take (i := 4) (v := ?_) rfl (by kernel_rfl) (by kernel_rfl) (by kernel_rfl) (fun _ _ _ h => h) rfl (fun w hSw => ?_) hHeld ?_
            rotate_left
            · (have hEs : Ext No wr _ := hSw); (have x0 := cellOf (hEs.blk HBr.out no_no)); go_simp; (try with_reducible rfl)
            try simp only [Act.put, List.setIfInBounds_toArray, List.set_cons_zero, List.set_cons_succ]
            refine held_take (i := 5) (v := ?_) rfl (by kernel_rfl) (by kernel_rfl) (by kernel_rfl) (fun _ _ _ h => h) rfl (fun w hSw => ?_) hHeld ?_
            rotate_left
            · go_simp; (try with_reducible rfl)
            try simp only [Act.put, List.setIfInBounds_toArray, List.set_cons_zero, List.set_cons_succ]
            refine held_take (i := 6) (v := ?_) rfl (by kernel_rfl) (by kernel_rfl) (by kernel_rfl) (fun _ _ _ h => h) rfl (fun w hSw => ?_) hHeld ?_
            rotate_left
            · go_simp; (try with_reducible rfl)
            try simp only [Act.put, List.setIfInBounds_toArray, List.set_cons_zero, List.set_cons_succ]
            refine held_take (i := 7) (v := ?_) rfl (by kernel_rfl) (by kernel_rfl) (by kernel_rfl) (fun _ _ _ h => h) rfl (fun w hSw => ?_) hHeld ?_
            rotate_left
            · go_simp; (try with_reducible rfl)
            try simp only [Act.put, List.setIfInBounds_toArray, List.set_cons_zero, List.set_cons_succ]
            refine held_take (i := 8) (v := ?_) rfl (by kernel_rfl) (by kernel_rfl) (by kernel_rfl) (fun _ _ _ h => h) rfl (fun w hSw => ?_) hHeld ?_
            rotate_left
            · go_simp; (try with_reducible rfl)
            try simp only [Act.put, List.setIfInBounds_toArray, List.set_cons_zero, List.set_cons_succ]
            refine held_take (i := 9) (v := ?_) rfl (by kernel_rfl) (by kernel_rfl) (by kernel_rfl) (fun _ _ _ h => h) rfl (fun w hSw => ?_) hHeld ?_
            rotate_left
            · go_simp; (try with_reducible rfl)
            try simp only [Act.put, List.setIfInBounds_toArray, List.set_cons_zero, List.set_cons_succ]
            refine held_take (i := 10) (v := ?_) rfl (by kernel_rfl) (by kernel_rfl) (by kernel_rfl) (fun _ _ _ h => h) rfl (fun w hSw => ?_) hHeld ?_
            rotate_left
            · go_simp; (try with_reducible rfl)
            try simp only [Act.put, List.setIfInBounds_toArray, List.set_cons_zero, List.set_cons_succ]
            refine held_take (i := 11) (v := ?_) rfl (by kernel_rfl) (by kernel_rfl) (by kernel_rfl) (fun _ _ _ h => h) rfl (fun w hSw => ?_) hHeld ?_
            rotate_left
            · (have hEs : Ext No wr _ := hSw); (have x0 := cellOf (hEs.blk HBr.out no_no)); go_simp; (try with_reducible rfl)
            try simp only [Act.put, List.setIfInBounds_toArray, List.set_cons_zero, List.set_cons_succ]
            refine held_take (i := 12) (v := ?_) rfl (by kernel_rfl) (by kernel_rfl) (by kernel_rfl) (fun _ _ _ h => h) rfl (fun w hSw => ?_) hHeld ?_
            rotate_left
            · go_simp; (try with_reducible rfl)
            try simp only [Act.put, List.setIfInBounds_toArray, List.set_cons_zero, List.set_cons_succ]
            refine held_take (i := 13) (v := ?_) rfl (by kernel_rfl) (by kernel_rfl) (by kernel_rfl) (fun _ _ _ h => h) rfl (fun w hSw => ?_) hHeld ?_
            rotate_left
            · go_simp; (try with_reducible rfl)
            try simp only [Act.put, List.setIfInBounds_toArray, List.set_cons_zero, List.set_cons_succ]
            refine held_take (i := 14) (v := ?_) rfl (by kernel_rfl) (by kernel_rfl) (by kernel_rfl) (fun _ _ _ h => h) rfl (fun w hSw => ?_) hHeld ?_
            rotate_left
            · (have hEs : Ext No wr _ := hSw); (have q0 := hEs.keep d0); (have q1 := hEs.keep d1); (have q2 := hEs.keep d2); (have q3 := hEs.keep d3); (have q4 := hEs.keep d4); (have q5 := hEs.keep d5); go_simp; (try with_reducible rfl)
            try simp only [Act.put, List.setIfInBounds_toArray, List.set_cons_zero, List.set_cons_succ]
            refine held_take (i := 15) (v := ?_) rfl (by kernel_rfl) (by kernel_rfl) (by kernel_rfl) (fun _ _ _ h => h) rfl (fun w hSw => ?_) hHeld ?_
            rotate_left
            · (have hEs : Ext No wr _ := hSw); (have x0 := cellOf (hEs.blk HEr.out no_no)); go_simp; (try with_reducible rfl)
            try simp only [Act.put, List.setIfInBounds_toArray, List.set_cons_zero, List.set_cons_succ]
            refine held_call (i := 16) rfl (by kernel_rfl) rfl (fun K hK => ?_)
            (go_simp; go_at_call 55; (refine (rbefore_any y.key x y.s.width s.width y.t (addZ clk 1) wa sa y.s.words.length s.words.length wc sc _).mono ?_); (rintro q1 wb ⟨rfl, hyA⟩); go_simp)
            refine hK.out _ _ ?_ (fun hNew => ?_)
            · exact Ext.transNo (show Ext No wr _ from hHeld) hyA
            clear hK K hHeld
            have hHeld := hNew
            clear hNew
            have HYA := Lib.hid hyA
            clear hyA
            try simp only [Act.put, List.setIfInBounds_toArray, List.set_cons_zero, List.set_cons_succ]
            refine held_take (i := 17) (v := ?_) rfl (by kernel_rfl) (by kernel_rfl) (by kernel_rfl) (fun _ _ _ h => h) rfl (fun w hSw => ?_) hHeld ?_
            rotate_left
            · go_simp; (try with_reducible rfl)
            try simp only [Act.put, List.setIfInBounds_toArray, List.set_cons_zero, List.set_cons_succ]
            refine wpAnyH_done (by kernel_rfl) ?_ _
            have HXB := Lib.hid (show Ext No wr wb from hHeld)
            clear hHeld HYA
            by_cases hc : ltK y.key x
            · have hcb : decide (ltK y.key x) = true := decide_eq_true hc
              have HC := Lib.hid hc
              clear hc
              go_wp2_with fail
              go_roundw
              case rel => exact ⟨k + 1, HKK.out, hlt, Lib.hid (fun j hj hjk => by
                by_cases e : j = k
                · subst e; rw [← HY.out]; exact HC.out
                · exact hlts.out j hj (by omega)), Lib.hid (hx.out.transNo HXB.out)⟩
              case measure => simp [intOf]; omega
            · have hcb : decide (ltK y.key x) = false := decide_eq_false hc
              have HC := Lib.hid hc
              clear hc
              go_wp2_with fail
              go_meet
              exact ⟨by rw [HEND.out (fun _ => by rw [← HY.out]; exact HC.out)], Lib.hid (hx.out.transNo HXB.out)⟩
          · have hlz : decide ((k : Int) < (m : Int)) = false := decide_eq_false (by omega)
            go_upto_region 15 with (fail)
            refine wp_region_held_drew (S := (fun w' => Ext No wr w')) (by kernel_rfl) ?_ (fun hHeld => ?_)
            · exact (Ext.refl _ _).drew
            refine held_take (i := 0) (v := ?_) rfl (by kernel_rfl) (by kernel_rfl) (by kernel_rfl) (fun _ _ _ h => h) rfl (fun w hSw => ?_) hHeld ?_
            rotate_left
            · go_simp; (try with_reducible rfl)
            try simp only [Act.put, List.setIfInBounds_toArray, List.set_cons_zero, List.set_cons_succ]
            refine held_take (i := 1) (v := ?_) rfl (by kernel_rfl) (by kernel_rfl) (by kernel_rfl) (fun _ _ _ h => h) rfl (fun w hSw => ?_) hHeld ?_
            rotate_left
            · go_simp; (try with_reducible rfl)
            try simp only [Act.put, List.setIfInBounds_toArray, List.set_cons_zero, List.set_cons_succ]
            refine held_take (i := 2) (v := ?_) rfl (by kernel_rfl) (by kernel_rfl) (by kernel_rfl) (fun _ _ _ h => h) rfl (fun w hSw => ?_) hHeld ?_
            rotate_left
            · go_simp; (try with_reducible rfl)
            try simp only [Act.put, List.setIfInBounds_toArray, List.set_cons_zero, List.set_cons_succ]
            refine held_take (i := 3) (v := ?_) rfl (by kernel_rfl) (by kernel_rfl) (by kernel_rfl) (fun _ _ _ h => h) rfl (fun w hSw => ?_) hHeld ?_
            rotate_left
            · go_simp; (try with_reducible rfl)
            try simp only [Act.put, List.setIfInBounds_toArray, List.set_cons_zero, List.set_cons_succ]
            refine held_take (i := 4) (v := ?_) rfl (by kernel_rfl) (by kernel_rfl) (by kernel_rfl) (fun _ _ _ h => h) rfl (fun w hSw => ?_) hHeld ?_
            rotate_left
            · (have hEs : Ext No wr _ := hSw); (have x0 := cellOf (hEs.blk HBr.out no_no)); go_simp; (try with_reducible rfl)
            try simp only [Act.put, List.setIfInBounds_toArray, List.set_cons_zero, List.set_cons_succ]
            refine held_take (i := 5) (v := ?_) rfl (by kernel_rfl) (by kernel_rfl) (by kernel_rfl) (fun _ _ _ h => h) rfl (fun w hSw => ?_) hHeld ?_
            rotate_left
            · go_simp; (try with_reducible rfl)
            try simp only [Act.put, List.setIfInBounds_toArray, List.set_cons_zero, List.set_cons_succ]
            refine held_take (i := 6) (v := ?_) rfl (by kernel_rfl) (by kernel_rfl) (by kernel_rfl) (fun _ _ _ h => h) rfl (fun w hSw => ?_) hHeld ?_
            rotate_left
            · go_simp; (try with_reducible rfl)
            try simp only [Act.put, List.setIfInBounds_toArray, List.set_cons_zero, List.set_cons_succ]
            refine held_take (i := 7) (v := ?_) rfl (by kernel_rfl) (by kernel_rfl) (by kernel_rfl) (fun _ _ _ h => h) rfl (fun w hSw => ?_) hHeld ?_
            rotate_left
            · go_simp; (try with_reducible rfl)
            try simp only [Act.put, List.setIfInBounds_toArray, List.set_cons_zero, List.set_cons_succ]
            refine held_skip (i := 8) rfl (by kernel_rfl) (by kernel_rfl) (by kernel_rfl) (fun _ _ _ h => h) rfl hHeld ?_
            try simp only [Act.put, List.setIfInBounds_toArray, List.set_cons_zero, List.set_cons_succ]
            refine held_skip (i := 9) rfl (by kernel_rfl) (by kernel_rfl) (by kernel_rfl) (fun _ _ _ h => h) rfl hHeld ?_
            try simp only [Act.put, List.setIfInBounds_toArray, List.set_cons_zero, List.set_cons_succ]
            refine held_skip (i := 10) rfl (by kernel_rfl) (by kernel_rfl) (by kernel_rfl) (fun _ _ _ h => h) rfl hHeld ?_
            try simp only [Act.put, List.setIfInBounds_toArray, List.set_cons_zero, List.set_cons_succ]
            refine held_skip (i := 11) rfl (by kernel_rfl) (by kernel_rfl) (by kernel_rfl) (fun _ _ _ h => h) rfl hHeld ?_
            try simp only [Act.put, List.setIfInBounds_toArray, List.set_cons_zero, List.set_cons_succ]
            refine held_skip (i := 12) rfl (by kernel_rfl) (by kernel_rfl) (by kernel_rfl) (fun _ _ _ h => h) rfl hHeld ?_
            try simp only [Act.put, List.setIfInBounds_toArray, List.set_cons_zero, List.set_cons_succ]
            refine held_skip (i := 13) rfl (by kernel_rfl) (by kernel_rfl) (by kernel_rfl) (fun _ _ _ h => h) rfl hHeld ?_
            try simp only [Act.put, List.setIfInBounds_toArray, List.set_cons_zero, List.set_cons_succ]
            refine held_skip (i := 14) rfl (by kernel_rfl) (by kernel_rfl) (by kernel_rfl) (fun _ _ _ h => h) rfl hHeld ?_
            try simp only [Act.put, List.setIfInBounds_toArray, List.set_cons_zero, List.set_cons_succ]
            refine held_skip (i := 15) rfl (by kernel_rfl) (by kernel_rfl) (by kernel_rfl) (fun _ _ _ h => h) rfl hHeld ?_
            try simp only [Act.put, List.setIfInBounds_toArray, List.set_cons_zero, List.set_cons_succ]
            refine held_skip (i := 16) rfl (by kernel_rfl) (by kernel_rfl) (by kernel_rfl) (fun _ _ _ h => h) rfl hHeld ?_
            try simp only [Act.put, List.setIfInBounds_toArray, List.set_cons_zero, List.set_cons_succ]
            refine held_take (i := 17) (v := ?_) rfl (by kernel_rfl) (by kernel_rfl) (by kernel_rfl) (fun _ _ _ h => h) rfl (fun w hSw => ?_) hHeld ?_
            rotate_left
            · go_simp; (try with_reducible rfl)
            try simp only [Act.put, List.setIfInBounds_toArray, List.set_cons_zero, List.set_cons_succ]
            refine wpAnyH_done (by kernel_rfl) ?_ _
            have HXB := Lib.hid (show Ext No wr wr.drew from hHeld)
            clear hHeld
            go_wp2_with fail
            go_meet
            exact ⟨by rw [HEND.out (fun hk2 => absurd hk2 (by have := HMN.out; omega))], Lib.hid (hx.out.transNo HXB.out)⟩
      case rest =>
      obtain ⟨rfl, hX6⟩ := hcut
      rename World => wq
      have HP6 := Lib.hid (HP5.out.stepNo hX6.out)
      have HXQ := Lib.hid (HX5.out.trans2 hX6.out (fun _ _ e => e.elim))
      have HE6 := Lib.hid (hX6.out.blk hE5.out no_no)
      have HOK := Lib.hid (show WordsAt (fun b => M b ∨ b = D) wq (.slice sa s.words.length sc) s.words from (HWO.out.ext HXQ.out (fun i _ e => .inr e)).mono (fun i _ e => e.imp id .inl))
      clear HP5 HB5 HX5 hX6 hE5 hS3 hL3
      apply_assumption
      have hsh := HP6.out.ents.own.2
      have HFIN : Hid (∀ (w9 : World) (a9 : Option Addr) (n9 c9 : Nat), n9 = m + 1 → w9.ownsRow wq.heap.size 42 6 (.slice a9 n9 c9) n9 ((L1.take P).flatMap kE.cells ++ [.int .i64 x.1, .int .i64 x.2.1, .int .i64 x.2.2, .int .i64 s.width, .slice sa s.words.length sc, .int .i64 (addZ clk 1)] ++ (L1.drop P).flatMap kE.cells) → Ext No wq w9 → RPost M D cap (ROwnT D v) (.returned (.int .i64 0)) (addZ clk 1) ES W (.returned (.int .i64 0)) (w9.setCell ⟨D, 1, none⟩ (.slice a9 n9 c9))) := Lib.hid (fun w9 a9 n9 c9 hn9 hown hE => by
        have hlen : (L1.take P ++ [((⟨x, s, addZ clk 1⟩ : Ent), Value.slice sa s.words.length sc)] ++ L1.drop P).length = n9 := by
          have := HMN.out
          simp only [List.length_append, List.length_take, List.length_drop, List.length_singleton]
          omega
        obtain ⟨h1, h2, h3⟩ := HP6.out.insF (fun b hb => Nat.lt_of_lt_of_le (HMM.out b hb) HXQ.out.size) (v' := .slice a9 n9 c9) (LL' := L1.take P ++ [((⟨x, s, addZ clk 1⟩ : Ent), Value.slice sa s.words.length sc)] ++ L1.drop P) (by
          rw [hlen, List.flatMap_append, List.flatMap_append]
          exact hown) hE (fun p hp => by
            rcases List.mem_append.1 hp with hp | hp
            · rcases List.mem_append.1 hp with hp | hp
              · exact HP6.out.okAll p (List.mem_of_mem_take hp)
              · rw [List.mem_singleton.1 hp]; exact HOK.out
            · exact HP6.out.okAll p (List.mem_of_mem_drop hp)) ((Ext.refl (At D) w9).setAt 1 (.slice a9 n9 c9)) ((set_same (j := 1) (u := .slice a9 n9 c9) (hE.blk HP6.out.box no_no)).trans rfl)
        refine ⟨_, _, rfl, Lib.hid h1, Lib.hid ((ins_fst HPP.out).trans hE3.out), HXQ.out.trans2 h2 (fun i hi e => (hO3.out i e).elim id (fun e => by omega)), Lib.hid (fun b hb => (h3 b hb).elim (fun e => hO3.out b e) (fun e => .inr (Nat.le_trans HXQ.out.size e)))⟩)
      clear hO3 hE3 HXQ HOK HPP
      rcases hsh with ⟨hnil, hz0⟩ | ⟨g, cq, cur, hse, -, -, -⟩
      · simp only [Value.slice.injEq] at hnil
        obtain ⟨rfl, rfl, rfl⟩ := hnil
        obtain rfl : P = 0 := by omega
        have HL0 := Lib.hid (show L1 = [] from List.length_eq_zero_iff.1 HMN.out.symm)
        have hya : Ext No wq (wq.alloc (.cells #[] 42)) := (Ext.refl _ _).alloc _
        have cB6 := cellOf (hya.blk HP6.out.box no_no)
        clear hya
        clear hz0
        have HR1 := Lib.hid (show Row No wq 6 (.slice none 0 0) 0 ((L1.take 0).flatMap kE.cells) from by rw [HL0.out]; exact Row.nil _ _ _ _ _ (by omega))
        have HR2 := Lib.hid (show Row No wq 6 (.slice none 0 0) 0 ((L1.drop 0).flatMap kE.cells) from by rw [HL0.out]; exact Row.nil _ _ _ _ _ (by omega))
        go_upto_region 18 with (at_builtin; (refine wpList_app _ rfl (.tmp 92) (.tmp 98) 30 rfl wq.heap.size 42 iE _ 6 64 Try.underlying30 hiE hE0 hE1 hE2 rfl (by omega) (.slice (some ⟨wq.heap.size, 0, none⟩) 0 0) 0 [] rfl (empty_ownE (alloc_top rfl) (Nat.le_refl _)) No none 0 0 ((L1.take 0).flatMap kE.cells) rfl (HR1.out.extNo ((Ext.refl No _).alloc _)) (LOwn.one HP6.out.ents _ (fun p hp => List.mem_of_mem_take hp)) (by omega) (by omega) (by simp) ?_); (intro v7 w7 hown1 hg1 hv1); (simp only [Nat.zero_add, List.nil_append] at hown1); (have HX7 := Lib.hid (show Ext No wq w7 from ((Ext.refl No wq).alloc (.cells #[] 42)).trans2 ((Ext.refl (fun bq => (Value.slice (some ⟨wq.heap.size, 0, none⟩) 0 0).ownBlock = some bq) _).grown hg1 (fun k hk _ => hk)) (fun k hk e => by have : wq.heap.size = k := Option.some.inj e; omega))); (have HO7 := Lib.hid hown1); (clear hown1 hg1 hv1); (obtain ⟨a7, c7, rfl⟩ := (Row.ofOwns (M := No) HO7.out (fun _ _ x => x)).slice))
        clear cB6
        have cE7 := cellOf (HX7.out.blk HE6.out no_no)
        go_upto_region 19 with (at_builtin; (refine wpList_app _ rfl (.tmp 100) (.tmp 102) 30 rfl wq.heap.size 42 iE _ 6 64 Try.underlying30 hiE hE0 hE1 hE2 rfl (by omega) (.slice a7 0 c7) 0 ((L1.take 0).flatMap kE.cells) rfl (row_keep HO7.out ((Ext.refl No _).alloc _) (fun _ _ x => x)) No (some ⟨w7.heap.size, 0, none⟩) 1 1 [.int .i64 x.1, .int .i64 x.2.1, .int .i64 x.2.2, .int .i64 s.width, .slice sa s.words.length sc, .int .i64 (addZ clk 1)] rfl (Row.block (alloc_top rfl) rfl no_no (by omega)) (by simp [Value.oneCell']) (by omega) (by omega) (by have := HX7.out.size; simp; omega) ?_); (intro v8 w8 hown1 hg1 hv1); (have HX8 := Lib.hid (show Ext No wq w8 from (HX7.out.transNo ((Ext.refl No _).alloc _)).trans2 ((Ext.refl (fun bq => (Value.slice a7 0 c7).ownBlock = some bq) _).grown hg1 (fun k hk _ => hk)) (fun k hk e => by have := (World.ownsRow.lt HO7.out k e).1; omega))); (have HO8 := Lib.hid hown1); (clear hown1 hg1 hv1); (obtain ⟨a8, c8, rfl⟩ := (Row.ofOwns (M := No) HO8.out (fun _ _ x => x)).slice))
        have cB8 := cellOf (HX8.out.blk HP6.out.box no_no)
        clear cE7
        go_wp2_with (at_builtin; (refine wpList_app _ rfl (.tmp 105) (.tmp 111) 30 rfl wq.heap.size 42 iE _ 6 64 Try.underlying30 hiE hE0 hE1 hE2 rfl (by omega) (.slice a8 (0 + 1) c8) (0 + 1) (((L1.take 0).flatMap kE.cells) ++ [.int .i64 x.1, .int .i64 x.2.1, .int .i64 x.2.2, .int .i64 s.width, .slice sa s.words.length sc, .int .i64 (addZ clk 1)]) rfl HO8.out No none 0 0 ((L1.drop 0).flatMap kE.cells) rfl (HR2.out.extNo HX8.out) (LOwn.one HP6.out.ents _ (fun p hp => List.mem_of_mem_drop hp)) (by omega) (by omega) HX8.out.size ?_); (intro v9 w9 hown1 hg1 hv1); (have HX9 := Lib.hid (show Ext No wq w9 from HX8.out.trans2 ((Ext.refl (fun bq => (Value.slice a8 (0 + 1) c8).ownBlock = some bq) _).grown hg1 (fun k hk _ => hk)) (fun k hk e => by have := (World.ownsRow.lt HO8.out k e).1; omega))); (have HO9 := Lib.hid hown1); (clear hown1 hg1 hv1); (obtain ⟨a9, c9, rfl⟩ := (Row.ofOwns (M := No) HO9.out (fun _ _ x => x)).slice); (have cB9 := cellOf (HX9.out.blk HP6.out.box no_no)); (have fB9 := freeOf (HX9.out.blk HP6.out.box no_no)))
        go_ret
        exact HFIN.out w9 a9 _ c9 (by omega) (by have h9 := HO9.out; exact h9) HX9.out
      · simp only [Value.slice.injEq, true_and] at hse
        obtain ⟨rfl, -, rfl⟩ := hse
        have hya : Ext No wq (wq.alloc (.cells #[] 42)) := (Ext.refl _ _).alloc _
        have cB6 := cellOf (hya.blk HP6.out.box no_no)
        clear hya
        have HR1 := Lib.hid (HP6.out.cut1 HMN.out (i := P) hPm)
        obtain ⟨A, hA⟩ : ∃ A, A = (if c1 = P then some (⟨g, 0, none⟩ : Addr) else some ⟨g, 0 + P * 6, none⟩) := ⟨_, rfl⟩
        have HR2 := Lib.hid (HP6.out.cut2 HMN.out (i := P) hPm)
        rw [← hA] at HR2
        rw [Nat.zero_add] at hA
        have hAif := hA.symm
        have hcap := (show Row No wq 6 (.slice (some ⟨g, 0, none⟩) m c1) m (L1.flatMap kE.cells) from by have h9 := HP6.out.list.row; rw [← HMN.out] at h9; exact h9).caps
        have hPc : P ≤ c1 := by omega
        have hPz : (P : Int) ≤ (m : Int) := by omega
        have hPz0 : 0 ≤ (P : Int) := by omega
        clear hA
        go_upto_region 18 with (at_builtin; (refine wpList_app _ rfl (.tmp 92) (.tmp 98) 30 rfl wq.heap.size 42 iE _ 6 64 Try.underlying30 hiE hE0 hE1 hE2 rfl (by omega) (.slice (some ⟨wq.heap.size, 0, none⟩) 0 0) 0 [] rfl (empty_ownE (alloc_top rfl) (Nat.le_refl _)) No (some ⟨g, 0, none⟩) P c1 ((L1.take P).flatMap kE.cells) rfl (HR1.out.extNo ((Ext.refl No _).alloc _)) (LOwn.one HP6.out.ents _ (fun p hp => List.mem_of_mem_take hp)) (by omega) (by omega) (by simp) ?_); (intro v7 w7 hown1 hg1 hv1); (simp only [Nat.zero_add, List.nil_append] at hown1); (have HX7 := Lib.hid (show Ext No wq w7 from ((Ext.refl No wq).alloc (.cells #[] 42)).trans2 ((Ext.refl (fun bq => (Value.slice (some ⟨wq.heap.size, 0, none⟩) 0 0).ownBlock = some bq) _).grown hg1 (fun k hk _ => hk)) (fun k hk e => by have : wq.heap.size = k := Option.some.inj e; omega))); (have HO7 := Lib.hid hown1); (clear hown1 hg1 hv1); (obtain ⟨a7, c7, rfl⟩ := (Row.ofOwns (M := No) HO7.out (fun _ _ x => x)).slice))
        clear cB6
        have cE7 := cellOf (HX7.out.blk HE6.out no_no)
        go_upto_region 19 with (at_builtin; (refine wpList_app _ rfl (.tmp 100) (.tmp 102) 30 rfl wq.heap.size 42 iE _ 6 64 Try.underlying30 hiE hE0 hE1 hE2 rfl (by omega) (.slice a7 P c7) P ((L1.take P).flatMap kE.cells) rfl (row_keep HO7.out ((Ext.refl No _).alloc _) (fun _ _ x => x)) No (some ⟨w7.heap.size, 0, none⟩) 1 1 [.int .i64 x.1, .int .i64 x.2.1, .int .i64 x.2.2, .int .i64 s.width, .slice sa s.words.length sc, .int .i64 (addZ clk 1)] rfl (Row.block (alloc_top rfl) rfl no_no (by omega)) (by simp [Value.oneCell']) (by omega) (by omega) (by have := HX7.out.size; simp; omega) ?_); (intro v8 w8 hown1 hg1 hv1); (have HX8 := Lib.hid (show Ext No wq w8 from (HX7.out.transNo ((Ext.refl No _).alloc _)).trans2 ((Ext.refl (fun bq => (Value.slice a7 P c7).ownBlock = some bq) _).grown hg1 (fun k hk _ => hk)) (fun k hk e => by have := (World.ownsRow.lt HO7.out k e).1; omega))); (have HO8 := Lib.hid hown1); (clear hown1 hg1 hv1); (obtain ⟨a8, c8, rfl⟩ := (Row.ofOwns (M := No) HO8.out (fun _ _ x => x)).slice))
        have cB8 := cellOf (HX8.out.blk HP6.out.box no_no)
        clear cE7
        go_wp2_with (at_builtin; (refine wpList_app _ rfl (.tmp 105) (.tmp 111) 30 rfl wq.heap.size 42 iE _ 6 64 Try.underlying30 hiE hE0 hE1 hE2 rfl (by omega) (.slice a8 (P + 1) c8) (P + 1) (((L1.take P).flatMap kE.cells) ++ [.int .i64 x.1, .int .i64 x.2.1, .int .i64 x.2.2, .int .i64 s.width, .slice sa s.words.length sc, .int .i64 (addZ clk 1)]) rfl HO8.out No A (m - P) (c1 - P) ((L1.drop P).flatMap kE.cells) rfl (HR2.out.extNo HX8.out) (LOwn.one HP6.out.ents _ (fun p hp => List.mem_of_mem_drop hp)) (by omega) (by omega) HX8.out.size ?_); (intro v9 w9 hown1 hg1 hv1); (have HX9 := Lib.hid (show Ext No wq w9 from HX8.out.trans2 ((Ext.refl (fun bq => (Value.slice a8 (P + 1) c8).ownBlock = some bq) _).grown hg1 (fun k hk _ => hk)) (fun k hk e => by have := (World.ownsRow.lt HO8.out k e).1; omega))); (have HO9 := Lib.hid hown1); (clear hown1 hg1 hv1); (obtain ⟨a9, c9, rfl⟩ := (Row.ofOwns (M := No) HO9.out (fun _ _ x => x)).slice); (have cB9 := cellOf (HX9.out.blk HP6.out.box no_no)); (have fB9 := freeOf (HX9.out.blk HP6.out.box no_no)))
        go_ret
        exact HFIN.out w9 a9 _ c9 (by omega) (by have h9 := HO9.out; exact h9) HX9.out
end Go.Proofs.Ytfejidihocoboaa

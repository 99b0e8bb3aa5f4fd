/- Touch of the reference's memo table. -/
import Derived.Test.YtfejidihocoboaaN28
set_option linter.unusedVariables false
set_option linter.unusedSimpArgs false
namespace Go.Proofs.Ytfejidihocoboaa
open Go Go.RowKit
theorem LOwn.put1 {β : Type} {K : EK β} {A : Nat → Prop} {w : World} {base g cap : Nat} {L : List β} (h : LOwn K A w base (.slice (some ⟨g, 0, none⟩) L.length cap) L) {i : Nat} (hi : i < L.length) {p : β} {j : Nat} (hj : j < K.s) {u : Value}
    (hc : K.cells p = (K.cells L[i]).set j u) (hp : K.ok (fun b => A b ∨ b = g) w p) : LOwn K A (w.setCell ⟨g, i * K.s + j, none⟩ u) base (.slice (some ⟨g, 0, none⟩) L.length cap) (L.set i p) := by
  have h1 := (World.ownsRow.stored (w := w) h.own (i * K.s + j) u).1
  have h2 : (L.flatMap K.cells).set (i * K.s + j) u = (L.set i p).flatMap K.cells := by
    refine List.ext_getElem? (fun n => ?_)
    rw [flat_set_get K p L i n hi, hc]
    have hb : i * K.s + j < (L.flatMap K.cells).length := by rw [flat_len2]; have := mul_in (s := K.s) hi; omega
    by_cases hn : i * K.s ≤ n ∧ n < i * K.s + K.s
    · rw [if_pos hn]
      have e := flat_get2 K L i (n - i * K.s) hi (by omega)
      rw [show i * K.s + (n - i * K.s) = n from by omega] at e
      by_cases hnj : n = i * K.s + j
      · subst hnj
        rw [List.getElem?_set_self hb, show i * K.s + j - i * K.s = j from by omega, List.getElem?_set_self (by rw [K.len]; exact hj)]
      · rw [List.getElem?_set_ne (by omega), List.getElem?_set_ne (by omega), e]
    · rw [if_neg hn, List.getElem?_set_ne (by omega)]
  rw [h2] at h1
  refine ⟨by rw [List.length_set]; exact h1, fun q hq => ?_⟩
  have hq2 : K.ok (fun b => A b ∨ b = g) w q := by
    rcases List.mem_or_eq_of_mem_set hq with hq | rfl
    · exact K.mono (h.ok q hq) (fun i _ e => by
        rcases e with e | rfl
        · exact .inl e
        · exact .inr rfl)
    · exact hp
  refine K.mono (K.ext hq2 ((Ext.refl (At g) w).setAt _ u) (fun i _ e => .inr e)) (fun i _ e => ?_)
  rcases e with e | e
  · exact .inl e
  · simp only [Value.ownBlock, Option.some.injEq] at e; exact .inr e.symm
def RPost (M : Nat → Prop) (D : Nat) (cap : Int) (O : Nat → Prop) (r : Ending) (clk' : Int) (es' : List Ent) (W : World) (e : Ending) (w' : World) : Prop :=
  ∃ (v : Value) (LL : List EV), e = r ∧ Hid (RTab M w' D cap clk' v LL) ∧ Hid (LL.map Prod.fst = es') ∧ Ext O W w' ∧ Hid (∀ b, ROwnT D v b → O b ∨ W.heap.size ≤ b)
section
variable {M : Nat → Prop} {W w' : World} {D : Nat} {cap clk : Int} {v v' : Value} {LL LL' : List EV}
/-- the clock -/
theorem RTab.setC (h : RTab M W D cap clk v LL) (hx : Ext (At D) W w') {clk' : Int} (hb : w'.heap[D]? = some (.cells #[.int .i64 cap, v, .int .i64 clk'] 32 (0, 0))) : RTab M w' D cap clk' v LL :=
  ⟨hb, h.ents.ext2 hx (fun g hg e => h.ne hg e) (fun i _ e => .inr e), h.out⟩
/-- a tick -/
theorem RTab.setTick {g c n : Nat} (h : RTab M W D cap clk (.slice (some ⟨g, 0, none⟩) n c) LL) (hn : n = LL.length) {k : Nat} (hk : k < LL.length) (t : Int) :
    RTab M (W.setCell ⟨g, k * 6 + 5, none⟩ (.int .i64 t)) D cap clk (.slice (some ⟨g, 0, none⟩) n c) (LL.set k (⟨LL[k].1.key, LL[k].1.s, t⟩, LL[k].2)) := by
  subst hn
  have hne : D ≠ g := fun e => h.ne rfl e.symm
  refine ⟨set_other h.box hne, ?_, h.out⟩
  exact LOwn.put1 (K := kE) h.ents hk (j := 5) (by decide) rfl ((h.ents.ok _ (List.getElem_mem hk)).mono (fun i _ e => e.imp id (fun e => by rw [e]; rfl)))
/-- new entries -/
theorem RTab.setE (h : RTab M W D cap clk v LL) (hx : Ext (At D) W w') (hb : w'.heap[D]? = some (.cells #[.int .i64 cap, v', .int .i64 clk] 32 (0, 0))) (hE : LOwn kE (fun b => M b ∨ b = D) W 0 v' LL') (hv : ∀ g, v'.ownBlock = some g → ¬ M g) : RTab M w' D cap clk v' LL' :=
  ⟨hb, hE.ext2 hx (fun g hg e => by
    obtain ⟨cur, hg2⟩ := hE.blk hg
    exact ne_type h.box hg2 (by decide) (show g = D from e).symm) (fun i _ e => .inr e), fun b hb2 => hb2.elim (fun e => h.out b (.inl e)) (fun e => hv b e)⟩
theorem KOwnE.tick {A : Nat → Prop} {w : World} {g c : Nat} {LL : List EV} (h : LOwn kE A w 0 (.slice (some ⟨g, 0, none⟩) LL.length c) LL) {k : Nat} (hk : k < LL.length) : w.cell? ⟨g, k * 6 + 5, none⟩ = some (.int .i64 LL[k].1.t) :=
  h.cellAt (K := kE) (j := 5) hk (by decide) rfl
theorem setTk_at {LL : List EV} (hn : (keysE (LL.map Prod.fst)).Nodup) {k : Nat} (hk : k < LL.length) (t : Int) : (LL.set k (⟨LL[k].1.key, LL[k].1.s, t⟩, LL[k].2)).map Prod.fst = setTk LL[k].1.key t (LL.map Prod.fst) := by
  refine List.ext_getElem? (fun n => ?_)
  unfold setTk
  rw [List.getElem?_map, List.getElem?_set, List.getElem?_map, List.getElem?_map]
  by_cases h : k = n
  · subst h
    rw [if_pos rfl, if_pos hk, List.getElem?_eq_getElem hk]
    simp
  · rw [if_neg h]
    cases hq : LL[n]? with
    | none => rfl
    | some q =>
      simp only [Option.map_some]
      rw [if_neg]
      intro e
      apply h
      obtain ⟨hl, hq2⟩ := List.getElem?_eq_some_iff.1 hq
      have h1 : (keysE (LL.map Prod.fst))[k]'(by simpa [keysE] using hk) = (keysE (LL.map Prod.fst))[n]'(by simpa [keysE] using hl) := by
        simp [keysE, hq2, e]
      have hp := List.pairwise_iff_getElem.1 hn
      rcases Nat.lt_trichotomy k n with h3 | h3 | h3
      · exact absurd h1 (hp k n _ _ h3)
      · exact h3
      · exact absurd h1.symm (hp n k _ _ h3)
end
set_option maxRecDepth 100000 in
set_option maxHeartbeats 4000000 in
theorem rtouch_any (x : Key3) {M : Nat → Prop} {W : World} {D : Nat} {cap clk : Int} {v : Value} {LL : List EV} (h : RTab M W D cap clk v LL) (hn : (keysE (LL.map Prod.fst)).Nodup) :
    Calls Try.prog 28 #[ptrV D, .int .i64 x.1, .int .i64 x.2.1, .int .i64 x.2.2] W (RPost M D cap (ROwnT D v) (.returned (.bool (decide (x ∈ keysE (LL.map Prod.fst))))) (touchC x clk (LL.map Prod.fst)) (touchE x clk (LL.map Prod.fst)) W) := by
  have H := Lib.hid h
  have HN := Lib.hid hn
  have hlen63 := h.list.row.2.1
  clear h hn
  have hptr : ptrV D = .pointer (some ⟨D, 0, none⟩) := rfl
  unfold RPost
  rw [hptr]
  go_enter Try.func28, Try.ntmps28
  go_wp2_with fail
  refine (rfind_any x H.out).mono ?_
  rintro e1 w1 ⟨⟨rfl, hnk⟩ | ⟨k, rfl, hk, hkx⟩, hX⟩
  · have HNK := Lib.hid hnk
    have hlz : ((-1 : Int) < 0) := by decide
    have hd : (decide (x ∈ keysE (LL.map Prod.fst))) = false := decide_eq_false hnk
    have HD := Lib.hid hd
    clear hnk hd
    go_wp2_with fail
    go_ret
    exact ⟨v, LL, by rw [HD.out]; rfl, Lib.hid (by unfold touchC; rw [if_neg HNK.out]; exact H.out.stepNo hX), Lib.hid (by unfold touchE; rw [if_neg HNK.out]), hX.mono (fun _ _ e => e.elim), Lib.hid (fun b hb => .inl hb)⟩
  · have hmem : x ∈ keysE (LL.map Prod.fst) := by rw [← hkx]; exact List.mem_map_of_mem (List.mem_map_of_mem (List.getElem_mem hk))
    have HM := Lib.hid hmem
    have hd : (decide (x ∈ keysE (LL.map Prod.fst))) = true := decide_eq_true hmem
    have HD := Lib.hid hd
    have HKX := Lib.hid hkx
    have HK := Lib.hid hk
    have hkz : ¬ ((k : Int) < 0) := by omega
    have hkz0 : 0 ≤ (k : Int) := by omega
    have hkz1 : (k : Int) < (LL.length : Int) := by omega
    have HP1 := H.out.stepNo hX
    obtain ⟨g, c, rfl, -, -⟩ := HP1.ents.shape (by omega)
    have c1 := cellOf HP1.box
    have f1 := freeOf HP1.box
    have HB2 := Lib.hid ((set_same (j := 2) (u := .int .i64 (addZ clk 1)) HP1.box).trans rfl)
    have HP2 := Lib.hid (HP1.setC ((Ext.refl (At D) w1).setAt 2 _) HB2.out)
    have HX2 := Lib.hid (show Ext (ROwnT D (.slice (some ⟨g, 0, none⟩) LL.length c)) W _ from (hX.ofNo.trans ((Ext.refl (At D) w1).setAt 2 (.int .i64 (addZ clk 1)))).mono (fun i _ e => .inl e))
    clear hmem hd hkx HP1
    go_wp2_with fail
    refine (radd_any clk 1 _).mono ?_
    rintro e2 w1b ⟨rfl, rfl⟩
    go_wp2_with fail
    clear c1 f1
    go_upto_region 5 with (fail)
    generalize w1.setCell ⟨D, 2, none⟩ (.int .i64 (addZ clk 1)) = w2 at *
    refine wp_region_heldL [11] (fun w' => Ext No w2 w') (by kernel_rfl) ?_ (fun hHeld => ?_)
    · exact (Ext.refl _ _).drew
    have HEV := Lib.hid (show Ext No w2 w2.drew from (Ext.refl _ _).drew)
    have HENT := Lib.hid (HP2.out.ents.extNo HEV.out)
    generalize w2.drew = v0 at *
    refine heldL_free (i := 0) (v := ?_) rfl (by kernel_rfl) (by kernel_rfl) (by kernel_rfl) (by kernel_rfl) (by kernel_rfl) (fun _ _ _ h => h) rfl (fun w => ?_) hHeld ?_
    rotate_left
    · go_simp; (try with_reducible rfl)
    try simp only [Act.put, List.setIfInBounds_toArray, List.set_cons_zero, List.set_cons_succ]
    replace hHeld := (ST_set (T := [11]) (i := 0) (by kernel_rfl) _ _).2 hHeld
    refine heldL_free (i := 1) (v := ?_) rfl (by kernel_rfl) (by kernel_rfl) (by kernel_rfl) (by kernel_rfl) (by kernel_rfl) (fun _ _ _ h => h) rfl (fun w => ?_) hHeld ?_
    rotate_left
    · go_simp; (try with_reducible rfl)
    try simp only [Act.put, List.setIfInBounds_toArray, List.set_cons_zero, List.set_cons_succ]
    replace hHeld := (ST_set (T := [11]) (i := 1) (by kernel_rfl) _ _).2 hHeld
    refine heldL_free (i := 2) (v := ?_) rfl (by kernel_rfl) (by kernel_rfl) (by kernel_rfl) (by kernel_rfl) (by kernel_rfl) (fun _ _ _ h => h) rfl (fun w => ?_) hHeld ?_
    rotate_left
    · go_simp; (try with_reducible rfl)
    try simp only [Act.put, List.setIfInBounds_toArray, List.set_cons_zero, List.set_cons_succ]
    replace hHeld := (ST_set (T := [11]) (i := 2) (by kernel_rfl) _ _).2 hHeld
    refine heldL_take (i := 3) (v := ?_) rfl (by kernel_rfl) (by kernel_rfl) (by kernel_rfl) (by kernel_rfl) (by kernel_rfl) (fun _ _ _ h => h) rfl (fun w hSw => ?_) hHeld ?_
    rotate_left
    · (have hEs : Ext No w2 _ := hSw); (have x0 := cellOf (hEs.blk HB2.out no_no)); go_simp; (try with_reducible rfl)
    try simp only [Act.put, List.setIfInBounds_toArray, List.set_cons_zero, List.set_cons_succ]
    replace hHeld := (ST_set (T := [11]) (i := 3) (by kernel_rfl) _ _).2 hHeld
    refine heldL_free (i := 4) (v := ?_) rfl (by kernel_rfl) (by kernel_rfl) (by kernel_rfl) (by kernel_rfl) (by kernel_rfl) (fun _ _ _ h => h) rfl (fun w => ?_) hHeld ?_
    rotate_left
    · go_simp; (try with_reducible rfl)
    try simp only [Act.put, List.setIfInBounds_toArray, List.set_cons_zero, List.set_cons_succ]
    replace hHeld := (ST_set (T := [11]) (i := 4) (by kernel_rfl) _ _).2 hHeld
    refine heldL_free (i := 5) (v := ?_) rfl (by kernel_rfl) (by kernel_rfl) (by kernel_rfl) (by kernel_rfl) (by kernel_rfl) (fun _ _ _ h => h) rfl (fun w => ?_) hHeld ?_
    rotate_left
    · go_simp; (try with_reducible rfl)
    try simp only [Act.put, List.setIfInBounds_toArray, List.set_cons_zero, List.set_cons_succ]
    replace hHeld := (ST_set (T := [11]) (i := 5) (by kernel_rfl) _ _).2 hHeld
    refine heldL_free (i := 6) (v := ?_) rfl (by kernel_rfl) (by kernel_rfl) (by kernel_rfl) (by kernel_rfl) (by kernel_rfl) (fun _ _ _ h => h) rfl (fun w => ?_) hHeld ?_
    rotate_left
    · go_simp; (try with_reducible rfl)
    try simp only [Act.put, List.setIfInBounds_toArray, List.set_cons_zero, List.set_cons_succ]
    replace hHeld := (ST_set (T := [11]) (i := 6) (by kernel_rfl) _ _).2 hHeld
    refine heldL_free (i := 7) (v := ?_) rfl (by kernel_rfl) (by kernel_rfl) (by kernel_rfl) (by kernel_rfl) (by kernel_rfl) (fun _ _ _ h => h) rfl (fun w => ?_) hHeld ?_
    rotate_left
    · go_simp; (try with_reducible rfl)
    try simp only [Act.put, List.setIfInBounds_toArray, List.set_cons_zero, List.set_cons_succ]
    replace hHeld := (ST_set (T := [11]) (i := 7) (by kernel_rfl) _ _).2 hHeld
    refine heldL_take (i := 8) (v := ?_) rfl (by kernel_rfl) (by kernel_rfl) (by kernel_rfl) (by kernel_rfl) (by kernel_rfl) (fun _ _ _ h => h) rfl (fun w hSw => ?_) hHeld ?_
    rotate_left
    · (have hEs : Ext No w2 _ := hSw); (have x0 := cellOf (hEs.blk HB2.out no_no)); go_simp; (try with_reducible rfl)
    try simp only [Act.put, List.setIfInBounds_toArray, List.set_cons_zero, List.set_cons_succ]
    replace hHeld := (ST_set (T := [11]) (i := 8) (by kernel_rfl) _ _).2 hHeld
    refine heldL_free (i := 9) (v := ?_) rfl (by kernel_rfl) (by kernel_rfl) (by kernel_rfl) (by kernel_rfl) (by kernel_rfl) (fun _ _ _ h => h) rfl (fun w => ?_) hHeld ?_
    rotate_left
    · go_simp; (try with_reducible rfl)
    try simp only [Act.put, List.setIfInBounds_toArray, List.set_cons_zero, List.set_cons_succ]
    replace hHeld := (ST_set (T := [11]) (i := 9) (by kernel_rfl) _ _).2 hHeld
    refine heldL_free (i := 10) (v := ?_) rfl (by kernel_rfl) (by kernel_rfl) (by kernel_rfl) (by kernel_rfl) (by kernel_rfl) (fun _ _ _ h => h) rfl (fun w => ?_) hHeld ?_
    rotate_left
    · go_simp; (try with_reducible rfl)
    try simp only [Act.put, List.setIfInBounds_toArray, List.set_cons_zero, List.set_cons_succ]
    replace hHeld := (ST_set (T := [11]) (i := 10) (by kernel_rfl) _ _).2 hHeld
    refine heldL_next1 (i := 11) (by kernel_rfl) (NextL.mk rfl rfl (fun K hK => ?_))
    ((have cE := KOwnE.tick HENT.out HK.out); (have fE := World.ownsRow.frozenAt HENT.out.own); go_simp; (clear cE fE))
    refine hK.out _ _ ?_ (fun hNew => ?_)
    · exact fun h => absurd h (by decide)
    clear hK K hHeld
    have hHeld := hNew
    clear hNew
    try simp only [Act.put, List.setIfInBounds_toArray, List.set_cons_zero, List.set_cons_succ]
    refine heldL_done (by kernel_rfl) ?_ _
    clear hHeld
    have hPF := Lib.hid ((HP2.out.stepNo HEV.out).setTick rfl HK.out (addZ clk 1))
    have HXF := (HX2.out.trans HEV.out.ofNo).trans (((Ext.refl (At g) v0).setAt (k * 6 + 5) (.int .i64 (addZ clk 1))).mono (fun i _ e => show ROwnT D (.slice (some ⟨g, 0, none⟩) LL.length c) i from .inr (by rw [show i = g from e]; rfl)))
    go_wp2_with fail
    go_ret
    refine ⟨_, _, by rw [HD.out]; rfl, Lib.hid (by unfold touchC; rw [if_pos HM.out]; exact hPF.out), Lib.hid ?_, HXF, Lib.hid (fun b hb => .inl hb)⟩
    rw [setTk_at HN.out HK.out]
    unfold touchE
    rw [if_pos HM.out, HKX.out]
end Go.Proofs.Ytfejidihocoboaa

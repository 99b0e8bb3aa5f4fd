/- A memo table of the reference in memory; find, Get. -/
import Derived.Test.YtfejidihocoboaaN22
set_option linter.unusedVariables false
set_option linter.unusedSimpArgs false
namespace Go.Proofs.Ytfejidihocoboaa
open Go Go.RowKit
abbrev EV := Ent × Value
def ROwnT (D : Nat) (v : Value) : Nat → Prop := fun b => b = D ∨ v.ownBlock = some b
structure RTab (M : Nat → Prop) (w : World) (D : Nat) (cap clk : Int) (v : Value) (LL : List EV) : Prop where
  box : w.heap[D]? = some (.cells #[.int .i64 cap, v, .int .i64 clk] 32 (0, 0))
  ents : LOwn kE (fun b => M b ∨ b = D) w 0 v LL
  out : ∀ b, ROwnT D v b → ¬ M b
section
variable {M M' : Nat → Prop} {w w' : World} {D : Nat} {cap clk : Int} {v : Value} {LL : List EV}
theorem RTab.ne (h : RTab M w D cap clk v LL) {g : Nat} (hk : v.ownBlock = some g) : g ≠ D := by
  obtain ⟨cur, hg⟩ := h.ents.blk hk
  exact fun e => ne_type h.box hg (by decide) e.symm
theorem RTab.ownLt (h : RTab M w D cap clk v LL) {b : Nat} (hb : ROwnT D v b) : b < w.heap.size := by
  rcases hb with rfl | hb
  · exact lt_of_block h.box
  · exact (h.ents.lt b hb).2
theorem RTab.ext (h : RTab M w D cap clk v LL) (hx : Ext M' w w') (hm : ∀ i, i < w.heap.size → M' i → M i) : RTab M w' D cap clk v LL :=
  ⟨hx.blk h.box (fun e => h.out D (.inl rfl) (hm D (lt_of_block h.box) e)), h.ents.ext2 hx (fun i hi e => h.out i (.inr hi) (hm i (h.ents.lt i hi).2 e)) (fun i hi e => .inl (hm i hi e)), h.out⟩
theorem RTab.stepNo (h : RTab M w D cap clk v LL) (hx : Ext No w w') : RTab M w' D cap clk v LL := h.ext hx (fun _ _ x => x.elim)
theorem RTab.mono (h : RTab M w D cap clk v LL) (hm : ∀ i, i < w.heap.size → M' i → M i) : RTab M' w D cap clk v LL :=
  ⟨h.box, h.ents.mono (fun i hi e => e.imp (hm i hi) id), fun b hb e => h.out b hb (hm b (h.ownLt hb) e)⟩
theorem RTab.list (h : RTab M w D cap clk v LL) : LAt kE No w v LL := h.ents.list2 (fun _ _ e => e) (fun _ e => e.elim)
theorem LAt.atE {sl : Value} {L : List EV} (h : LAt kE M w sl L) {i : Nat} (hi : i < L.length) : ∃ b off cap, sl = .slice (some ⟨b, off, none⟩) L.length cap ∧ b < w.heap.size ∧ ¬ M b ∧
    ∀ k (hk : k < L.length), w.cell? ⟨b, off + k * 6, none⟩ = some (.int .i64 L[k].1.key.1) ∧ w.cell? ⟨b, off + k * 6 + 1, none⟩ = some (.int .i64 L[k].1.key.2.1) ∧ w.cell? ⟨b, off + k * 6 + 2, none⟩ = some (.int .i64 L[k].1.key.2.2) ∧
      w.cell? ⟨b, off + k * 6 + 3, none⟩ = some (.int .i64 L[k].1.s.width) ∧ w.cell? ⟨b, off + k * 6 + 4, none⟩ = some L[k].2 ∧ w.cell? ⟨b, off + k * 6 + 5, none⟩ = some (.int .i64 L[k].1.t) := by
  obtain ⟨b, off, cap, h1, h2, h3, h4⟩ := h.at hi
  exact ⟨b, off, cap, h1, h2, h3, fun k hk => ⟨h4 k hk 0 _ (by decide) rfl, h4 k hk 1 _ (by decide) rfl, h4 k hk 2 _ (by decide) rfl, h4 k hk 3 _ (by decide) rfl, h4 k hk 4 _ (by decide) rfl, h4 k hk 5 _ (by decide) rfl⟩⟩
end
def FindPost (x : Key3) (LL : List EV) (W : World) (e : Ending) (w' : World) : Prop :=
  ((e = .returned (.int .i64 (-1)) ∧ x ∉ keysE (LL.map Prod.fst)) ∨ ∃ k : Nat, e = .returned (.int .i64 (k : Int)) ∧ ∃ h : k < LL.length, LL[k].1.key = x) ∧ Ext No W w'
set_option maxRecDepth 100000 in
set_option maxHeartbeats 4000000 in
theorem rfind_any (x : Key3) {M : Nat → Prop} {W : World} {D : Nat} {cap clk : Int} {v : Value} {LL : List EV} (h : RTab M W D cap clk v LL) :
    Calls Try.prog 57 #[ptrV D, .int .i64 x.1, .int .i64 x.2.1, .int .i64 x.2.2] W (FindPost x LL W) := by
  have H := Lib.hid h.list
  have HB := Lib.hid h.box
  have hlen63 := h.list.row.2.1
  obtain ⟨a, c, hsl0⟩ := h.list.slice
  rw [hsl0] at H HB
  obtain ⟨N, hN⟩ : ∃ N, N = LL.length := ⟨_, rfl⟩
  rw [← hN] at H HB hlen63
  have HN := Lib.hid hN
  clear h hN hsl0
  unfold ptrV
  have c0 := cellOf HB.out
  go_enter Try.func57, Try.ntmps57
  go_wp2_with fail
  clear c0
  go_loopw [9] (fun i wr => ∃ k : Nat, i = .int .i64 k ∧ k ≤ N ∧ Hid (Ext No W wr) ∧ Hid (∀ j (hj : j < LL.length), j < k → LL[j].1.key ≠ x)) (fun i _ => N - (intOf i).toNat)
  case atStart => exact ⟨0, rfl, Nat.zero_le _, Lib.hid (Ext.refl _ _), Lib.hid (fun j _ hj => absurd hj (Nat.not_lt_zero _))⟩
  case round =>
    obtain ⟨k, rfl, hk, hx, hm⟩ := hrel
    rename World => wr
    have cD := cellOf (hx.out.blk HB.out no_no)
    by_cases hlt : k < N
    · have hlz : (k : Int) < (N : Int) := by omega
      have hlz0 : (0 : Int) ≤ (k : Int) := by omega
      have HKK : Hid (Value.int .i64 ((k : Int) + 1) = .int .i64 ((k + 1 : Nat) : Int)) := Lib.hid (by rw [show ((k + 1 : Nat) : Int) = (k : Int) + 1 from by omega])
      have hkl : k < LL.length := by have := HN.out; omega
      have HKL := Lib.hid hkl
      obtain ⟨wa, wc, hwa⟩ := (H.out.ok _ (List.getElem_mem hkl)).slice
      obtain ⟨b, off, cap', hsl, -, -, hc⟩ := (H.out.extNo hx.out).atE hkl
      rw [← HN.out] at hsl
      simp only [Value.slice.injEq] at hsl
      obtain ⟨rfl, -, rfl⟩ := hsl
      obtain ⟨c0, c1, c2, c3, c4, c5⟩ := hc k hkl
      rw [hwa] at c4
      obtain ⟨y, hy⟩ : ∃ y, y = (LL[k]'HKL.out).1 := ⟨_, rfl⟩
      rw [← hy] at c0 c1 c2 c3 c4 c5
      have HY := Lib.hid hy
      clear hy hkl hc hwa
      have key : ∀ y' : Ent, y'.key = (LL[k]'HKL.out).1.key → x ≠ y'.key → ∀ j (hj : j < LL.length), j < k + 1 → LL[j].1.key ≠ x := fun y' e1 hn j hj hjk => by
        by_cases e : j = k
        · subst e; rw [← e1]; exact fun e => hn e.symm
        · exact hm.out j hj (by omega)
      have HKEY := Lib.hid key
      clear key
      go_upto_region 5 with (fail)
      have hxa : Ext No W (wr.alloc (.cells #[.int .i64 y.key.1, .int .i64 y.key.2.1, .int .i64 y.key.2.2, .int .i64 y.s.width, .slice wa y.s.words.length wc, .int .i64 y.t] 42)) := hx.out.transNo ((Ext.refl _ _).alloc _)
      have HXA := Lib.hid hxa
      have cL := cellOf (alloc_top (w := wr) (o := .cells #[.int .i64 y.key.1, .int .i64 y.key.2.1, .int .i64 y.key.2.2, .int .i64 y.s.width, .slice wa y.s.words.length wc, .int .i64 y.t] 42) rfl)
      have HXR := Lib.hid hxa
      clear hx hxa HXA c0 c1 c2 c3 c4 c5 cD
      generalize (wr.alloc (.cells #[.int .i64 y.key.1, .int .i64 y.key.2.1, .int .i64 y.key.2.2, .int .i64 y.s.width, .slice wa y.s.words.length wc, .int .i64 y.t] 42)) = wk at *
      rcases key_cases y.key x with hne | hne | hne | hne
      · rw [hne] at cL ⊢
        have HNE := Lib.hid hne
        clear hne
        have e0 : (x.1 == x.1) = true := by simp
        have e1 : (x.2.1 == x.2.1) = true := by simp
        have e2 : (x.2.2 == x.2.2) = true := by simp
        go_wp2_with fail
        go_ret
        exact ⟨.inr ⟨k, rfl, HKL.out, by rw [← HY.out]; exact HNE.out⟩, HXR.out⟩
      · obtain ⟨hn, e0⟩ := hne
        have HNE := Lib.hid (HKEY.out y (by rw [HY.out]) (fun e => hn e.symm))
        clear hn HKEY
        go_wp2_with fail
        go_roundw
        case rel => exact ⟨k + 1, HKK.out, by omega, HXR, HNE⟩
        case measure => simp [intOf]; omega
      · obtain ⟨hn, e0, e1⟩ := hne
        have HNE := Lib.hid (HKEY.out y (by rw [HY.out]) (fun e => hn e.symm))
        clear hn HKEY
        go_wp2_with fail
        go_roundw
        case rel => exact ⟨k + 1, HKK.out, by omega, HXR, HNE⟩
        case measure => simp [intOf]; omega
      · obtain ⟨hn, e0, e1, e2⟩ := hne
        have HNE := Lib.hid (HKEY.out y (by rw [HY.out]) (fun e => hn e.symm))
        clear hn HKEY
        go_wp2_with fail
        go_roundw
        case rel => exact ⟨k + 1, HKK.out, by omega, HXR, HNE⟩
        case measure => simp [intOf]; omega
    · have hge : ¬ (k : Int) < (N : Int) := by omega
      go_wp2_with fail
      go_ret
      refine ⟨.inl ⟨rfl, fun h => ?_⟩, hx.out⟩
      obtain ⟨q, hq, hqx⟩ := List.mem_map.1 h
      obtain ⟨p, hp, rfl⟩ := List.mem_map.1 hq
      obtain ⟨j, hj, rfl⟩ := List.getElem_of_mem hp
      exact absurd hqx (hm.out j hj (by have := HN.out; omega))
def RGetPost (x : Key3) (es : List Ent) (W : World) (e : Ending) (w' : World) : Prop :=
  ∃ sl, e = .returned (.tuple #[.agg #[.int .i64 (getE x es).1.width, sl], .bool (getE x es).2]) ∧ Hid (WordsAt No w' sl (getE x es).1.words) ∧ Ext No W w'
set_option maxRecDepth 100000 in
set_option maxHeartbeats 4000000 in
theorem rget_any (x : Key3) {M : Nat → Prop} {W : World} {D : Nat} {cap clk : Int} {v : Value} {LL : List EV} (h : RTab M W D cap clk v LL) (hn : (keysE (LL.map Prod.fst)).Nodup) :
    Calls Try.prog 54 #[ptrV D, .int .i64 x.1, .int .i64 x.2.1, .int .i64 x.2.2] W (RGetPost x (LL.map Prod.fst) W) := by
  have hx0 : Ext No W (W.alloc (.cells #[.int .i64 0, .slice none 0 0] 40)) := (Ext.refl _ _).alloc _
  have HX := Lib.hid hx0
  have HC := Lib.hid (show (W.alloc (.cells #[.int .i64 0, .slice none 0 0] 40)).heap[W.heap.size]? = some (.cells #[.int .i64 0, .slice none 0 0] 40 (0, 0)) from alloc_top rfl)
  have H := Lib.hid (h.stepNo hx0)
  have HL0 := Lib.hid h.list
  have HN := Lib.hid hn
  have hlen63 := h.list.row.2.1
  clear h hn hx0
  unfold RGetPost ptrV
  go_enter Try.func54, Try.ntmps54
  go_upto_region 1 with (fail)
  generalize (W.alloc (.cells #[.int .i64 0, .slice none 0 0] 40)) = V at *
  go_wp2_with fail
  refine (rfind_any x H.out).mono ?_
  rintro e1 w1 ⟨⟨rfl, hnk⟩ | ⟨k, rfl, hk, hkx⟩, hX⟩
  · have HG := Lib.hid (getE_none hnk)
    have cS := cellOf (hX.blk HC.out no_no)
    have fS := freeOf (hX.blk HC.out no_no)
    have hlz : ((-1 : Int) < 0) := by decide
    go_wp2_with fail
    have hE := ext_two (u0 := .int .i64 0) (u1 := .slice none 0 0) (Ext.refl No w1) W.heap.size
    have hF := (set_same (j := 1) (u := .slice none 0 0) (set_same (j := 0) (u := .int .i64 0) (hX.blk HC.out no_no))).trans rfl
    generalize ((w1.setCell ⟨W.heap.size, 0, none⟩ (.int .i64 0)).setCell ⟨W.heap.size, 1, none⟩ (.slice none 0 0)) = WF at *
    have cF := cellOf hF
    refine ret_ex rfl ?_
    rw [HG.out]
    simp [results, Try.results54, go_sem, cF]
    exact ⟨_, ⟨rfl, rfl⟩, Lib.hid ⟨Row.nil _ _ _ _ _ (by omega), fun n hn => by cases hn⟩, (HX.out.transNo hX).trans2 hE (fun i hi e => by unfold At at e; omega)⟩
  · have HG := Lib.hid (show getE x (LL.map Prod.fst) = ((LL[k]'hk).1.s, true) from getE_some HN.out (List.mem_map_of_mem (List.getElem_mem hk)) hkx)
    have cS := cellOf (hX.blk HC.out no_no)
    have fS := freeOf (hX.blk HC.out no_no)
    have hkz : ¬ ((k : Int) < 0) := by omega
    have hkz0 : 0 ≤ (k : Int) := by omega
    have hkz1 : (k : Int) < (LL.length : Int) := by omega
    have HW0 := Lib.hid ((HL0.out.ok _ (List.getElem_mem hk)).mono (M' := At W.heap.size) (fun i hi e => by unfold At at e; omega))
    have cD := cellOf (hX.blk H.out.box no_no)
    obtain ⟨wa, wc, hwa⟩ := HW0.out.slice
    obtain ⟨b, off, cap', hsl, -, -, hc⟩ := (H.out.list.extNo hX).atE hk
    obtain ⟨-, -, -, d3, d4, -⟩ := hc k hk
    rw [hwa] at d4 HW0
    rw [hsl] at cD
    have HXW := Lib.hid (HX.out.transNo hX)
    clear hsl hc hwa
    go_wp2_with fail
    have hE := ext_two (u0 := .int .i64 (LL[k]'hk).1.s.width) (u1 := .slice wa (LL[k]'hk).1.s.words.length wc) (Ext.refl No w1) W.heap.size
    have hF := (set_same (j := 1) (u := .slice wa (LL[k]'hk).1.s.words.length wc) (set_same (j := 0) (u := .int .i64 (LL[k]'hk).1.s.width) (hX.blk HC.out no_no))).trans rfl
    generalize ((w1.setCell ⟨W.heap.size, 0, none⟩ (.int .i64 (LL[k]'hk).1.s.width)).setCell ⟨W.heap.size, 1, none⟩ (.slice wa (LL[k]'hk).1.s.words.length wc)) = WF at *
    have cF := cellOf hF
    refine ret_ex rfl ?_
    rw [HG.out]
    simp [results, Try.results54, go_sem, cF]
    exact ⟨Lib.hid ((HW0.out.ext (HXW.out.ofNo.trans hE) (fun i _ e => e)).mono (fun i _ e => e.elim)), HXW.out.trans2 hE (fun i hi e => by unfold At at e; omega)⟩
end Go.Proofs.Ytfejidihocoboaa

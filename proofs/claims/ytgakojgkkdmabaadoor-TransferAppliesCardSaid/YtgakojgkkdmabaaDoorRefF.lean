/- The reference: image, closure. -/
import Derived.Test.YtgakojgkkdmabaaDoorRefE
set_option linter.unusedVariables false
set_option linter.unusedSimpArgs false
namespace Go.Proofs.YtgakojgkkdmabaaDoor
open Go Go.RowKit

def imgTo (z : Nat) (rs : List Nat) (s : Nat) : Nat → Nat
  | 0 => z
  | k + 1 => if s.testBit k then orN (imgTo z rs s k) (rowAt rs k) else imgTo z rs s k
theorem imgTo_lt {z : Nat} {rs : List Nat} {w s : Nat} (hz : z < 2 ^ w) (h : ∀ m ∈ rs, m < 2 ^ w) : ∀ k, imgTo z rs s k < 2 ^ w
  | 0 => hz
  | k + 1 => by
    rw [imgTo]
    split
    · exact orN_lt (imgTo_lt hz h k) (rowAt_lt h k)
    · exact imgTo_lt hz h k
theorem imgTo_bit {z : Nat} {rs : List Nat} {s j : Nat} : ∀ k, (imgTo z rs s k).testBit j = true ↔ z.testBit j = true ∨ ∃ b, b < k ∧ s.testBit b = true ∧ (rowAt rs b).testBit j = true
  | 0 => ⟨.inl, fun h => by rcases h with h | ⟨b, h, _⟩; exact h; omega⟩
  | k + 1 => by
    rw [imgTo]
    by_cases hs : s.testBit k = true
    · rw [if_pos hs, show orN (imgTo z rs s k) (rowAt rs k) = imgTo z rs s k ||| rowAt rs k from rfl, Nat.testBit_or, Bool.or_eq_true, imgTo_bit k]
      constructor
      · rintro ((h | ⟨b, h1, h2, h3⟩) | h)
        · exact .inl h
        · exact .inr ⟨b, by omega, h2, h3⟩
        · exact .inr ⟨k, by omega, hs, h⟩
      · rintro (h | ⟨b, h1, h2, h3⟩)
        · exact .inl (.inl h)
        · by_cases e : b = k
          · exact .inr (e ▸ h3)
          · exact .inl (.inr ⟨b, by omega, h2, h3⟩)
    · rw [if_neg hs, imgTo_bit k]
      constructor
      · rintro (h | ⟨b, h1, h2, h3⟩)
        · exact .inl h
        · exact .inr ⟨b, by omega, h2, h3⟩
      · rintro (h | ⟨b, h1, h2, h3⟩)
        · exact .inl h
        · by_cases e : b = k
          · exact absurd (e ▸ h2) hs
          · exact .inr ⟨b, by omega, h2, h3⟩
theorem imgTo_end (z : Nat) (rs : List Nat) (w s : Nat) : imgTo z rs s w = orN z (imgN rs w s) := Nat.eq_of_testBit_eq fun j => bool_ext (by
  rw [imgTo_bit, show orN z (imgN rs w s) = z ||| imgN rs w s from rfl, Nat.testBit_or, Bool.or_eq_true, imgN_bit]; rfl)
structure ImT (M : Nat → Prop) (W wr : World) (w m D : Nat) (sg so ss s1 : Value) : Prop where
  ext : Ext No W wr
  boxA : wr.heap[W.heap.size]? = some (.cells #[.int .i64 (w : Int), sg, so] 75 (0, 0))
  boxB : wr.heap[W.heap.size + 1]? = some (.cells #[.int .i64 (w : Int), ss] 25 (0, 0))
  boxC : wr.heap[W.heap.size + 2]? = some (.cells #[.int .i64 0, .slice none 0 0] 25 (0, 0))
  boxD : wr.heap[D]? = some (.cells #[.int .i64 (w : Int), s1] 25 (0, 0))
  set : SetAt (fun b => M b ∨ b = W.heap.size + 2 ∨ b = D) wr s1 w m
  big : W.heap.size + 2 < D
section
variable {M : Nat → Prop} {W wr w' : World} {w m m' D : Nat} {sg so ss s1 s2 : Value}
theorem ImT.stepNo (h : ImT M W wr w m D sg so ss s1) (hx : Ext No wr w') : ImT M W w' w m D sg so ss s1 :=
  ⟨h.ext.transNo hx, hx.blk h.boxA no_no, hx.blk h.boxB no_no, hx.blk h.boxC no_no, hx.blk h.boxD no_no, h.set.extNo hx, h.big⟩
theorem ImT.hM (hM : ∀ b, M b → b < W.heap.size) (h : ImT M W wr w m D sg so ss s1) : ∀ b, (M b ∨ b = W.heap.size + 2 ∨ b = D) → b < wr.heap.size := fun b hb => by
  have h1 := lt_of_block h.boxD
  have h2 := h.big
  rcases hb with hb | rfl | rfl
  · have := hM b hb; omega
  · omega
  · exact h1
theorem ImT.put (h : ImT M W wr w m D sg so ss s1) (hs : SetAt (fun b => M b ∨ b = W.heap.size + 2 ∨ b = D) wr s2 w m') : ImT M W ((wr.setCell ⟨D, 0, none⟩ (.int .i64 (w : Int))).setCell ⟨D, 1, none⟩ s2) w m' D sg so ss s2 := by
  have h1 := h.big
  have hE : Ext (At D) wr ((wr.setCell ⟨D, 0, none⟩ (.int .i64 (w : Int))).setCell ⟨D, 1, none⟩ s2) := ((Ext.refl (At D) _).setAt _ _).setAt _ _
  exact ⟨h.ext.trans2 hE (fun i hi e => by unfold At at e; omega), hE.blk h.boxA (by unfold At; omega), hE.blk h.boxB (by unfold At; omega), hE.blk h.boxC (by unfold At; omega), (set_same (j := 1) (set_same (j := 0) h.boxD)).trans rfl, hs.ext hE (fun i _ e => .inr (.inr e)), h1⟩
end

set_option maxRecDepth 100000 in
set_option maxHeartbeats 4000000 in
theorem rimage_any (M : Nat → Prop) (w z s : Nat) (rs : List Nat) (sg so ss : Value) (W : World) (hM : ∀ b, M b → b < W.heap.size) (hg : SetAt M W sg w z) (hr : SetsV No W so w rs) (hl : rs.length = w) (hs : SetAt No W ss w s) :
    Calls Tryd.prog 86 #[.agg #[.int .i64 (w : Int), sg, so], .agg #[.int .i64 (w : Int), ss]] W (SetPost M w (orN z (imgN rs w s)) W) := by
  have HR := Lib.hid hr
  have HS := Lib.hid hs
  have HM := Lib.hid hM
  have HG := Lib.hid hg
  have HLR := Lib.hid hl
  have HRM := Lib.hid hr.hm
  obtain ⟨ag, cg, rfl⟩ := hg.slice
  obtain ⟨ao, co, rfl⟩ := hr.slice
  obtain ⟨a1, c1, rfl⟩ := hs.slice
  have hw := hs.hw
  clear hr hs hM hg hl
  go_enter Tryd.func86, Tryd.ntmps86
  go_wp2_with fail
  have hm0 := Lib.hid (show ImT M W ((((W.alloc (.cells #[.int .i64 (w : Int), .slice ag (nw w) cg, .slice ao rs.length co] 75)).alloc (.cells #[.int .i64 (w : Int), .slice a1 (nw w) c1] 25)).alloc (.cells #[.int .i64 0, .slice none 0 0] 25)).alloc (.cells #[.int .i64 (w : Int), .slice ag (nw w) cg] 25)) w (imgTo z rs s 0) (W.heap.size + 3) (.slice ag (nw w) cg) (.slice ao rs.length co) (.slice a1 (nw w) c1) (.slice ag (nw w) cg) from
    ⟨((((Ext.refl _ _).alloc _).alloc _).alloc _).alloc _, alloc_under (alloc_under (alloc_under (alloc_top rfl))), alloc_under (alloc_under (alloc_top (by simp))), alloc_under (alloc_top (by simp)), alloc_top (by simp),
      (HG.out.mono (fun i hi e => by rcases e with e | e | e; exact e; omega; omega)).extNo (((((Ext.refl _ _).alloc _).alloc _).alloc _).alloc _), by omega⟩)
  generalize ((((W.alloc (.cells #[.int .i64 (w : Int), .slice ag (nw w) cg, .slice ao rs.length co] 75)).alloc (.cells #[.int .i64 (w : Int), .slice a1 (nw w) c1] 25)).alloc (.cells #[.int .i64 0, .slice none 0 0] 25)).alloc (.cells #[.int .i64 (w : Int), .slice ag (nw w) cg] 25)) = V at *
  go_loopw [6] (fun i wr => ∃ (k : Nat) (a' : Option Addr) (c' : Nat), k ≤ w ∧ i = .int .i64 k ∧ Hid (ImT M W wr w (imgTo z rs s k) (W.heap.size + 3) (.slice ag (nw w) cg) (.slice ao rs.length co) (.slice a1 (nw w) c1) (.slice a' (nw w) c'))) (fun i _ => w - (intOf i).toNat)
  case atStart => exact ⟨0, _, _, Nat.zero_le _, rfl, hm0⟩
  case round =>
    clear hm0
    obtain ⟨k, a', c', hk, rfl, hm⟩ := hrel
    rename World => wr
    have hpos : (0 : Int) ≤ (k : Int) := by omega
    have cB := cellOf hm.out.boxB
    by_cases hlt : k < w
    · have hlz : (k : Int) < (w : Int) := by omega
      have HKK : Hid (Value.int .i64 ((k : Int) + 1) = .int .i64 ((k + 1 : Nat) : Int)) := Lib.hid (by rw [show ((k + 1 : Nat) : Int) = (k : Int) + 1 from by omega])
      go_wp2_with fail
      clear cB
      obtain ⟨bb, hbb⟩ : ∃ bb, s.testBit k = bb := ⟨_, rfl⟩
      have HBB := Lib.hid hbb
      refine (rhas_b w s bb _ (k : Int) _ (by rw [hasZ_nat hlt]; exact hbb) (HS.out.extNo hm.out.ext)).mono ?_
      rintro e1 w1 ⟨rfl, hy1⟩
      have hm1 := Lib.hid (hm.out.stepNo hy1)
      clear hm hy1 hbb
      cases bb
      · have HST : Hid (imgTo z rs s (k + 1) = imgTo z rs s k) := Lib.hid (by rw [imgTo, HBB.out]; rfl)
        clear HBB
        go_wp2_with fail
        go_roundw
        case rel => exact ⟨k + 1, _, _, by omega, HKK.out, by rw [HST.out]; exact hm1⟩
        case measure => simp [intOf]; omega
      · have hkr : k < rs.length := by have := HLR.out; omega
        have HST : Hid (imgTo z rs s (k + 1) = orN (imgTo z rs s k) rs[k]) := Lib.hid (by rw [imgTo, HBB.out, if_pos rfl, rowAt_get hkr])
        clear HBB
        go_wp2_with fail
        obtain ⟨gg, go, gc, ae, ce, hsr, hgl, _, z0, z1, hE⟩ := (HR.out.extNo hm1.out.ext).at hkr
        simp only [Value.slice.injEq] at hsr
        obtain ⟨rfl, _, rfl⟩ := hsr
        have HE := Lib.hid hE.out
        have hDg : (W.heap.size + 3) ≠ gg := fun e => by
          have h2 := (HR.out).at hkr
          obtain ⟨g2, o2, _, _, _, e2, hl2, _⟩ := h2
          simp only [Value.slice.injEq, Option.some.injEq, Addr.mk.injEq] at e2
          obtain ⟨⟨rfl, _⟩, _⟩ := e2
          omega
        have hgD : gg ≠ (W.heap.size + 3) := fun e => hDg e.symm
        have l0 : w1.cell? ⟨W.heap.size, 2, none⟩ = some (.slice (some ⟨gg, go, none⟩) rs.length co) := cellOf hm1.out.boxA 2
        have hle : W.heap.size ≤ (W.heap.size + 3) := by omega
        have l3 : Ext No W w1 := hm1.out.ext
        have cD := cellOf hm1.out.boxD
        have hkz : (k : Int) < (rs.length : Int) := by omega
        clear hE hgl
        refine wp_region_held_drew (S := (fun w' => w'.cell? ⟨W.heap.size, 2, none⟩ = some (.slice (some ⟨gg, go, none⟩) rs.length co) ∧ w'.cell? ⟨gg, go + k * 2, none⟩ = some (.int .i64 (w : Int)) ∧ w'.cell? ⟨gg, go + k * 2 + 1, none⟩ = some (.slice ae (nw w) ce) ∧ Ext No W w')) (by kernel_rfl) ?_ (fun hHeld => ?_)
        · (go_split_ands; refine ⟨?_, ?_, ?_, ?_⟩ <;> (repeat (first | (with_reducible assumption) | (with_reducible exact Ext.refl _ _) | (with_reducible refine keepD ?_) | (with_reducible refine keepA ?_) | (with_reducible refine Ext.drew ?_) | (with_reducible refine Ext.alloc ?_ _) | (with_reducible refine BoxR.drew ?_) | (with_reducible refine BoxR.alloc ?_ _) | (with_reducible refine BoxR.set ?_ _ _) | ((with_reducible refine keepS ?_ ?_); (first | (with_reducible assumption) | omega | (simp; omega) | (exact Nat.le_refl _))) | (with_reducible refine Ext.setAt ?_ _ _) | ((with_reducible refine Ext.own ?_ ?_ _); rotate_left; (first | (with_reducible assumption) | omega | (simp; omega) | (exact Nat.le_refl _))) | (with_reducible refine keepN hyA ?_) | (with_reducible refine Ext.transNo ?_ hyA) | (with_reducible refine BoxR.ext ?_ hyA))))
        refine held_take (i := 1) (v := ?_) rfl (by kernel_rfl) (by kernel_rfl) (by kernel_rfl) (fun _ _ _ h => h) rfl (fun w hSw => ?_) hHeld ?_
        rotate_left
        · (try dsimp only at hSw); go_simp; (try with_reducible rfl)
        try simp only [Act.put, List.setIfInBounds_toArray, List.set_cons_zero, List.set_cons_succ]
        refine held_take (i := 2) (v := ?_) rfl (by kernel_rfl) (by kernel_rfl) (by kernel_rfl) (fun _ _ _ h => h) rfl (fun w hSw => ?_) hHeld ?_
        rotate_left
        · (try dsimp only at hSw); go_simp; (try with_reducible rfl)
        try simp only [Act.put, List.setIfInBounds_toArray, List.set_cons_zero, List.set_cons_succ]
        refine held_take (i := 3) (v := ?_) rfl (by kernel_rfl) (by kernel_rfl) (by kernel_rfl) (fun _ _ _ h => h) rfl (fun w hSw => ?_) hHeld ?_
        rotate_left
        · (try dsimp only at hSw); go_simp; (try with_reducible rfl)
        try simp only [Act.put, List.setIfInBounds_toArray, List.set_cons_zero, List.set_cons_succ]
        refine held_take (i := 4) (v := ?_) rfl (by kernel_rfl) (by kernel_rfl) (by kernel_rfl) (fun _ _ _ h => h) rfl (fun w hSw => ?_) hHeld ?_
        rotate_left
        · (try dsimp only at hSw); go_simp; (try with_reducible rfl)
        try simp only [Act.put, List.setIfInBounds_toArray, List.set_cons_zero, List.set_cons_succ]
        refine held_take (i := 5) (v := ?_) rfl (by kernel_rfl) (by kernel_rfl) (by kernel_rfl) (fun _ _ _ h => h) rfl (fun w hSw => ?_) hHeld ?_
        rotate_left
        · (try dsimp only at hSw); go_simp; (try with_reducible rfl)
        try simp only [Act.put, List.setIfInBounds_toArray, List.set_cons_zero, List.set_cons_succ]
        refine held_call (i := 0) rfl (by kernel_rfl) rfl (fun K hK => ?_)
        go_simp
        refine hK.out _ _ ?_ (fun hNew => ?_)
        · (go_split_ands; refine ⟨?_, ?_, ?_, ?_⟩ <;> (repeat (first | (with_reducible assumption) | (with_reducible exact Ext.refl _ _) | (with_reducible refine keepD ?_) | (with_reducible refine keepA ?_) | (with_reducible refine Ext.drew ?_) | (with_reducible refine Ext.alloc ?_ _) | (with_reducible refine BoxR.drew ?_) | (with_reducible refine BoxR.alloc ?_ _) | (with_reducible refine BoxR.set ?_ _ _) | ((with_reducible refine keepS ?_ ?_); (first | (with_reducible assumption) | omega | (simp; omega) | (exact Nat.le_refl _))) | (with_reducible refine Ext.setAt ?_ _ _) | ((with_reducible refine Ext.own ?_ ?_ _); rotate_left; (first | (with_reducible assumption) | omega | (simp; omega) | (exact Nat.le_refl _))) | (with_reducible refine keepN hyA ?_) | (with_reducible refine Ext.transNo ?_ hyA) | (with_reducible refine BoxR.ext ?_ hyA))))
        clear hK K hHeld
        have hHeld := hNew
        clear hNew
        try simp only [Act.put, List.setIfInBounds_toArray, List.set_cons_zero, List.set_cons_succ]
        refine held_call (i := 6) rfl (by kernel_rfl) rfl (fun K hK => ?_)
        (go_simp; go_at_call 85; (with_reducible refine (rjoin_any (fun b => M b ∨ b = W.heap.size + 2 ∨ b = (W.heap.size + 3)) w (imgTo z rs s k) rs[k] _ _ _ ?_ ?_ ?_).mono ?_); (first | exact hm1.out.hM HM.out | exact (hm1.out.stepNo (Ext.refl No w1).drew).hM HM.out); (first | exact hm1.out.set.no | exact hm1.out.set.no.extNo (Ext.refl No w1).drew); (first | exact HE.out | exact HE.out.extNo (Ext.refl No w1).drew); (rintro e3 w3 ⟨a3, c3, rfl, hs3, hyA⟩); (have hyB : Ext No w1 w3 := by first | exact hyA | exact (Ext.refl No w1).drew.transNo hyA); (have hm3 := Lib.hid (hm1.out.stepNo hyB)); (have hs4 := Lib.hid hs3.out); (have c3D := cellOf hm3.out.boxD); (have f3D := freeOf hm3.out.boxD); go_simp)
        refine hK.out _ _ ?_ (fun hNew => ?_)
        · (go_split_ands; refine ⟨?_, ?_, ?_, ?_⟩ <;> (repeat (first | (with_reducible assumption) | (with_reducible exact Ext.refl _ _) | (with_reducible refine keepD ?_) | (with_reducible refine keepA ?_) | (with_reducible refine Ext.drew ?_) | (with_reducible refine Ext.alloc ?_ _) | (with_reducible refine BoxR.drew ?_) | (with_reducible refine BoxR.alloc ?_ _) | (with_reducible refine BoxR.set ?_ _ _) | ((with_reducible refine keepS ?_ ?_); (first | (with_reducible assumption) | omega | (simp; omega) | (exact Nat.le_refl _))) | (with_reducible refine Ext.setAt ?_ _ _) | ((with_reducible refine Ext.own ?_ ?_ _); rotate_left; (first | (with_reducible assumption) | omega | (simp; omega) | (exact Nat.le_refl _))) | (with_reducible refine keepN hyA ?_) | (with_reducible refine Ext.transNo ?_ hyA) | (with_reducible refine BoxR.ext ?_ hyA))))
        clear hK K hHeld
        have hHeld := hNew
        clear hNew
        refine held_call (i := 7) rfl (by kernel_rfl) rfl (fun K hK => ?_)
        go_simp
        refine hK.out _ _ ?_ (fun hNew => ?_)
        · (go_split_ands; refine ⟨?_, ?_, ?_, ?_⟩ <;> (repeat (first | (with_reducible assumption) | (with_reducible exact Ext.refl _ _) | (with_reducible refine keepD ?_) | (with_reducible refine keepA ?_) | (with_reducible refine Ext.drew ?_) | (with_reducible refine Ext.alloc ?_ _) | (with_reducible refine BoxR.drew ?_) | (with_reducible refine BoxR.alloc ?_ _) | (with_reducible refine BoxR.set ?_ _ _) | ((with_reducible refine keepS ?_ ?_); (first | (with_reducible assumption) | omega | (simp; omega) | (exact Nat.le_refl _))) | (with_reducible refine Ext.setAt ?_ _ _) | ((with_reducible refine Ext.own ?_ ?_ _); rotate_left; (first | (with_reducible assumption) | omega | (simp; omega) | (exact Nat.le_refl _))) | (with_reducible refine keepN hyA ?_) | (with_reducible refine Ext.transNo ?_ hyA) | (with_reducible refine BoxR.ext ?_ hyA))))
        clear hK K hHeld
        have hHeld := hNew
        clear hNew
        try simp only [Act.put, List.setIfInBounds_toArray, List.set_cons_zero, List.set_cons_succ]
        refine wpAnyH_done (by kernel_rfl) ?_ _
        go_wp2_with fail
        have hput := hm3.out.put hs4.out
        go_roundw
        case rel => exact ⟨k + 1, a3, c3, by omega, HKK.out, Lib.hid (by rw [HST.out]; exact hput)⟩
        case measure => simp [intOf]; omega
    · obtain rfl : k = w := by omega
      have hge : ¬ (k : Int) < (k : Int) := by omega
      have cD := cellOf hm.out.boxD
      have cC := cellOf hm.out.boxC
      have fC := freeOf hm.out.boxC
      have hne : ¬ W.heap.size + 2 = (W.heap.size + 3) := by omega
      go_wp2_with fail
      have hE : Ext (At (W.heap.size + 2)) wr ((wr.setCell ⟨W.heap.size + 2, 0, none⟩ (.int .i64 (k : Int))).setCell ⟨W.heap.size + 2, 1, none⟩ (.slice a' (nw k) c')) := ((Ext.refl (At (W.heap.size + 2)) _).setAt _ _).setAt _ _
      have hbF := (set_same (j := 1) (u := .slice a' (nw k) c') (set_same (j := 0) (u := .int .i64 (k : Int)) hm.out.boxC)).trans rfl
      clear cB cD cC fC
      generalize ((wr.setCell ⟨W.heap.size + 2, 0, none⟩ (.int .i64 (k : Int))).setCell ⟨W.heap.size + 2, 1, none⟩ (.slice a' (nw k) c')) = WF at *
      have cF := cellOf hbF
      refine ret_ex rfl ?_
      simp [results, Tryd.results86, go_sem, cF]
      rw [imgTo_end] at hm
      exact ⟨_, _, rfl, Lib.hid ((hm.out.set.ext hE (fun i _ e => .inr (.inl e))).mono (fun i _ e => .inl e)), hm.out.ext.trans2 hE (fun i hi e => by unfold At at e; omega)⟩
theorem no_lt {n : Nat} : ∀ b, No b → b < n := fun _ e => e.elim
theorem rjoin_lo (w m k : Nat) (s1 s2 : Value) (W : World) (h1 : SetAt No W s1 w m) (h2 : SetAt No W s2 w k) :
    Calls Tryd.prog 85 #[.agg #[.int .i64 (w : Int), s1], .agg #[.int .i64 (w : Int), s2]] W (SetPost (Lo W.heap.size) w (orN m k) W) := rjoin_any (Lo W.heap.size) w m k s1 s2 W (fun _ x => x) h1 h2
theorem rsame_dec (w m k : Nat) (u v : Value) (W : World) (hs : SetAt No W u w m) (ht : SetAt No W v w k) : Calls Tryd.prog 32 #[.agg #[.int .i64 (w : Int), u], .agg #[.int .i64 (w : Int), v]] W (BoolPost (decide (m = k)) W) := by
  have h := rsame_any _ _ _ _ W hs.raw ht.raw
  rw [show sameB (setN w m) (setN w k) = decide (m = k) from by
    unfold sameB setN
    rw [decide_eq_decide]
    exact ⟨fun e => wordsN_inj hs.hm ht.hm e.2, fun e => by rw [e]; exact ⟨rfl, rfl⟩⟩] at h
  exact h
def stepZ (z : Nat) (rs : List Nat) (w s : Nat) : Nat := orN s (orN z (imgN rs w s))
theorem stepZ_lt {z : Nat} {rs : List Nat} {w s : Nat} (hz : z < 2 ^ w) (h : ∀ m ∈ rs, m < 2 ^ w) (hs : s < 2 ^ w) : stepZ z rs w s < 2 ^ w := orN_lt hs (orN_lt hz (imgL_lt h _))
theorem stepZ_ge (z : Nat) (rs : List Nat) (w s : Nat) : s ≤ stepZ z rs w s := Nat.left_le_or
theorem stepZ_bit (z : Nat) (rs : List Nat) (w s i : Nat) : (stepZ z rs w s).testBit i = (s.testBit i || (z.testBit i || (imgN rs w s).testBit i)) := by
  show (s ||| (z ||| imgN rs w s)).testBit i = _
  rw [Nat.testBit_or, Nat.testBit_or]
theorem Clos.between {rs : List Nat} {w s s' r : Nat} (h : Clos rs w s r) (h1 : s ||| s' = s') (h2 : s' ||| r = r) : Clos rs w s' r :=
  ⟨h.lt, h.fix, h2, fun r' h3 h4 => h.least r' h3 (sub_bits.2 fun i hi => sub_bits.1 h4 i (sub_bits.1 h1 i hi))⟩
def closZ (z : Nat) (rs : List Nat) (w s : Nat) : Nat := closN rs w (orN z s)
theorem closZ_step {z : Nat} {rs : List Nat} {w s : Nat} (hz : z < 2 ^ w) (h : ∀ m ∈ rs, m < 2 ^ w) (hs : s < 2 ^ w) : closZ z rs w (stepZ z rs w s) = closZ z rs w s := by
  have hc := clos_any h (orN_lt hz hs)
  have hx : orN z (stepZ z rs w s) < 2 ^ w := orN_lt hz (stepZ_lt hz h hs)
  refine Clos.uniq (clos_any h hx) (hc.between ?_ ?_)
  · rw [sub_bits]
    intro i hi
    replace hi : (z ||| s).testBit i = true := hi
    rw [Nat.testBit_or, Bool.or_eq_true] at hi
    show (z ||| stepZ z rs w s).testBit i = true
    rw [Nat.testBit_or, stepZ_bit]
    rcases hi with hi | hi
    · rw [hi]; rfl
    · rw [hi]; simp
  · have hge := sub_bits.1 hc.ge
    rw [sub_bits]
    intro i hi
    replace hi : (z ||| stepZ z rs w s).testBit i = true := hi
    rw [Nat.testBit_or, stepZ_bit, Bool.or_eq_true, Bool.or_eq_true, Bool.or_eq_true] at hi
    have hzs : ∀ j, (z.testBit j = true ∨ s.testBit j = true) → (orN z s).testBit j = true := fun j hj => by
      show (z ||| s).testBit j = true
      rw [Nat.testBit_or, Bool.or_eq_true]; exact hj
    rcases hi with hi | hi | hi | hi
    · exact hge i (hzs i (.inl hi))
    · exact hge i (hzs i (.inr hi))
    · exact hge i (hzs i (.inl hi))
    · obtain ⟨b, hb, h1, h2⟩ := (imgN_bit rs w s i).1 hi
      exact clos_img hc hb (hge b (hzs b (.inr h1))) h2
theorem closZ_fix {z : Nat} {rs : List Nat} {w s : Nat} (h : ∀ m ∈ rs, m < 2 ^ w) (hs : s < 2 ^ w) (e : stepZ z rs w s = s) : closZ z rs w s = s := by
  have hb : ∀ i, (z.testBit i = true ∨ (imgN rs w s).testBit i = true) → s.testBit i = true := fun i hi => by
    rw [← e, stepZ_bit]
    rcases hi with hi | hi <;> simp [hi]
  have e1 : orN z s = s := sub_bits.2 fun i hi => hb i (.inl hi)
  unfold closZ
  rw [e1]
  refine closN_fix h hs (Nat.eq_of_testBit_eq fun i => bool_ext ?_)
  rw [show stepN rs w s = s ||| imgN rs w s from rfl, Nat.testBit_or, Bool.or_eq_true]
  exact ⟨fun hi => by rcases hi with hi | hi; exact hi; exact hb i (.inr hi), .inl⟩
structure ClT (M : Nat → Prop) (W wr : World) (w m : Nat) (sg so s1 : Value) : Prop where
  ext : Ext No W wr
  boxA : wr.heap[W.heap.size]? = some (.cells #[.int .i64 (w : Int), sg, so] 75 (0, 0))
  boxB : wr.heap[W.heap.size + 1]? = some (.cells #[.int .i64 (w : Int), s1] 25 (0, 0))
  boxC : wr.heap[W.heap.size + 2]? = some (.cells #[.int .i64 0, .slice none 0 0] 25 (0, 0))
  set : SetAt (fun b => M b ∨ b = W.heap.size + 1 ∨ b = W.heap.size + 2) wr s1 w m
section
variable {M : Nat → Prop} {W wr w' : World} {w m m' : Nat} {sg so s1 s2 : Value}
theorem ClT.stepNo (h : ClT M W wr w m sg so s1) (hx : Ext No wr w') : ClT M W w' w m sg so s1 :=
  ⟨h.ext.transNo hx, hx.blk h.boxA no_no, hx.blk h.boxB no_no, hx.blk h.boxC no_no, h.set.extNo hx⟩
theorem ClT.put (h : ClT M W wr w m sg so s1) (hs : SetAt (fun b => M b ∨ b = W.heap.size + 1 ∨ b = W.heap.size + 2) wr s2 w m') : ClT M W ((wr.setCell ⟨W.heap.size + 1, 0, none⟩ (.int .i64 (w : Int))).setCell ⟨W.heap.size + 1, 1, none⟩ s2) w m' sg so s2 := by
  have hE : Ext (At (W.heap.size + 1)) wr ((wr.setCell ⟨W.heap.size + 1, 0, none⟩ (.int .i64 (w : Int))).setCell ⟨W.heap.size + 1, 1, none⟩ s2) := ((Ext.refl (At (W.heap.size + 1)) _).setAt _ _).setAt _ _
  exact ⟨h.ext.trans2 hE (fun i hi e => by unfold At at e; omega), hE.blk h.boxA (by unfold At; omega), (set_same (j := 1) (set_same (j := 0) h.boxB)).trans rfl, hE.blk h.boxC (by unfold At; omega), hs.ext hE (fun i _ e => .inr (.inl e))⟩
theorem ClT.cells (h : ClT M W wr w m sg so s1) (hx : Ext No wr w') : w'.cell? ⟨W.heap.size, 0, none⟩ = some (.int .i64 (w : Int)) ∧ w'.cell? ⟨W.heap.size, 1, none⟩ = some sg ∧ w'.cell? ⟨W.heap.size, 2, none⟩ = some so ∧ w'.cell? ⟨W.heap.size + 1, 0, none⟩ = some (.int .i64 (w : Int)) ∧ w'.cell? ⟨W.heap.size + 1, 1, none⟩ = some s1 ∧ Ext No wr w' := by
  have c := cellOf (hx.blk h.boxA no_no)
  have d := cellOf (hx.blk h.boxB no_no)
  exact ⟨c 0, c 1, c 2, d 0, d 1, hx⟩
end

set_option maxRecDepth 100000 in
set_option maxHeartbeats 4000000 in
theorem rclosure_any (M : Nat → Prop) (w z s : Nat) (rs : List Nat) (sg so ss : Value) (W : World) (hM : ∀ b, M b → b < W.heap.size) (hg : SetAt No W sg w z) (hr : SetsV No W so w rs) (hl : rs.length = w) (hs : SetAt M W ss w s) :
    Calls Tryd.prog 59 #[.agg #[.int .i64 (w : Int), sg, so], .agg #[.int .i64 (w : Int), ss]] W (SetPost M w (closZ z rs w s) W) := by
  have HR := Lib.hid hr
  have HM := Lib.hid hM
  have HG := Lib.hid hg
  have hzl := Lib.hid hg.hm
  have HLR := Lib.hid hl
  have HRL := Lib.hid hr.hm
  have HSL := Lib.hid hs.hm
  obtain ⟨ag, cg, rfl⟩ := hg.slice
  obtain ⟨ao, co, rfl⟩ := hr.slice
  obtain ⟨a1, c1, rfl⟩ := hs.slice
  have hm0 := Lib.hid (show ClT M W (((W.alloc (.cells #[.int .i64 (w : Int), .slice ag (nw w) cg, .slice ao rs.length co] 75)).alloc (.cells #[.int .i64 (w : Int), .slice a1 (nw w) c1] 25)).alloc (.cells #[.int .i64 0, .slice none 0 0] 25)) w s (.slice ag (nw w) cg) (.slice ao rs.length co) (.slice a1 (nw w) c1) from
    ⟨(((Ext.refl _ _).alloc _).alloc _).alloc _, alloc_under (alloc_under (alloc_top rfl)), alloc_under (alloc_top (by simp)), alloc_top (by simp), (hs.mono (fun i hi e => by
      rcases e with e | e | e
      · exact e
      · omega
      · omega)).extNo ((((Ext.refl _ _).alloc _).alloc _).alloc _)⟩)
  clear hr hs hM hg hl
  go_enter Tryd.func59, Tryd.ntmps59
  go_wp2_with fail
  generalize (((W.alloc (.cells #[.int .i64 (w : Int), .slice ag (nw w) cg, .slice ao rs.length co] 75)).alloc (.cells #[.int .i64 (w : Int), .slice a1 (nw w) c1] 25)).alloc (.cells #[.int .i64 0, .slice none 0 0] 25)) = W0 at *
  go_loopg [5] (2 ^ w - s) (fun n _ wr => ∃ (m : Nat) (av : Option Addr) (cv : Nat), Hid (2 ^ w - m ≤ n ∧ closZ z rs w m = closZ z rs w s) ∧ Hid (ClT M W wr w m (.slice ag (nw w) cg) (.slice ao rs.length co) (.slice av (nw w) cv)))
  case atStart => exact ⟨s, a1, c1, Lib.hid ⟨Nat.le_refl _, rfl⟩, hm0⟩
  case round =>
    clear hm0
    obtain ⟨m, av, cv, hk, hm⟩ := hrel
    rename World => Wr
    go_wp2_with fail
    have HM2 : Hid (∀ i, (M i ∨ i = W.heap.size + 1 ∨ i = W.heap.size + 2) → i < Wr.heap.size) := Lib.hid (fun i e => by
      have h1 := lt_of_block hm.out.boxC
      rcases e with e | rfl | rfl
      · exact Nat.lt_of_lt_of_le (HM.out i e) hm.out.ext.size
      · omega
      · exact h1)
    go_cut [5] (fun s5 wx => ∃ D a c, s5 = .pointer (some ⟨D, 0, none⟩) ∧ Hid (wx.heap[D]? = some (.cells #[.int .i64 (w : Int), .slice a (nw w) c] 25 (0, 0))) ∧ Hid (SetAt (fun b => M b ∨ b = W.heap.size + 1 ∨ b = W.heap.size + 2) wx (.slice a (nw w) c) w (stepZ z rs w m)) ∧ Hid (Ext No Wr wx))
    case first =>
      obtain ⟨l0, l1, l2, l3, l4, l5⟩ := hm.out.cells (Ext.refl No Wr)
      have HGr := Lib.hid (HG.out.extNo hm.out.ext)
      have HRr := Lib.hid (HR.out.extNo hm.out.ext)
      have HSr := Lib.hid hm.out.set.no
      go_region_held3 (fun w' => w'.cell? ⟨W.heap.size, 0, none⟩ = some (.int .i64 (w : Int)) ∧ w'.cell? ⟨W.heap.size, 1, none⟩ = some (.slice ag (nw w) cg) ∧ w'.cell? ⟨W.heap.size, 2, none⟩ = some (.slice ao rs.length co) ∧ w'.cell? ⟨W.heap.size + 1, 0, none⟩ = some (.int .i64 (w : Int)) ∧ w'.cell? ⟨W.heap.size + 1, 1, none⟩ = some (.slice av (nw w) cv) ∧ Ext No Wr w')
        ((go_split_ands; (with_reducible refine hm.out.cells ?_); (first | ((with_reducible refine ext2 hx7 ?_); (first | exact Nat.le_refl _ | exact hx6.size | exact hx5.size)) | ((repeat (first | (with_reducible exact Ext.refl _ _) | (with_reducible assumption) | (with_reducible refine Ext.drewN ?_ _) | (with_reducible refine Ext.drew ?_) | (with_reducible refine Ext.alloc ?_ _) | ((with_reducible refine Ext.own ?_ ?_ _); rotate_left; (first | exact Nat.le_refl _ | exact Nat.le_succ _ | omega | (simp; done) | (simp; omega)))))))))
        (first
          | ((go_at_call 86); (try go_split_ands); (with_reducible refine (rimage_any No w z m rs _ _ _ _ no_lt (HGr.out.extNo ?_) (HRr.out.extNo ?_) HLR.out (HSr.out.extNo ?_)).mono ?_); (with_reducible assumption); (with_reducible assumption); (with_reducible assumption); (rintro e5 w5 ⟨a5, c5, rfl, hs5, hyA⟩); (have hx5 := Ext.transNo (show Ext No Wr _ from by with_reducible assumption) hyA))
          | ((go_at_call 85); (try go_split_ands); (with_reducible refine (rjoin_lo w m (orN z (imgN rs w m)) _ _ _ (HSr.out.extNo ?_) (hs5.out.no.extNo ?_)).mono ?_); (with_reducible assumption); ((repeat (first | (with_reducible exact Ext.refl _ _) | (with_reducible assumption) | (with_reducible refine Ext.drewN ?_ _) | (with_reducible refine Ext.drew ?_) | (with_reducible refine Ext.alloc ?_ _)))); (have hx6 := (show Ext No Wr _ from by with_reducible assumption)); (rintro e7 w7 ⟨a7, c7, rfl, hs7, hyC⟩); (have hx7 := Ext.transNo (show Ext No Wr _ from by with_reducible assumption) hyC); (first | (with_reducible have hi := two_facts2 hyC (alloc_top (o := (.cells #[.int .i64 0, .slice none 0 0] 25)) rfl)) | (with_reducible have hi := two_facts2 hyC (hyA.blk (alloc_top (o := (.cells #[.int .i64 0, .slice none 0 0] 25)) rfl) no_no)) | skip); (try ((obtain ⟨hi, hlt⟩ := hi); (have HI := Lib.hid hi); (have HL := Lib.hid hlt); (have cI := cellOf hi); (have fI := freeOf hi); (clear hi hlt)))))
      all_goals
        go_wp2_with fail
        go_meet
        first
        | exact ⟨_, a7, c7, rfl, Lib.hid (alloc_top rfl), Lib.hid ((hs7.out.lo hx6.size HM2.out).extNo ((Ext.refl _ _).alloc _)), Lib.hid (hx7.alloc _)⟩
        | exact ⟨_, a7, c7, rfl, Lib.hid ((set_same (j := 1) (set_same (j := 0) HI.out)).trans rfl), Lib.hid ((hs7.out.early2 HL.out).lo hx6.size HM2.out), Lib.hid (ext2 hx7 (by first | exact Nat.le_refl _ | exact hx5.size))⟩
    case rest =>
      obtain ⟨D, a, c, rfl, hD, hset, hx⟩ := hcut
      rename World => V
      have hm2 := Lib.hid (hm.out.stepNo hx.out)
      clear hx hm HM2
      have cD := cellOf hD.out
      have cB := cellOf hm2.out.boxB
      go_wp2_with fail
      refine (rsame_dec w (stepZ z rs w m) m _ _ _ hset.out.no hm2.out.set.no).mono ?_
      rintro e6 w6 ⟨rfl, hx6⟩
      have hm3 := Lib.hid (hm2.out.stepNo hx6)
      have hset3 := Lib.hid (hset.out.extNo hx6)
      have hD3 := Lib.hid (hx6.blk hD.out no_no)
      clear cD cB hx6 hm2 hset hD
      by_cases he : stepZ z rs w m = m
      · have HE := Lib.hid he
        rw [decide_eq_true he]
        clear he
        have cB := cellOf hm3.out.boxB
        have cC := cellOf hm3.out.boxC
        have fC := freeOf hm3.out.boxC
        go_wp2_with fail
        have hE : Ext (At (W.heap.size + 2)) w6 ((w6.setCell ⟨W.heap.size + 2, 0, none⟩ (.int .i64 (w : Int))).setCell ⟨W.heap.size + 2, 1, none⟩ (.slice av (nw w) cv)) := ((Ext.refl (At (W.heap.size + 2)) _).setAt _ _).setAt _ _
        have hbF := (set_same (j := 1) (u := .slice av (nw w) cv) (set_same (j := 0) (u := .int .i64 (w : Int)) hm3.out.boxC)).trans rfl
        clear cB cC fC
        generalize ((w6.setCell ⟨W.heap.size + 2, 0, none⟩ (.int .i64 (w : Int))).setCell ⟨W.heap.size + 2, 1, none⟩ (.slice av (nw w) cv)) = WF at *
        have cF := cellOf hbF
        refine ret_ex rfl ?_
        simp [results, Tryd.results59, go_sem, cF]
        have hfix := closZ_fix HRL.out hm3.out.set.hm HE.out
        refine ⟨_, _, rfl, Lib.hid ?_, hm3.out.ext.trans2 hE (fun i hi e => by unfold At at e; omega)⟩
        rw [← hk.out.2, hfix]
        exact (hm3.out.set.ext hE (fun i _ e => .inr (.inr e))).mono (fun i _ e => .inl e)
      · have HE := Lib.hid he
        rw [decide_eq_false he]
        clear he
        have cD := cellOf hD3.out
        have cB := cellOf hm3.out.boxB
        have fB := freeOf hm3.out.boxB
        have hput := Lib.hid (hm3.out.put hset3.out)
        have hge := stepZ_ge z rs w m
        have hml := hm3.out.set.hm
        have hstep := Lib.hid (closZ_step hzl.out HRL.out hml)
        have hlt : m < stepZ z rs w m := Nat.lt_of_le_of_ne hge (fun e => HE.out e.symm)
        have hlt2 := hset3.out.hm
        have HLT := Lib.hid (And.intro hlt (And.intro hlt2 hml))
        clear hge hlt hlt2 hml
        go_wp2_with fail
        go_roundg (2 ^ w - stepZ z rs w m)
        case measure => have := HLT.out; have := hk.out.1; omega
        case rel => exact ⟨stepZ z rs w m, a, c, Lib.hid ⟨Nat.le_refl _, by rw [hstep.out, hk.out.2]⟩, hput⟩

end Go.Proofs.YtgakojgkkdmabaaDoor

/- Members and Subset of the reference. -/
import Derived.Test.YtgakojgkkdmabaaDoorSetB
import Derived.Test.YtgakojgkkdmabaaDoorRefE
import Derived.Test.YtgakojgkkdmabaaDoorTrF
set_option linter.unusedVariables false
set_option linter.unusedSimpArgs false
namespace Go.Proofs.YtgakojgkkdmabaaDoor
open Go Go.RowKit
theorem infoI6m : (Tryd.prog.info? 3).map (fun i => (i.zero, i.size, i.bytes)) = some (some (.int .i64 0), 1, 8) := by kernel_rfl
theorem own_ext {W wr w' : World} {o : Obj} {v : Value} {base : Nat} (hx : Ext No W wr) (hg : (wr.alloc o).grownBy w' v.ownBlock) (hl : ∀ b, v.ownBlock = some b → base ≤ b) (hb : W.heap.size ≤ base) : Ext No W w' :=
 (hx.trans2 (((Ext.refl (fun k => v.ownBlock = some k) wr).alloc o).grown hg (fun k hk _ => hk)) (fun i hi e => by have := hl i e; omega))
def rmT (m k : Nat) : List Int := ((List.range k).filter (fun b => m.testBit b)).map fun (b : Nat) => (b : Int)
theorem rmT_len (m : Nat) : ∀ k, (rmT m k).length ≤ k := fun k => by
 unfold rmT
 rw [List.length_map]
 exact Nat.le_trans (List.length_filter_le _ _) (by simp)
theorem rmT_snoc (m k : Nat) : rmT m (k + 1) = rmT m k ++ (if m.testBit k = true then [(k : Int)] else []) := by
 unfold rmT
 rw [List.range_succ, List.filter_append, List.map_append]
 by_cases h : m.testBit k = true
 ·simp [h]
 ·simp [h]
theorem rmT_zero {m w : Nat} (hm : m < 2 ^ w) : (rmT m w).length = 0 ↔ m = 0 := by
 unfold rmT
 rw [List.length_map]
 constructor
 ·intro h
  refine Nat.eq_of_testBit_eq (fun i => ?_)
  rw [Nat.zero_testBit]
  cases e : m.testBit i with
  | false => rfl
  | true =>
   have hi : i < w := by
    rcases Nat.lt_or_ge i w with h1 | h1
    ·exact h1
    ·rw [Nat.testBit_lt_two_pow (Nat.lt_of_lt_of_le hm (Nat.pow_le_pow_right (by decide) h1))] at e; cases e
   have h2 : i ∈ (List.range w).filter (fun b => m.testBit b) := List.mem_filter.2 ⟨List.mem_range.2 hi, e⟩
   rw [List.eq_nil_of_length_eq_zero h] at h2
   cases h2
 ·rintro rfl
  simp
def RMemPost (m w : Nat) (W : World) (e : Ending) (w' : World) : Prop := ∃ a c, e = .returned (.slice a (rmT m w).length c) ∧ Ext No W w'
set_option maxRecDepth 100000 in
set_option maxHeartbeats 4000000 in
theorem rmembers_any (w m : Nat) (sl : Value) (W : World) (h : SetAt No W sl w m) :
  Calls Tryd.prog 102 #[.agg #[.int .i64 (w : Int), sl]] W (RMemPost m w W) := by
 obtain ⟨i0, hi0, hz0, hz1, hz2⟩ := info_parts infoI6m
 have H := Lib.hid h
 have hww := h.hw
 have HMM := Lib.hid h.hm
 have hval := validB_set h.hw h.hm
 obtain ⟨a1, c1, rfl⟩ := h.slice
 clear h
 go_enter Tryd.func102, Tryd.ntmps102
 go_upto_region 1 with (fail)
 have HX := Lib.hid (show Ext No W (W.alloc (.cells #[.int .i64 (w : Int), .slice a1 (nw w) c1] 25)) from (Ext.refl _ _).alloc _)
 have HA := Lib.hid (alloc_top (w := W) (o := (.cells #[.int .i64 (w : Int), .slice a1 (nw w) c1] 25)) rfl)
 generalize (W.alloc (.cells #[.int .i64 (w : Int), .slice a1 (nw w) c1] 25)) = V at *
 have hVs := lt_of_block HA.out
 go_wp2_with fail
 go_loopw [3, 4] (fun s3 i wr => ∃ k : Nat, i = .int .i64 k ∧ k ≤ w ∧ Hid (wr.ownsRow V.heap.size 3 1 s3 (rmT m k).length ((rmT m k).map (.int .i64))) ∧ Hid (Ext No V wr)) (fun _ i _ => w - (intOf i).toNat)
 case atStart => exact ⟨0, rfl, Nat.zero_le _, Lib.hid (by simpa [rmT] using World.ownsRow_nil _ _ _ _), Lib.hid (Ext.refl _ _)⟩
 case round =>
  obtain ⟨k, rfl, hk, hown, hx⟩ := hrel
  rename World => wr
  obtain ⟨s1, t1, hs3⟩ := (Row.ofOwns (M := No) hown.out (fun _ _ x => x)).slice
  subst hs3
  have cA := cellOf (hx.out.blk HA.out no_no)
  have hlen := rmT_len m k
  by_cases hlt : k < w
  ·have hlz : (k : Int) < (w : Int) := by omega
   go_wp2_with ((go_at_call 40); (refine (rvalid_any _ (setN w m) _ ⟨_, rfl, (H.out.extNo (HX.out.transNo hx.out)).words⟩).mono ?_); (rintro e7 w7 ⟨rfl, hx7⟩); (rw [hval]); (have hE7 := Lib.hid (hx.out.transNo hx7)); (have HO7 := Lib.hid (row_keep hown.out hx7 (fun _ _ x => x))); (clear cA); (have cA := cellOf (hE7.out.blk HA.out no_no)); (clear hx7))
   refine (rhas_any w m _ _ _ (H.out.extNo (HX.out.transNo hE7.out))).mono ?_
   rintro e8 w8 ⟨rfl, hx8⟩
   rw [hasZ_nat hlt]
   have HE8 := Lib.hid (hE7.out.transNo hx8)
   have HO8 := Lib.hid (row_keep HO7.out hx8 (fun _ _ x => x))
   have hsn := rmT_snoc m k
   have hsz8 := HE8.out.size
   clear cA hx8 HO7 hE7
   cases hb : m.testBit k with
   | true =>
    have HSN := Lib.hid (show (rmT m (k + 1)) = rmT m k ++ [(k : Int)] from by rw [hsn, hb]; rfl)
    clear hb hsn
    go_wp2_with (at_builtin; (refine wpList_app _ rfl (.tmp 18) (.tmp 20) 22 rfl V.heap.size 3 i0 _ 1 8 Tryd.underlying22 hi0 hz0 hz1 hz2 rfl (by omega) (.slice s1 (rmT m k).length t1) (rmT m k).length ((rmT m k).map (.int .i64)) rfl (row_keep HO8.out ((Ext.refl No _).alloc _) (fun _ _ x => x)) No (some ⟨w8.heap.size, 0, none⟩) 1 1 [.int .i64 (k : Int)] rfl (Row.block (alloc_top rfl) rfl no_no (by omega)) (by simp [Value.oneCell']) (by omega) (by omega) (by simp; omega) ?_); (intro v1 w9 hown1 hg1 hv1); (have hm9 := Lib.hid (own_ext HE8.out hg1 (fun b hb => (World.ownsRow.lt HO8.out b hb).1) (Nat.le_refl _))); (have ho9 := Lib.hid hown1); (clear hown1 hg1 hv1))
    go_roundw
    case rel => exact ⟨k + 1, by go_num, by omega, Lib.hid (by rw [HSN.out, List.length_append, List.map_append]; exact ho9.out), hm9⟩
    case measure => simp [intOf]; omega
   | false =>
    have HSN := Lib.hid (show (rmT m (k + 1)) = rmT m k from by rw [hsn, hb]; simp)
    clear hb hsn
    go_wp2_with fail
    go_roundw
    case rel => exact ⟨k + 1, by go_num, by omega, Lib.hid (by rw [HSN.out]; exact HO8.out), HE8⟩
    case measure => simp [intOf]; omega
  ·have hge : ¬ (k : Int) < (w : Int) := by omega
   have hkw : k = w := by omega
   have HKW := Lib.hid hkw
   clear hkw
   go_wp2_with ((go_at_call 40); (refine (rvalid_any _ (setN w m) _ ⟨_, rfl, (H.out.extNo (HX.out.transNo hx.out)).words⟩).mono ?_); (rintro e7 w7 ⟨rfl, hx7⟩); (rw [hval]); (have hE7 := Lib.hid (hx.out.transNo hx7)); (clear cA); (have cA := cellOf (hE7.out.blk HA.out no_no)); (clear hx7))
   go_ret
   exact ⟨s1, t1, by rw [← HKW.out]; rfl, HX.out.transNo hE7.out⟩
set_option maxRecDepth 100000 in
set_option maxHeartbeats 4000000 in
theorem rsubset_any (w m k : Nat) (s1 s2 : Value) (W : World) (h1 : SetAt No W s1 w m) (h2 : SetAt No W s2 w k) :
  Calls Tryd.prog 91 #[.agg #[.int .i64 (w : Int), s1], .agg #[.int .i64 (w : Int), s2]] W (BoolPost (subN m k) W) := by
 have H1 := Lib.hid h1
 have H2 := Lib.hid h2
 obtain ⟨a1, c1, rfl⟩ := h1.slice
 obtain ⟨a2, c2, rfl⟩ := h2.slice
 clear h1 h2
 go_enter Tryd.func91, Tryd.ntmps91
 go_upto_region 1 with (fail)
 have hx0 : Ext No W ((W.alloc (.cells #[.int .i64 (w : Int), .slice a1 (nw w) c1] 25)).alloc (.cells #[.int .i64 (w : Int), .slice a2 (nw w) c2] 25)) := ((Ext.refl _ _).alloc _).alloc _
 have HA := Lib.hid (show ((W.alloc (.cells #[.int .i64 (w : Int), .slice a1 (nw w) c1] 25)).alloc (.cells #[.int .i64 (w : Int), .slice a2 (nw w) c2] 25)).heap[W.heap.size]? = some (.cells #[.int .i64 (w : Int), .slice a1 (nw w) c1] 25 (0, 0)) from alloc_under (alloc_top rfl))
 have HB := Lib.hid (show ((W.alloc (.cells #[.int .i64 (w : Int), .slice a1 (nw w) c1] 25)).alloc (.cells #[.int .i64 (w : Int), .slice a2 (nw w) c2] 25)).heap[W.heap.size + 1]? = some (.cells #[.int .i64 (w : Int), .slice a2 (nw w) c2] 25 (0, 0)) from alloc_top (by simp))
 generalize ((W.alloc (.cells #[.int .i64 (w : Int), .slice a1 (nw w) c1] 25)).alloc (.cells #[.int .i64 (w : Int), .slice a2 (nw w) c2] 25)) = V at *
 have HX := Lib.hid hx0
 clear hx0
 have cA := cellOf HA.out
 have cB := cellOf HB.out
 go_wp2_with fail
 refine (rdiff_any No w m k _ _ _ (fun _ e => e.elim) (H1.out.extNo HX.out) (H2.out.extNo HX.out)).mono ?_
 rintro e3 w3 ⟨a3, c3, rfl, hs3, hx3⟩
 have hxd : Ext No w3 (w3.alloc (.cells #[.int .i64 (w : Int), .slice a3 (nw w) c3] 25)) := (Ext.refl _ _).alloc _
 have hD := alloc_top (w := w3) (o := .cells #[.int .i64 (w : Int), .slice a3 (nw w) c3] 25) rfl
 have HS3 := Lib.hid (hs3.out.extNo hxd)
 have HX3 := Lib.hid ((HX.out.transNo hx3).transNo hxd)
 have cD := cellOf hD
 clear cA cB hs3 hx3 hxd
 go_upto_region 2 with (fail)
 generalize (w3.alloc (.cells #[.int .i64 (w : Int), .slice a3 (nw w) c3] 25)) = V3 at *
 generalize w3.heap.size = D at *
 go_wp2_with fail
 refine (rmembers_any w (diffN m k) _ _ HS3.out).mono ?_
 rintro e4 w4 ⟨a4, c4, rfl, hx4⟩
 have hz := rmT_zero HS3.out.hm
 have HZ := Lib.hid hz
 by_cases he : diffN m k = 0
 ·have hl : (rmT (diffN m k) w).length = 0 := hz.2 he
  have hl' : (((rmT (diffN m k) w).length : Nat) : Int) = 0 := by omega
  have HS := Lib.hid (show subN m k = true from decide_eq_true he)
  clear hz he
  rw [hl] at *
  go_wp2_with fail
  go_ret
  exact ⟨by rw [HS.out]; rfl, HX3.out.transNo hx4⟩
 ·have hl : (((rmT (diffN m k) w).length : Nat) : Int) ≠ 0 := fun e => he (hz.1 (by omega))
  have hl' : ((((rmT (diffN m k) w).length : Nat) : Int) == 0) = false := (beq_eq_false_iff_ne (α := Int)).2 hl
  have HS := Lib.hid (show subN m k = false from decide_eq_false he)
  clear hz he
  go_wp2_with fail
  go_ret
  exact ⟨by rw [HS.out]; rfl, HX3.out.transNo hx4⟩
end Go.Proofs.YtgakojgkkdmabaaDoor

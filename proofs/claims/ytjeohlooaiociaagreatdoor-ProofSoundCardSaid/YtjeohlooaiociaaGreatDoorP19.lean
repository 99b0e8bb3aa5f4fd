/- Members of the reference: the list itself, for raw sets too. -/
import Derived.Test.YtjeohlooaiociaaGreatDoorP14
set_option linter.unusedVariables false
set_option linter.unusedSimpArgs false
namespace Go.Proofs.YtjeohlooaiociaaGreatDoor
open Go Go.RowKit
def RMemL (M : Nat → Prop) (m w : Nat) (W : World) (e : Ending) (w' : World) : Prop := ∃ a c, e = .returned (.slice a (rmT m w).length c) ∧ Hid (Ints M w' .i64 (.slice a (rmT m w).length c) (rmT m w)) ∧ Ext No W w'
set_option maxRecDepth 100000 in
set_option maxHeartbeats 4000000 in
theorem rmemL_any (M : Nat → Prop) (w m : Nat) (sl : Value) (W : World) (hM : ∀ b, M b → b < W.heap.size) (h : SetAt No W sl w m) :
  Calls Tryz.prog 22 #[.agg #[.int .i64 (w : Int), sl]] W (RMemL M m w W) := by
 obtain ⟨i0, hi0, hz0, hz1, hz2⟩ := info_parts infoI6m
 have H := Lib.hid h
 have hww := h.hw
 have HM := Lib.hid hM
 have HMM := Lib.hid h.hm
 have hval := validB_set h.hw h.hm
 obtain ⟨a1, c1, rfl⟩ := h.slice
 clear h hM
 go_enter Tryz.func22, Tryz.ntmps22
 go_upto_region 1 with (fail)
 have HX := Lib.hid (show Ext No W (W.alloc (.cells #[.int .i64 (w : Int), .slice a1 (nw w) c1] 50)) from (Ext.refl _ _).alloc _)
 have HA := Lib.hid (alloc_top (w := W) (o := (.cells #[.int .i64 (w : Int), .slice a1 (nw w) c1] 50)) rfl)
 generalize (W.alloc (.cells #[.int .i64 (w : Int), .slice a1 (nw w) c1] 50)) = V at *
 have hVs := lt_of_block HA.out
 go_wp2_with fail
 go_loopw [3, 4] (fun s3 i wr => ∃ k : Nat, i = .int .i64 k ∧ k ≤ w ∧ Hid (wr.ownsRow V.heap.size 3 1 s3 (rmT m k).length ((rmT m k).map (.int .i64))) ∧ Hid (Ext No V wr)) (fun _ i _ => w - (intOf i).toNat)
 case atStart => exact ⟨0, rfl, Nat.zero_le _, Lib.hid (by simpa [rmT] using World.ownsRow_nil _ _ _ _), Lib.hid (Ext.refl _ _)⟩
 case round =>
  obtain ⟨k, rfl, hk, hown, hx⟩ := hrel
  rename World => wr
  obtain ⟨s1, t1, hs3⟩ := (Row.ofOwns (M := No) hown.out (fun _ _ x => x)).slice
  subst hs3
  have cA := cellOf (hx.out.blk HA.out no_no)
  have hlen := rmT_len m k
  by_cases hlt : k < w
  ·have hlz : (k : Int) < (w : Int) := by omega
   go_wp2_with ((go_at_call 61); (refine (rvalid_any _ (setN w m) _ ⟨_, rfl, (H.out.extNo (HX.out.transNo hx.out)).words⟩).mono ?_); (rintro e7 w7 ⟨rfl, hx7⟩); (rw [hval]); (have hE7 := Lib.hid (hx.out.transNo hx7)); (have HO7 := Lib.hid (row_keep hown.out hx7 (fun _ _ x => x))); (clear cA); (have cA := cellOf (hE7.out.blk HA.out no_no)); (clear hx7))
   refine (rhas_any w m _ _ _ (H.out.extNo (HX.out.transNo hE7.out))).mono ?_
   rintro e8 w8 ⟨rfl, hx8⟩
   rw [hasZ_nat hlt]
   have HE8 := Lib.hid (hE7.out.transNo hx8)
   have HO8 := Lib.hid (row_keep HO7.out hx8 (fun _ _ x => x))
   have hsn := rmT_snoc m k
   have hsz8 := HE8.out.size
   clear cA hx8 HO7 hE7
   cases hb : m.testBit k with
   | true =>
    have HSN := Lib.hid (show (rmT m (k + 1)) = rmT m k ++ [(k : Int)] from by rw [hsn, hb]; rfl)
    clear hb hsn
    go_wp2_with (at_builtin; (refine wpList_app _ rfl (.tmp 18) (.tmp 20) 22 rfl V.heap.size 3 i0 _ 1 8 Tryz.underlying22 hi0 hz0 hz1 hz2 rfl (by omega) (.slice s1 (rmT m k).length t1) (rmT m k).length ((rmT m k).map (.int .i64)) rfl (row_keep HO8.out ((Ext.refl No _).alloc _) (fun _ _ x => x)) No (some ⟨w8.heap.size, 0, none⟩) 1 1 [.int .i64 (k : Int)] rfl (Row.block (alloc_top rfl) rfl no_no (by omega)) (by simp [Value.oneCell']) (by omega) (by omega) (by simp; omega) ?_); (intro v1 w9 hown1 hg1 hv1); (have hm9 := Lib.hid (own_ext HE8.out hg1 (fun b hb => (World.ownsRow.lt HO8.out b hb).1) (Nat.le_refl _))); (have ho9 := Lib.hid hown1); (clear hown1 hg1 hv1))
    go_roundw
    case rel => exact ⟨k + 1, by go_num, by omega, Lib.hid (by rw [HSN.out, List.length_append, List.map_append]; exact ho9.out), hm9⟩
    case measure => simp [intOf]; omega
   | false =>
    have HSN := Lib.hid (show (rmT m (k + 1)) = rmT m k from by rw [hsn, hb]; simp)
    clear hb hsn
    go_wp2_with fail
    go_roundw
    case rel => exact ⟨k + 1, by go_num, by omega, Lib.hid (by rw [HSN.out]; exact HO8.out), HE8⟩
    case measure => simp [intOf]; omega
  ·have hge : ¬ (k : Int) < (w : Int) := by omega
   have hkw : k = w := by omega
   have HKW := Lib.hid hkw
   clear hkw
   go_wp2_with ((go_at_call 61); (refine (rvalid_any _ (setN w m) _ ⟨_, rfl, (H.out.extNo (HX.out.transNo hx.out)).words⟩).mono ?_); (rintro e7 w7 ⟨rfl, hx7⟩); (rw [hval]); (have hE7 := Lib.hid (hx.out.transNo hx7)); (clear cA); (have cA := cellOf (hE7.out.blk HA.out no_no)); (have hx7' := hx7); (clear hx7))
   go_ret
   exact ⟨s1, t1, by rw [← HKW.out]; rfl, by rw [← HKW.out]; exact Lib.hid (Row.extNo (Row.ofOwns (M := M) hown.out (fun b hb e => by have h1 := HM.out b e; have h2 := HX.out.size; omega)) hx7'), HX.out.transNo hE7.out⟩
/-- the members of any set: none if it is not valid -/
def memR (s : RawSet) : List Int := if validB s = true then membersN s.width.toNat (joinN s.words) else []
theorem memR_set {w m : Nat} (hw : w ≤ 256) (hm : m < 2 ^ w) : memR (setN w m) = membersN w m := by
 unfold memR
 rw [if_pos (validB_set hw hm)]
 show membersN ((w : Int)).toNat (joinN (wordsN w m)) = _
 rw [Int.toNat_natCast, joinN_words _ _ hm]
theorem memR_len (s : RawSet) : (memR s).length ≤ 256 := by
 unfold memR
 split
 ·next h =>
  have : s.width.toNat ≤ 256 := by
   simp only [validB, cleanB, Bool.and_eq_true, decide_eq_true_eq] at h
   omega
  exact Nat.le_trans (rmT_len _ _) this
 ·simp
def RMemR (M : Nat → Prop) (l : List Int) (W : World) (e : Ending) (w' : World) : Prop := ∃ a c, e = .returned (.slice a l.length c) ∧ Hid (Ints M w' .i64 (.slice a l.length c) l) ∧ Ext No W w'
set_option maxRecDepth 100000 in
set_option maxHeartbeats 4000000 in
theorem rmemR_any (M : Nat → Prop) (s : RawSet) (sl : Value) (W : World) (hM : ∀ b, M b → b < W.heap.size) (h : WordsAt No W sl s.words) :
  Calls Tryz.prog 22 #[.agg #[.int .i64 s.width, sl]] W (RMemR M (memR s) W) := by
 by_cases hv : validB s = true
 ·obtain ⟨w, m, hw, hm, rfl⟩ := (validB_iff h.lt).1 hv
  rw [memR_set hw hm]
  exact rmemL_any M w m sl W hM ⟨h, hw, hm⟩
 ·have hv0 : validB s = false := by simpa using hv
  have e0 : memR s = [] := by unfold memR; rw [if_neg hv]
  rw [e0]
  have H := Lib.hid h
  have HV := Lib.hid hv0
  obtain ⟨a, c, rfl⟩ := h.slice
  clear h hv hv0 e0
  go_enter Tryz.func22, Tryz.ntmps22
  go_upto_region 1 with (fail)
  have HX := Lib.hid (show Ext No W (W.alloc (.cells #[.int .i64 s.width, .slice a s.words.length c] 50)) from (Ext.refl _ _).alloc _)
  have HA := Lib.hid (alloc_top (w := W) (o := (.cells #[.int .i64 s.width, .slice a s.words.length c] 50)) rfl)
  generalize (W.alloc (.cells #[.int .i64 s.width, .slice a s.words.length c] 50)) = V at *
  go_wp2_with fail
  go_loopw [3, 4] (fun s3 i wr => s3 = .slice none 0 0 ∧ i = .int .i64 ((0 : Nat) : Int) ∧ wr = V) (fun _ _ _ => 0)
  case atStart => exact ⟨rfl, rfl, rfl⟩
  case round =>
   obtain ⟨rfl, rfl, rfl⟩ := hrel
   have cA := cellOf HA.out
   have hv0 := HV.out
   clear HV
   go_wp2_with ((go_at_call 61); (refine (rvalid_any _ s _ ⟨_, rfl, H.out.extNo HX.out⟩).mono ?_); (rintro e7 w7 ⟨rfl, hx7⟩); (rw [hv0]))
   go_ret
   exact ⟨none, 0, rfl, Lib.hid (Row.nil _ _ _ _ _ (by omega)), HX.out.transNo hx7⟩
end Go.Proofs.YtjeohlooaiociaaGreatDoor

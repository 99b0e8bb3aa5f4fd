
import Derived.Test.YtmddchceacmopaaDoorTrE
set_option linter.unusedVariables false
set_option linter.unusedSimpArgs false
namespace Go.Proofs.YtmddchceacmopaaDoor
open Go Go.RowKit
set_option maxRecDepth 100000 in
set_option maxHeartbeats 4000000 in
theorem close_any (M : Nat → Prop) (w gen : Nat) (rs : List Nat) (sg so : Value) (W : World) (hM : ∀ b, M b → b < W.heap.size) (hT : TabW W) (hg : SetAt M W sg w gen) (hr : SetsV No W so w rs) (hl : rs.length = w) :
  Calls Tryd.prog 72 #[.agg #[.int .i64 (w : Int), sg, so]] W (ClosePost M w gen rs W) := by
 have HR := Lib.hid (hr.mono (M' := fun b => W.heap.size ≤ b) (fun i hi e => absurd e (by omega)))
 have HG := Lib.hid hg
 have HM := Lib.hid hM
 have HT := Lib.hid hT
 have HLR := Lib.hid hl
 obtain ⟨i0, hi0, hz0, hz1, hz2⟩ := info_parts infoC
 obtain ⟨ag, cg, rfl⟩ := hg.slice
 obtain ⟨ao, co, rfl⟩ := hr.slice
 have hw := hg.hw
 have HGL := Lib.hid hg.hm
 clear hr hg hM hT hl
 go_enter Tryd.func72, Tryd.ntmps72
 go_wp2_with fail
 have hx0 : Ext No W ((W.alloc (.cells #[.int .i64 (w : Int), .slice ag (nw w) cg, .slice ao rs.length co] 113)).alloc (.cells #[.int .i64 0, .slice none 0 0, .int .i64 0, .slice none 0 0, .slice none 0 0] 30)) := ((Ext.refl _ _).alloc _).alloc _
 have hA : ((W.alloc (.cells #[.int .i64 (w : Int), .slice ag (nw w) cg, .slice ao rs.length co] 113)).alloc (.cells #[.int .i64 0, .slice none 0 0, .int .i64 0, .slice none 0 0, .slice none 0 0] 30)).heap[W.heap.size]? = some (.cells #[.int .i64 (w : Int), .slice ag (nw w) cg, .slice ao rs.length co] 113 (0, 0)) := alloc_under (alloc_top rfl)
 have hC : ((W.alloc (.cells #[.int .i64 (w : Int), .slice ag (nw w) cg, .slice ao rs.length co] 113)).alloc (.cells #[.int .i64 0, .slice none 0 0, .int .i64 0, .slice none 0 0, .slice none 0 0] 30)).heap[W.heap.size + 1]? = some (.cells #[.int .i64 0, .slice none 0 0, .int .i64 0, .slice none 0 0, .slice none 0 0] 30 (0, 0)) := alloc_top (by simp)
 generalize ((W.alloc (.cells #[.int .i64 (w : Int), .slice ag (nw w) cg, .slice ao rs.length co] 113)).alloc (.cells #[.int .i64 0, .slice none 0 0, .int .i64 0, .slice none 0 0, .slice none 0 0] 30)) = W2 at *
 have HA := Lib.hid hA
 have HC := Lib.hid hC
 have HX := Lib.hid hx0
 have hlt1 := lt_of_block hC
 go_cut [4] (fun s4 wx => ∃ T a c, s4 = .pointer (some ⟨T, 0, none⟩) ∧ Hid (CsM M W wx w gen gen T [] (.slice ag (nw w) cg) (.slice ao rs.length co) (.slice a (nw w) c) (.slice none 0 0)))
 case first =>
  have l0 : W2.cell? ⟨W.heap.size, 0, none⟩ = some (.int .i64 (w : Int)) := cellOf hA 0
  have l1 : W2.cell? ⟨W.heap.size, 1, none⟩ = some (.slice ag (nw w) cg) := cellOf hA 1
  have l2 : Ext No W2 W2 := Ext.refl _ _
  have hltB : W.heap.size < W2.heap.size := by omega
  clear hA hC hx0
  go_region_held3 (fun w' => w'.cell? ⟨W.heap.size, 0, none⟩ = some (.int .i64 (w : Int)) ∧ w'.cell? ⟨W.heap.size, 1, none⟩ = some (.slice ag (nw w) cg) ∧ Ext No W2 w')
   ((go_split_ands; refine ⟨?_, ?_, ?_⟩ <;> (repeat (first | (with_reducible assumption) | (with_reducible exact Ext.refl _ _) | (with_reducible refine keepD ?_) | (with_reducible refine keepA ?_) | (with_reducible refine Ext.drew ?_) | (with_reducible refine Ext.alloc ?_ _) | (with_reducible refine BoxR.drew ?_) | (with_reducible refine BoxR.alloc ?_ _) | (with_reducible refine BoxR.set ?_ _ _) | ((with_reducible refine keepS ?_ ?_); (first | (with_reducible assumption) | omega | (simp; omega) | (exact Nat.le_refl _))) | (with_reducible refine Ext.setAt ?_ _ _) | ((with_reducible refine Ext.own ?_ ?_ _); rotate_left; (first | (with_reducible assumption) | omega | (simp; omega) | (exact Nat.le_refl _))) | (with_reducible refine keepN hyA ?_) | (with_reducible refine Ext.transNo ?_ hyA) | (with_reducible refine BoxR.ext ?_ hyA)))))
   (first | ((go_at_call 97); (try go_split_ands); (with_reducible refine (tclone_lo w gen _ _ (HG.out.no.extNo (HX.out.transNo ?_))).mono ?_); (with_reducible assumption); (have hx6 := (show Ext No W2 _ from by with_reducible assumption)); (rintro e7 w7 ⟨a7, c7, rfl, hs7, hyA⟩); (have hx7 := Ext.transNo hx6 hyA); (first | ((with_reducible have hi := two_facts2 hyA (alloc_top (o := (.cells #[.int .i64 0, .slice none 0 0, .int .i64 0, .slice none 0 0, .slice none 0 0] 30)) rfl)); (obtain ⟨hi, hlt⟩ := hi); (have HI := Lib.hid hi); (have HL := Lib.hid hlt); (have cI := cellOf hi); (have fI := freeOf hi); (clear hi hlt)) | skip)))
  all_goals
   go_wp2_with fail
   go_meet
   refine ⟨_, a7, c7, rfl, Lib.hid ?_⟩
   first
   | (with_reducible exact CsM.late (HX.out.transNo hx7) (hx7.blk HA.out no_no) (hx7.blk HC.out no_no) hs7.out (Nat.lt_of_lt_of_le hlt1 hx6.size) HM.out)
   | (with_reducible exact CsM.early (HX.out.transNo hx7) (hx7.blk HA.out no_no) (hx7.blk HC.out no_no) hs7.out hlt1 HL.out HI.out HM.out)
 case rest =>
  obtain ⟨T, a, c, rfl, hm⟩ := hcut
  rename World => V
  clear HA HC HX hA hC hx0 hlt1
  have cA := cellOf hm.out.boxA
  go_wp2_with fail
  clear cA
  have hwl : (w : Int) ≤ 256 := by omega
  go_loopw [18] (fun i wr => ∃ (k m : Nat) (ak : Option Addr) (ck : Nat) (ac : Option Addr) (cc : Nat) (l : List (Int × Int)), k ≤ rs.length ∧ i = .int .i64 k ∧ Hid (m = killTo w gen rs k ∧ l = copTo w gen rs k) ∧ Hid (CsM M W wr w gen m T l (.slice ag (nw w) cg) (.slice ao rs.length co) (.slice ak (nw w) ck) (.slice ac l.length cc))) (fun i _ => rs.length - (intOf i).toNat)
  case atStart => exact ⟨0, gen, a, c, none, 0, [], Nat.zero_le _, rfl, Lib.hid ⟨rfl, rfl⟩, hm⟩
  clear hm
  obtain ⟨k, m, ak, ck, ac, cc, l, hk, rfl, hml, hm⟩ := hrel
  rename World => wr
  have hpos : (0 : Int) ≤ (k : Int) := by omega
  by_cases hlt : k < rs.length
  ·have hkw : k < w := by have := HLR.out; omega
   have HKK : Hid (Value.int .i64 ((k : Int) + 1) = .int .i64 ((k + 1 : Nat) : Int)) := Lib.hid (by rw [show ((k + 1 : Nat) : Int) = (k : Int) + 1 from by omega])
   obtain ⟨gg, go, gc, ae, ce, hsr, hgl, _, z0, z1, hE⟩ := (HR.out.extNo hm.out.ext).at hlt
   simp only [Value.slice.injEq] at hsr
   obtain ⟨rfl, _, rfl⟩ := hsr
   have HRK := Lib.hid (show rowAt rs k = rs[k] from rowAt_get hlt)
   have hlz : (k : Int) < (rs.length : Int) := by omega
   have hTlt := lt_of_block hm.out.boxT
   have hvS : ¬ (Value.slice ac l.length cc).ownBlock = some wr.heap.size := fun e => by have := (hm.out.ownLt _ e).2; omega
   have hx3 : Ext No wr (wr.alloc (.cells #[.int .i64 (w : Int), .slice ae (nw w) ce] 24)) := (Ext.refl _ _).alloc _
   have hm3 := Lib.hid ((hm.out.mono (M' := fun b => M b ∨ b = wr.heap.size) (fun i hi e => by
    rcases e with e | e
    ·exact e
    omega)).stepNo hx3)
   have hQ : (wr.alloc (.cells #[.int .i64 (w : Int), .slice ae (nw w) ce] 24)).heap[wr.heap.size]? = some (.cells #[.int .i64 (w : Int), .slice ae (nw w) ce] 24 (0, 0)) := alloc_top rfl
   have HQ := Lib.hid hQ
   have hS3 := Lib.hid (hE.out.extNo hx3)
   clear hm hE hx3 hgl
   have cQ := cellOf hQ
   clear hQ
   go_wp2_with fail
   generalize (wr.alloc (.cells #[.int .i64 (w : Int), .slice ae (nw w) ce] 24)) = W3 at *
   generalize wr.heap.size = Q at *
   clear z0 z1 cQ
   refine (has_any w rs[k] _ k _ hS3.out.no).mono ?_
   rintro e4 w4 ⟨rfl, hx4⟩
   have hm4 := Lib.hid (hm3.out.stepNo hx4)
   have hS4 := Lib.hid (hS3.out.extNo hx4)
   have HQ4 := Lib.hid (hx4.blk HQ.out no_no)
   clear hx4 hm3 hS3 HQ
   go_upto_if 26 with (fail)
   go_cut [33] (fun _ wx => ∃ (m' : Nat) (a5 : Option Addr) (c5 : Nat), Hid (m' = killTo w gen rs (k + 1)) ∧ Hid (CsM (fun b => M b ∨ b = Q) W wx w gen m' T l (.slice ag (nw w) cg) (.slice (some ⟨gg, go, none⟩) rs.length co) (.slice a5 (nw w) c5) (.slice ac l.length cc)) ∧ Hid (wx.heap[Q]? = some (.cells #[.int .i64 (w : Int), .slice ae (nw w) ce] 24 (0, 0))) ∧ Hid (SetAt (fun b => W.heap.size ≤ b) wx (.slice ae (nw w) ce) w rs[k]))
   case first =>
    cases hh : hasZ w rs[k] k with
    | true =>
     have HKT := Lib.hid (show m = killTo w gen rs (k + 1) by rw [killTo, HRK.out, hh, if_pos rfl]; exact hml.out.1)
     clear hh
     go_wp2_with fail
     go_meet
     exact ⟨m, ak, ck, HKT, hm4, HQ4, hS4⟩
    | false =>
     have HKT := Lib.hid (show m ||| 2 ^ k = killTo w gen rs (k + 1) by rw [killTo, HRK.out, hh, if_neg (by simp), hml.out.1])
     clear hh
     have cT := cellOf hm4.out.boxT
     go_wp2_with fail
     refine (with_any (fun b => ((M b ∨ b = Q) ∨ b = W.heap.size + 1 ∨ b = T) ∨ (Value.slice ac l.length cc).ownBlock = some b) w m k _ _ (hm4.out.hM (fun b hb => ?_)) hkw hm4.out.kill.no).mono ?_
     ·rcases hb with hb | rfl
      ·exact Nat.lt_of_lt_of_le (HM.out b hb) hm4.out.ext.size
      exact lt_of_block HQ4.out
     rintro e5 w5 ⟨a5, c5, rfl, hs5, hx5⟩
     have hm5 := Lib.hid (hm4.out.stepNo hx5)
     have hm6 := Lib.hid (hm5.out.putK hs5.out)
     have hE6 : Ext (At T) w5 ((w5.setCell ⟨T, 2, none⟩ (.int .i64 (w : Int))).setCell ⟨T, 3, none⟩ (.slice a5 (nw w) c5)) := ((Ext.refl (At T) w5).setAt _ _).setAt _ _
     have HQ6 := Lib.hid (hE6.blk (hx5.blk HQ4.out no_no) (by unfold At; omega))
     have hS6 := Lib.hid (((hS4.out.extNo hx5).ext hE6 (fun i _ e => by unfold At at e; have := hm5.out.big; omega)))
     have cT5 := cellOf hm5.out.boxT
     have fT5 := freeOf hm5.out.boxT
     clear hx5 hs5 hm5 hm4 HQ4 hS4 cT hE6
     go_wp2_with fail
     go_meet
     exact ⟨_, a5, c5, HKT, hm6, HQ6, hS6⟩
   case rest =>
    obtain ⟨m', a5, c5, hmk, hm, hQ, hS⟩ := hcut
    rename World => V2
    clear hm4 HQ4 hS4
    have cQ := cellOf hQ.out
    have cA := cellOf hm.out.boxA
    go_wp2_with fail
    refine (diff_any (fun b => (M b ∨ b = W.heap.size + 1 ∨ b = T ∨ b = Q) ∨ (Value.slice ac l.length cc).ownBlock = some b) w rs[k] gen _ _ _ (fun b hb => ?_) hS.out.no (HG.out.no.extNo hm.out.ext)).mono ?_
    ·have h1 := lt_of_block hm.out.boxT
     have h2 := hm.out.big
     rcases hb with (hb | rfl | rfl | rfl) | hb
     ·exact Nat.lt_of_lt_of_le (HM.out b hb) hm.out.ext.size
     ·omega
     ·exact h1
     ·exact lt_of_block hQ.out
     exact (hm.out.ownLt b hb).2
    rintro e5 w5 ⟨a6, c6, rfl, hs5, hx5⟩
    have hm5 := Lib.hid (hm.out.stepNo hx5)
    have hQ5 := Lib.hid (hx5.blk hQ.out no_no)
    have hm6 := Lib.hid (hm5.out.box (u0 := .int .i64 (w : Int)) (u1 := .slice a6 (nw w) c6) hTlt hvS (.inr rfl))
    have hE6 : Ext (At Q) w5 ((w5.setCell ⟨Q, 0, none⟩ (.int .i64 (w : Int))).setCell ⟨Q, 1, none⟩ (.slice a6 (nw w) c6)) := ((Ext.refl (At Q) w5).setAt _ _).setAt _ _
    have hQ6 := (set_same (j := 1) (u := .slice a6 (nw w) c6) (set_same (j := 0) (u := .int .i64 (w : Int)) hQ5.out)).trans rfl
    have hs6 := Lib.hid (hs5.out.ext hE6 (fun i _ e => .inl (.inr (.inr (.inr e)))))
    have cQ5 := cellOf hQ5.out
    have fQ5 := freeOf hQ5.out
    clear hm hQ hS hx5 hs5 hm5 hQ5 cQ cA hE6
    have cQ6 := cellOf hQ6
    clear hQ6
    go_wp2_with fail
    clear cQ5 fQ5
    generalize ((w5.setCell ⟨Q, 0, none⟩ (.int .i64 (w : Int))).setCell ⟨Q, 1, none⟩ (.slice a6 (nw w) c6)) = W6 at *
    have HLL := Lib.hid (show l.length ≤ 65536 by
     rw [hml.out.2]
     have h1 := copTo_len w gen rs k
     have h2 : k * w ≤ 256 * 256 := Nat.mul_le_mul (by omega) hw
     omega)
    refine (members_any (fun b => b = T ∨ (Value.slice ac l.length cc).ownBlock = some b) w (diffN rs[k] gen) _ _ (fun b hb => ?_) (HT.out.ext hm6.out.ext) hs6.out.no).mono ?_
    ·rcases hb with rfl | hb
     ·exact lt_of_block hm6.out.boxT
     exact (hm6.out.ownLt b hb).2
    rintro e7 w7 ⟨am, rfl, hmem, hx7⟩
    have hm7 := Lib.hid (hm6.out.stepNo hx7)
    have HME := Lib.hid hmem.out
    have hmm := membersN_len w (diffN rs[k] gen)
    clear hx7 hm6 hmem hs6
    go_wp2_with fail
    obtain ⟨ml, hml2⟩ : ∃ ml, ml = membersN w (diffN rs[k] gen) := ⟨_, rfl⟩
    rw [← hml2] at HME hmm ⊢
    have HML := Lib.hid hml2
    clear hml2
    go_loopw [45] (fun i wi => ∃ (j : Nat) (l' : List (Int × Int)) (ac' : Option Addr) (cc' : Nat), j ≤ ml.length ∧ i = .int .i64 j ∧ Hid (l' = l ++ keepC k (ml.take j)) ∧ Hid (CsM (fun b => M b ∨ b = Q) W wi w gen m' T l' (.slice ag (nw w) cg) (.slice (some ⟨gg, go, none⟩) rs.length co) (.slice a5 (nw w) c5) (.slice ac' l'.length cc')) ∧ Hid (Row (fun b => b = T ∨ (Value.slice ac' l'.length cc').ownBlock = some b) wi 1 (.slice am ml.length ml.length) ml.length (ints ml))) (fun i _ => ml.length - (intOf i).toNat)
    case atStart => exact ⟨0, l, ac, cc, Nat.zero_le _, rfl, Lib.hid (by simp [keepC]), hm7, HME⟩
    clear hm7 HME
    obtain ⟨j, l', ac', cc', hj, rfl, hl', hm, hme⟩ := hrel
    rename World => wi
    have hposj : (0 : Int) ≤ (j : Int) := by omega
    by_cases hlj : j < ml.length
    ·obtain ⟨mb, mo, mc, hsl, _, _, hcell⟩ := hme.out.shape (by omega)
     simp only [Value.slice.injEq] at hsl
     obtain ⟨rfl, _, rfl⟩ := hsl
     obtain ⟨b, hb, hbw, hbs⟩ := membersN_mem.1 (show ml[j] ∈ membersN w (diffN rs[k] gen) from by rw [← HML.out]; exact List.getElem_mem hlj)
     have q0 := hcell j _ (show (ints ml)[j]? = some (.int .i64 (b : Int)) from by simp [ints, hlj, hb])
     have HTK := Lib.hid (show ml.take (j + 1) = ml.take j ++ [(b : Int)] by rw [List.take_succ_eq_append_getElem hlj, hb])
     have HLJ := Lib.hid (show l'.length ≤ 66000 by
      rw [hl'.out, List.length_append]
      have h1 := keepC_len k (ml.take j)
      have h2 := HLL.out
      have h3 := List.length_take_le j ml
      omega)
     have HKJ : Hid (Value.int .i64 ((j : Int) + 1) = .int .i64 ((j + 1 : Nat) : Int)) := Lib.hid (by rw [show ((j + 1 : Nat) : Int) = (j : Int) + 1 from by omega])
     have hlzj : (j : Int) < (ml.length : Int) := by omega
     clear hcell hb hbs
     by_cases hbk : b = k
     ·have hne : ¬ ((b : Int) != (k : Int)) = true := by simp; omega
      have hne2 : ((b : Int) != (k : Int)) = false := by simp; omega
      have HLN := Lib.hid (show l' = l ++ keepC k (ml.take (j + 1)) by rw [HTK.out, keepC_snoc_eq (by omega)]; exact hl'.out)
      clear hbk
      go_wp2_with fail
      go_roundw
      case rel => exact ⟨j + 1, l', ac', cc', by omega, HKJ.out, HLN, hm, hme⟩
      case measure => simp [intOf]; omega
     have hne2 : ((b : Int) != (k : Int)) = true := by simp; omega
     have HLN := Lib.hid (show l' ++ [((k : Int), (b : Int))] = l ++ keepC k (ml.take (j + 1)) by rw [HTK.out, keepC_snoc_ne (by omega), ← List.append_assoc, ← hl'.out])
     have hll := HLJ.out
     have cT := cellOf hm.out.boxT
     clear hbk
     go_wp2_with (at_builtin; (refine wpList_app _ rfl (.tmp 53) (.tmp 57) 28 rfl (T + 1) 27 i0 _ 2 16 Tryd.underlying28 hi0 hz0 hz1 hz2 rfl (by omega) (.slice ac' l'.length cc') l'.length (flatC l') rfl (row_keep hm.out.own ((Ext.refl No _).alloc _) (fun _ _ x => x)) No (some ⟨wi.heap.size, 0, none⟩) 1 1 [.int .i64 (k : Int), .int .i64 (b : Int)] rfl (Row.block (alloc_top rfl) rfl no_no (by omega)) (by simp [Value.oneCell']) (by omega) (by omega) (by simp; exact Nat.le_of_lt (lt_of_block hm.out.boxT)) ?_); (intro v1 w5 hown1 hg1 hv1); (obtain ⟨hm6, hT6⟩ := hm.out.app hown1 hg1 hv1); (have HME6 := Lib.hid ((area_row hg1 hv1 hme.out).ext ((Ext.refl (At T) w5).setAt 4 v1) (fun i _ e => .inl e))); (have cT6 := cellOf hT6); (have fT6 := freeOf hT6); (have HM6 := Lib.hid hm6); (obtain ⟨a6, c6, hs6⟩ := hm6.slice); (subst hs6); (clear hm6 hT6 hown1 hg1 hv1))
     go_roundw
     case rel => exact ⟨j + 1, l' ++ [((k : Int), (b : Int))], a6, c6, by omega, HKJ.out, HLN, by have := HM6; simp only [List.length_append, List.length_cons, List.length_nil] at this ⊢; exact this, by have := HME6; simp only [List.length_append, List.length_cons, List.length_nil] at this ⊢; exact this⟩
     case measure => simp [intOf]; omega
    obtain rfl : j = ml.length := by omega
    have HLN := Lib.hid (show l' = copTo w gen rs (k + 1) by rw [copTo, HRK.out, ← HML.out, hl'.out, List.take_length, ← hml.out.2])
    go_wp2_with fail
    go_roundw
    case rel => exact ⟨k + 1, m', a5, c5, ac', cc', l', by omega, HKK.out, Lib.hid ⟨hmk.out, HLN.out⟩, Lib.hid (hm.out.mono (fun i _ e => .inl e))⟩
    case measure => simp [intOf]; omega
  obtain rfl : k = rs.length := by omega
  have cT := cellOf hm.out.boxT
  have cR := cellOf hm.out.boxR
  have fR := freeOf hm.out.boxR
  have hne : ¬ W.heap.size + 1 = T := by have := hm.out.big; omega
  have HLK := Lib.hid (show l = copTo w gen rs w by rw [hml.out.2, HLR.out])
  have HMK := Lib.hid (show m = killTo w gen rs w by rw [hml.out.1, HLR.out])
  by_cases hc : l.length ≤ 64
  ·have hcz : ¬ (64 : Int) < (l.length : Int) := by omega
   have hcd : decide ((64 : Int) < (l.length : Int)) = false := by simp; omega
   clear hcz
   go_wp2_with fail
   have hfin := BoxR.fin5 ⟨_, rfl, hm.out.boxR⟩ (.int .i64 (w : Int)) (.slice ag (nw w) cg) (.int .i64 (w : Int)) (.slice ak (nw w) ck) (.slice ac l.length cc)
   have hE := set5 wr (W.heap.size + 1) (.int .i64 (w : Int)) (.slice ag (nw w) cg) (.int .i64 (w : Int)) (.slice ak (nw w) ck) (.slice ac l.length cc)
   clear cT cR fR
   generalize (((((wr.setCell ⟨W.heap.size + 1, 0, none⟩ (.int .i64 (w : Int))).setCell ⟨W.heap.size + 1, 1, none⟩ (.slice ag (nw w) cg)).setCell ⟨W.heap.size + 1, 2, none⟩ (.int .i64 (w : Int))).setCell ⟨W.heap.size + 1, 3, none⟩ (.slice ak (nw w) ck)).setCell ⟨W.heap.size + 1, 4, none⟩ (.slice ac l.length cc)) = WF at *
   have cF := cellOf hfin
   refine ret_ex rfl ?_
   simp [results, Tryd.results72, go_sem, cF]
   obtain rfl := HLK.out
   obtain rfl := HMK.out
   have hbig := hm.out.big
   refine ⟨fun _ => ⟨ag, cg, ak, ck, ac, cc, rfl, Lib.hid ⟨?_, ?_, ?_, closeT_ok hw HGL.out hc⟩, hm.out.ext.trans2 hE (fun i hi e => by unfold At at e; omega)⟩, fun h => absurd h (by omega)⟩
   ·refine SetAt.mono (M := fun b => M b ∨ b = W.heap.size + 1) ((((HG.out.mono (M' := fun b => M b ∨ b = W.heap.size + 1) (fun i hi e => ?_)).extNo hm.out.ext).ext hE (fun i _ e => .inr e))) (fun i _ e => .inl e)
    rcases e with e | e
    ·exact e
    omega
   ·exact (hm.out.kill.ext hE (fun i _ e => .inl (.inr (.inl e)))).mono (fun i _ e => .inl (.inl e))
   refine Row.ofOwns (row_keep hm.out.own hE (fun i hi e => by unfold At at e; omega)) (fun b hb hmb => ?_)
   have := HM.out b hmb
   omega
  have hcd : decide ((64 : Int) < (l.length : Int)) = true := by simp; omega
  go_wp2_with fail
  have hfin := BoxR.fin5 ⟨_, rfl, hm.out.boxR⟩ (.int .i64 0) (.slice none 0 0) (.int .i64 0) (.slice none 0 0) (.slice none 0 0)
  have hE := set5 wr (W.heap.size + 1) (.int .i64 0) (.slice none 0 0) (.int .i64 0) (.slice none 0 0) (.slice none 0 0)
  clear cT cR fR
  generalize (((((wr.setCell ⟨W.heap.size + 1, 0, none⟩ (.int .i64 0)).setCell ⟨W.heap.size + 1, 1, none⟩ (.slice none 0 0)).setCell ⟨W.heap.size + 1, 2, none⟩ (.int .i64 0)).setCell ⟨W.heap.size + 1, 3, none⟩ (.slice none 0 0)).setCell ⟨W.heap.size + 1, 4, none⟩ (.slice none 0 0)) = WF at *
  have cF := cellOf hfin
  refine ret_ex rfl ?_
  simp [results, Tryd.results72, go_sem, cF]
  obtain rfl := HLK.out
  exact ⟨fun h => absurd h hc, fun _ => ⟨rfl, hm.out.ext.trans2 hE (fun i hi e => by unfold At at e; omega)⟩⟩

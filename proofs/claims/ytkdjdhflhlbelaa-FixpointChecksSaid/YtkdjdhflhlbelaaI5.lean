/- Next, Empty and Solve of the reference. -/
import Derived.Test.YtkdjdhflhlbelaaI4
import Derived.Test.YtkdjdhflhlbelaaH10
set_option linter.unusedVariables false
set_option linter.unusedSimpArgs false
namespace Go.Proofs.Ytkdjdhflhlbelaa
open Go Go.RowKit
set_option maxRecDepth 100000 in
set_option maxHeartbeats 2000000 in
theorem rNext_err (x E : Int) (ad at1 ab : Option Addr) (nd cd nt ct nb cb : Nat) (vv : Value) (av : Option Addr) (nv cv : Nat) (W : World) (hvv : vv = .slice av nv cv) (hb : nb ≤ 9223372036854775807) (hE : E ≠ 0)
    (hR : ∀ w', Ext No W w' → Calls Try.prog 103 #[.agg #[.int .i64 x, .slice ad nd cd, .slice at1 nt ct, .slice ab nb cb], vv, .int .i64 0] w' (ErrPost zeroSv E w')) :
    Calls Try.prog 60 #[.agg #[.int .i64 x, .slice ad nd cd, .slice at1 nt ct, .slice ab nb cb], vv] W (ErrPost (.slice none 0 0) E W) := by
  have HR := Lib.hid hR
  have hne : (E != 0) = true := by simp [hE]
  have heq : (E == 0) = false := by simp [hE]
  have hmx : (0 : Int) < max (nb : Int) 1 := by omega
  subst hvv
  clear hR
  go_enter Try.func60, Try.ntmps60
  go_upto_region 1 with (fail)
  have hx0 : Ext No W (W.alloc (.cells #[.int .i64 x, .slice ad nd cd, .slice at1 nt ct, .slice ab nb cb] 29)) := (Ext.refl _ _).alloc _
  have HA := Lib.hid (alloc_top (w := W) (o := .cells #[.int .i64 x, .slice ad nd cd, .slice at1 nt ct, .slice ab nb cb] 29) rfl)
  generalize (W.alloc (.cells #[.int .i64 x, .slice ad nd cd, .slice at1 nt ct, .slice ab nb cb] 29)) = w1 at *
  go_wp2_with fail
  go_loopw [6, 7, 8, 9] (fun s6 s7 _ _ wr => s6 = .slice none 0 0 ∧ s7 = .int .i64 0 ∧ wr = w1) (fun _ _ _ _ _ => 0)
  case atStart => exact ⟨rfl, rfl, rfl⟩
  case round =>
    obtain ⟨rfl, rfl, rfl⟩ := hrel
    have cA := cellOf HA.out
    go_wp2_with fail
    all_goals
      refine (HR.out _ hx0).mono ?_
      rintro e2 w2 ⟨rfl, hx2⟩
      unfold zeroSv
      go_wp2_with fail
      refine ret_ex rfl ?_
      simp [results, Try.results60, go_sem]
      exact ⟨rfl, (hx0.transNo hx2).alloc _⟩
theorem rNext_inv (x : Int) (vd vt vb vv : Value) (Ld : LD) (Lt : LT) (Lb : LS) (av : Option Addr) (nv cv : Nat) (W : World) (hvv : vv = .slice av nv cv) (h : YAt No W vd vt vb Ld Lt Lb) (hn : ¬ VS x Ld Lt Lb) :
    Calls Try.prog 60 #[.agg #[.int .i64 x, vd, vt, vb], vv] W (ErrPost (.slice none 0 0) 1 W) := by
  have hb := h.b.row.2.1
  obtain ⟨ad, cd, rfl⟩ := h.d.slice
  obtain ⟨at1, ct, rfl⟩ := h.t.slice
  obtain ⟨ab, cb, rfl⟩ := h.b.slice
  exact rNext_err x 1 ad at1 ab _ cd _ ct _ cb vv av nv cv W hvv hb (by decide) (fun w' hx => rRight_inv x _ _ _ vv Ld Lt Lb 0 w' (h.extNo hx) hn)
theorem rNext_val (S : SysD) (vd vt vb vv : Value) (Lv : LS) (W : World) (h : SysAt No W vd vt vb S) (hv : LAt kS No W vv Lv) (hE : valE (S.w : Int) S.deps.length Lv ≠ 0) :
    Calls Try.prog 60 #[.agg #[.int .i64 (S.w : Int), vd, vt, vb], vv] W (ErrPost (.slice none 0 0) (valE (S.w : Int) S.deps.length Lv) W) := by
  have h2 := h
  have hn := h.ok.n2
  have hn1 := h.ok.n1
  obtain ⟨av, cv, hvv⟩ := hv.slice
  obtain ⟨ad, cd, at1, ct, ab, cb, rfl, rfl, rfl⟩ := h.slices
  exact rNext_err (S.w : Int) _ ad at1 ab _ cd _ ct _ cb vv av _ cv W hvv (by omega) hE (fun w' hx => rRight_val S _ _ _ vv Lv 0 w' (h2.extNo hx) (hv.extNo hx) (by omega) hE)
set_option maxRecDepth 100000 in
set_option maxHeartbeats 4000000 in
theorem rNext_any (M : Nat → Prop) (S : SysD) (vd vt vb vv : Value) (vs : List Nat) (W : World) (hM : ∀ b, M b → b < W.heap.size) (h : SysAt M W vd vt vb S) (hv : SetsV No W vv S.w vs) (hl : vs.length = S.deps.length) :
    Calls Try.prog 60 #[.agg #[.int .i64 (S.w : Int), vd, vt, vb], vv] W (SetsEPost M S.w (nextD S vs) W) := by
  obtain ⟨i0, hi0, hz0, hz1, hz2⟩ := info_parts infoS
  have H := Lib.hid h
  have HV := Lib.hid hv
  have HM := Lib.hid hM
  have HL := Lib.hid hl
  have hok := h.ok
  obtain ⟨ad, cd, at1, ct, ab, cb, rfl, rfl, rfl⟩ := h.slices
  obtain ⟨av, cv, rfl⟩ := hv.slice
  have hnn := hok.n2
  have hn1 := hok.n1
  have hmx : max (S.deps.length : Int) 1 = (S.deps.length : Int) := by omega
  have HOK := Lib.hid hok
  clear h hv hM hl hok
  go_enter Try.func60, Try.ntmps60
  go_upto_region 1 with (fail)
  have HX := Lib.hid (show Ext No W (W.alloc (.cells #[.int .i64 (S.w : Int), .slice ad S.deps.length cd, .slice at1 S.deps.length ct, .slice ab S.deps.length cb] 29)) from (Ext.refl _ _).alloc _)
  have HA := Lib.hid (alloc_top (w := W) (o := (.cells #[.int .i64 (S.w : Int), .slice ad S.deps.length cd, .slice at1 S.deps.length ct, .slice ab S.deps.length cb] 29)) rfl)
  generalize (W.alloc (.cells #[.int .i64 (S.w : Int), .slice ad S.deps.length cd, .slice at1 S.deps.length ct, .slice ab S.deps.length cb] 29)) = w1 at *
  go_wp2_with fail
  go_loopw [6, 7, 8, 9] (fun s6 i _ _ wr => ∃ k : Nat, i = .int .i64 k ∧ k ≤ S.deps.length ∧ Hid (LnM M W wr (W.heap.size + 1) S.w s6 (nextTo S vs k)) ∧ Hid (wr.heap[W.heap.size]? = some (.cells #[.int .i64 (S.w : Int), .slice ad S.deps.length cd, .slice at1 S.deps.length ct, .slice ab S.deps.length cb] 29 (0, 0)))) (fun _ i _ _ _ => S.deps.length - (intOf i).toNat)
  case atStart => exact ⟨0, rfl, Nat.zero_le _, Lib.hid ⟨HX.out, ⟨[], LOwn.nil _ _ _ _, rfl⟩, by omega, HOK.out.w, fun m hm => by cases hm⟩, HA⟩
  case round =>
    clear HX HA
    obtain ⟨k, rfl, hk, hm, hA⟩ := hrel
    rename World => wr
    obtain ⟨a0, c0, hs0⟩ := hm.out.slice
    rw [nextTo_len] at hs0
    subst hs0
    have cA := cellOf hA.out
    by_cases hlt : k < S.deps.length
    · have hlz : (k : Int) < (S.deps.length : Int) := by omega
      go_wp2_with fail
      clear cA
      refine (rRight_any (fun b => M b ∨ (Value.slice a0 k c0).ownBlock = some b) S _ _ _ _ vs k _ (hm.out.hM HM.out) ((H.out.mono (M' := fun b => M b ∨ (Value.slice a0 k c0).ownBlock = some b) (fun i hi e => by rcases e with e | e; exact e; (have := (hm.out.lt i e).1; omega))).extNo hm.out.ext) (HV.out.extNo hm.out.ext) HL.out hlt).mono ?_
      rintro e2 w2 ⟨a1, c1, rfl, hs1, hx1⟩
      have hxb : Ext No w2 (w2.alloc (.cells #[.int .i64 (S.w : Int), .slice a1 (nw S.w) c1] 33)) := (Ext.refl _ _).alloc _
      have hm2 := Lib.hid ((hm.out.step hx1).step hxb)
      have hA2 := Lib.hid (hxb.blk (hx1.blk hA.out no_no) no_no)
      have hD := alloc_top (w := w2) (o := .cells #[.int .i64 (S.w : Int), .slice a1 (nw S.w) c1] 33) rfl
      have hs2 := Lib.hid (hs1.out.extNo hxb)
      obtain ⟨xs, hown, happ⟩ := hm2.out.own (m := rightD S vs k)
      rw [nextTo_len] at hown happ
      have HAPP := Lib.hid happ
      have HLT := Lib.hid hm2.out.lt
      have HLL := Lib.hid hm2.out.ext.size
      clear happ hs1 hx1 hxb
      have cD := cellOf hD
      go_upto_region 8 with (fail)
      generalize (w2.alloc (.cells #[.int .i64 (S.w : Int), .slice a1 (nw S.w) c1] 33)) = w3 at *
      generalize w2.heap.size = D at *
      have hlw : W.heap.size + 1 ≤ w3.heap.size := lt_of_block hA2.out
      go_wp2_with (at_builtin; (refine wpList_app _ rfl (.tmp 28) (.tmp 30) 27 rfl (W.heap.size + 1) 33 i0 _ 2 32 Try.underlying27 hi0 hz0 hz1 hz2 rfl (by omega) (.slice a0 k c0) k xs rfl (row_keep hown ((Ext.refl No _).alloc _) (fun _ _ x => x)) No (some ⟨w3.heap.size, 0, none⟩) 1 1 [.int .i64 (S.w : Int), .slice a1 (nw S.w) c1] rfl (Row.block (alloc_top rfl) rfl no_no (by omega)) (by simp [Value.oneCell']) (by omega) (by omega) (by simp; omega) ?_); (intro v1 w9 hown1 hg1 hv1); (have hm9 := Lib.hid (HAPP.out v1 a1 c1 _ w9 hs2.out hown1 hg1 hv1 (own_ext hm2.out.ext hg1 (fun b hb => (HLT.out b hb).1) (Nat.le_succ _)))); (have hA9 := Lib.hid (own_blk hA2.out hg1 (fun b hb => (HLT.out b hb).1) (Nat.lt_succ_self _))); (obtain ⟨a9, c9, hs9⟩ := hm9.out.slice); (rw [List.length_append, nextTo_len] at hs9); (subst hs9); (clear hown1 hg1 hv1 hown); (clear cD hD))
      go_roundw
      case rel => exact ⟨k + 1, by go_num, by omega, by rw [nextTo_snoc]; exact hm9, hA9⟩
      case measure => simp [intOf]; omega
    · have hkk : k = S.deps.length := by omega
      have HK := Lib.hid hkk
      have hge : ¬ (k : Int) < (S.deps.length : Int) := by omega
      clear hkk
      go_wp2_with fail
      refine ret_ex rfl ?_
      simp [results, Try.results60, go_sem]
      have h1 := hm.out.fin HM.out
      have e := HK.out
      subst e
      have hl2 : (nextD S vs).length = S.deps.length := nextTo_len _ _ _
      exact ⟨a0, c0, by rw [hl2], Lib.hid (by rw [hl2]; exact h1), hm.out.ext⟩
set_option maxRecDepth 100000 in
set_option maxHeartbeats 4000000 in
theorem rEmptyV_any (M : Nat → Prop) (S : SysD) (vd vt vb : Value) (W : World) (hM : ∀ b, M b → b < W.heap.size) (h : SysAt No W vd vt vb S) :
    Calls Try.prog 59 #[.agg #[.int .i64 (S.w : Int), vd, vt, vb]] W (SetsPost M S.w (zerosD S) W) := by
  obtain ⟨i0, hi0, hz0, hz1, hz2⟩ := info_parts infoS
  have HM := Lib.hid hM
  have hok := h.ok
  obtain ⟨ad, cd, at1, ct, ab, cb, rfl, rfl, rfl⟩ := h.slices
  have hnn := hok.n2
  have hww := hok.w
  clear h hM hok
  go_enter Try.func59, Try.ntmps59
  go_upto_region 1 with (fail)
  have HX := Lib.hid (show Ext No W (W.alloc (.cells #[.int .i64 (S.w : Int), .slice ad S.deps.length cd, .slice at1 S.deps.length ct, .slice ab S.deps.length cb] 29)) from (Ext.refl _ _).alloc _)
  have HA := Lib.hid (alloc_top (w := W) (o := (.cells #[.int .i64 (S.w : Int), .slice ad S.deps.length cd, .slice at1 S.deps.length ct, .slice ab S.deps.length cb] 29)) rfl)
  generalize (W.alloc (.cells #[.int .i64 (S.w : Int), .slice ad S.deps.length cd, .slice at1 S.deps.length ct, .slice ab S.deps.length cb] 29)) = w1 at *
  go_wp2_with fail
  go_loopw [3, 4] (fun s3 i wr => ∃ k : Nat, i = .int .i64 k ∧ k ≤ S.deps.length ∧ Hid (LnM M W wr (W.heap.size + 1) S.w s3 (List.replicate k 0)) ∧ Hid (wr.heap[W.heap.size]? = some (.cells #[.int .i64 (S.w : Int), .slice ad S.deps.length cd, .slice at1 S.deps.length ct, .slice ab S.deps.length cb] 29 (0, 0)))) (fun _ i _ => S.deps.length - (intOf i).toNat)
  case atStart => exact ⟨0, rfl, Nat.zero_le _, Lib.hid ⟨HX.out, ⟨[], LOwn.nil _ _ _ _, rfl⟩, by omega, hww, fun m hm => by cases hm⟩, HA⟩
  case round =>
    clear HX HA
    obtain ⟨k, rfl, hk, hm, hA⟩ := hrel
    rename World => wr
    obtain ⟨a0, c0, hs0⟩ := hm.out.slice
    rw [List.length_replicate] at hs0
    subst hs0
    have cA := cellOf hA.out
    by_cases hlt : k < S.deps.length
    · have hlz : (k : Int) < (S.deps.length : Int) := by omega
      go_wp2_with (first | ((go_at_call 41); (refine (rempty_any S.w _ hww).mono ?_); (rintro e2 w2 ⟨g, rfl, hb2, hlo2, hx2⟩); (have hs2 := Lib.hid (hb2.out.set (M := fun b => M b ∨ (Value.slice a0 k c0).ownBlock = some b) hww (Nat.two_pow_pos _) (fun e => by have := hm.out.hM HM.out g e; omega))); (have hm2 := Lib.hid (hm.out.step hx2)); (have hA2 := Lib.hid (hx2.blk hA.out no_no)); (obtain ⟨xs, hown, happ⟩ := hm2.out.own (m := 0)); (rw [List.length_replicate] at hown happ); (have HAPP := Lib.hid happ); (have HLT := Lib.hid hm2.out.lt); (have hlw : W.heap.size + 1 ≤ w2.heap.size := lt_of_block hA2.out); (clear cA happ hx2 hb2 hlo2)) | (at_builtin; (refine wpList_app _ rfl (.tmp 12) (.tmp 16) 27 rfl (W.heap.size + 1) 33 i0 _ 2 32 Try.underlying27 hi0 hz0 hz1 hz2 rfl (by omega) (.slice a0 k c0) k xs rfl (row_keep hown ((Ext.refl No _).alloc _) (fun _ _ x => x)) No (some ⟨w2.heap.size, 0, none⟩) 1 1 [.int .i64 (S.w : Int), .slice (some ⟨g, 0, none⟩) (nw S.w) (nw S.w)] rfl (Row.block (alloc_top rfl) rfl no_no (by omega)) (by simp [Value.oneCell']) (by omega) (by omega) (by simp; omega) ?_); (intro v1 w9 hown1 hg1 hv1); (have hm9 := Lib.hid (HAPP.out v1 _ _ _ w9 hs2.out hown1 hg1 hv1 (own_ext hm2.out.ext hg1 (fun b hb => (HLT.out b hb).1) (Nat.le_succ _)))); (have hA9 := Lib.hid (own_blk hA2.out hg1 (fun b hb => (HLT.out b hb).1) (Nat.lt_succ_self _))); (obtain ⟨a9, c9, hs9⟩ := hm9.out.slice); (rw [List.length_append, List.length_replicate] at hs9); (subst hs9); (clear hown1 hg1 hv1 hown)))
      go_roundw
      case rel => exact ⟨k + 1, by go_num, by omega, by rw [List.replicate_succ']; exact hm9, hA9⟩
      case measure => simp [intOf]; omega
    · have hkk : k = S.deps.length := by omega
      have HK := Lib.hid hkk
      have hge : ¬ (k : Int) < (S.deps.length : Int) := by omega
      clear hkk
      go_wp2_with fail
      refine ret_ex rfl ?_
      simp [results, Try.results59, go_sem]
      have h1 := hm.out.fin HM.out
      have e := HK.out
      subst e
      have hl2 : (zerosD S).length = S.deps.length := by simp [zerosD]
      exact ⟨a0, c0, by rw [hl2], Lib.hid (by rw [hl2]; exact h1), hm.out.ext⟩
end Go.Proofs.Ytkdjdhflhlbelaa

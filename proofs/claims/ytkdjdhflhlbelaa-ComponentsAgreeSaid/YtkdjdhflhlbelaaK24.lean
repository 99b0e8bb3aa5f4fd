/- SolveByComponents of the reference: its list of values. -/
import Derived.Test.YtkdjdhflhlbelaaK23
import Derived.Test.YtkdjdhflhlbelaaK10
import Derived.Test.YtkdjdhflhlbelaaK4
import Derived.Test.YtkdjdhflhlbelaaH10
set_option linter.unusedVariables false
set_option linter.unusedSimpArgs false
namespace Go.Proofs.Ytkdjdhflhlbelaa
open Go Go.RowKit Tj
def EmptyO (S : SysD) (W : World) (e : Ending) (w' : World) : Prop :=
 ∃ (gv cap : Nat) (Q : LS), e = .returned (.slice (some ⟨gv, 0, none⟩) S.deps.length cap) ∧ W.heap.size < gv ∧ Hid (LOwn kS No w' gv (.slice (some ⟨gv, 0, none⟩) Q.length cap) Q) ∧ Hid (Q.map Prod.fst = (zerosD S).map (setN S.w)) ∧ Ext No W w'
/-- the base may be the block itself -/
theorem LOwn.lower' {β : Type} {K : EK β} {A : Nat → Prop} {w : World} {base g cap n : Nat} {L : List β} (h : LOwn K A w base (.slice (some ⟨g, 0, none⟩) n cap) L) (hb : base ≤ g) : LOwn K A w g (.slice (some ⟨g, 0, none⟩) n cap) L := by
 refine ⟨?_, h.ok⟩
 obtain ⟨h1, h2⟩ := h.own
 refine ⟨h1, ?_⟩
 rcases h2 with ⟨h2, h3⟩ | ⟨g2, cap2, cur, e, h3, h4⟩
 ·exact .inl ⟨h2, h3⟩
 ·simp only [Value.slice.injEq, Option.some.injEq, Addr.mk.injEq] at e
  obtain ⟨⟨rfl, -, -⟩, rfl, rfl⟩ := e
  exact .inr ⟨_, _, cur, rfl, Nat.le_refl _, h4⟩
set_option maxRecDepth 100000 in
set_option maxHeartbeats 4000000 in
theorem rEmptyO_any (S : SysD) (vd vt vb : Value) (W : World) (h : SysAt No W vd vt vb S) :
  Calls Try.prog 59 #[.agg #[.int .i64 (S.w : Int), vd, vt, vb]] W (EmptyO S W) := by
 obtain ⟨i0, hi0, hz0, hz1, hz2⟩ := info_parts infoS
 have HM := Lib.hid (show ∀ b, No b → b < W.heap.size from fun _ x => x.elim)
 have hok := h.ok
 have HOK2 := Lib.hid hok
 obtain ⟨ad, cd, at1, ct, ab, cb, rfl, rfl, rfl⟩ := h.slices
 have hnn := hok.n2
 have hww := hok.w
 clear h hok
 go_enter Try.func59, Try.ntmps59
 go_upto_region 1 with (fail)
 have HX := Lib.hid (show Ext No W (W.alloc (.cells #[.int .i64 (S.w : Int), .slice ad S.deps.length cd, .slice at1 S.deps.length ct, .slice ab S.deps.length cb] 29)) from (Ext.refl _ _).alloc _)
 have HA := Lib.hid (alloc_top (w := W) (o := (.cells #[.int .i64 (S.w : Int), .slice ad S.deps.length cd, .slice at1 S.deps.length ct, .slice ab S.deps.length cb] 29)) rfl)
 generalize (W.alloc (.cells #[.int .i64 (S.w : Int), .slice ad S.deps.length cd, .slice at1 S.deps.length ct, .slice ab S.deps.length cb] 29)) = w1 at *
 go_wp2_with fail
 go_loopw [3, 4] (fun s3 i wr => ∃ k : Nat, i = .int .i64 k ∧ k ≤ S.deps.length ∧ Hid (LnM No W wr (W.heap.size + 1) S.w s3 (List.replicate k 0)) ∧ Hid (wr.heap[W.heap.size]? = some (.cells #[.int .i64 (S.w : Int), .slice ad S.deps.length cd, .slice at1 S.deps.length ct, .slice ab S.deps.length cb] 29 (0, 0)))) (fun _ i _ => S.deps.length - (intOf i).toNat)
 case atStart => exact ⟨0, rfl, Nat.zero_le _, Lib.hid ⟨HX.out, ⟨[], LOwn.nil _ _ _ _, rfl⟩, by omega, hww, fun m hm => by cases hm⟩, HA⟩
 case round =>
  clear HX HA
  obtain ⟨k, rfl, hk, hm, hA⟩ := hrel
  rename World => wr
  obtain ⟨a0, c0, hs0⟩ := hm.out.slice
  rw [List.length_replicate] at hs0
  subst hs0
  have cA := cellOf hA.out
  by_cases hlt : k < S.deps.length
  ·have hlz : (k : Int) < (S.deps.length : Int) := by omega
   go_wp2_with (first | ((go_at_call 41); (refine (rempty_any S.w _ hww).mono ?_); (rintro e2 w2 ⟨g, rfl, hb2, hlo2, hx2⟩); (have hs2 := Lib.hid (hb2.out.set (M := fun b => No b ∨ (Value.slice a0 k c0).ownBlock = some b) hww (Nat.two_pow_pos _) (fun e => by have := hm.out.hM HM.out g e; omega))); (have hm2 := Lib.hid (hm.out.step hx2)); (have hA2 := Lib.hid (hx2.blk hA.out no_no)); (obtain ⟨xs, hown, happ⟩ := hm2.out.own (m := 0)); (rw [List.length_replicate] at hown happ); (have HAPP := Lib.hid happ); (have HLT := Lib.hid hm2.out.lt); (have hlw : W.heap.size + 1 ≤ w2.heap.size := lt_of_block hA2.out); (clear cA happ hx2 hb2 hlo2)) | (at_builtin; (refine wpList_app _ rfl (.tmp 12) (.tmp 16) 27 rfl (W.heap.size + 1) 33 i0 _ 2 32 Try.underlying27 hi0 hz0 hz1 hz2 rfl (by omega) (.slice a0 k c0) k xs rfl (row_keep hown ((Ext.refl No _).alloc _) (fun _ _ x => x)) No (some ⟨w2.heap.size, 0, none⟩) 1 1 [.int .i64 (S.w : Int), .slice (some ⟨g, 0, none⟩) (nw S.w) (nw S.w)] rfl (Row.block (alloc_top rfl) rfl no_no (by omega)) (by simp [Value.oneCell']) (by omega) (by omega) (by simp; omega) ?_); (intro v1 w9 hown1 hg1 hv1); (have hm9 := Lib.hid (HAPP.out v1 _ _ _ w9 hs2.out hown1 hg1 hv1 (own_ext hm2.out.ext hg1 (fun b hb => (HLT.out b hb).1) (Nat.le_succ _)))); (have hA9 := Lib.hid (own_blk hA2.out hg1 (fun b hb => (HLT.out b hb).1) (Nat.lt_succ_self _))); (obtain ⟨a9, c9, hs9⟩ := hm9.out.slice); (rw [List.length_append, List.length_replicate] at hs9); (subst hs9); (clear hown1 hg1 hv1 hown)))
   go_roundw
   case rel => exact ⟨k + 1, by go_num, by omega, by rw [List.replicate_succ']; exact hm9, hA9⟩
   case measure => simp [intOf]; omega
  ·have hkk : k = S.deps.length := by omega
   have HK := Lib.hid hkk
   have hge : ¬ (k : Int) < (S.deps.length : Int) := by omega
   clear hkk
   go_wp2_with fail
   refine ret_ex rfl ?_
   simp [results, Try.results59, go_sem]
   have e := HK.out
   subst e
   obtain ⟨Q, h1, h2⟩ := hm.out.ex
   have hQl : Q.length = S.deps.length := by have := congrArg List.length h2; simpa using this
   have hok2 := HOK2.out.n1
   obtain ⟨g9, cap9, h3, h4, h5⟩ := h1.shape (by omega)
   simp only [Value.slice.injEq] at h3
   obtain ⟨rfl, -, rfl⟩ := h3
   exact ⟨g9, c0, Q, rfl, by omega, Lib.hid (by rw [hQl]; exact h1.lower' h4), Lib.hid (by rw [h2]; rfl), hm.out.ext⟩
/-- the values under way, in the row gv -/
structure SoR (S : SysD) (V wr : World) (sB gv cap : Nat) (sx : Array Value) (vs : List Nat) : Prop where
 ext : Ext No V wr
 box : wr.heap[sB]? = some (.cells sx 29 (0, 0))
 own : ∃ L : LS, LOwn kS No wr gv (.slice (some ⟨gv, 0, none⟩) L.length cap) L ∧ L.map Prod.fst = vs.map (setN S.w)
 good : GoodV S vs
 hw : S.w ≤ 256
 lo : sB < gv ∧ V.heap.size ≤ gv
section
variable {S : SysD} {V wr w' : World} {sB gv cap : Nat} {sx : Array Value} {vs : List Nat}
theorem SoR.stepNo (h : SoR S V wr sB gv cap sx vs) (hx : Ext No wr w') : SoR S V w' sB gv cap sx vs := by
 obtain ⟨L, h1, h2⟩ := h.own
 exact ⟨h.ext.transNo hx, hx.blk h.box no_no, ⟨L, h1.extNo hx, h2⟩, h.good, h.hw, h.lo⟩
theorem SoR.len {L : LS} (h : SoR S V wr sB gv cap sx vs) (he : L.map Prod.fst = vs.map (setN S.w)) : L.length = S.deps.length := by
 have := congrArg List.length he
 simp only [List.length_map] at this
 rw [this, h.good.len]
theorem SoR.sets (h : SoR S V wr sB gv cap sx vs) : SetsV No wr (.slice (some ⟨gv, 0, none⟩) S.deps.length cap) S.w vs := by
 obtain ⟨L, h1, h2⟩ := h.own
 have h3 := h1.list2 (M := No) (fun _ _ x => x) (fun _ x => x.elim)
 rw [h.len h2] at h3
 exact h3.setsV h2 h.hw h.good.lt
theorem SoR.lt (h : SoR S V wr sB gv cap sx vs) (hn : 1 ≤ S.deps.length) : gv < wr.heap.size := by
 obtain ⟨L, h1, h2⟩ := h.own
 exact (h1.lt gv rfl).2
theorem SoR.cell (h : SoR S V wr sB gv cap sx vs) {n : Nat} (hn : n < S.deps.length) : (∃ a c, wr.cell? ⟨gv, n * 2, none⟩ = some (.int .i64 (S.w : Int)) ∧ wr.cell? ⟨gv, n * 2 + 1, none⟩ = some (.slice a (nw S.w) c) ∧ Hid (SetAt No wr (.slice a (nw S.w) c) S.w (rowD vs n))) := by
 obtain ⟨b, off, cap, a, c, h1, ⟨h2, h3⟩, h4⟩ := h.sets.cells (i := n) (by rw [h.good.len]; exact hn)
 simp only [Value.slice.injEq, Option.some.injEq, Addr.mk.injEq] at h1
 obtain ⟨⟨rfl, rfl, -⟩, -, -⟩ := h1
 rw [Nat.zero_add] at h2 h3
 exact ⟨a, c, h2, h3, h4⟩
theorem SoR.free (h : SoR S V wr sB gv cap sx vs) (j : Nat) : wr.frozen? ⟨gv, j, none⟩ = false := by
 obtain ⟨L, h1, h2⟩ := h.own
 exact World.ownsRow.frozenAt h1.own j
theorem SoR.put (h : SoR S V wr sB gv cap sx vs) {n m : Nat} {a : Option Addr} {c : Nat} (hn : n < S.deps.length) (hs : SetAt (At gv) wr (.slice a (nw S.w) c) S.w m) :
  SoR S V ((wr.setCell ⟨gv, n * 2, none⟩ (.int .i64 (S.w : Int))).setCell ⟨gv, n * 2 + 1, none⟩ (.slice a (nw S.w) c)) sB gv cap sx (vs.set n m) := by
 obtain ⟨L, h1, h2⟩ := h.own
 have hl := h.len h2
 have hE : Ext (At gv) wr ((wr.setCell ⟨gv, n * 2, none⟩ (.int .i64 (S.w : Int))).setCell ⟨gv, n * 2 + 1, none⟩ (.slice a (nw S.w) c)) := ((Ext.refl (At gv) _).setAt _ _).setAt _ _
 have hlo := h.lo
 have hP : LOwn kS No ((wr.setCell ⟨gv, n * 2, none⟩ (.int .i64 (S.w : Int))).setCell ⟨gv, n * 2 + 1, none⟩ (.slice a (nw S.w) c)) gv (.slice (some ⟨gv, 0, none⟩) L.length cap) (L.set n (setN S.w m, .slice a (nw S.w) c)) := h1.putAll (i := n) (p := (setN S.w m, .slice a (nw S.w) c)) (by rw [hl]; exact hn) (hs.words.mono (fun i _ e => e.elim (fun x => x.elim) id))
 refine ⟨h.ext.trans2 hE (fun i hi e => by unfold At at e; omega), hE.blk h.box (by unfold At; omega), ⟨L.set n (setN S.w m, .slice a (nw S.w) c), by rw [List.length_set]; exact hP, by rw [List.map_set, h2, List.map_set]⟩, ⟨by rw [List.length_set]; exact h.good.len, fun k hk => ?_⟩, h.hw, hlo⟩
 rcases List.mem_or_eq_of_mem_set hk with h3 | h3
 ·exact h.good.lt k h3
 ·rw [h3]; exact hs.hm
end
end Go.Proofs.Ytkdjdhflhlbelaa

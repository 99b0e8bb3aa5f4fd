
import Derived.Test.YtmddchceacmopaaGreatDoorF8
import Derived.Test.YtmddchceacmopaaGreatDoorE4
set_option linter.unusedVariables false
set_option linter.unusedSimpArgs false
namespace Go.Proofs.YtmddchceacmopaaGreatDoor
open Go Go.RowKit
def HA (X : Nat) (vB vC : Value) : Nat → Prop := fun b => b ≤ X ∨ vB.ownBlock = some b ∨ vC.ownBlock = some b
section
variable {wr w' : World} {X : Nat} {vB vC v' : Value} {LB LC : LS} {p : RawSet × Value}
theorem HA_swap {X : Nat} {vB vC : Value} {b : Nat} (h : HA X vB vC b) : HA X vC vB b := by
 rcases h with e | e | e
 ·exact .inl e
 ·exact .inr (.inr e)
 exact .inr (.inl e)
end
end Go.Proofs.YtmddchceacmopaaGreatDoor

namespace Go.Proofs.YtmddchceacmopaaGreatDoor
open Go Go.RowKit
theorem asc_dep {S : SysD} (hS : SysOk S) {k : Nat} (hk : k < S.deps.length) : AscL (natsZ (depD S k)) S.deps.length :=
 hS.asc _ (by simp [depD, hk])
end Go.Proofs.YtmddchceacmopaaGreatDoor

namespace Go.Proofs.YtmddchceacmopaaGreatDoor
open Go Go.RowKit
theorem infoA8 : (Tryz.prog.info? 49).map (fun i => (i.zero, i.size, i.bytes)) = some (some (.agg #[.int .i64 0, .int .i64 0, .slice none 0 0, .int .i64 0, .slice none 0 0, .slice none 0 0]), 6, 96) := by kernel_rfl
theorem infoL8 : (Tryz.prog.info? 40).map (fun i => (i.zero, i.size, i.bytes)) = some (some (.slice none 0 0), 1, 24) := by kernel_rfl
structure Tw2 {β γ : Type} (K1 : EK β) (K2 : EK γ) (wr : World) (X : Nat) (vB vC : Value) (LB : List β) (LC : List γ) : Prop where
 b : LOwn K1 (HA X vB vC) wr (X + 1) vB LB
 c : LOwn K2 (HA X vB vC) wr (X + 1) vC LC
 bc : ∀ k, vB.ownBlock = some k → vC.ownBlock ≠ some k
section
variable {β γ : Type} {K1 : EK β} {K2 : EK γ} {wr w' : World} {X : Nat} {vB vC v' : Value} {LB : List β} {LC : List γ} {p : β} {q : γ}
theorem Tw2.step {M : Nat → Prop} (h : Tw2 K1 K2 wr X vB vC LB LC) (hx : Ext M wr w') (hM : ∀ i, i < wr.heap.size → M i → i ≤ X) : Tw2 K1 K2 w' X vB vC LB LC :=
 ⟨h.b.ext2 hx (fun i hi e => by have h1 := h.b.lt i hi; have := hM i h1.2 e; omega) (fun i hi e => .inl (hM i hi e)), h.c.ext2 hx (fun i hi e => by have h1 := h.c.lt i hi; have := hM i h1.2 e; omega) (fun i hi e => .inl (hM i hi e)), h.bc⟩
theorem Tw2.hM (h : Tw2 K1 K2 wr X vB vC LB LC) (hX : X < wr.heap.size) : ∀ b, HA X vB vC b → b < wr.heap.size := fun b hb => by
 rcases hb with hb | hb | hb
 ·omega
 ·exact (h.b.lt b hb).2
 exact (h.c.lt b hb).2
theorem Tw2.appB (h : Tw2 K1 K2 wr X vB vC LB LC) (hX : X < wr.heap.size) (hp : K1.ok (HA X vB vC) wr p) (hown : w'.ownsRow (X + 1) K1.T K1.s v' (LB.length + 1) (LB.flatMap K1.cells ++ K1.cells p)) (hg : wr.grownBy w' vB.ownBlock) (hv : v'.ownBlock = vB.ownBlock ∨ v'.ownBlock = some wr.heap.size) : Tw2 K1 K2 w' X v' vC (LB ++ [p]) LC := by
 have hE : Ext (fun k => vB.ownBlock = some k) wr w' := (Ext.refl _ wr).grown hg (fun k hk _ => hk)
 have hmA : ∀ i, i < wr.heap.size → HA X v' vC i → HA X vB vC i := fun i hi e => by
  rcases e with e | e | e
  ·exact .inl e
  ·rcases hv with hv | hv
   ·rw [hv] at e; exact .inr (.inl e)
   rw [hv] at e; simp only [Option.some.injEq] at e; omega
  exact .inr (.inr e)
 have h2 : LOwn K1 (HA X vB vC) w' (X + 1) v' (LB ++ [p]) := h.b.app (E := fun k => vB.ownBlock = some k) (K1.mono hp (fun i _ e => by
  rcases e with e | e
  ·exact e
  exact .inr (.inl e))) hown hE (fun _ e => e) (hv.imp id (fun hv k hk => by rw [hv] at hk; simp only [Option.some.injEq] at hk; omega))
 have h3 : LOwn K1 (HA X v' vC) w' (X + 1) v' (LB ++ [p]) := ⟨h2.own, fun q hq => K1.mono (h2.ok q hq) (fun i _ e => by
  rcases e with (e | e | e) | e
  ·exact .inl (.inl e)
  ·exact .inr e
  ·exact .inl (.inr (.inr e))
  exact .inr e)⟩
 have h4 : LOwn K2 (fun b => HA X v' vC b ∨ vB.ownBlock = some b) wr (X + 1) vC LC := h.c.mono (fun i hi e => by
  rcases e with e | e
  ·exact hmA i hi e
  exact .inr (.inl e))
 refine ⟨h3, (h4.ext2 hE (fun i hi e => h.bc i e hi) (fun i _ e => .inr e)).mono (fun i _ e => .inl e), fun k hk e => ?_⟩
 rcases hv with hv | hv
 ·rw [hv] at hk; exact h.bc k hk e
 rw [hv] at hk; simp only [Option.some.injEq] at hk; have := (h.c.lt k e).2; omega
theorem Tw2.swap (h : Tw2 K1 K2 wr X vB vC LB LC) : Tw2 K2 K1 wr X vC vB LC LB :=
 ⟨h.c.mono (fun i _ e => by rcases e with e | e | e; exact .inl e; exact .inr (.inr e); exact .inr (.inl e)), h.b.mono (fun i _ e => by rcases e with e | e | e; exact .inl e; exact .inr (.inr e); exact .inr (.inl e)), fun k hk e => h.bc k e hk⟩
theorem Tw2.appC (h : Tw2 K1 K2 wr X vB vC LB LC) (hX : X < wr.heap.size) (hp : K2.ok (HA X vB vC) wr q) (hown : w'.ownsRow (X + 1) K2.T K2.s v' (LC.length + 1) (LC.flatMap K2.cells ++ K2.cells q)) (hg : wr.grownBy w' vC.ownBlock) (hv : v'.ownBlock = vC.ownBlock ∨ v'.ownBlock = some wr.heap.size) : Tw2 K1 K2 w' X vB v' LB (LC ++ [q]) :=
 (h.swap.appB hX (K2.mono hp (fun _ _ e => HA_swap e)) hown hg hv).swap
theorem Tw2.carryA {β γ : Type} {K1 : EK β} {K : EK γ} {wr w' : World} {X : Nat} {vB vC v' sl : Value} {L : List γ} (hs : LAt K (HA X vB vC) wr sl L) (hg : wr.grownBy w' vB.ownBlock) (hv : v'.ownBlock = vB.ownBlock ∨ v'.ownBlock = some wr.heap.size) : LAt K (HA X v' vC) w' sl L := by
 have hE : Ext (fun k => vB.ownBlock = some k) wr w' := (Ext.refl _ wr).grown hg (fun k hk _ => hk)
 refine ((hs.mono (M' := fun b => HA X v' vC b ∨ vB.ownBlock = some b) (fun i hi e => ?_)).ext hE (fun i _ e => .inr e)).mono (fun i _ e => .inl e)
 rcases e with (e | e | e) | e
 ·exact .inl e
 ·rcases hv with hv | hv
  ·rw [hv] at e; exact .inr (.inl e)
  rw [hv] at e; simp only [Option.some.injEq] at e; omega
 ·exact .inr (.inr e)
 exact .inr (.inl e)
end
theorem copies_one (l : List (Int × Int)) : ∀ u ∈ flatC l, u.oneCell' = true := fun u hu => by
 obtain ⟨p, _, h⟩ := List.mem_flatMap.1 hu
 simp only [CopyC, List.mem_cons, List.not_mem_nil, or_false] at h
 rcases h with rfl | rfl <;> rfl
def ClonCPost (l : List (Int × Int)) (W : World) (e : Ending) (w' : World) : Prop := ∃ a c, e = .returned (.slice a l.length c) ∧ Hid (CopiesAt (Lo W.heap.size) w' (.slice a l.length c) l) ∧ Ext No W w'
set_option maxRecDepth 100000 in
set_option maxHeartbeats 1000000 in
theorem cloneC_any (sl : Value) (l : List (Int × Int)) (W : World) (h : CopiesAt No W sl l) (hn : l.length ≤ 1048576) :
  Calls Tryz.prog 59 #[sl] W (ClonCPost l W) := by
 obtain ⟨i0, hi, hz0, hz1, hz2⟩ := info_parts infoC
 have H := Lib.hid h
 obtain ⟨a, cap, rfl⟩ := Row.slice h
 clear h
 have ke := fun (w : World) (a : Option Addr) (n c : Nat) => Lib.run_eql_slice_nil (P := Tryz.prog) w 45 75 a n c 0 0 Tryz.underlying45
 cases a with
 | none =>
  have h0 : l.length = 0 := by
   rcases H.out.2.2 with ⟨a, c, h1, _, h2 | ⟨b, off, h2, _⟩⟩
   ·exact h2
   simp only [Value.slice.injEq] at h1; rw [h2] at h1; exact absurd h1.1 (by simp)
  have HL := Lib.hid (List.eq_nil_of_length_eq_zero h0)
  clear h0
  go_enter Tryz.func59, Tryz.ntmps59
  go_wp2
  go_ret
  refine ⟨none, 0, by rw [HL.out]; rfl, Lib.hid ?_, Ext.refl _ _⟩
  rw [HL.out]
  exact Row.nil _ _ _ _ _ (Nat.zero_le _)
 | some ad =>
  go_enter Tryz.func59, Tryz.ntmps59
  go_wp2_with (at_builtin; refine wpList_app _ rfl (.tmp 5) (.tmp 6) 45 rfl W.heap.size 75 i0 _ 2 16 Tryz.underlying45 hi hz0 hz1 hz2 rfl (by omega) _ 0 [] rfl (World.ownsRow_made W #[] 0 (Nat.le_refl _) (Nat.zero_le _) rfl) No (some ad) l.length cap (flatC l) rfl (Row.extNo H.out ((Ext.refl _ _).alloc _)) (copies_one l) (by omega) (by omega) (by simp) ?_; intro v1 w1 hown hg hat)
  go_ret
  simp only [Nat.zero_add, List.nil_append] at hown
  obtain ⟨a, c, rfl⟩ := (Row.ofOwns (M := No) hown (fun _ _ x => x)).slice
  exact ⟨a, c, rfl, Lib.hid (Row.ofOwns hown (fun b hb e => by unfold Lo at e; omega)), ((Ext.refl _ _).alloc _).grown hg (fun k hk hlt => by cases hk; exact absurd hlt (Nat.lt_irrefl _))⟩
end Go.Proofs.YtmddchceacmopaaGreatDoor

namespace Go.Proofs.YtmddchceacmopaaGreatDoor
open Go Go.RowKit
theorem infoE7 : (Tryz.prog.info? 3).map (fun i => (i.zero, i.size, i.bytes)) = some (some (.int .i64 0), 1, 8) := by kernel_rfl
def sumW (S : WebD) (k : Nat) : Nat := ((S.ins.take k).map List.length).sum
theorem sumW_succ {S : WebD} {k : Nat} (hk : k < S.ins.length) : sumW S (k + 1) = sumW S k + (arcW S k).length := by
 unfold sumW
 rw [List.take_succ_eq_append_getElem hk, List.map_append, List.sum_append]
 simp [arcW, hk]
theorem sumW_le {S : WebD} (hS : WebOk S) (k : Nat) : sumW S k ≤ 1024 := by
 have h := hS.tot
 have h2 : (S.ins.map List.length).sum = sumW S k + ((S.ins.drop k).map List.length).sum := by
  unfold sumW
  rw [← List.sum_append, ← List.map_append, List.take_append_drop]
 omega
theorem asc_row {S : WebD} (hS : WebOk S) {k : Nat} (hk : k < S.ins.length) : AscL (natsZ (froms (arcW S k))) S.ins.length := fun i h => by
 have hi : i < (froms (arcW S k)).length := by simpa [natsZ] using h
 have e : ∀ j (hj : j < (froms (arcW S k)).length), (natsZ (froms (arcW S k)))[j]'(by simpa [natsZ] using hj) = (((froms (arcW S k))[j] : Nat) : Int) := fun j hj => by simp [natsZ]
 have h1 : (froms (arcW S k)).Pairwise (· < ·) := by rw [arcW_get hk]; exact hS.asc _ (List.getElem_mem hk)
 rw [e i hi]
 have h2 : (froms (arcW S k))[i] < S.ins.length := by
  have := List.getElem_mem hi
  obtain ⟨p, hp, h3⟩ := List.mem_map.1 this
  rw [← h3]
  exact hS.dep hp
 refine ⟨by omega, by omega, fun h0 => ?_⟩
 rw [e (i - 1) (by omega)]
 have := List.pairwise_iff_getElem.1 h1 (i - 1) i (by omega) hi (by omega)
 omega
theorem fit_row {S : WebD} (hS : WebOk S) {L : LA} {i : Nat} (h : L.map cutA = arcsRow (arcW S i)) : ¬ ∃ (k : Nat) (hk : k < L.length), ¬ FitT (S.w : Int) L[k].2.1 := fun ⟨k, hk, e⟩ => e (by
 have h1 : cutA L[k] ∈ arcsRow (arcW S i) := by rw [← h]; exact List.mem_map.2 ⟨_, List.getElem_mem hk, rfl⟩
 obtain ⟨p, hp, he⟩ := List.mem_map.1 h1
 obtain ⟨h2, h3⟩ := hS.tr hp
 have h4 : L[k].2.1 = rawT p.2 := (congrArg Prod.snd he).symm
 rw [h4]
 exact ⟨validT_ok h2, by show ((p.2.w : Nat) : Int) = _; rw [h3]⟩)
set_option maxRecDepth 100000 in
set_option maxHeartbeats 8000000 in
theorem wvalid_yes (S : WebD) (vb vi : Value) (W : World) (h : WbAt No W vb vi S) :
  Calls Tryz.prog 10 #[.agg #[.int .i64 (S.w : Int), vb, vi]] W (BoolPost true W) := by
 obtain ⟨i0, hi0, hz0, hz1, hz2⟩ := info_parts infoE7
 have H := Lib.hid h
 obtain ⟨ab, cb, ai, ci, rfl, rfl⟩ := h.slices
 have hok := h.ok
 have HOK := Lib.hid hok
 have hnn := hok.n2
 have hn1 := hok.n1
 have hww := hok.w
 clear h hok
 go_enter Tryz.func10, Tryz.ntmps10
 go_wp2_with fail
 have hx0 : Ext No W (W.alloc (.cells #[.int .i64 (S.w : Int), .slice ab S.ins.length cb, .slice ai S.ins.length ci] 26)) := (Ext.refl _ _).alloc _
 have HB := Lib.hid (alloc_top (w := W) (o := .cells #[.int .i64 (S.w : Int), .slice ab S.ins.length cb, .slice ai S.ins.length ci] 26) rfl)
 have HX := Lib.hid hx0
 clear hx0
 generalize (W.alloc (.cells #[.int .i64 (S.w : Int), .slice ab S.ins.length cb, .slice ai S.ins.length ci] 26)) = V at *
 have hVs := lt_of_block HB.out
 refine (sized_any _ _ _).mono ?_
 rintro e1 w1 ⟨b1, rfl, hb1, hx1⟩
 cases b1 with
 | false => exact absurd ⟨by omega, by omega⟩ (tells_no hb1)
 | true =>
 clear hb1
 have HX1 := Lib.hid hx1
 have cB := cellOf (hx1.blk HB.out no_no)
 clear hx1
 go_wp2_with fail
 clear cB
 obtain ⟨Lb, hLb, hLm, hLl⟩ := (H.out.bnd.extNo (HX.out.transNo HX1.out)).list
 refine (sets_any _ _ Lb _ (by rw [HOK.out.lb] at *; exact hLb)).mono ?_
 rintro e2 w2 ⟨b2, rfl, hb2, hx2⟩
 cases b2 with
 | false => exact absurd (set_of_map hLm H.out.bnd.hw H.out.bnd.hm) (tells_no hb2)
 | true =>
 clear hb2 hLb hLm hLl
 have HX2 := Lib.hid (HX1.out.transNo hx2)
 clear hx2 HX1
 have cB := cellOf (HX2.out.blk HB.out no_no)
 go_wp2_with fail
 clear cB
 go_loopw [4, 6, 7, 9, 36] (fun s4 _ _ _ s36 wr => ∃ k : Nat, s36 = .int .i64 k ∧ s4 = .int .i64 (sumW S k : Int) ∧ k ≤ S.ins.length ∧ Hid (Ext No V wr)) (fun _ _ _ _ s36 _ => S.ins.length - (intOf s36).toNat)
 case atStart => exact ⟨0, rfl, rfl, Nat.zero_le _, HX2⟩
 clear HX2
 obtain ⟨k, rfl, rfl, hk, hx⟩ := hrel
 rename World => wr
 by_cases hlt : k < S.ins.length
 ·have hlz : (k : Int) < (S.ins.length : Int) := by omega
  have HKK : Hid (Value.int .i64 ((k : Int) + 1) = .int .i64 ((k + 1 : Nat) : Int)) := Lib.hid (by rw [show ((k + 1 : Nat) : Int) = (k : Int) + 1 from by omega])
  obtain ⟨bi, oi, ki, aA, cA, hve, ga, harc⟩ := (H.out.extNo HX.out).arcs hlt
  simp only [Value.slice.injEq] at hve
  obtain ⟨rfl, -, rfl⟩ := hve
  obtain ⟨n, hn⟩ : ∃ n, n = (arcW S k).length := ⟨_, rfl⟩
  have HN := Lib.hid hn
  rw [← hn] at harc ga
  replace ga := hx.out.keep ga
  have hs1 := sumW_succ hlt
  rw [← hn] at hs1
  have hs2 := sumW_le HOK.out (k + 1)
  clear hn
  go_wp2_with fail
  clear ga
  have hbs := hx.out.size
  go_loopw [7, 9, 42] (fun s7 _ i wx => ∃ j : Nat, i = .int .i64 j ∧ j ≤ n ∧ Hid (wx.ownsRow V.heap.size 3 1 s7 j (((natsZ (froms (arcW S k))).take j).map (.int .i64))) ∧ Hid (Ext No V wx)) (fun _ _ i _ => n - (intOf i).toNat)
  case atStart => exact ⟨0, rfl, Nat.zero_le _, Lib.hid (by simpa using World.ownsRow_nil _ _ _ _), hx⟩
  clear hx hbs
  obtain ⟨j, rfl, hj, hown, hx⟩ := hrel
  rename World => wx
  obtain ⟨s1, t1, hs7⟩ := (Row.ofOwns (M := No) hown.out (fun _ _ x => x)).slice
  subst hs7
  by_cases hlt2 : j < n
  ·have hjz : (j : Int) < (n : Int) := by omega
   have HJJ : Hid (Value.int .i64 ((j : Int) + 1) = .int .i64 ((j + 1 : Nat) : Int)) := Lib.hid (by rw [show ((j + 1 : Nat) : Int) = (j : Int) + 1 from by omega])
   have hjd : j < (arcW S k).length := by have := HN.out; omega
   obtain ⟨⟨m, f⟩, hmj⟩ : ∃ q : Nat × TrD, q = (arcW S k)[j] := ⟨_, rfl⟩
   have hmm : m = (froms (arcW S k))[j]'(by simpa [froms] using hjd) := by simp [froms, ← hmj]
   have HTK := Lib.hid (show ((natsZ (froms (arcW S k))).take (j + 1)).map (Value.int .i64) = ((natsZ (froms (arcW S k))).take j).map (Value.int .i64) ++ [.int .i64 (m : Int)] by
    rw [List.take_succ_eq_append_getElem (by simp [natsZ, froms]; exact hjd), List.map_append]
    simp [natsZ, hmm])
   obtain ⟨ba, oa, ka, ag, cg, ak, ck, ac, nc, cc, hve, gt, -, -⟩ := ArcsW.at (fun p hp => HOK.out.tr (i := k) hp) (harc.out.extNo hx.out) hjd hmj
   simp only [Value.slice.injEq] at hve
   obtain ⟨rfl, -, rfl⟩ := hve
   obtain ⟨q0, q1, q2, q3, q4, q5⟩ := gt
   clear hmj hmm
   go_upto_region 12 with (fail)
   clear q0 q1 q2 q3 q4 q5
   have hxF := hx.out.transNo ((Ext.refl No wx).alloc (.cells #[.int .i64 (m : Int), .int .i64 (S.w : Int), .slice ag (nw S.w) cg, .int .i64 (S.w : Int), .slice ak (nw S.w) ck, .slice ac nc cc] 49))
   have HF := Lib.hid (alloc_top (w := wx) (o := .cells #[.int .i64 (m : Int), .int .i64 (S.w : Int), .slice ag (nw S.w) cg, .int .i64 (S.w : Int), .slice ak (nw S.w) ck, .slice ac nc cc] 49) rfl)
   have HOWN := Lib.hid (row_keep hown.out ((Ext.refl No wx).alloc (.cells #[.int .i64 (m : Int), .int .i64 (S.w : Int), .slice ag (nw S.w) cg, .int .i64 (S.w : Int), .slice ak (nw S.w) ck, .slice ac nc cc] 49)) (fun _ _ x => x))
   have hbb := hxF.size
   have HXF := Lib.hid hxF
   clear hown hx hxF
   generalize (wx.alloc (.cells #[.int .i64 (m : Int), .int .i64 (S.w : Int), .slice ag (nw S.w) cg, .int .i64 (S.w : Int), .slice ak (nw S.w) ck, .slice ac nc cc] 49)) = wf at *
   generalize wx.heap.size = B6 at *
   have cF := cellOf HF.out
   go_wp2_with (at_builtin; (refine wpList_app _ rfl (.tmp 46) (.tmp 49) 22 rfl V.heap.size 3 i0 _ 1 8 Tryz.underlying22 hi0 hz0 hz1 hz2 rfl (by omega) (.slice s1 j t1) j (((natsZ (froms (arcW S k))).take j).map (.int .i64)) rfl (row_keep HOWN.out ((Ext.refl No _).alloc _) (fun _ _ x => x)) No (some ⟨wf.heap.size, 0, none⟩) 1 1 [.int .i64 (m : Int)] rfl (Row.block (alloc_top rfl) rfl no_no (by omega)) (by simp [Value.oneCell']) (by omega) (by omega) ?_ ?_); (first | exact hbb | (simp; omega)); (intro v1 w9 hown1 hg1 hv1); (have hm9 := Lib.hid (own_ext HXF.out hg1 (fun b hb => (World.ownsRow.lt HOWN.out b hb).1) (Nat.le_refl _))); (have ho9 := Lib.hid hown1); (clear hown1 hg1 hv1))
   go_roundw
   case rel => exact ⟨j + 1, HJJ.out, by omega, Lib.hid (by rw [HTK.out]; exact ho9.out), hm9⟩
   case measure => simp [intOf]; omega
  have hge : ¬ (j : Int) < (n : Int) := by omega
  have hjn : j = n := by omega
  have HI := Lib.hid (show Ints No wx .i64 (.slice s1 n t1) (natsZ (froms (arcW S k))) from by
   have h := Row.ofOwns (M := No) hown.out (fun _ _ x => x)
   have e2 := HN.out
   rw [hjn, List.take_of_length_le (by simp [natsZ, froms]; omega)] at h
   have e : (natsZ (froms (arcW S k))).length = n := by simp [natsZ, froms, e2]
   unfold Ints
   rw [e]
   exact h)
  have hadd : IntKind.i64.wrap ((sumW S k : Int) + (n : Int)) = (sumW S (k + 1) : Int) := by rw [IntWalk.i64_in _ (by omega)]; omega
  have HADD := Lib.hid (show Value.int .i64 ((sumW S k : Int) + (n : Int)) = .int .i64 (sumW S (k + 1) : Int) from by rw [show ((sumW S (k + 1) : Nat) : Int) = (sumW S k : Int) + (n : Int) from by omega])
  have hle : ¬ ((1024 : Int) < (sumW S (k + 1) : Int)) := by omega
  have cB := cellOf (hx.out.blk HB.out no_no)
  clear hown
  go_wp2_with fail
  clear cB
  refine (ascending_any _ _ _ _ HI.out).mono ?_
  rintro e3 w3 ⟨b3, rfl, hb3, hx3⟩
  cases b3 with
  | false => exact absurd (asc_row HOK.out hlt) (tells_no hb3)
  | true =>
  clear hb3
  have HX3 := Lib.hid (hx.out.transNo hx3)
  obtain ⟨La, hLa, hLc⟩ := harc.out.extNo HX3.out
  have cB := cellOf (HX3.out.blk HB.out no_no)
  have cB0 := cB 0
  have c0 := Lib.hid (show w3.cell? ⟨W.heap.size, 0, none⟩ = some (.int .i64 (S.w : Int)) from cellOf (HX3.out.blk HB.out no_no) 0)
  clear cB hx3 hx cB0
  go_wp2_with fail
  refine (containsA_any (S.w : Int) W.heap.size _ La _ hLa c0.out).mono ?_
  rintro e4 w4 ⟨b4, rfl, hb4, hx4⟩
  cases b4 with
  | true => exact absurd (tells_yes hb4) (fit_row HOK.out hLc)
  | false =>
  clear hb4
  have HX4 := Lib.hid (HX3.out.transNo hx4)
  clear hx4 hLa hLc
  go_wp2_with fail
  go_roundw
  case rel => exact ⟨k + 1, HKK.out, HADD.out, by omega, HX4⟩
  case measure => simp [intOf]; omega
 have hge : ¬ (k : Int) < (S.ins.length : Int) := by omega
 go_wp2_with fail
 go_ret
 exact ⟨rfl, HX.out.transNo hx.out⟩

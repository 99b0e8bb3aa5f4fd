
import Derived.Test.YtjeohlooaiociaaGreatDoorP21
set_option linter.unusedVariables false
set_option linter.unusedSimpArgs false
namespace Go.Proofs.YtjeohlooaiociaaGreatDoor
open Go Go.RowKit
set_option maxRecDepth 100000 in
set_option maxHeartbeats 4000000 in
theorem rSolve_any (M : Nat → Prop) (S : SysD) (vd vt vb : Value) (W : World) (hM : ∀ b, M b → b < W.heap.size) (h : SysAt M W vd vt vb S) :
  Calls Tryz.prog 41 #[.agg #[.int .i64 (S.w : Int), vd, vt, vb]] W (SolvePost M S W) := by
 have H := Lib.hid h
 have HM := Lib.hid hM
 have hok := h.ok
 have hn := hok.n2
 have HOK := Lib.hid hok
 obtain ⟨R, hR, hRle⟩ := fix_ex hok
 have HR := Lib.hid hR
 have hRb : R ≤ 65536 := Nat.le_trans hRle (Nat.le_trans (Nat.mul_le_mul hn hok.w) (by decide))
 obtain ⟨ad, cd, at1, ct, ab, cb, rfl, rfl, rfl⟩ := h.slices
 clear h hM hok hR hRle
 go_enter Tryz.func41, Tryz.ntmps41
 go_wp2_with fail
 have hx0 : Ext No W (W.alloc (.cells #[.int .i64 (S.w : Int), .slice ad S.deps.length cd, .slice at1 S.deps.length ct, .slice ab S.deps.length cb] 27)) := (Ext.refl _ _).alloc _
 refine (rvalidSys_yes S _ _ _ _ (H.out.no.extNo hx0)).mono ?_
 rintro e1 w1 ⟨rfl, hx1⟩
 have HA := Lib.hid (hx1.blk (alloc_top (w := W) (o := (.cells #[.int .i64 (S.w : Int), .slice ad S.deps.length cd, .slice at1 S.deps.length ct, .slice ab S.deps.length cb] 27)) rfl) no_no)
 have HX := Lib.hid (hx0.transNo hx1)
 clear hx0 hx1
 have cA := cellOf HA.out
 go_wp2_with fail
 clear cA
 refine (rEmptyV_any M S _ _ _ _ (fun b hb => Nat.lt_of_lt_of_le (HM.out b hb) HX.out.size) (H.out.no.extNo HX.out)).mono ?_
 rintro e2 w2 ⟨a2, c2, rfl, hs2, hx2⟩
 rw [show (zerosD S).length = S.deps.length from by simp [zerosD]] at hs2 ⊢
 have HS2 := Lib.hid (show SetsV M w2 _ S.w (iterD S 0) from hs2.out)
 have HA2 := Lib.hid (hx2.blk HA.out no_no)
 have HX2 := Lib.hid (HX.out.transNo hx2)
 clear hs2 hx2 HA HX
 go_wp2_with fail
 go_loopw [5, 6, 7, 8] (fun s5 s6 _ _ wr => ∃ (k : Nat) (a : Option Addr) (c : Nat), s5 = .slice a S.deps.length c ∧ s6 = .int .i64 k ∧ k ≤ R ∧ Hid (SetsV M wr (.slice a S.deps.length c) S.w (iterD S k)) ∧ Hid (∀ j, j < k → iterD S (j + 1) ≠ iterD S j) ∧ Hid (Ext No W wr) ∧ Hid (wr.heap[W.heap.size]? = some (.cells #[.int .i64 (S.w : Int), .slice ad S.deps.length cd, .slice at1 S.deps.length ct, .slice ab S.deps.length cb] 27 (0, 0)))) (fun _ s6 _ _ _ => R - (intOf s6).toNat)
 case atStart => exact ⟨0, a2, c2, rfl, rfl, Nat.zero_le _, HS2, Lib.hid (fun j hj => absurd hj (Nat.not_lt_zero _)), HX2, HA2⟩
 clear HS2 HX2 HA2
 obtain ⟨k, a3, c3, rfl, rfl, hk, hs3, hne, hx, hA⟩ := hrel
 rename World => wr
 have cA := cellOf hA.out
 go_wp2_with fail
 clear cA
 refine (rNext_any M S _ _ _ _ (iterD S k) _ (fun b hb => Nat.lt_of_lt_of_le (HM.out b hb) hx.out.size) (H.out.extNo hx.out) hs3.out.no (good_iter HOK.out k).len).mono ?_
 rintro e4 w4 ⟨a4, c4, rfl, hs4, hx4⟩
 rw [show (nextD S (iterD S k)).length = S.deps.length from nextTo_len _ _ _] at hs4 ⊢
 have HS4 := Lib.hid (show SetsV M w4 _ S.w (iterD S (k + 1)) from hs4.out)
 have HS3 := Lib.hid (hs3.out.extNo hx4)
 have HX4 := Lib.hid (hx.out.transNo hx4)
 have HA4 := Lib.hid (hx4.blk hA.out no_no)
 have hl1 := (good_iter HOK.out (k + 1)).len
 have HL1 := Lib.hid hl1
 clear hs4 hs3 hx hx4 hA hl1
 go_wp2_with fail
 refine (rsameSets_any S.w (iterD S (k + 1)) (iterD S k) _ _ _ HS4.out.no HS3.out.no (by rw [HL1.out]; omega)).mono ?_
 rintro e5 w5 ⟨rfl, hx5⟩
 by_cases he : iterD S (k + 1) = iterD S k
 ·rw [decide_eq_true he]
  have HE := Lib.hid he
  clear he
  go_wp2_with fail
  have hRk : k = R := HR.out.eq hne.out HE.out
  subst hRk
  refine ret_ex rfl ?_
  simp [results, Tryz.results41, go_sem]
  exact ⟨k, a3, c3, HR.out, rfl, Lib.hid (HS3.out.extNo hx5), HX4.out.transNo hx5⟩
 rw [decide_eq_false he]
 have HE := Lib.hid he
 have hkR : k < R := by
  rcases Nat.lt_or_ge k R with h | h
  ·exact h
  exfalso
  have : k = R := by omega
  subst this
  exact he HR.out.fix
 clear he
 have hadd : IntKind.i64.wrap ((k : Int) + 1) = ((k + 1 : Nat) : Int) := by rw [IntWalk.i64_in _ (by omega)]; omega
 go_wp2_with fail
 go_roundw
 case rel => exact ⟨k + 1, a4, c4, rfl, by go_num, by omega, Lib.hid (HS4.out.extNo hx5), Lib.hid (fun j hj => by
  by_cases e : j = k
  ·subst e; exact HE.out
  exact hne.out j (by omega)), Lib.hid (HX4.out.transNo hx5), Lib.hid (hx5.blk HA4.out no_no)⟩
 case measure => simp [intOf]; omega
end Go.Proofs.YtjeohlooaiociaaGreatDoor

namespace Go.Proofs.YtjeohlooaiociaaGreatDoor
open Go Go.RowKit
theorem infoD24 : (Tryz.prog.info? 22).map (fun i => (i.zero, i.size, i.bytes)) = some (some (.slice none 0 0), 1, 24) := by kernel_rfl
def rkA (S : SysD) (vs : List Nat) (R t n i : Nat) : Nat := if inI S n ((memD S vs n).getD i 0).toNat t = true then rkI S vs n i R else 0
def rkG (S : SysD) (vs : List Nat) (R t k j n i : Nat) : Nat := if n < k ∨ n = k ∧ i < j then rkA S vs R (t + 1) n i else rkA S vs R t n i
def RowsF (S : SysD) (vs : List Nat) (R' : LD) (f : Nat → Nat → Nat) : Prop := R'.length = S.deps.length ∧ ∀ n (h : n < R'.length), R'[n].1 = natsZ ((List.range (memD S vs n).length).map (f n))
theorem RowsF.congr {S : SysD} {vs : List Nat} {R' : LD} {f g : Nat → Nat → Nat} (h : RowsF S vs R' f) (hf : ∀ n, n < S.deps.length → ∀ i, i < (memD S vs n).length → f n i = g n i) : RowsF S vs R' g := ⟨h.1, fun n hn => by
 rw [h.2 n hn]
 congr 1
 refine List.map_congr_left (fun i hi => hf n (by rw [← h.1]; exact hn) i (List.mem_range.1 hi))⟩
theorem RowsF.put {S : SysD} {vs : List Nat} {R' : LD} {f g : Nat → Nat → Nat} {k j v : Nat} {sl : Value} (h : RowsF S vs R' f) (hk : k < R'.length) (hg : g k j = v) (ho : ∀ n i, ¬ (n = k ∧ i = j) → g n i = f n i) : RowsF S vs (R'.set k ((R'[k].1).set j (v : Int), sl)) g := by
 refine ⟨by rw [List.length_set]; exact h.1, fun n hn => ?_⟩
 have hn' : n < R'.length := by simpa using hn
 by_cases e : k = n
 ·subst e
  rw [List.getElem_set_self, h.2 k hk]
  simp only
  refine List.ext_getElem (by simp [natsZ]) (fun i h1 h2 => ?_)
  by_cases e2 : j = i
  ·subst e2
   rw [List.getElem_set_self]
   simp [natsZ, hg]
  rw [List.getElem_set_ne e2]
  simp only [natsZ, List.getElem_map, List.getElem_range]
  rw [ho k i (fun x => e2 x.2.symm)]
 rw [List.getElem_set_ne e, h.2 n hn']
 congr 1
 refine List.map_congr_left (fun i _ => ?_)
 rw [ho n i (fun x => e x.1.symm)]
theorem rkG_row {S : SysD} {vs : List Nat} {R t k : Nat} : ∀ n i, i < (memD S vs n).length → rkG S vs R t k (memD S vs k).length n i = rkG S vs R t (k + 1) 0 n i := fun n i hi => by
 unfold rkG
 by_cases e : n = k
 ·subst e
  rw [if_pos (.inr ⟨rfl, hi⟩), if_pos (.inl (by omega))]
 by_cases h : n < k
 ·rw [if_pos (.inl h), if_pos (.inl (by omega))]
 rw [if_neg (by omega), if_neg (by omega)]
theorem rkG_round {S : SysD} {vs : List Nat} {R t N : Nat} : ∀ n i, n < N → rkG S vs R t N 0 n i = rkG S vs R (t + 1) 0 0 n i := fun n i hn => by
 unfold rkG
 rw [if_pos (.inl hn), if_neg (by omega)]
theorem rkG_next {S : SysD} {vs : List Nat} {R t k j : Nat} : ∀ n i, ¬ (n = k ∧ i = j) → rkG S vs R t k (j + 1) n i = rkG S vs R t k j n i := fun n i h => by
 unfold rkG
 by_cases h1 : n < k ∨ n = k ∧ i < j
 ·rw [if_pos h1, if_pos (by omega)]
 rw [if_neg h1, if_neg (by omega)]
theorem rkG_hit {S : SysD} {vs : List Nat} {R t k j : Nat} (hS : SysOk S) (h : inI S k ((memD S vs k).getD j 0).toNat (t + 1) = true) (h2 : inI S k ((memD S vs k).getD j 0).toNat t = false) (hR : t + 1 ≤ R) : rkG S vs R t k (j + 1) k j = t := by
 unfold rkG
 rw [if_pos (.inr ⟨rfl, by omega⟩)]
 unfold rkA
 rw [if_pos h]
 have h3 := inI_le hS h (R - (t + 1))
 rw [show t + 1 + (R - (t + 1)) = R by omega] at h3
 exact rk_uniq (inI_zero S _ _) (inI_up hS) h3 h h2
theorem rkG_keep {S : SysD} {vs : List Nat} {R t k j : Nat} (hS : SysOk S) (h : ¬ (inI S k ((memD S vs k).getD j 0).toNat (t + 1) = true ∧ inI S k ((memD S vs k).getD j 0).toNat t = false)) : ∀ n i, rkG S vs R t k j n i = rkG S vs R t k (j + 1) n i := fun n i => by
 by_cases e : n = k ∧ i = j
 ·obtain ⟨rfl, rfl⟩ := e
  unfold rkG
  rw [if_neg (by omega), if_pos (.inr ⟨rfl, by omega⟩)]
  unfold rkA
  cases h1 : inI S n ((memD S vs n).getD i 0).toNat t with
  | true => rw [if_pos rfl, if_pos (inI_up hS _ h1)]
  | false =>
   have h2 : inI S n ((memD S vs n).getD i 0).toNat (t + 1) ≠ true := fun h2 => h ⟨h2, h1⟩
   rw [if_neg (by simp), if_neg h2]
 exact (rkG_next n i e).symm
structure MrM (w1 wr : World) (lv vr : Value) (R : LD) : Prop where
 ext : Ext No w1 wr
 pbox : wr.heap[w1.heap.size]? = some (.cells #[lv, vr] 29 (0, 0))
 r : RwM wr (w1.heap.size + 1) vr R
section
variable {w1 wr w' wa w2 : World} {lv vr v' : Value} {R : LD}
theorem MrM.stepNo (h : MrM w1 wr lv vr R) (hx : Ext No wr w') : MrM w1 w' lv vr R := ⟨h.ext.transNo hx, hx.blk h.pbox no_no, h.r.extNo hx⟩
theorem MrM.add {o : Obj} {p : List Int × Value} (h : MrM w1 wr lv vr R) (hx1 : Ext No wr wa) (hp : wa.ownsRow wr.heap.size 3 1 p.2 p.1.length (p.1.map (.int .i64))) (hpn : ∀ k, p.2.ownBlock = some k → wr.heap.size ≤ k)
  (hown : w2.ownsRow (w1.heap.size + 1) 22 1 v' (R.length + 1) (R.flatMap kD.cells ++ [p.2])) (hg : (wa.alloc o).grownBy w2 vr.ownBlock) (hv : v'.ownBlock = vr.ownBlock ∨ v'.ownBlock = some (wa.alloc o).heap.size) :
  MrM w1 (w2.setCell ⟨w1.heap.size, 1, none⟩ v') lv v' (R ++ [p]) ∧ w2.heap[w1.heap.size]? = some (.cells #[lv, vr] 29 (0, 0)) := by
 have hm := h.stepNo hx1
 have hQ := lt_of_block h.pbox
 have hs1 := hx1.size
 have hsz : (wa.alloc o).heap.size = wa.heap.size + 1 := by simp
 have hE : Ext (fun k => vr.ownBlock = some k) wa w2 := ((Ext.refl _ wa).alloc o).grown hg (fun k hk _ => hk)
 have hE2 : Ext (At w1.heap.size) w2 (w2.setCell ⟨w1.heap.size, 1, none⟩ v') := (Ext.refl (At w1.heap.size) _).setAt _ _
 have hlo : ∀ i, vr.ownBlock = some i → w1.heap.size + 1 ≤ i := fun i hi => (h.r.lt i (.inl hi)).1
 have hbQ := hE.blk hm.pbox (fun e => by have := hlo _ e; omega)
 have hp2 : wa.ownsRow (w1.heap.size + 1) 3 1 p.2 p.1.length (p.1.map (.int .i64)) := row_base hp (by omega)
 have hr2 : RwM w2 (w1.heap.size + 1) v' (R ++ [p]) := hm.r.add hp2 (fun b hb e => by have h5 := hpn b hb; have h6 := (h.r.lt b e).2; omega) hown hE (hv.imp id (fun hv k hk => by rw [hv] at hk; simp only [Option.some.injEq] at hk; omega))
 exact ⟨⟨(hm.ext.trans2 hE (fun i hi e => by have := hlo i e; omega)).trans2 hE2 (fun i hi e => by unfold At at e; omega), (set_same (j := 1) hbQ).trans rfl, hr2.ext hE2 (fun b hb e => by have := (hr2.lt b hb).1; unfold At at e; omega)⟩, hbQ⟩
theorem MrM.put {g cap i j : Nat} {l : List Int} (h : MrM w1 wr lv vr R) (hi : i < R.length) (hg : R[i] = (l, .slice (some ⟨g, 0, none⟩) l.length cap)) (z : Int) :
  MrM w1 (wr.setCell ⟨g, j, none⟩ (.int .i64 z)) lv vr (R.set i (l.set j z, .slice (some ⟨g, 0, none⟩) l.length cap)) ∧ w1.heap.size + 1 ≤ g := by
 have hE : Ext (At g) wr (wr.setCell ⟨g, j, none⟩ (.int .i64 z)) := (Ext.refl (At g) wr).setAt _ _
 have hgi : RwIn vr R g := .inr ⟨_, List.getElem_mem hi, by rw [hg]; rfl⟩
 have hgl := (h.r.lt g hgi).1
 exact ⟨⟨h.ext.trans2 hE (fun i hi e => by unfold At at e; omega), hE.blk h.pbox (fun (e : w1.heap.size = g) => by omega), h.r.put hi hg z⟩, hgl⟩
end
theorem row_made24 (w : World) (n : Nat) (hn : n ≤ 1000) : (w.alloc (.cells (rowP n (fun _ => .int .i64 0)) 3)).ownsRow w.heap.size 3 1 (.slice (some ⟨w.heap.size, 0, none⟩) n n) n ((natsZ ((List.range n).map fun _ => 0)).map (.int .i64)) := by
 refine ⟨by simp [natsZ], .inr ⟨w.heap.size, n, _, rfl, Nat.le_refl _, alloc_top rfl, Nat.le_refl _, by simp only [maxLen]; omega, by simp [rowP], ?_⟩⟩
 rw [List.take_of_length_le (by simp [rowP])]
 simp [rowP, natsZ, Function.comp_def]
theorem set2p24 (w : World) (C : Nat) (a b : Value) : Ext (At C) w ((w.setCell ⟨C, 0, none⟩ a).setCell ⟨C, 1, none⟩ b) := ((Ext.refl (At C) w).setAt 0 a).setAt 1 b
theorem fin2p24 {w : World} {C : Nat} {T : TypeId} {x0 x1 : Value} (h : w.heap[C]? = some (.cells #[x0, x1] T (0, 0))) (a b : Value) : ((w.setCell ⟨C, 0, none⟩ a).setCell ⟨C, 1, none⟩ b).heap[C]? = some (.cells #[a, b] T (0, 0)) :=
 (set_same (j := 1) (set_same (j := 0) h)).trans rfl
def Mid (a b : Nat) : Nat → Prop := fun i => a ≤ i ∧ i < b
set_option maxRecDepth 100000 in
set_option maxHeartbeats 16000000 in
theorem rmakeM_any (M : Nat → Prop) (S : SysD) (vd vt vb : Value) (W : World) (hM : ∀ b, M b → b < W.heap.size) (h : SysAt M W vd vt vb S) :
  Calls Tryz.prog 11 #[.agg #[.int .i64 (S.w : Int), vd, vt, vb]] W (MakePostM M S W) := by
 obtain ⟨iD, hiD, hD0, hD1, hD2⟩ := info_parts infoD24
 have H := Lib.hid h
 have HM := Lib.hid hM
 have HOK := Lib.hid h.ok
 have hnn := h.ok.n2
 have hn1 := h.ok.n1
 have hww := h.ok.w
 obtain ⟨ad, cd, at1, ct, ab, cb, rfl, rfl, rfl⟩ := h.slices
 clear h hM
 go_enter Tryz.func11, Tryz.ntmps11
 go_upto_region 1 with (fail)
 have hx0 : Ext No W ((W.alloc (.cells #[.int .i64 (S.w : Int), .slice ad S.deps.length cd, .slice at1 S.deps.length ct, .slice ab S.deps.length cb] 27)).alloc (.cells #[.slice none 0 0, .slice none 0 0] 29)) := ((Ext.refl _ _).alloc _).alloc _
 have HA := Lib.hid (show ((W.alloc (.cells #[.int .i64 (S.w : Int), .slice ad S.deps.length cd, .slice at1 S.deps.length ct, .slice ab S.deps.length cb] 27)).alloc (.cells #[.slice none 0 0, .slice none 0 0] 29)).heap[W.heap.size]? = some (.cells #[.int .i64 (S.w : Int), .slice ad S.deps.length cd, .slice at1 S.deps.length ct, .slice ab S.deps.length cb] 27 (0, 0)) from alloc_under (alloc_top rfl))
 have HC := Lib.hid (show ((W.alloc (.cells #[.int .i64 (S.w : Int), .slice ad S.deps.length cd, .slice at1 S.deps.length ct, .slice ab S.deps.length cb] 27)).alloc (.cells #[.slice none 0 0, .slice none 0 0] 29)).heap[W.heap.size + 1]? = some (.cells #[.slice none 0 0, .slice none 0 0] 29 (0, 0)) from alloc_top (by simp))
 generalize ((W.alloc (.cells #[.int .i64 (S.w : Int), .slice ad S.deps.length cd, .slice at1 S.deps.length ct, .slice ab S.deps.length cb] 27)).alloc (.cells #[.slice none 0 0, .slice none 0 0] 29)) = V at *
 have HX := Lib.hid hx0
 have cA := cellOf HA.out
 clear hx0
 go_wp2_with fail
 clear cA
 refine (rvalidSys_yes S _ _ _ V (H.out.no.extNo HX.out)).mono ?_
 rintro e1 w0 ⟨rfl, hx1⟩
 have HX1 := Lib.hid (HX.out.transNo hx1)
 have HA1 := Lib.hid (hx1.blk HA.out no_no)
 have HC1 := Lib.hid (hx1.blk HC.out no_no)
 clear hx1 HX HA HC
 have cA := cellOf HA1.out
 go_wp2_with fail
 clear cA
 refine (rSolve_any (fun b => b = W.heap.size + 1 ∨ M b) S _ _ _ w0 (fun b e => by
  rcases e with e | e
  ·rw [e]; exact lt_of_block HC1.out
  ·have h1 := HM.out b e; have h2 := HX1.out.size; omega) ((H.out.mono (M' := fun b => b = W.heap.size + 1 ∨ M b) (fun i hi e => by
  rcases e with e | e
  ·omega
  exact e)).extNo HX1.out)).mono ?_
 rintro e2 w1 ⟨R, av, cv, hR, rfl, hvs, hx2⟩
 have HX2 := Lib.hid (HX1.out.transNo hx2)
 have HA2 := Lib.hid (hx2.blk HA1.out no_no)
 have HC2 := Lib.hid (hx2.blk HC1.out no_no)
 have HFR := Lib.hid hR
 obtain ⟨vs, hv0⟩ : ∃ vs, vs = iterD S R := ⟨_, rfl⟩
 rw [← hv0] at hvs
 have HVE := Lib.hid hv0
 have HVS := Lib.hid hvs.out
 have HVL := Lib.hid (show vs.length = S.deps.length from by rw [hv0]; exact (good_iter HOK.out R).len)
 have HW1 := Lib.hid (lt_of_block HC2.out)
 obtain ⟨bv, ov, kv, _, _, hve0, -, -⟩ := hvs.out.cells (i := 0) (by rw [HVL.out]; exact hn1)
 rw [HVL.out] at hve0
 simp only [Value.slice.injEq] at hve0
 obtain ⟨rfl, -, rfl⟩ := hve0
 have hR2 : (R : Int) ≤ 65536 := by
  obtain ⟨R2, h1, h2⟩ := fix_ex HOK.out
  have := HFR.out.eq h1.first h1.fix
  have h3 : S.deps.length * S.w ≤ 256 * 256 := Nat.mul_le_mul hnn hww
  omega
 obtain ⟨nn, hnn2⟩ : ∃ nn, nn = S.deps.length := ⟨_, rfl⟩
 have HNN := Lib.hid hnn2
 rw [← hnn2] at HVS hnn hn1 ⊢
 clear hx2 HX1 HA1 HC1 hvs hv0 hR hnn2
 go_upto_region 5 with (fail)
 have hxp : Ext No w1 (w1.alloc (.cells #[.slice (some ⟨bv, ov, none⟩) nn cv, .slice none 0 0] 29)) := (Ext.refl _ _).alloc _
 have HM0 := Lib.hid (show MrM w1 (w1.alloc (.cells #[.slice (some ⟨bv, ov, none⟩) nn cv, .slice none 0 0] 29)) (.slice (some ⟨bv, ov, none⟩) nn cv) (.slice none 0 0) [] from ⟨hxp, alloc_top rfl, RwM.nil _ _⟩)
 clear hxp
 generalize (w1.alloc (.cells #[.slice (some ⟨bv, ov, none⟩) nn cv, .slice none 0 0] 29)) = V3 at *
 go_wp2_with fail
 go_loopw [8] (fun i wr => ∃ (k : Nat) (v : Value) (R' : LD), k ≤ nn ∧ i = .int .i64 k ∧ Hid (R'.length = k ∧ ∀ n (h : n < R'.length), R'[n].1 = natsZ ((List.range (memD S vs n).length).map fun _ => 0)) ∧ Hid (MrM w1 wr (.slice (some ⟨bv, ov, none⟩) nn cv) v R')) (fun i _ => nn - (intOf i).toNat)
 case atStart => exact ⟨0, _, [], Nat.zero_le _, rfl, Lib.hid ⟨rfl, fun _ h => absurd h (Nat.not_lt_zero _)⟩, HM0⟩
 clear HM0
 obtain ⟨k, v, R', hk, rfl, hRl, hm⟩ := hrel
 rename World => wr
 obtain ⟨aR, cR, rfl⟩ := hm.out.r.slice
 rw [hRl.out.1] at hm
 by_cases hlt : k < nn
 ·have hlz : (k : Int) < (nn : Int) := by omega
  have HKK : Hid (Value.int .i64 ((k : Int) + 1) = .int .i64 ((k + 1 : Nat) : Int)) := Lib.hid (by rw [show ((k + 1 : Nat) : Int) = (k : Int) + 1 from by omega])
  have hkv : k < vs.length := by rw [HVL.out, ← HNN.out]; exact hlt
  obtain ⟨b0, o0, k0, a0, c0, hve, ⟨g0, g1⟩, hset⟩ := HVS.out.no.cells (i := k) hkv
  rw [HVL.out, ← HNN.out] at hve
  simp only [Value.slice.injEq, Option.some.injEq, Addr.mk.injEq] at hve
  obtain ⟨⟨rfl, rfl, -⟩, -, rfl⟩ := hve
  have HG0 := Lib.hid g0
  have HG1 := Lib.hid g1
  have HST := Lib.hid (hset.out.extNo hm.out.ext)
  have HB0 := Lib.hid (show bv < w1.heap.size from World.block_lt_of_cell? w1 ⟨bv, ov + k * 2, none⟩ g0)
  obtain ⟨cn, hcn⟩ : ∃ cn, cn = (memD S vs k).length := ⟨_, rfl⟩
  have hcl : cn ≤ 256 := by rw [hcn]; exact memD_len hww vs k
  have HCN := Lib.hid (show (rmT (rowD vs k) S.w).length = cn from hcn.symm)
  have HCE := Lib.hid hcn
  have hmk := mk_intsP cn (by omega)
  have HMKI := Lib.hid hmk
  have HPb := Lib.hid hm.out.pbox
  clear hcn hmk g0 g1 hset
  go_upto_region 8 with (fail)
  refine wp_region_heldL [12] (fun w' => Ext (fun b => Value.ownBlock (.slice aR k cR) = some b) wr w') (by kernel_rfl) ?_ (fun hHeld => ?_)
  ·exact (Ext.refl No _).drew.ofNo
  have HE := Lib.hid (show Ext No wr wr.drew from (Ext.refl No _).drew)
  generalize wr.drew = v0 at *
  refine hHs [0] (hHl hHeld ?_)
  clear hHeld
  refine hFn ?_ (fun w => ?_) ?_
  rotate_left
  ·go_simp; (try with_reducible rfl)
  simp only [Act.put, nzA, nzB, nzC]
  refine hHe fun hHeld => ?_
  refine hHs [1] (hHl hHeld ?_)
  clear hHeld
  refine hHn ?_ (fun w hSw => ?_) ?_
  rotate_left
  ·(have q0 := cellOf (hSw.blk HPb.out (fun e => by have := (hm.out.r.lt _ (.inl e)).1; omega))); go_simp; (try with_reducible rfl)
  simp only [Act.put, nzA, nzB, nzC]
  refine hHe fun hHeld => ?_
  refine hHs [2, 3, 4] (hHl hHeld ?_)
  clear hHeld
  iterate 3
   refine hFn ?_ (fun w => ?_) ?_
   rotate_left
   ·go_simp; (try with_reducible rfl)
   simp only [Act.put, nzA, nzB, nzC]
  refine hHe fun hHeld => ?_
  refine hHs [5] (hHl hHeld ?_)
  clear hHeld
  refine hHn ?_ (fun w hSw => ?_) ?_
  rotate_left
  ·(have hneE : ¬ (fun b => Value.ownBlock (.slice aR k cR) = some b) bv := fun (e : Value.ownBlock (.slice aR k cR) = some bv) => by have h8 := (hm.out.r.lt _ (.inl e)).1; have h9 := HB0.out; omega); (have q0 := (show Ext (fun b => Value.ownBlock (.slice aR k cR) = some b) wr _ from hSw).keepM (hm.out.ext.keep HG0.out) hneE); (have q1 := (show Ext (fun b => Value.ownBlock (.slice aR k cR) = some b) wr _ from hSw).keepM (hm.out.ext.keep HG1.out) hneE); go_simp; (try with_reducible rfl)
  simp only [Act.put, nzA, nzB, nzC]
  refine hHe fun hHeld => ?_
  refine heldL_next1 (i := 6) (by kernel_rfl) (NextL.mk rfl rfl (fun K hK => ?_))
  (go_simp; (go_at_call 22); (refine (rmemL_any No S.w (rowD vs k) _ _ (fun _ e => e.elim) (HST.out.extNo HE.out)).mono ?_); (rintro e7 v1 ⟨a7, c7, rfl, -, hyA⟩); (rw [HCN.out]); go_simp)
  refine hK.out _ _ ?_ ?_
  ·intro _; exact (show Ext (fun b => Value.ownBlock (.slice aR k cR) = some b) wr _ from (HE.out.transNo hyA).ofNo)
  clear hK K hHeld
  intro hHeld
  replace HE := Lib.hid (HE.out.transNo hyA)
  clear hyA
  try simp only [Act.put, nzA, nzB, nzC]
  refine hHs [7] (hHl hHeld ?_)
  clear hHeld
  refine hFn ?_ (fun w => ?_) ?_
  rotate_left
  ·go_simp; (try with_reducible rfl)
  simp only [Act.put, nzA, nzB, nzC]
  refine hHe fun hHeld => ?_
  refine heldL_next1 (i := 8) (by kernel_rfl) (NextL.mk rfl rfl (fun K hK => ?_))
  ((have hmk := HMKI.out); go_simp; (clear hmk))
  refine hK.out _ _ ?_ ?_
  ·intro _; exact (show Ext (fun b => Value.ownBlock (.slice aR k cR) = some b) wr _ from (HE.out.alloc _).ofNo)
  clear hK K hHeld
  intro hHeld
  have hEV : wr.heap.size ≤ v1.heap.size := HE.out.size
  have hO := Lib.hid (row_made24 v1 cn (by omega))
  replace HE := Lib.hid (HE.out.alloc (.cells (rowP cn (fun _ => .int .i64 0)) 3))
  generalize (v1.alloc (.cells (rowP cn (fun _ => .int .i64 0)) 3)) = v2 at *
  generalize v1.heap.size = GB at *
  try simp only [Act.put, nzA, nzB, nzC]
  refine heldL_next1 (i := 9) (by kernel_rfl) (NextL.mk rfl rfl (fun K hK => ?_))
  go_simp
  refine hK.out _ _ ?_ ?_
  ·intro _; exact (show Ext (fun b => Value.ownBlock (.slice aR k cR) = some b) wr _ from (HE.out.alloc _).ofNo)
  clear hK K hHeld
  intro hHeld
  try simp only [Act.put, nzA, nzB, nzC]
  refine heldL_next1 (i := 10) (by kernel_rfl) (NextL.mk rfl rfl (fun K hK => ?_))
  ((have hmA := (hm.out.stepNo HE.out).stepNo ((Ext.refl No v2).alloc (.cells #[.slice (some ⟨GB, 0, none⟩) cn cn] 22))); (have hoA := hmA.r.own); (rw [hRl.out.1] at hoA); (have hbs := lt_of_block hmA.pbox); (refine wp_app _ (.tmp 35) (.tmp 43) 23 rfl (w1.heap.size + 1) 22 iD _ 1 24 Tryz.underlying23 hiD hD0 hD1 hD2 rfl (by omega) (.slice aR k cR) k (R'.flatMap kD.cells) rfl hoA No (some ⟨v2.heap.size, 0, none⟩) 1 1 [.slice (some ⟨GB, 0, none⟩) cn cn] rfl (Row.block (alloc_top rfl) rfl no_no (by omega)) (by simp [Value.oneCell']) (by omega) (by omega) (by omega) ?_); (intro v9 w9 hown2 hg2 hv2); (clear hmA hoA hbs))
  refine hK.out _ _ ?_ ?_
  ·intro _; exact (show Ext (fun b => Value.ownBlock (.slice aR k cR) = some b) wr _ from (HE.out.ofNo).trans (((Ext.refl _ _).alloc (.cells #[.slice (some ⟨GB, 0, none⟩) cn cn] 22)).grown hg2 (fun bq hk _ => hk)))
  clear hK K hHeld
  intro hHeld
  have hln : (natsZ ((List.range cn).map fun _ => 0)).length = cn := by simp [natsZ]
  have hadd := hm.out.add (p := (natsZ ((List.range cn).map fun _ => 0), .slice (some ⟨GB, 0, none⟩) cn cn)) HE.out (by have h := row_base hO.out hEV; simp only; rw [hln]; exact h) (fun q hq => Nat.le_trans hEV (World.ownsRow.lt hO.out q hq).1) (by rw [hRl.out.1]; exact hown2) hg2 hv2
  obtain ⟨aS, cS, hs9⟩ := (Row.ofOwns (M := No) hown2 (fun _ _ x => x)).slice
  subst hs9
  have hADD := Lib.hid hadd.1
  have hQ9 := Lib.hid hadd.2
  clear hadd hown2 hg2 hv2 hln
  try simp only [Act.put, nzA, nzB, nzC]
  refine hHs [11] (hHl hHeld ?_)
  clear hHeld
  refine hFn ?_ (fun w => ?_) ?_
  rotate_left
  ·go_simp; (try with_reducible rfl)
  simp only [Act.put, nzA, nzB, nzC]
  refine hHe fun hHeld => ?_
  refine heldL_next1 (i := 12) (by kernel_rfl) (NextL.mk rfl rfl (fun K hK => ?_))
  ((have cS9 := cellOf hQ9.out); (have fS9 := freeOf hQ9.out); go_simp; (clear cS9 fS9))
  refine hK.out _ _ ?_ ?_
  ·exact fun h => absurd h (by decide)
  clear hK K hHeld
  intro hHeld
  try simp only [Act.put, nzA, nzB, nzC]
  refine heldL_done (by kernel_rfl) ?_ _
  go_wp2_with fail
  go_roundw
  case rel => exact ⟨k + 1, _, _, by omega, HKK.out, Lib.hid ⟨by rw [List.length_append, hRl.out.1]; rfl, fun n hn => by
   by_cases e : n < R'.length
   ·rw [List.getElem_append_left e]; exact hRl.out.2 n e
   obtain rfl : n = R'.length := by simp at hn; omega
   simp only [List.getElem_append_right (Nat.le_refl _), Nat.sub_self, List.getElem_singleton]
   rw [hRl.out.1, HCE.out]⟩, hADD⟩
  case measure => simp [intOf]; omega
 have hge : ¬ (k : Int) < (nn : Int) := by omega
 obtain rfl : k = nn := by omega
 obtain ⟨gR, c0, e0, hgR, -⟩ := hm.out.r.shape (by rw [hRl.out.1]; omega)
 simp only [Value.slice.injEq] at e0
 obtain ⟨rfl, -, rfl⟩ := e0
 have HRF := Lib.hid (show RowsF S vs R' (rkG S vs R 0 0 0) from ⟨by rw [hRl.out.1]; exact HNN.out, fun n hn => by
  rw [hRl.out.2 n hn]
  congr 1
  refine List.map_congr_left (fun i _ => ?_)
  unfold rkG rkA
  rw [if_neg (by omega), inI_zero, if_neg (by simp)]⟩)
 have HIN := Lib.hid (show ∀ b, RwIn (.slice (some ⟨gR, 0, none⟩) k cR) R' b → b < wr.heap.size from fun b hb => (hm.out.r.lt b hb).2)
 have HA3 := Lib.hid (hm.out.ext.blk HA2.out no_no)
 have cA := cellOf HA3.out
 go_wp2_with fail
 clear cA
 refine (rEmptyV_any (Mid w1.heap.size wr.heap.size) S _ _ _ wr (fun b e => e.2) (H.out.no.extNo (HX2.out.transNo hm.out.ext))).mono ?_
 rintro e3 w3 ⟨a3, c3, rfl, hz3, hx3⟩
 have hzl : (zerosD S).length = k := by rw [HNN.out]; simp [zerosD]
 have hz4 := hz3.out
 rw [hzl] at hz4 ⊢
 have HZ3 := Lib.hid hz4
 have HM3 := Lib.hid (hm.out.stepNo hx3)
 have HXS := Lib.hid (show wr.heap.size ≤ w3.heap.size from hx3.size)
 obtain ⟨X, hX⟩ : ∃ X, X = wr.heap.size := ⟨_, rfl⟩
 rw [← hX] at HZ3 HIN HXS
 clear hz4 hz3 hzl hx3 hm HA3 hRl hX
 go_wp2_with fail
 have HIX := Lib.hid (And.intro HIN.out HXS.out)
 have HR1 := Lib.hid (show (1 : Int) = (((0 : Nat) : Int) + 1) from by omega)
 go_loopw [9, 10, 11, 12, 13, 14, 15] (fun s9 s10 _ _ _ _ _ wx => ∃ (t : Nat) (a : Option Addr) (c : Nat) (R1 : LD), t ≤ R ∧ s9 = .slice a k c ∧ s10 = .int .i64 ((t : Int) + 1) ∧ Hid (SetsV (Mid w1.heap.size X) wx (.slice a k c) S.w (iterD S t)) ∧ Hid (MrM w1 wx (.slice (some ⟨bv, ov, none⟩) k cv) (.slice (some ⟨gR, 0, none⟩) k cR) R1) ∧ Hid (RowsF S vs R1 (rkG S vs R t 0 0)) ∧ Hid ((∀ b, RwIn (.slice (some ⟨gR, 0, none⟩) k cR) R1 b → b < X) ∧ X ≤ wx.heap.size)) (fun _ s10 _ _ _ _ _ _ => R + 1 - (intOf s10).toNat)
 case atStart => exact ⟨0, a3, c3, R', Nat.zero_le _, rfl, rfl, HZ3, HM3, HRF, HIX⟩
 clear HZ3 HM3 HRF HIX HIN HXS
 obtain ⟨t, a, c, R1, ht, rfl, rfl, hv, hm, hrf, hix⟩ := hrel
 rename World => wx
 go_wp2_with fail
 refine (rsameSets_any S.w (iterD S t) vs _ _ wx hv.out.no (HVS.out.no.extNo hm.out.ext) (by rw [(good_iter HOK.out t).len, ← HNN.out]; omega)).mono ?_
 rintro e4 w4 ⟨rfl, hx4⟩
 have hm4 := Lib.hid (hm.out.stepNo hx4)
 have hv4 := Lib.hid (hv.out.extNo hx4)
 have hix4 := Lib.hid (And.intro hix.out.1 (Nat.le_trans hix.out.2 hx4.size))
 clear hm hv hix hx4
 by_cases heq : iterD S t = vs
 ·rw [decide_eq_true heq]
  have HEQ := Lib.hid heq
  clear heq
  have hCb := hm4.out.ext.blk HC2.out no_no
  have cP := cellOf hm4.out.pbox
  have cC := cellOf hCb
  have fC := freeOf hCb
  go_wp2_with fail
  clear cP cC fC
  have hE := set2p24 w4 (W.heap.size + 1) (.slice (some ⟨bv, ov, none⟩) k cv) (.slice (some ⟨gR, 0, none⟩) k cR)
  have hbF := fin2p24 hCb (.slice (some ⟨bv, ov, none⟩) k cv) (.slice (some ⟨gR, 0, none⟩) k cR)
  generalize ((w4.setCell ⟨W.heap.size + 1, 0, none⟩ (.slice (some ⟨bv, ov, none⟩) k cv)).setCell ⟨W.heap.size + 1, 1, none⟩ (.slice (some ⟨gR, 0, none⟩) k cR)) = WF at *
  have cF := cellOf hbF
  have hW1 := HW1.out
  refine ret_ex rfl ?_
  simp [results, Tryz.results11, go_sem, cF]
  have hvF : SetsV M WF (.slice (some ⟨bv, ov, none⟩) k cv) S.w (iterD S R) := by
   rw [← HVE.out]
   exact ((HVS.out.extNo hm4.out.ext).ext hE (fun i _ e => .inl e)).mono (fun i _ e => .inr e)
  have hrF : LAt kD M WF (.slice (some ⟨gR, 0, none⟩) k cR) R1 := (hm4.out.r.ext hE (fun b hb e => by have := (hm4.out.r.lt b hb).1; unfold At at e; omega)).list (fun b hb e => by have h5 := (hm4.out.r.lt b hb).1; have h6 := HM.out b e; have h7 := HX2.out.size; omega)
  have hmem : ∀ n, n < S.deps.length → rkD R1 n = natsZ ((List.range (memD S (iterD S R) n).length).map fun i => rkI S (iterD S R) n i R) := fun n hn => by
   have hn2 : n < R1.length := by rw [hrf.out.1]; exact hn
   rw [rkD_get hn2, hrf.out.2 n hn2, ← HVE.out]
   congr 1
   refine List.map_congr_left (fun i hi => ?_)
   unfold rkG rkA
   rw [if_neg (by omega)]
   have hil : i < (memD S vs n).length := List.mem_range.1 hi
   obtain ⟨b, e1, _, e3⟩ := membersP_mem.1 (List.getElem_mem hil)
   rw [if_pos]
   have e4 : (memD S vs n).getD i 0 = (b : Int) := by
    have : (memD S vs n).getD i 0 = (memD S vs n)[i] := by simp [hil]
    rw [this]; exact e1
   rw [e4]
   unfold inI
   rw [HEQ.out]
   exact e3
  rw [HNN.out] at hvF hrF ⊢
  exact ⟨R, some ⟨bv, ov, none⟩, some ⟨gR, 0, none⟩, cv, cR, R1, HFR.out, rfl, Lib.hid ⟨hvF, hrF, by rw [← HVE.out]; exact HVL.out, hrf.out.1, fun n hn => by rw [hmem n hn]; simp [natsZ]⟩, Lib.hid hmem, (HX2.out.transNo hm4.out.ext).trans2 hE (fun i hi e => by unfold At at e; omega)⟩
 rw [decide_eq_false heq]
 have htR : t < R := by
  rcases Nat.lt_or_ge t R with h | h
  ·exact h
  obtain rfl : t = R := by omega
  exact absurd HVE.out.symm heq
 clear heq
 have HTR : Hid (Value.int .i64 (((t : Int) + 1) + 1) = .int .i64 (((t + 1 : Nat) : Int) + 1)) := Lib.hid (by rw [show ((t + 1 : Nat) : Int) = (t : Int) + 1 from by omega])
 have cA := cellOf (hm4.out.ext.blk HA2.out no_no)
 go_wp2_with fail
 clear cA
 refine (rNext_any (Mid w1.heap.size X) S _ _ _ _ (iterD S t) w4 (fun b e => Nat.lt_of_lt_of_le e.2 hix4.out.2) ((H.out.mono (M' := (Mid w1.heap.size X)) (fun i hi e => by have h5 := HX2.out.size; have h6 := e.1; omega)).extNo (HX2.out.transNo hm4.out.ext)) hv4.out.no (good_iter HOK.out t).len).mono ?_
 rintro e5 w5 ⟨a5, c5, rfl, hs5, hx5⟩
 have hl5 : (nextD S (iterD S t)).length = k := by rw [HNN.out]; exact nextTo_len _ _ _
 rw [hl5] at hs5 ⊢
 have hw5 := Lib.hid (show SetsV (Mid w1.heap.size X) w5 (.slice a5 k c5) S.w (iterD S (t + 1)) from hs5.out)
 have hm5 := Lib.hid (hm4.out.stepNo hx5)
 have hv5 := Lib.hid (hv4.out.extNo hx5)
 have hix5 := Lib.hid (And.intro hix4.out.1 (Nat.le_trans hix4.out.2 hx5.size))
 clear hm4 hv4 hix4 hs5 hx5 hl5
 go_wp2_with fail
 go_loopw [13, 14, 15] (fun i _ _ wy => ∃ (n : Nat) (R1 : LD), n ≤ k ∧ i = .int .i64 n ∧ Hid (SetsV (Mid w1.heap.size X) wy (.slice a k c) S.w (iterD S t)) ∧ Hid (SetsV (Mid w1.heap.size X) wy (.slice a5 k c5) S.w (iterD S (t + 1))) ∧ Hid (MrM w1 wy (.slice (some ⟨bv, ov, none⟩) k cv) (.slice (some ⟨gR, 0, none⟩) k cR) R1) ∧ Hid (RowsF S vs R1 (rkG S vs R t n 0)) ∧ Hid ((∀ b, RwIn (.slice (some ⟨gR, 0, none⟩) k cR) R1 b → b < X) ∧ X ≤ wy.heap.size)) (fun i _ _ _ => k - (intOf i).toNat)
 case atStart => exact ⟨0, R1, Nat.zero_le _, rfl, hv5, hw5, hm5, hrf, hix5⟩
 clear hv5 hw5 hm5 hrf hix5
 obtain ⟨n, R1, hn, rfl, hv, hw, hm, hrf, hix⟩ := hrel
 rename World => wy
 by_cases hltn : n < k
 ·have hlzn : (n : Int) < (k : Int) := by omega
  have HNK : Hid (Value.int .i64 ((n : Int) + 1) = .int .i64 ((n + 1 : Nat) : Int)) := Lib.hid (by rw [show ((n + 1 : Nat) : Int) = (n : Int) + 1 from by omega])
  have hnv : n < vs.length := by rw [HVL.out, ← HNN.out]; exact hltn
  obtain ⟨b0, o0, k0, a0, c0, hve, ⟨g0, g1⟩, hset⟩ := (HVS.out.no.extNo hm.out.ext).cells (i := n) hnv
  rw [HVL.out, ← HNN.out] at hve
  simp only [Value.slice.injEq, Option.some.injEq, Addr.mk.injEq] at hve
  obtain ⟨⟨rfl, rfl, -⟩, -, rfl⟩ := hve
  go_wp2_with fail
  clear g0 g1
  refine (rmemL_any (Mid w1.heap.size X) S.w (rowD vs n) _ wy (fun b e => Nat.lt_of_lt_of_le e.2 hix.out.2) hset.out).mono ?_
  rintro e6 w6 ⟨a6, c6, rfl, hms, hx6⟩
  obtain ⟨ms, hmse⟩ : ∃ ms, ms = rmT (rowD vs n) S.w := ⟨_, rfl⟩
  rw [← hmse] at hms ⊢
  have hml : ms.length ≤ 256 := by rw [hmse]; exact memD_len hww vs n
  have HMS := Lib.hid (show memD S vs n = ms from hmse.symm)
  have hm6 := Lib.hid (hm.out.stepNo hx6)
  have hv6 := Lib.hid (hv.out.extNo hx6)
  have hw6 := Lib.hid (hw.out.extNo hx6)
  have hix6 := Lib.hid (And.intro hix.out.1 (Nat.le_trans hix.out.2 hx6.size))
  clear hm hv hw hix hx6 hset hmse
  go_wp2_with fail
  go_loopw [15] (fun i wz => ∃ (j : Nat) (R1 : LD), j ≤ ms.length ∧ i = .int .i64 j ∧ Hid (Ints (Mid w1.heap.size X) wz .i64 (.slice a6 ms.length c6) ms) ∧ Hid (SetsV (Mid w1.heap.size X) wz (.slice a k c) S.w (iterD S t)) ∧ Hid (SetsV (Mid w1.heap.size X) wz (.slice a5 k c5) S.w (iterD S (t + 1))) ∧ Hid (MrM w1 wz (.slice (some ⟨bv, ov, none⟩) k cv) (.slice (some ⟨gR, 0, none⟩) k cR) R1) ∧ Hid (RowsF S vs R1 (rkG S vs R t n j)) ∧ Hid ((∀ b, RwIn (.slice (some ⟨gR, 0, none⟩) k cR) R1 b → b < X) ∧ X ≤ wz.heap.size)) (fun i _ => ms.length - (intOf i).toNat)
  case atStart => exact ⟨0, R1, Nat.zero_le _, rfl, hms, hv6, hw6, hm6, hrf, hix6⟩
  clear hms hv6 hw6 hm6 hrf hix6
  obtain ⟨j, R1, hj, rfl, hms, hv, hw, hm, hrf, hix⟩ := hrel
  rename World => wz
  by_cases hltj : j < ms.length
  ·have hjz : (j : Int) < (ms.length : Int) := by omega
   have HJJ : Hid (Value.int .i64 ((j : Int) + 1) = .int .i64 ((j + 1 : Nat) : Int)) := Lib.hid (by rw [show ((j + 1 : Nat) : Int) = (j : Int) + 1 from by omega])
   obtain ⟨bm, om, km, hme, -, -, hcm⟩ := Ints.at hms.out hltj
   simp only [Value.slice.injEq] at hme
   obtain ⟨rfl, -, -⟩ := hme
   have q0 := hcm j hltj
   obtain ⟨x, hxx⟩ : ∃ x, x = ms[j] := ⟨_, rfl⟩
   rw [← hxx] at q0
   have hxm : x ∈ membersN S.w (rowD vs n) := by
    have h5 : x ∈ memD S vs n := by rw [HMS.out, hxx]; exact List.getElem_mem _
    exact h5
   obtain ⟨bx, hbx, hbw, -⟩ := membersP_mem.1 hxm
   have HGD := Lib.hid (show (memD S vs n).getD j 0 = x from by rw [HMS.out, hxx]; simp [hltj])
   have HHZ := Lib.hid (show ∀ q, hasZ S.w (rowD (iterD S q) n) x = inI S n ((memD S vs n).getD j 0).toNat q from fun q => by
    rw [HGD.out]
    unfold hasZ inI
    rw [show inB S.w x = true from by simp [inB, hbx]; omega, Bool.true_and])
   obtain ⟨b1, o1, k1, a1, c1, hve1, ⟨n0, n1⟩, hset1⟩ := hw.out.cells (i := n) (by rw [(good_iter HOK.out (t + 1)).len, ← HNN.out]; exact hltn)
   rw [(good_iter HOK.out (t + 1)).len, ← HNN.out] at hve1
   simp only [Value.slice.injEq] at hve1
   obtain ⟨rfl, -, rfl⟩ := hve1
   obtain ⟨b2, o2, k2, a2, c2, hve2, ⟨p0, p1⟩, hset2⟩ := hv.out.cells (i := n) (by rw [(good_iter HOK.out t).len, ← HNN.out]; exact hltn)
   rw [(good_iter HOK.out t).len, ← HNN.out] at hve2
   simp only [Value.slice.injEq] at hve2
   obtain ⟨rfl, -, rfl⟩ := hve2
   have HQ0 := Lib.hid q0
   have HN0 := Lib.hid n0
   have HN1 := Lib.hid n1
   have HP0 := Lib.hid p0
   have HP1 := Lib.hid p1
   have HS1 := Lib.hid hset1.out.no
   have HS2 := Lib.hid hset2.out.no
   clear q0 n0 n1 p0 p1 hcm hxx hxm hbx hbw hset1 hset2
   cases hh1 : inI S n ((memD S vs n).getD j 0).toNat (t + 1) with
   | false =>
    have HH1 := Lib.hid hh1
    have HV1 := Lib.hid ((HHZ.out (t + 1)).trans hh1)
    clear hh1
    go_upto_region 21 with (fail)
    refine wp_region_held_drew (S := (fun w' => Ext No wz w')) (by kernel_rfl) ?_ (fun hHeld => ?_)
    ·exact (Ext.refl _ _).drew
    have HE := Lib.hid (show Ext No wz wz.drew from (Ext.refl No _).drew)
    generalize wz.drew = v0 at *
    refine hHs [0, 1, 2, 3, 4, 5, 6] ?_
    iterate 7
     refine hTn ?_ hHeld (fun w hSw => ?_) ?_
     rotate_left
     ·(have q0 := (show Ext No wz _ from hSw).keep HN0.out); (have q1 := (show Ext No wz _ from hSw).keep HN1.out); go_simp; (try with_reducible rfl)
     simp only [Act.put, nzA, nzB, nzC]
    refine hHe ?_
    refine hTk 7 ?_ hHeld (fun w hSw => ?_) ?_
    rotate_left
    ·(have x0 := (show Ext No wz _ from hSw).keep HQ0.out); go_simp; (try with_reducible rfl)
    simp only [Act.put, nzA, nzB, nzC]
    refine hHc 8 fun K hK => ?_
    (go_simp; (go_at_call 44); (refine (rhas_any S.w (rowD (iterD S (t + 1)) n) _ x _ (HS1.out.extNo HE.out)).mono ?_); (rintro e7 v1 ⟨rfl, hyA⟩); (rw [HV1.out]); go_simp)
    refine hK.out _ _ ?_ ?_
    ·exact HE.out.transNo hyA
    clear hK K hHeld
    intro hHeld
    replace HE := Lib.hid (HE.out.transNo hyA)
    clear hyA
    try simp only [Act.put, nzA, nzB, nzC]
    refine hTk 9 ?_ hHeld (fun w hSw => ?_) ?_
    rotate_left
    ·go_simp; (try with_reducible rfl)
    simp only [Act.put, nzA, nzB, nzC]
    refine hHs [10, 11, 12, 13, 14, 15, 16, 17, 18, 19] ?_
    iterate 10
     refine hSn hHeld ?_
     simp only [Act.put, nzA, nzB, nzC]
    refine hHe ?_
    refine hTk 20 ?_ hHeld (fun w hSw => ?_) ?_
    rotate_left
    ·go_simp; (try with_reducible rfl)
    simp only [Act.put, nzA, nzB, nzC]
    refine wpAnyH_done (by kernel_rfl) ?_ _
    have hm8 := Lib.hid (hm.out.stepNo HE.out)
    have hv8 := Lib.hid (hv.out.extNo HE.out)
    have hw8 := Lib.hid (hw.out.extNo HE.out)
    have hr8 := Lib.hid (show Ints (Mid w1.heap.size X) v1 .i64 _ ms from Row.extNo hms.out HE.out)
    have hix8 := Lib.hid (And.intro hix.out.1 (Nat.le_trans hix.out.2 HE.out.size))
    go_wp2_with fail
    go_roundw
    case rel => exact ⟨j + 1, R1, by omega, HJJ.out, hr8, hv8, hw8, hm8, Lib.hid (hrf.out.congr (fun n' _ i _ => rkG_keep HOK.out (fun h => by have := HH1.out; rw [this] at h; exact absurd h.1 (by simp)) n' i)), hix8⟩
    case measure => simp [intOf]; omega
   | true =>
    have HH1 := Lib.hid hh1
    have HV1 := Lib.hid ((HHZ.out (t + 1)).trans hh1)
    clear hh1
    cases hh2 : inI S n ((memD S vs n).getD j 0).toNat t with
    | true =>
     have HH2 := Lib.hid hh2
     have HV2 := Lib.hid ((HHZ.out t).trans hh2)
     clear hh2
     go_upto_region 21 with (fail)
     refine wp_region_held_drew (S := (fun w' => Ext No wz w')) (by kernel_rfl) ?_ (fun hHeld => ?_)
     ·exact (Ext.refl _ _).drew
     have HE := Lib.hid (show Ext No wz wz.drew from (Ext.refl No _).drew)
     generalize wz.drew = v0 at *
     refine hHs [0, 1, 2, 3, 4, 5, 6] ?_
     iterate 7
      refine hTn ?_ hHeld (fun w hSw => ?_) ?_
      rotate_left
      ·(have q0 := (show Ext No wz _ from hSw).keep HN0.out); (have q1 := (show Ext No wz _ from hSw).keep HN1.out); go_simp; (try with_reducible rfl)
      simp only [Act.put, nzA, nzB, nzC]
     refine hHe ?_
     refine hTk 7 ?_ hHeld (fun w hSw => ?_) ?_
     rotate_left
     ·(have x0 := (show Ext No wz _ from hSw).keep HQ0.out); go_simp; (try with_reducible rfl)
     simp only [Act.put, nzA, nzB, nzC]
     refine hHc 8 fun K hK => ?_
     (go_simp; (go_at_call 44); (refine (rhas_any S.w (rowD (iterD S (t + 1)) n) _ x _ (HS1.out.extNo HE.out)).mono ?_); (rintro e7 v1 ⟨rfl, hyA⟩); (rw [HV1.out]); go_simp)
     refine hK.out _ _ ?_ ?_
     ·exact HE.out.transNo hyA
     clear hK K hHeld
     intro hHeld
     replace HE := Lib.hid (HE.out.transNo hyA)
     clear hyA
     try simp only [Act.put, nzA, nzB, nzC]
     refine hHs [9, 10, 11, 12, 13, 14, 15, 16] ?_
     iterate 8
      refine hTn ?_ hHeld (fun w hSw => ?_) ?_
      rotate_left
      ·(have q0 := (show Ext No wz _ from hSw).keep HP0.out); (have q1 := (show Ext No wz _ from hSw).keep HP1.out); go_simp; (try with_reducible rfl)
      simp only [Act.put, nzA, nzB, nzC]
     refine hHe ?_
     refine hTk 17 ?_ hHeld (fun w hSw => ?_) ?_
     rotate_left
     ·(have x0 := (show Ext No wz _ from hSw).keep HQ0.out); go_simp; (try with_reducible rfl)
     simp only [Act.put, nzA, nzB, nzC]
     refine hHc 18 fun K hK => ?_
     (go_simp; (go_at_call 44); (refine (rhas_any S.w (rowD (iterD S (t)) n) _ x _ (HS2.out.extNo HE.out)).mono ?_); (rintro e7 v2 ⟨rfl, hyA⟩); (rw [HV2.out]); go_simp)
     refine hK.out _ _ ?_ ?_
     ·exact HE.out.transNo hyA
     clear hK K hHeld
     intro hHeld
     replace HE := Lib.hid (HE.out.transNo hyA)
     clear hyA
     try simp only [Act.put, nzA, nzB, nzC]
     refine hHs [19, 20] ?_
     iterate 2
      refine hTn ?_ hHeld (fun w hSw => ?_) ?_
      rotate_left
      ·go_simp; (try with_reducible rfl)
      simp only [Act.put, nzA, nzB, nzC]
     refine hHe ?_
     refine wpAnyH_done (by kernel_rfl) ?_ _
     have hm8 := Lib.hid (hm.out.stepNo HE.out)
     have hv8 := Lib.hid (hv.out.extNo HE.out)
     have hw8 := Lib.hid (hw.out.extNo HE.out)
     have hr8 := Lib.hid (show Ints (Mid w1.heap.size X) v2 .i64 _ ms from Row.extNo hms.out HE.out)
     have hix8 := Lib.hid (And.intro hix.out.1 (Nat.le_trans hix.out.2 HE.out.size))
     go_wp2_with fail
     go_roundw
     case rel => exact ⟨j + 1, R1, by omega, HJJ.out, hr8, hv8, hw8, hm8, Lib.hid (hrf.out.congr (fun n' _ i _ => rkG_keep HOK.out (fun h => by have := HH2.out; rw [this] at h; exact absurd h.2 (by simp)) n' i)), hix8⟩
     case measure => simp [intOf]; omega
    | false =>
     have HH2 := Lib.hid hh2
     have HV2 := Lib.hid ((HHZ.out t).trans hh2)
     clear hh2
     go_upto_region 21 with (fail)
     refine wp_region_held_drew (S := (fun w' => Ext No wz w')) (by kernel_rfl) ?_ (fun hHeld => ?_)
     ·exact (Ext.refl _ _).drew
     have HE := Lib.hid (show Ext No wz wz.drew from (Ext.refl No _).drew)
     generalize wz.drew = v0 at *
     refine hHs [0, 1, 2, 3, 4, 5, 6] ?_
     iterate 7
      refine hTn ?_ hHeld (fun w hSw => ?_) ?_
      rotate_left
      ·(have q0 := (show Ext No wz _ from hSw).keep HN0.out); (have q1 := (show Ext No wz _ from hSw).keep HN1.out); go_simp; (try with_reducible rfl)
      simp only [Act.put, nzA, nzB, nzC]
     refine hHe ?_
     refine hTk 7 ?_ hHeld (fun w hSw => ?_) ?_
     rotate_left
     ·(have x0 := (show Ext No wz _ from hSw).keep HQ0.out); go_simp; (try with_reducible rfl)
     simp only [Act.put, nzA, nzB, nzC]
     refine hHc 8 fun K hK => ?_
     (go_simp; (go_at_call 44); (refine (rhas_any S.w (rowD (iterD S (t + 1)) n) _ x _ (HS1.out.extNo HE.out)).mono ?_); (rintro e7 v1 ⟨rfl, hyA⟩); (rw [HV1.out]); go_simp)
     refine hK.out _ _ ?_ ?_
     ·exact HE.out.transNo hyA
     clear hK K hHeld
     intro hHeld
     replace HE := Lib.hid (HE.out.transNo hyA)
     clear hyA
     try simp only [Act.put, nzA, nzB, nzC]
     refine hHs [9, 10, 11, 12, 13, 14, 15, 16] ?_
     iterate 8
      refine hTn ?_ hHeld (fun w hSw => ?_) ?_
      rotate_left
      ·(have q0 := (show Ext No wz _ from hSw).keep HP0.out); (have q1 := (show Ext No wz _ from hSw).keep HP1.out); go_simp; (try with_reducible rfl)
      simp only [Act.put, nzA, nzB, nzC]
     refine hHe ?_
     refine hTk 17 ?_ hHeld (fun w hSw => ?_) ?_
     rotate_left
     ·(have x0 := (show Ext No wz _ from hSw).keep HQ0.out); go_simp; (try with_reducible rfl)
     simp only [Act.put, nzA, nzB, nzC]
     refine hHc 18 fun K hK => ?_
     (go_simp; (go_at_call 44); (refine (rhas_any S.w (rowD (iterD S (t)) n) _ x _ (HS2.out.extNo HE.out)).mono ?_); (rintro e7 v2 ⟨rfl, hyA⟩); (rw [HV2.out]); go_simp)
     refine hK.out _ _ ?_ ?_
     ·exact HE.out.transNo hyA
     clear hK K hHeld
     intro hHeld
     replace HE := Lib.hid (HE.out.transNo hyA)
     clear hyA
     try simp only [Act.put, nzA, nzB, nzC]
     refine hHs [19, 20] ?_
     iterate 2
      refine hTn ?_ hHeld (fun w hSw => ?_) ?_
      rotate_left
      ·go_simp; (try with_reducible rfl)
      simp only [Act.put, nzA, nzB, nzC]
     refine hHe ?_
     refine wpAnyH_done (by kernel_rfl) ?_ _
     have hm8 := Lib.hid (hm.out.stepNo HE.out)
     have hv8 := Lib.hid (hv.out.extNo HE.out)
     have hw8 := Lib.hid (hw.out.extNo HE.out)
     have hr8 := Lib.hid (show Ints (Mid w1.heap.size X) v2 .i64 _ ms from Row.extNo hms.out HE.out)
     have hix8 := Lib.hid (And.intro hix.out.1 (Nat.le_trans hix.out.2 HE.out.size))
     have hnR : n < R1.length := by rw [hrf.out.1, ← HNN.out]; exact hltn
     have hrow := hm8.out.r.row _ (List.getElem_mem hnR)
     have hcl := hrf.out.2 n hnR
     obtain ⟨d, hd⟩ : ∃ d, d = R1[n] := ⟨_, rfl⟩
     rw [← hd] at hrow hcl
     obtain ⟨l, dv⟩ := d
     simp only at hrow hcl
     have hll : l.length = ms.length := by rw [hcl, ← HMS.out]; simp [natsZ]
     obtain ⟨gn, cN, e0, hgn, -⟩ := own_shape20 hrow (by omega)
     subst e0
     have d0 : v2.cell? ⟨gR, n, none⟩ = some (.slice (some ⟨gn, 0, none⟩) l.length cN) := by
      have h := hm8.out.r
      rw [HNN.out, ← hrf.out.1] at h
      rw [h.cell hnR, ← hd]
     have z1 := World.ownsRow.cellAt hrow j (by omega)
     have z2 : (l.map (Value.int .i64))[j]? = some (.int .i64 (l[j]'(by omega))) := by simp [show j < l.length by omega]
     rw [z2] at z1
     have f1 := World.ownsRow.frozenAt hrow j
     have hput := hm8.out.put (i := n) (j := j) hnR hd.symm (t : Int)
     have hgX : gn < X := hix8.out.1 gn (.inr ⟨_, List.getElem_mem hnR, by rw [← hd]; rfl⟩)
     have hMg : (Mid w1.heap.size X) gn := ⟨by have := hput.2; omega, hgX⟩
     have hE : Ext (At gn) v2 (v2.setCell ⟨gn, j, none⟩ (.int .i64 (t : Int))) := (Ext.refl (At gn) _).setAt _ _
     have hv9 := Lib.hid (hv8.out.ext hE (fun i _ (e : i = gn) => by rw [e]; exact hMg))
     have hw9 := Lib.hid (hw8.out.ext hE (fun i _ (e : i = gn) => by rw [e]; exact hMg))
     have hr9 := Lib.hid (show Ints (Mid w1.heap.size X) _ .i64 _ ms from Row.ext hr8.out hE (fun i _ (e : i = gn) => by rw [e]; exact hMg))
     have hrf9 := Lib.hid (show RowsF S vs (R1.set n (l.set j (t : Int), .slice (some ⟨gn, 0, none⟩) l.length cN)) (rkG S vs R t n (j + 1)) from by
      have h := RowsF.put (sl := .slice (some ⟨gn, 0, none⟩) l.length cN) hrf.out hnR (rkG_hit (R := R) (j := j) HOK.out HH1.out HH2.out (by omega)) (fun n' i hne => rkG_next n' i hne)
      rw [← hd] at h
      exact h)
     have hix9 := Lib.hid (show (∀ b, RwIn (.slice (some ⟨gR, 0, none⟩) k cR) (R1.set n (l.set j (t : Int), .slice (some ⟨gn, 0, none⟩) l.length cN)) b → b < X) ∧ X ≤ (v2.setCell ⟨gn, j, none⟩ (.int .i64 (t : Int))).heap.size from ⟨fun b hb => by
      rcases hb with hb | ⟨q, hq, hb⟩
      ·exact hix8.out.1 b (.inl hb)
      rcases List.mem_or_eq_of_mem_set hq with hq | rfl
      ·exact hix8.out.1 b (.inr ⟨q, hq, hb⟩)
      exact hix8.out.1 b (.inr ⟨_, List.getElem_mem hnR, by rw [← hd]; exact hb⟩), Nat.le_trans hix8.out.2 hE.size⟩)
     have hm9 := Lib.hid hput.1
     have cP := cellOf hm8.out.pbox
     have htz : (t : Int) ≤ 65536 := by omega
     have hjl : (j : Int) < (l.length : Int) := by omega
     clear hput hE hMg hgX hrow hcl hd hm8 hv8 hw8 hr8 hix8 z2
     go_wp2_with fail
     clear cP d0 z1 f1 hjl
     go_roundw
     case rel => exact ⟨j + 1, _, by omega, HJJ.out, hr9, hv9, hw9, hm9, hrf9, hix9⟩
     case measure => simp [intOf]; omega
  have hgej : ¬ (j : Int) < (ms.length : Int) := by omega
  have hjj : j = ms.length := by omega
  have HJE := Lib.hid hjj
  clear hjj
  go_wp2_with fail
  go_roundw
  case rel => exact ⟨n + 1, R1, by omega, HNK.out, hv, hw, hm, Lib.hid (hrf.out.congr (fun n' _ i hi => by rw [HJE.out, ← HMS.out]; exact rkG_row n' i hi)), hix⟩
  case measure => simp [intOf]; omega
 have hge : ¬ (n : Int) < (k : Int) := by omega
 have hkk : n = k := by omega
 have HKE := Lib.hid hkk
 clear hkk
 go_wp2_with fail
 go_roundw
 case rel => exact ⟨t + 1, a5, c5, R1, by omega, rfl, HTR.out, hw, hm, Lib.hid (hrf.out.congr (fun n' hn' i _ => by rw [HKE.out, HNN.out]; exact rkG_round n' i hn')), hix⟩
 case measure => simp [intOf]; omega


import Derived.Test.YtmddchceacmopaaGreatDoorF3
set_option linter.unusedVariables false
set_option linter.unusedSimpArgs false
namespace Go.Proofs.YtmddchceacmopaaGreatDoor
open Go Go.RowKit
def SetsPost (M : Nat → Prop) (w : Nat) (ms : List Nat) (W : World) (e : Ending) (w' : World) : Prop :=
 ∃ a c, e = .returned (.slice a ms.length c) ∧ Hid (SetsV M w' (.slice a ms.length c) w ms) ∧ Ext No W w'
def SetsEPost (M : Nat → Prop) (w : Nat) (ms : List Nat) (W : World) (e : Ending) (w' : World) : Prop :=
 ∃ a c, e = .returned (.tuple #[.slice a ms.length c, .int .i64 0]) ∧ Hid (SetsV M w' (.slice a ms.length c) w ms) ∧ Ext No W w'
structure LnM (M : Nat → Prop) (W wr : World) (base w : Nat) (v : Value) (ms : List Nat) : Prop where
 ext : Ext No W wr
 ex : ∃ L : LS, LOwn kS M wr base v L ∧ L.map Prod.fst = ms.map (setN w)
 low : W.heap.size ≤ base
 hw : w ≤ 256
 hm : ∀ m ∈ ms, m < 2 ^ w
section
variable {M : Nat → Prop} {W wr w' : World} {base w m : Nat} {v v' : Value} {ms : List Nat}
theorem LnM.step (h : LnM M W wr base w v ms) (hx : Ext No wr w') : LnM M W w' base w v ms := by
 obtain ⟨L, h1, h2⟩ := h.ex
 exact ⟨h.ext.transNo hx, ⟨L, h1.extNo hx, h2⟩, h.low, h.hw, h.hm⟩
theorem LnM.slice (h : LnM M W wr base w v ms) : ∃ a c, v = .slice a ms.length c := by
 obtain ⟨L, h1, h2⟩ := h.ex
 have e := congrArg List.length h2
 simp only [List.length_map] at e
 rw [← e]
 exact h1.slice
theorem LnM.lt (h : LnM M W wr base w v ms) : ∀ b, v.ownBlock = some b → base ≤ b ∧ b < wr.heap.size := by
 obtain ⟨L, h1, h2⟩ := h.ex
 exact fun b hb => h1.lt b hb
theorem LnM.hM (hM : ∀ b, M b → b < W.heap.size) (h : LnM M W wr base w v ms) : ∀ b, (M b ∨ v.ownBlock = some b) → b < wr.heap.size := fun b hb => by
 rcases hb with hb | hb
 ·exact Nat.lt_of_lt_of_le (hM b hb) h.ext.size
 exact (h.lt b hb).2
theorem LnM.own (h : LnM M W wr base w v ms) : ∃ xs, wr.ownsRow base 44 2 v ms.length xs ∧
  ∀ (v' : Value) (a : Option Addr) (c : Nat) (o : Obj) (w' : World), SetAt (fun b => M b ∨ v.ownBlock = some b) wr (.slice a (nw w) c) w m → w'.ownsRow base 44 2 v' (ms.length + 1) (xs ++ [.int .i64 (w : Int), .slice a (nw w) c]) → (wr.alloc o).grownBy w' v.ownBlock →
   (v'.ownBlock = v.ownBlock ∨ v'.ownBlock = some (wr.alloc o).heap.size) → Ext No W w' → LnM M W w' base w v' (ms ++ [m]) := by
 obtain ⟨L, h1, h2⟩ := h.ex
 have e := congrArg List.length h2
 simp only [List.length_map] at e
 refine ⟨L.flatMap kS.cells, by rw [← e]; exact h1.own, fun v' a c o w' hs hown hg hv hx => ⟨hx, ⟨L ++ [(setN w m, .slice a (nw w) c)], ?_, by rw [List.map_append, List.map_append, h2]; rfl⟩, h.low, h.hw, fun k hk => ?_⟩⟩
 ·rw [← e] at hown
  refine h1.app (E := fun k => v.ownBlock = some k) hs.words hown (((Ext.refl _ wr).alloc o).grown hg (fun k hk _ => hk)) (fun _ e => e) ?_
  rcases hv with hv | hv
  ·exact .inl hv
  refine .inr (fun k hk => ?_)
  rw [hv] at hk
  simp only [Option.some.injEq] at hk
  have : (wr.alloc o).heap.size = wr.heap.size + 1 := by simp
  omega
 rcases List.mem_append.1 hk with hk | hk
 ·exact h.hm k hk
 rw [List.mem_singleton.1 hk]; exact hs.hm
theorem LnM.fin (h : LnM M W wr base w v ms) (hM : ∀ b, M b → b < W.heap.size) : SetsV M wr v w ms := by
 obtain ⟨L, h1, h2⟩ := h.ex
 exact (h1.list (M := M) (fun b hb e => by have := hM b e; have := h.low; omega) (fun _ e => e)).setsV h2 h.hw h.hm
end
theorem own_ext {W wr w' : World} {o : Obj} {v : Value} {base : Nat} (hx : Ext No W wr) (hg : (wr.alloc o).grownBy w' v.ownBlock) (hl : ∀ b, v.ownBlock = some b → base ≤ b) (hb : W.heap.size ≤ base) : Ext No W w' :=
 (hx.trans2 (((Ext.refl (fun k => v.ownBlock = some k) wr).alloc o).grown hg (fun k hk _ => hk)) (fun i hi e => by have := hl i e; omega))
theorem own_blk {wr w' : World} {o p : Obj} {v : Value} {base n : Nat} (h : wr.heap[n]? = some p) (hg : (wr.alloc o).grownBy w' v.ownBlock) (hl : ∀ b, v.ownBlock = some b → base ≤ b) (hb : n < base) : w'.heap[n]? = some p :=
 (((Ext.refl (fun k => v.ownBlock = some k) wr).alloc o).grown hg (fun k hk _ => hk)).blk h (fun e => by have := hl n e; omega)
set_option maxRecDepth 100000 in
set_option maxHeartbeats 4000000 in
theorem sysNext_any (M : Nat → Prop) (S : SysD) (vd vt vb vv : Value) (vs : List Nat) (W : World) (hM : ∀ b, M b → b < W.heap.size) (h : SysAt No W vd vt vb S) (hv : SetsV No W vv S.w vs) (hl : vs.length = S.deps.length) :
  Calls Tryz.prog 61 #[.agg #[.int .i64 (S.w : Int), vd, vt, vb], vv] W (SetsEPost M S.w (nextD S vs) W) := by
 obtain ⟨i0, hi0, hz0, hz1, hz2⟩ := info_parts infoS
 have H := Lib.hid h
 have HV := Lib.hid hv
 have HM := Lib.hid hM
 have HL := Lib.hid hl
 have hok := h.ok
 obtain ⟨ad, cd, at1, ct, ab, cb, rfl, rfl, rfl⟩ := h.slices
 obtain ⟨av, cv, rfl⟩ := hv.slice
 have hnn := hok.n2
 have HOK := Lib.hid hok
 have HGV := Lib.hid (show GoodV S vs from ⟨hl, hv.hm⟩)
 clear h hv hM hl hok
 go_enter Tryz.func61, Tryz.ntmps61
 go_wp2_with fail
 have hx0 : Ext No W (W.alloc (.cells #[.int .i64 (S.w : Int), .slice ad S.deps.length cd, .slice at1 S.deps.length ct, .slice ab S.deps.length cb] 55)) := (Ext.refl _ _).alloc _
 refine (sysValid_yes S _ _ _ _ (H.out.extNo hx0)).mono ?_
 rintro e1 w1 ⟨rfl, hx1⟩
 have HA := Lib.hid (hx1.blk (alloc_top (w := W) (o := (.cells #[.int .i64 (S.w : Int), .slice ad S.deps.length cd, .slice at1 S.deps.length ct, .slice ab S.deps.length cb] 55)) rfl) no_no)
 have HX := Lib.hid (hx0.transNo hx1)
 clear hx0 hx1
 have cA := cellOf HA.out
 go_wp2_with fail
 clear cA
 go_loopw [6, 7, 8, 9, 16] (fun s6 _ _ _ i wr => ∃ k : Nat, k ≤ S.deps.length ∧ i = .int .i64 k ∧ Hid (LnM M W wr (W.heap.size + 1) S.w s6 (nextTo S vs k)) ∧ Hid (wr.heap[W.heap.size]? = some (.cells #[.int .i64 (S.w : Int), .slice ad S.deps.length cd, .slice at1 S.deps.length ct, .slice ab S.deps.length cb] 55 (0, 0)))) (fun _ _ _ _ i _ => S.deps.length - (intOf i).toNat)
 case atStart => exact ⟨0, Nat.zero_le _, rfl, Lib.hid ⟨HX.out, ⟨[], LOwn.nil _ _ _ _, rfl⟩, by omega, HOK.out.w, fun m hm => by cases hm⟩, HA⟩
 clear HX HA
 obtain ⟨k, hk, rfl, hm, hA⟩ := hrel
 rename World => wr
 obtain ⟨a0, c0, hs0⟩ := hm.out.slice
 rw [nextTo_len] at hs0
 subst hs0
 by_cases hlt : k < S.deps.length
 ·have hlz : (k : Int) < (S.deps.length : Int) := by omega
  have cA := cellOf hA.out
  go_wp2_with fail
  clear cA
  refine (sysRight_any (fun b => M b ∨ (Value.slice a0 k c0).ownBlock = some b) S _ _ _ _ vs k _ (hm.out.hM HM.out) (H.out.extNo hm.out.ext) (HV.out.extNo hm.out.ext) HL.out hlt).mono ?_
  rintro e2 w2 ⟨a1, c1, rfl, hs1, hx1⟩
  have hxb : Ext No w2 (w2.alloc (.cells #[.int .i64 (S.w : Int), .slice a1 (nw S.w) c1] 44)) := (Ext.refl _ _).alloc _
  have hm2 := Lib.hid ((hm.out.step hx1).step hxb)
  have hA2 := Lib.hid (hxb.blk (hx1.blk hA.out no_no) no_no)
  have hD := alloc_top (w := w2) (o := .cells #[.int .i64 (S.w : Int), .slice a1 (nw S.w) c1] 44) rfl
  have hs2 := Lib.hid (hs1.out.extNo hxb)
  obtain ⟨xs, hown, happ⟩ := hm2.out.own (m := rightD S vs k)
  rw [nextTo_len] at hown happ
  have HAPP := Lib.hid happ
  have HLT := Lib.hid hm2.out.lt
  have HLL := Lib.hid hm2.out.ext.size
  clear happ hs1 hx1 hxb
  have cD := cellOf hD
  go_upto_region 10 with (fail)
  generalize (w2.alloc (.cells #[.int .i64 (S.w : Int), .slice a1 (nw S.w) c1] 44)) = w3 at *
  generalize w2.heap.size = D at *
  have hlw : W.heap.size + 1 ≤ w3.heap.size := lt_of_block hA2.out
  go_wp2_with (at_builtin; (refine wpList_app _ rfl (.tmp 29) (.tmp 31) 23 rfl (W.heap.size + 1) 44 i0 _ 2 32 Tryz.underlying23 hi0 hz0 hz1 hz2 rfl (by omega) (.slice a0 k c0) k xs rfl (row_keep hown ((Ext.refl No _).alloc _) (fun _ _ x => x)) No (some ⟨w3.heap.size, 0, none⟩) 1 1 [.int .i64 (S.w : Int), .slice a1 (nw S.w) c1] rfl (Row.block (alloc_top rfl) rfl no_no (by omega)) (by simp [Value.oneCell']) (by omega) (by omega) (by simp; omega) ?_); (intro v1 w9 hown1 hg1 hv1); (have hm9 := Lib.hid (HAPP.out v1 a1 c1 _ w9 hs2.out hown1 hg1 hv1 (own_ext hm2.out.ext hg1 (fun b hb => (HLT.out b hb).1) (Nat.le_succ _)))); (have hA9 := Lib.hid (own_blk hA2.out hg1 (fun b hb => (HLT.out b hb).1) (Nat.lt_succ_self _))); (obtain ⟨a9, c9, hs9⟩ := hm9.out.slice); (rw [List.length_append, nextTo_len] at hs9); (subst hs9); (clear hown1 hg1 hv1 hown cD hD))
  go_roundw
  case rel => exact ⟨k + 1, by omega, by go_num, by rw [nextTo_snoc]; exact hm9, hA9⟩
  case measure => simp [intOf]; omega
 have hkk : k = S.deps.length := by omega
 have HK := Lib.hid hkk
 have hge : ¬ (k : Int) < (S.deps.length : Int) := by omega
 clear hkk
 go_wp2_with fail
 refine ret_ex rfl ?_
 simp [results, Tryz.results61, go_sem]
 have h1 := hm.out.fin HM.out
 have e := HK.out
 subst e
 have hl2 : (nextD S vs).length = S.deps.length := nextTo_len _ _ _
 exact ⟨a0, c0, by rw [hl2], Lib.hid (by rw [hl2]; exact h1), hm.out.ext⟩
theorem ext2' {W w : World} (h : Ext No W w) (j : Nat) (u0 u1 : Value) : Ext No W ((w.setCell ⟨W.heap.size, j, none⟩ u0).setCell ⟨W.heap.size, j + 1, none⟩ u1) :=
 (h.setCell (p := ⟨W.heap.size, j, none⟩) (fun e => absurd e (Nat.lt_irrefl _)) u0).setCell (p := ⟨W.heap.size, j + 1, none⟩) (fun e => absurd e (Nat.lt_irrefl _)) u1
def zeroSets (n : Nat) : Array Value := madeCells (Value.cells (.agg #[.int .i64 0, .slice none 0 0])) (n * 2)
theorem zeroSets_list (n : Nat) : (zeroSets n).toList = (List.replicate n (zeroS, Value.slice none 0 0)).flatMap kS.cells := by
 refine List.ext_getElem? (fun i => ?_)
 have hl : ((List.replicate n (zeroS, Value.slice none 0 0)).flatMap kS.cells).length = n * 2 := by
  induction n with
  | zero => rfl
  | succ n ih => rw [List.replicate_succ, List.flatMap_cons, List.length_append, ih]; simp [kS]; omega
 by_cases h : i < n * 2
 ·have h1 := flat_get2 kS (List.replicate n (zeroS, Value.slice none 0 0)) (i / 2) (i % 2) (by simp; omega) (Nat.mod_lt _ (by decide))
  rw [show i / 2 * kS.s + i % 2 = i from by show i / 2 * 2 + i % 2 = i; omega] at h1
  rw [h1]
  simp only [zeroSets, madeCells, List.getElem_replicate]
  rcases Nat.mod_two_eq_zero_or_one i with e | e <;> simp [h, e, kS, zeroS, Value.cells]
 have h2 : ((List.replicate n (zeroS, Value.slice none 0 0)).flatMap kS.cells)[i]? = none := List.getElem?_eq_none (by rw [hl]; omega)
 rw [h2]
 simp [zeroSets, madeCells, h]
theorem mk_sets (n : Nat) (hn : n ≤ 1000) (w : World) : (Instr.makeSlice 23 (.int .i64 (n : Int)) (.int .i64 (n : Int))).run Tryz.prog w = .ok (.slice (some ⟨w.heap.size, 0, none⟩) n n) (w.alloc (.cells (zeroSets n) 44)) := by
 obtain ⟨i, hi, hz0, hz1, hz2⟩ := info_parts infoS
 have h := run_makeSlice (P := Tryz.prog) w 23 44 i _ Tryz.underlying23 hi hz0 .i64 .i64 n n (by omega) (Int.le_refl _) (by rw [hz1]; simp; omega) (by rw [hz2]; omega) (by omega)
 simp only [Int.toNat_natCast, hz1] at h
 exact h
def partE (n k : Nat) (w : Nat) : List RawSet := List.replicate k (setN w 0) ++ List.replicate (n - k) zeroS
theorem partE_set {n k w : Nat} (hk : k < n) : (partE n k w).set k (setN w 0) = partE n (k + 1) w := by
 unfold partE
 rw [List.set_append, if_neg (by simp), List.length_replicate, Nat.sub_self, show n - k = (n - (k + 1)) + 1 from by omega, List.replicate_succ, List.set_cons_zero, List.replicate_succ', List.append_assoc]
 rfl
set_option maxRecDepth 100000 in
set_option maxHeartbeats 2000000 in
theorem emptyV_any (M : Nat → Prop) (w n : Nat) (W : World) (hM : ∀ b, M b → b < W.heap.size) (hw : w ≤ 256) (hn : n ≤ 256) :
  Calls Tryz.prog 87 #[.int .i64 (w : Int), .int .i64 (n : Int)] W (SetsPost M w (List.replicate n 0) W) := by
 have HM := Lib.hid hM
 clear hM
 have hmk := mk_sets n (by omega)
 have h0 : LOwn kS (fun b => M b) (W.alloc (.cells (zeroSets n) 44)) W.heap.size (.slice (some ⟨W.heap.size, 0, none⟩) n n) (List.replicate n (zeroS, Value.slice none 0 0)) := by
  refine ⟨?_, fun p hp => ?_⟩
  ·have h := World.ownsRow_lit (base := W.heap.size) (e := 44) (size := 2) W (zeroSets n) n (Nat.le_refl _) (by simp only [maxLen]; omega) (by simp [zeroSets, madeCells])
   rw [zeroSets_list] at h
   rw [List.length_replicate]
   exact h
  rw [List.eq_of_mem_replicate hp]
  exact (⟨zero_row, by simp [zeroS]⟩ : WordsAt _ _ (.slice none 0 0) zeroS.words)
 have H0 := Lib.hid h0
 clear h0
 go_enter Tryz.func87, Tryz.ntmps87
 go_wp2_with fail
 clear hmk
 go_loopw [6, 11] (fun _ i wr => ∃ (k : Nat) (L : LS), k ≤ n ∧ i = .int .i64 k ∧ Hid (LOwn kS (fun b => M b) wr W.heap.size (.slice (some ⟨W.heap.size, 0, none⟩) n n) L) ∧ Hid (L.map Prod.fst = partE n k w) ∧ Hid (Ext No W wr)) (fun _ i _ => n - (intOf i).toNat)
 case atStart => exact ⟨0, _, Nat.zero_le _, rfl, H0, Lib.hid (by simp [partE]), Lib.hid ((Ext.refl _ _).alloc _)⟩
 clear H0
 obtain ⟨k, L, hk, rfl, hL, he, hx⟩ := hrel
 rename World => wr
 have hLl : L.length = n := by have := congrArg List.length he.out; simp [partE] at this; omega
 have HLL := Lib.hid hLl
 clear hLl
 by_cases hlt : k < n
 ·have hlz : (k : Int) < (n : Int) := by omega
  go_wp2_with fail
  refine (bempty_any (fun b => M b ∨ b = W.heap.size) w _ (fun b hb => ?_) hw).mono ?_
  ·rcases hb with hb | rfl
   ·exact Nat.lt_of_lt_of_le (HM.out b hb) hx.out.size
   exact (hL.out.lt _ rfl).2
  rintro e1 w1 ⟨a1, c1, rfl, hs1, hx1⟩
  have hL1 := hL.out.extNo hx1
  have hso : SetsOwn (fun b => M b) w1 W.heap.size (.slice (some ⟨W.heap.size, 0, none⟩) n n) L := ⟨hL1.own, hL1.ok⟩
  obtain ⟨g, hg, -, -, -, hcell, hfro⟩ := hso.ownAt (k := k) (by rw [HLL.out]; exact hlt)
  simp only [Option.some.injEq, Addr.mk.injEq, and_true] at hg
  subst hg
  obtain ⟨q0, q1⟩ := hcell k (by rw [HLL.out]; exact hlt)
  have hput := Lib.hid (SetsOwn.put (p := (setN w 0, .slice a1 (nw w) c1)) (by have h := hso; rw [← HLL.out] at h; exact h) (i := k) (by rw [HLL.out]; exact hlt) hs1.out.words)
  rw [HLL.out] at hput
  have hx2 := Lib.hid (show Ext No W _ from ext2' (hx.out.transNo hx1) (k * 2) (.int .i64 (w : Int)) (.slice a1 (nw w) c1))
  have HS := Lib.hid hs1
  clear hcell hL1 hso hx1 hs1
  go_wp2_with fail
  clear q0 q1 hfro
  go_roundw
  case rel => exact ⟨k + 1, L.set k (setN w 0, .slice a1 (nw w) c1), by omega, by go_num, Lib.hid ⟨by rw [List.length_set, HLL.out]; have h := hput.out.own; rw [List.length_set, HLL.out] at h; exact h, hput.out.ok⟩, Lib.hid (by rw [List.map_set, he.out]; exact partE_set hlt), hx2⟩
  case measure => simp [intOf]; omega
 have hge : ¬ (k : Int) < (n : Int) := by omega
 have hkn : k = n := by omega
 have HK := Lib.hid hkn
 clear hkn
 go_wp2_with fail
 go_ret
 have h1 : L.map Prod.fst = (List.replicate n 0).map (setN w) := by
  rw [he.out, HK.out]
  simp [partE]
 exact ⟨_, _, by rw [List.length_replicate]; rfl, Lib.hid (by rw [List.length_replicate]; exact (hL.out.list (fun b hb e => by have := HM.out b e; omega) (fun _ e => e)).setsV h1 hw (fun m hm => by rw [List.eq_of_mem_replicate hm]; exact Nat.two_pow_pos _)), hx.out⟩
set_option maxRecDepth 100000 in
set_option maxHeartbeats 2000000 in
theorem eqFunc_any (w : Nat) (us vs : List Nat) (s1 s2 : Value) (W : World) (h1 : SetsV No W s1 w us) (h2 : SetsV No W s2 w vs) (hl : us.length = vs.length) :
  Calls Tryz.prog 123 #[s1, s2, .func (.func 124) #[] #[]] W (BoolPost (decide (us = vs)) W) := by
 have H1 := Lib.hid h1
 have H2 := Lib.hid h2
 have HL := Lib.hid hl
 obtain ⟨a1, c1, rfl⟩ := h1.slice
 obtain ⟨a2, c2, rfl⟩ := h2.slice
 have hll : ((us.length : Int) != (vs.length : Int)) = false := by simp [hl]
 have hlen : us.length ≤ 9223372036854775807 := by
  obtain ⟨L, hL, _, e⟩ := h1.list
  have := hL.row.2.1
  omega
 clear h1 h2 hl
 go_enter Tryz.func123, Tryz.ntmps123
 go_wp2_with fail
 go_loopw [7, 8, 9, 17] (fun _ _ _ i wr => ∃ k : Nat, k ≤ us.length ∧ i = .int .i64 k ∧ Hid (Ext No W wr) ∧ Hid (∀ j, j < k → rowD us j = rowD vs j)) (fun _ _ _ i _ => us.length - (intOf i).toNat)
 case atStart => exact ⟨0, Nat.zero_le _, rfl, Lib.hid (Ext.refl _ _), Lib.hid (fun j hj => absurd hj (Nat.not_lt_zero _))⟩
 obtain ⟨k, hk, rfl, hx, hm⟩ := hrel
 rename World => wr
 by_cases hlt : k < us.length
 ·have hlz : (k : Int) < (us.length : Int) := by omega
  have hlv : k < vs.length := by have := HL.out; omega
  have hlzv : (k : Int) < (vs.length : Int) := by omega
  obtain ⟨b, off, cap, a5, c5, hve, g1, hset1⟩ := (H1.out.extNo hx.out).cells hlt
  simp only [Value.slice.injEq] at hve
  obtain ⟨rfl, -, rfl⟩ := hve
  obtain ⟨b', off', cap', a6, c6, hve, g2, hset2⟩ := (H2.out.extNo hx.out).cells hlv
  simp only [Value.slice.injEq] at hve
  obtain ⟨rfl, -, rfl⟩ := hve
  obtain ⟨q0, q1⟩ := g1
  obtain ⟨q2, q3⟩ := g2
  have hxa : Ext No wr (wr.alloc (.cells #[.int .i64 (w : Int), .slice a5 (nw w) c5] 44)) := (Ext.refl _ _).alloc _
  have q4 := hxa.keep q2
  have q5 := hxa.keep q3
  have hxb : Ext No wr ((wr.alloc (.cells #[.int .i64 (w : Int), .slice a5 (nw w) c5] 44)).alloc (.cells #[.int .i64 (w : Int), .slice a6 (nw w) c6] 44)) := hxa.alloc _
  have HXB := Lib.hid hxb
  clear hxa hxb
  go_wp2_with fail
  go_at_call 124
  refine (equal_any w (rowD us k) (rowD vs k) _ _ _ (hset1.out.extNo HXB.out) (hset2.out.extNo HXB.out)).mono ?_
  rintro e1 w1 ⟨rfl, hx1⟩
  clear q0 q1 q2 q3 q4 q5
  by_cases he : rowD us k = rowD vs k
  ·rw [decide_eq_true he]
   have HE := Lib.hid he
   clear he
   go_wp2_with fail
   go_roundw
   case rel => exact ⟨k + 1, by omega, by go_num, Lib.hid ((hx.out.transNo HXB.out).transNo hx1), Lib.hid (fun j hj => by
    by_cases e : j = k
    ·subst e; exact HE.out
    exact hm.out j (by omega))⟩
   case measure => simp [intOf]; omega
  rw [decide_eq_false he]
  have HE := Lib.hid he
  clear he
  go_wp2_with fail
  go_ret
  exact ⟨ret_bool (decide_eq_false (fun e => HE.out (by rw [e]))).symm, (hx.out.transNo HXB.out).transNo hx1⟩
 have hge : ¬ (k : Int) < (us.length : Int) := by omega
 go_wp2_with fail
 go_ret
 exact ⟨ret_bool (decide_eq_true (ext_row HL.out (fun i hi => hm.out i (by omega)))).symm, hx.out⟩
theorem fequal_any (w : Nat) (us vs : List Nat) (s1 s2 : Value) (W : World) (h1 : SetsV No W s1 w us) (h2 : SetsV No W s2 w vs) (hl : us.length = vs.length) :
  Calls Tryz.prog 88 #[s1, s2] W (BoolPost (decide (us = vs)) W) := by
 go_enter Tryz.func88, Tryz.ntmps88
 go_wp2_with fail
 refine (eqFunc_any w us vs _ _ _ h1 h2 hl).mono ?_
 rintro e1 w1 ⟨rfl, hx1⟩
 go_wp2_with fail
 go_ret
 exact ⟨rfl, hx1⟩

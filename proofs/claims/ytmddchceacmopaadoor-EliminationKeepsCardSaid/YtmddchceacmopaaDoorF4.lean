
import Derived.Test.YtmddchceacmopaaDoorFS
set_option linter.unusedVariables false
set_option linter.unusedSimpArgs false
namespace Go.Proofs.YtmddchceacmopaaDoor
open Go Go.RowKit
theorem sumL_take {Ld : LD} {k : Nat} (hk : k < Ld.length) : sumL (Ld.take (k + 1)) = sumL (Ld.take k) + Ld[k].1.length := by
 unfold sumL
 rw [List.take_succ_eq_append_getElem hk, List.map_append, List.sum_append]
 simp
end Go.Proofs.YtmddchceacmopaaDoor

namespace Go.Proofs.YtmddchceacmopaaDoor
open Go Go.RowKit
theorem SetsV.list {M : Nat → Prop} {W : World} {so : Value} {w : Nat} {ms : List Nat} (h : SetsV M W so w ms) : ∃ L : LS, LAt kS M W so L ∧ L.map Prod.fst = ms.map (setN w) ∧ L.length = ms.length := by
 obtain ⟨⟨L, h1, h2⟩, _, _⟩ := h
 have e := congrArg List.length h2
 simp only [List.length_map] at e
 exact ⟨L, ⟨h1.row, h1.ok⟩, h2, e⟩
theorem LAt.setsV {M : Nat → Prop} {W : World} {so : Value} {w : Nat} {ms : List Nat} {L : LS} (h : LAt kS M W so L) (he : L.map Prod.fst = ms.map (setN w)) (hw : w ≤ 256) (hm : ∀ m ∈ ms, m < 2 ^ w) : SetsV M W so w ms := ⟨⟨L, ⟨h.row, h.ok⟩, he⟩, hw, hm⟩
theorem set_of_map {w : Nat} {ms : List Nat} {L : LS} (he : L.map Prod.fst = ms.map (setN w)) (hw : w ≤ 256) (hm : ∀ m ∈ ms, m < 2 ^ w) (p : RawSet × Value) (hp : p ∈ L) : FitS (w : Int) p.1 := by
 have h1 : p.1 ∈ ms.map (setN w) := by rw [← he]; exact List.mem_map.2 ⟨p, hp, rfl⟩
 obtain ⟨m, hm2, e⟩ := List.mem_map.1 h1
 rw [← e]
 exact ⟨validB_set hw (hm m hm2), rfl⟩
theorem Apply_w (M : Nat → Prop) (t : TrD) (w s : Nat) (sg sk sc ss : Value) (W : World) (hw : t.w = w) (hM : ∀ b, M b → b < W.heap.size) (h : TrAt No W sg sk sc t) (hs : SetAt No W ss w s) :
  Calls Tryd.prog 35 #[.agg #[.int .i64 (w : Int), sg, .int .i64 (w : Int), sk, sc], .agg #[.int .i64 (w : Int), ss]] W (SetEPost M w (applyT t s) W) := by
 subst hw; exact Apply_any M t s sg sk sc ss W hM h hs
theorem SetsV.cells {M : Nat → Prop} {W : World} {so : Value} {w : Nat} {ms : List Nat} (h : SetsV M W so w ms) {i : Nat} (hi : i < ms.length) : ∃ b off cap a c, so = .slice (some ⟨b, off, none⟩) ms.length cap ∧
  (W.cell? ⟨b, off + i * 2, none⟩ = some (.int .i64 (w : Int)) ∧ W.cell? ⟨b, off + i * 2 + 1, none⟩ = some (.slice a (nw w) c)) ∧ Hid (SetAt M W (.slice a (nw w) c) w (rowD ms i)) := by
 obtain ⟨b, off, cap, a, c, h1, _, _, h4, h5, h6⟩ := h.at hi
 exact ⟨b, off, cap, a, c, h1, ⟨h4, h5⟩, Lib.hid (by rw [rowD_get hi]; exact h6.out)⟩
end Go.Proofs.YtmddchceacmopaaDoor

namespace Go.Proofs.YtmddchceacmopaaDoor
open Go Go.RowKit
def SetsPost (M : Nat → Prop) (w : Nat) (ms : List Nat) (W : World) (e : Ending) (w' : World) : Prop :=
 ∃ a c, e = .returned (.slice a ms.length c) ∧ Hid (SetsV M w' (.slice a ms.length c) w ms) ∧ Ext No W w'
structure LnM (M : Nat → Prop) (W wr : World) (base w : Nat) (v : Value) (ms : List Nat) : Prop where
 ext : Ext No W wr
 ex : ∃ L : LS, LOwn kS M wr base v L ∧ L.map Prod.fst = ms.map (setN w)
 low : W.heap.size ≤ base
 hw : w ≤ 256
 hm : ∀ m ∈ ms, m < 2 ^ w
section
variable {M : Nat → Prop} {W wr w' : World} {base w m : Nat} {v v' : Value} {ms : List Nat}
theorem LnM.step (h : LnM M W wr base w v ms) (hx : Ext No wr w') : LnM M W w' base w v ms := by
 obtain ⟨L, h1, h2⟩ := h.ex
 exact ⟨h.ext.transNo hx, ⟨L, h1.extNo hx, h2⟩, h.low, h.hw, h.hm⟩
theorem LnM.slice (h : LnM M W wr base w v ms) : ∃ a c, v = .slice a ms.length c := by
 obtain ⟨L, h1, h2⟩ := h.ex
 have e := congrArg List.length h2
 simp only [List.length_map] at e
 rw [← e]
 exact h1.slice
theorem LnM.lt (h : LnM M W wr base w v ms) : ∀ b, v.ownBlock = some b → base ≤ b ∧ b < wr.heap.size := by
 obtain ⟨L, h1, h2⟩ := h.ex
 exact fun b hb => h1.lt b hb
theorem LnM.hM (hM : ∀ b, M b → b < W.heap.size) (h : LnM M W wr base w v ms) : ∀ b, (M b ∨ v.ownBlock = some b) → b < wr.heap.size := fun b hb => by
 rcases hb with hb | hb
 ·exact Nat.lt_of_lt_of_le (hM b hb) h.ext.size
 exact (h.lt b hb).2
theorem LnM.own (h : LnM M W wr base w v ms) : ∃ xs, wr.ownsRow base 24 2 v ms.length xs ∧
  ∀ (v' : Value) (a : Option Addr) (c : Nat) (o : Obj) (w' : World), SetAt (fun b => M b ∨ v.ownBlock = some b) wr (.slice a (nw w) c) w m → w'.ownsRow base 24 2 v' (ms.length + 1) (xs ++ [.int .i64 (w : Int), .slice a (nw w) c]) → (wr.alloc o).grownBy w' v.ownBlock →
   (v'.ownBlock = v.ownBlock ∨ v'.ownBlock = some (wr.alloc o).heap.size) → Ext No W w' → LnM M W w' base w v' (ms ++ [m]) := by
 obtain ⟨L, h1, h2⟩ := h.ex
 have e := congrArg List.length h2
 simp only [List.length_map] at e
 refine ⟨L.flatMap kS.cells, by rw [← e]; exact h1.own, fun v' a c o w' hs hown hg hv hx => ⟨hx, ⟨L ++ [(setN w m, .slice a (nw w) c)], ?_, by rw [List.map_append, List.map_append, h2]; rfl⟩, h.low, h.hw, fun k hk => ?_⟩⟩
 ·rw [← e] at hown
  refine h1.app (E := fun k => v.ownBlock = some k) hs.words hown (((Ext.refl _ wr).alloc o).grown hg (fun k hk _ => hk)) (fun _ e => e) ?_
  rcases hv with hv | hv
  ·exact .inl hv
  refine .inr (fun k hk => ?_)
  rw [hv] at hk
  simp only [Option.some.injEq] at hk
  have : (wr.alloc o).heap.size = wr.heap.size + 1 := by simp
  omega
 rcases List.mem_append.1 hk with hk | hk
 ·exact h.hm k hk
 rw [List.mem_singleton.1 hk]; exact hs.hm
theorem LnM.fin (h : LnM M W wr base w v ms) (hM : ∀ b, M b → b < W.heap.size) : SetsV M wr v w ms := by
 obtain ⟨L, h1, h2⟩ := h.ex
 exact (h1.list (M := M) (fun b hb e => by have := hM b e; have := h.low; omega) (fun _ e => e)).setsV h2 h.hw h.hm
end
theorem own_ext {W wr w' : World} {o : Obj} {v : Value} {base : Nat} (hx : Ext No W wr) (hg : (wr.alloc o).grownBy w' v.ownBlock) (hl : ∀ b, v.ownBlock = some b → base ≤ b) (hb : W.heap.size ≤ base) : Ext No W w' :=
 (hx.trans2 (((Ext.refl (fun k => v.ownBlock = some k) wr).alloc o).grown hg (fun k hk _ => hk)) (fun i hi e => by have := hl i e; omega))
theorem ext2' {W w : World} (h : Ext No W w) (j : Nat) (u0 u1 : Value) : Ext No W ((w.setCell ⟨W.heap.size, j, none⟩ u0).setCell ⟨W.heap.size, j + 1, none⟩ u1) :=
 (h.setCell (p := ⟨W.heap.size, j, none⟩) (fun e => absurd e (Nat.lt_irrefl _)) u0).setCell (p := ⟨W.heap.size, j + 1, none⟩) (fun e => absurd e (Nat.lt_irrefl _)) u1
def zeroSets (n : Nat) : Array Value := madeCells (Value.cells (.agg #[.int .i64 0, .slice none 0 0])) (n * 2)
theorem zeroSets_list (n : Nat) : (zeroSets n).toList = (List.replicate n (zeroS, Value.slice none 0 0)).flatMap kS.cells := by
 refine List.ext_getElem? (fun i => ?_)
 have hl : ((List.replicate n (zeroS, Value.slice none 0 0)).flatMap kS.cells).length = n * 2 := by
  induction n with
  | zero => rfl
  | succ n ih => rw [List.replicate_succ, List.flatMap_cons, List.length_append, ih]; simp [kS]; omega
 by_cases h : i < n * 2
 ·have h1 := flat_get2 kS (List.replicate n (zeroS, Value.slice none 0 0)) (i / 2) (i % 2) (by simp; omega) (Nat.mod_lt _ (by decide))
  rw [show i / 2 * kS.s + i % 2 = i from by show i / 2 * 2 + i % 2 = i; omega] at h1
  rw [h1]
  simp only [zeroSets, madeCells, List.getElem_replicate]
  rcases Nat.mod_two_eq_zero_or_one i with e | e <;> simp [h, e, kS, zeroS, Value.cells]
 have h2 : ((List.replicate n (zeroS, Value.slice none 0 0)).flatMap kS.cells)[i]? = none := List.getElem?_eq_none (by rw [hl]; omega)
 rw [h2]
 simp [zeroSets, madeCells, h]
theorem mk_sets (n : Nat) (hn : n ≤ 1000) (w : World) : (Instr.makeSlice 31 (.int .i64 (n : Int)) (.int .i64 (n : Int))).run Tryd.prog w = .ok (.slice (some ⟨w.heap.size, 0, none⟩) n n) (w.alloc (.cells (zeroSets n) 24)) := by
 obtain ⟨i, hi, hz0, hz1, hz2⟩ := info_parts infoS
 have h := run_makeSlice (P := Tryd.prog) w 31 24 i _ Tryd.underlying31 hi hz0 .i64 .i64 n n (by omega) (Int.le_refl _) (by rw [hz1]; simp; omega) (by rw [hz2]; omega) (by omega)
 simp only [Int.toNat_natCast, hz1] at h
 exact h
def partE (n k : Nat) (w : Nat) : List RawSet := List.replicate k (setN w 0) ++ List.replicate (n - k) zeroS
theorem partE_set {n k w : Nat} (hk : k < n) : (partE n k w).set k (setN w 0) = partE n (k + 1) w := by
 unfold partE
 rw [List.set_append, if_neg (by simp), List.length_replicate, Nat.sub_self, show n - k = (n - (k + 1)) + 1 from by omega, List.replicate_succ, List.set_cons_zero, List.replicate_succ', List.append_assoc]
 rfl
set_option maxRecDepth 100000 in
set_option maxHeartbeats 2000000 in
theorem emptyV_any (M : Nat → Prop) (w n : Nat) (W : World) (hM : ∀ b, M b → b < W.heap.size) (hw : w ≤ 256) (hn : n ≤ 256) :
  Calls Tryd.prog 57 #[.int .i64 (w : Int), .int .i64 (n : Int)] W (SetsPost M w (List.replicate n 0) W) := by
 have HM := Lib.hid hM
 clear hM
 have hmk := mk_sets n (by omega)
 have h0 : LOwn kS (fun b => M b) (W.alloc (.cells (zeroSets n) 24)) W.heap.size (.slice (some ⟨W.heap.size, 0, none⟩) n n) (List.replicate n (zeroS, Value.slice none 0 0)) := by
  refine ⟨?_, fun p hp => ?_⟩
  ·have h := World.ownsRow_lit (base := W.heap.size) (e := 24) (size := 2) W (zeroSets n) n (Nat.le_refl _) (by simp only [maxLen]; omega) (by simp [zeroSets, madeCells])
   rw [zeroSets_list] at h
   rw [List.length_replicate]
   exact h
  rw [List.eq_of_mem_replicate hp]
  exact (⟨zero_row, by simp [zeroS]⟩ : WordsAt _ _ (.slice none 0 0) zeroS.words)
 have H0 := Lib.hid h0
 clear h0
 go_enter Tryd.func57, Tryd.ntmps57
 go_wp2_with fail
 clear hmk
 go_loopw [6, 11] (fun _ i wr => ∃ (k : Nat) (L : LS), k ≤ n ∧ i = .int .i64 k ∧ Hid (LOwn kS (fun b => M b) wr W.heap.size (.slice (some ⟨W.heap.size, 0, none⟩) n n) L) ∧ Hid (L.map Prod.fst = partE n k w) ∧ Hid (Ext No W wr)) (fun _ i _ => n - (intOf i).toNat)
 case atStart => exact ⟨0, _, Nat.zero_le _, rfl, H0, Lib.hid (by simp [partE]), Lib.hid ((Ext.refl _ _).alloc _)⟩
 clear H0
 obtain ⟨k, L, hk, rfl, hL, he, hx⟩ := hrel
 rename World => wr
 have hLl : L.length = n := by have := congrArg List.length he.out; simp [partE] at this; omega
 have HLL := Lib.hid hLl
 clear hLl
 by_cases hlt : k < n
 ·have hlz : (k : Int) < (n : Int) := by omega
  go_wp2_with fail
  refine (bempty_any (fun b => M b ∨ b = W.heap.size) w _ (fun b hb => ?_) hw).mono ?_
  ·rcases hb with hb | rfl
   ·exact Nat.lt_of_lt_of_le (HM.out b hb) hx.out.size
   exact (hL.out.lt _ rfl).2
  rintro e1 w1 ⟨a1, c1, rfl, hs1, hx1⟩
  have hL1 := hL.out.extNo hx1
  have hso : SetsOwn (fun b => M b) w1 W.heap.size (.slice (some ⟨W.heap.size, 0, none⟩) n n) L := ⟨hL1.own, hL1.ok⟩
  obtain ⟨g, hg, -, -, -, hcell, hfro⟩ := hso.ownAt (k := k) (by rw [HLL.out]; exact hlt)
  simp only [Option.some.injEq, Addr.mk.injEq, and_true] at hg
  subst hg
  obtain ⟨q0, q1⟩ := hcell k (by rw [HLL.out]; exact hlt)
  have hput := Lib.hid (SetsOwn.put (p := (setN w 0, .slice a1 (nw w) c1)) (by have h := hso; rw [← HLL.out] at h; exact h) (i := k) (by rw [HLL.out]; exact hlt) hs1.out.words)
  rw [HLL.out] at hput
  have hx2 := Lib.hid (show Ext No W _ from ext2' (hx.out.transNo hx1) (k * 2) (.int .i64 (w : Int)) (.slice a1 (nw w) c1))
  have HS := Lib.hid hs1
  clear hcell hL1 hso hx1 hs1
  go_wp2_with fail
  clear q0 q1 hfro
  go_roundw
  case rel => exact ⟨k + 1, L.set k (setN w 0, .slice a1 (nw w) c1), by omega, by go_num, Lib.hid ⟨by rw [List.length_set, HLL.out]; have h := hput.out.own; rw [List.length_set, HLL.out] at h; exact h, hput.out.ok⟩, Lib.hid (by rw [List.map_set, he.out]; exact partE_set hlt), hx2⟩
  case measure => simp [intOf]; omega
 have hge : ¬ (k : Int) < (n : Int) := by omega
 have hkn : k = n := by omega
 have HK := Lib.hid hkn
 clear hkn
 go_wp2_with fail
 go_ret
 have h1 : L.map Prod.fst = (List.replicate n 0).map (setN w) := by
  rw [he.out, HK.out]
  simp [partE]
 exact ⟨_, _, by rw [List.length_replicate]; rfl, Lib.hid (by rw [List.length_replicate]; exact (hL.out.list (fun b hb e => by have := HM.out b e; omega) (fun _ e => e)).setsV h1 hw (fun m hm => by rw [List.eq_of_mem_replicate hm]; exact Nat.two_pow_pos _)), hx.out⟩
set_option maxRecDepth 100000 in
set_option maxHeartbeats 2000000 in
theorem eqFunc_any (w : Nat) (us vs : List Nat) (s1 s2 : Value) (W : World) (h1 : SetsV No W s1 w us) (h2 : SetsV No W s2 w vs) (hl : us.length = vs.length) :
  Calls Tryd.prog 84 #[s1, s2, .func (.func 85) #[] #[]] W (BoolPost (decide (us = vs)) W) := by
 have H1 := Lib.hid h1
 have H2 := Lib.hid h2
 have HL := Lib.hid hl
 obtain ⟨a1, c1, rfl⟩ := h1.slice
 obtain ⟨a2, c2, rfl⟩ := h2.slice
 have hll : ((us.length : Int) != (vs.length : Int)) = false := by simp [hl]
 have hlen : us.length ≤ 9223372036854775807 := by
  obtain ⟨L, hL, _, e⟩ := h1.list
  have := hL.row.2.1
  omega
 clear h1 h2 hl
 go_enter Tryd.func84, Tryd.ntmps84
 go_wp2_with fail
 go_loopw [7, 8, 9, 17] (fun _ _ _ i wr => ∃ k : Nat, k ≤ us.length ∧ i = .int .i64 k ∧ Hid (Ext No W wr) ∧ Hid (∀ j, j < k → rowD us j = rowD vs j)) (fun _ _ _ i _ => us.length - (intOf i).toNat)
 case atStart => exact ⟨0, Nat.zero_le _, rfl, Lib.hid (Ext.refl _ _), Lib.hid (fun j hj => absurd hj (Nat.not_lt_zero _))⟩
 obtain ⟨k, hk, rfl, hx, hm⟩ := hrel
 rename World => wr
 by_cases hlt : k < us.length
 ·have hlz : (k : Int) < (us.length : Int) := by omega
  have hlv : k < vs.length := by have := HL.out; omega
  have hlzv : (k : Int) < (vs.length : Int) := by omega
  obtain ⟨b, off, cap, a5, c5, hve, g1, hset1⟩ := (H1.out.extNo hx.out).cells hlt
  simp only [Value.slice.injEq] at hve
  obtain ⟨rfl, -, rfl⟩ := hve
  obtain ⟨b', off', cap', a6, c6, hve, g2, hset2⟩ := (H2.out.extNo hx.out).cells hlv
  simp only [Value.slice.injEq] at hve
  obtain ⟨rfl, -, rfl⟩ := hve
  obtain ⟨q0, q1⟩ := g1
  obtain ⟨q2, q3⟩ := g2
  have hxa : Ext No wr (wr.alloc (.cells #[.int .i64 (w : Int), .slice a5 (nw w) c5] 24)) := (Ext.refl _ _).alloc _
  have q4 := hxa.keep q2
  have q5 := hxa.keep q3
  have hxb : Ext No wr ((wr.alloc (.cells #[.int .i64 (w : Int), .slice a5 (nw w) c5] 24)).alloc (.cells #[.int .i64 (w : Int), .slice a6 (nw w) c6] 24)) := hxa.alloc _
  have HXB := Lib.hid hxb
  clear hxa hxb
  go_wp2_with fail
  go_at_call 85
  refine (equal_any w (rowD us k) (rowD vs k) _ _ _ (hset1.out.extNo HXB.out) (hset2.out.extNo HXB.out)).mono ?_
  rintro e1 w1 ⟨rfl, hx1⟩
  clear q0 q1 q2 q3 q4 q5
  by_cases he : rowD us k = rowD vs k
  ·rw [decide_eq_true he]
   have HE := Lib.hid he
   clear he
   go_wp2_with fail
   go_roundw
   case rel => exact ⟨k + 1, by omega, by go_num, Lib.hid ((hx.out.transNo HXB.out).transNo hx1), Lib.hid (fun j hj => by
    by_cases e : j = k
    ·subst e; exact HE.out
    exact hm.out j (by omega))⟩
   case measure => simp [intOf]; omega
  rw [decide_eq_false he]
  have HE := Lib.hid he
  clear he
  go_wp2_with fail
  go_ret
  exact ⟨ret_bool (decide_eq_false (fun e => HE.out (by rw [e]))).symm, (hx.out.transNo HXB.out).transNo hx1⟩
 have hge : ¬ (k : Int) < (us.length : Int) := by omega
 go_wp2_with fail
 go_ret
 exact ⟨ret_bool (decide_eq_true (ext_row HL.out (fun i hi => hm.out i (by omega)))).symm, hx.out⟩
theorem fequal_any (w : Nat) (us vs : List Nat) (s1 s2 : Value) (W : World) (h1 : SetsV No W s1 w us) (h2 : SetsV No W s2 w vs) (hl : us.length = vs.length) :
  Calls Tryd.prog 58 #[s1, s2] W (BoolPost (decide (us = vs)) W) := by
 go_enter Tryd.func58, Tryd.ntmps58
 go_wp2_with fail
 refine (eqFunc_any w us vs _ _ _ h1 h2 hl).mono ?_
 rintro e1 w1 ⟨rfl, hx1⟩
 go_wp2_with fail
 go_ret
 exact ⟨rfl, hx1⟩

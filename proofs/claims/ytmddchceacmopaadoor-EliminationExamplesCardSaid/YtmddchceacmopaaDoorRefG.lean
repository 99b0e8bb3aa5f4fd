
import Derived.Test.YtmddchceacmopaaDoorRefF
set_option linter.unusedVariables false
set_option linter.unusedSimpArgs false
namespace Go.Proofs.YtmddchceacmopaaDoor
open Go Go.RowKit
def rkillTo (w gen : Nat) (rs : List Nat) : Nat → Nat
 | 0 => 0
 | k + 1 => if (!hasZ w (rowAt rs k) k || hasZ w gen k) then rkillTo w gen rs k ||| 2 ^ k else rkillTo w gen rs k
theorem rkill_yes {w gen : Nat} {rs : List Nat} {k : Nat} (h : (!hasZ w (rowAt rs k) k || hasZ w gen k) = true) : rkillTo w gen rs (k + 1) = rkillTo w gen rs k ||| 2 ^ k := by rw [rkillTo, if_pos h]
theorem rkill_no {w gen : Nat} {rs : List Nat} {k : Nat} (h : (!hasZ w (rowAt rs k) k || hasZ w gen k) = false) : rkillTo w gen rs (k + 1) = rkillTo w gen rs k := by rw [rkillTo, if_neg (by rw [h]; simp)]
theorem rkillTo_lt {w gen : Nat} {rs : List Nat} : ∀ k, k ≤ w → rkillTo w gen rs k < 2 ^ w
 | 0, _ => Nat.two_pow_pos _
 | k + 1, hk => by
  rw [rkillTo]
  split
  ·exact orN_lt (rkillTo_lt k (by omega)) (bitN_lt (by omega))
  exact rkillTo_lt k (by omega)
theorem rkillTo_bit {w gen : Nat} {rs : List Nat} (b : Nat) : ∀ k, (rkillTo w gen rs k).testBit b = (decide (b < k) && (!hasZ w (rowAt rs b) b || hasZ w gen b))
 | 0 => by simp [rkillTo]
 | k + 1 => by
  rw [rkillTo]
  by_cases e : k = b
  ·subst e
   cases hc : (!hasZ w (rowAt rs k) k || hasZ w gen k)
   ·rw [if_neg (by simp), rkillTo_bit k k, hc]; simp
   rw [if_pos rfl, or_bit, rkillTo_bit k k]; simp
  have : decide (b < k + 1) = decide (b < k) := by rw [decide_eq_decide]; omega
  split
  ·rw [or_bit, rkillTo_bit b k, this]; simp [e]
  rw [rkillTo_bit b k, this]
theorem rkillTo_end {w gen : Nat} {rs : List Nat} (hg : gen < 2 ^ w) : rkillTo w gen rs w = killTo w gen rs w :=
 bits_ext (rkillTo_lt w (Nat.le_refl _)) (killTo_lt hg w (Nat.le_refl _)) (fun b hb => by
  rw [rkillTo_bit, killTo_bit, hasZ_nat (m := gen) hb]
  cases gen.testBit b <;> simp [hb])
theorem keep_skip {a b d : Nat} (h : d.testBit b = false ∨ a = b) : keepC a (memTo d (b + 1)) = keepC a (memTo d b) := by
 rw [memTo_succ]
 rcases h with h | h
 ·rw [h]; simp
 subst h
 split
 ·exact keepC_snoc_eq rfl
 simp
theorem keep_step {a b d : Nat} (h1 : ¬ a = b) (h2 : d.testBit b = true) : keepC a (memTo d (b + 1)) = keepC a (memTo d b) ++ [((a : Int), (b : Int))] := by
 rw [memTo_succ, h2, if_pos rfl, keepC_snoc_ne (by omega)]
structure FnM (M : Nat → Prop) (W wr : World) (w gen m T : Nat) (l : List (Int × Int)) (sg so sk sc : Value) : Prop where
 ext : Ext No W wr
 boxA : wr.heap[W.heap.size]? = some (.cells #[.int .i64 (w : Int), sg, so] 62 (0, 0))
 boxR : wr.heap[W.heap.size + 1]? = some (.cells #[.int .i64 0, .slice none 0 0, .int .i64 0, .slice none 0 0, .slice none 0 0] 30 (0, 0))
 boxT : wr.heap[T]? = some (.cells #[.int .i64 (w : Int), sg, .int .i64 (w : Int), sk, sc] 30 (0, 0))
 kill : SetAt (fun b => (M b ∨ b = W.heap.size + 1 ∨ b = T) ∨ sc.ownBlock = some b) wr sk w m
 own : wr.ownsRow (T + 1) 27 2 sc l.length (flatC l)
 big : W.heap.size + 1 < T
section
variable {M M' : Nat → Prop} {W wr w' : World} {w gen m m' T : Nat} {l l' : List (Int × Int)} {sg so sk sk' sc sc' : Value}
theorem FnM.stepNo (h : FnM M W wr w gen m T l sg so sk sc) (hx : Ext No wr w') : FnM M W w' w gen m T l sg so sk sc :=
 ⟨h.ext.transNo hx, hx.blk h.boxA no_no, hx.blk h.boxR no_no, hx.blk h.boxT no_no, h.kill.extNo hx, row_keep h.own hx (fun _ _ x => x), h.big⟩
theorem FnM.mono (h : FnM M W wr w gen m T l sg so sk sc) (hm : ∀ i, i < wr.heap.size → M' i → M i) : FnM M' W wr w gen m T l sg so sk sc :=
 ⟨h.ext, h.boxA, h.boxR, h.boxT, h.kill.mono (fun i hi e => by
  rcases e with (e | e) | e
  ·exact .inl (.inl (hm i hi e))
  ·exact .inl (.inr e)
  exact .inr e), h.own, h.big⟩
theorem FnM.ownLt (h : FnM M W wr w gen m T l sg so sk sc) (k : Nat) (hk : sc.ownBlock = some k) : T + 1 ≤ k ∧ k < wr.heap.size := World.ownsRow.lt h.own k hk
theorem FnM.hM (hM : ∀ b, M b → b < wr.heap.size) (h : FnM M W wr w gen m T l sg so sk sc) : ∀ b, ((M b ∨ b = W.heap.size + 1 ∨ b = T) ∨ sc.ownBlock = some b) → b < wr.heap.size := fun b hb => by
 have h1 := lt_of_block h.boxT
 have h2 := h.big
 rcases hb with (hb | rfl | rfl) | hb
 ·exact hM b hb
 ·omega
 ·exact h1
 exact (h.ownLt b hb).2
theorem FnM.box {S : Nat} {u0 u1 : Value} (h : FnM M W wr w gen m T l sg so sk sc) (hS : T < S) (hv : ¬ sc.ownBlock = some S) (hMS : M S) : FnM M W ((wr.setCell ⟨S, 0, none⟩ u0).setCell ⟨S, 1, none⟩ u1) w gen m T l sg so sk sc := by
 have hb := h.big
 have hE : Ext (At S) wr ((wr.setCell ⟨S, 0, none⟩ u0).setCell ⟨S, 1, none⟩ u1) := ((Ext.refl (At S) wr).setAt _ _).setAt _ _
 refine ⟨h.ext.trans2 hE (fun i hi e => by unfold At at e; omega), hE.blk h.boxA (by unfold At; omega), hE.blk h.boxR (by unfold At; omega), hE.blk h.boxT (by unfold At; omega), h.kill.ext hE (fun i _ e => by cases e; exact .inl (.inl hMS)), ?_, hb⟩
 obtain ⟨h1, h2⟩ := h.own
 refine ⟨h1, ?_⟩
 rcases h2 with h2 | ⟨g, cap, cur, hv2, hb2, hg, hr⟩
 ·exact .inl h2
 refine .inr ⟨g, cap, cur, hv2, hb2, (hE.block g (lt_of_block hg) (fun e => hv ?_)).trans hg, hr⟩
 cases e
 rw [hv2]; rfl
theorem FnM.putK (h : FnM M W wr w gen m T l sg so sk sc) (hs : SetAt (fun b => (M b ∨ b = W.heap.size + 1 ∨ b = T) ∨ sc.ownBlock = some b) wr sk' w m') : FnM M W ((wr.setCell ⟨T, 2, none⟩ (.int .i64 (w : Int))).setCell ⟨T, 3, none⟩ sk') w gen m' T l sg so sk' sc := by
 have hb := h.big
 have hE : Ext (At T) wr ((wr.setCell ⟨T, 2, none⟩ (.int .i64 (w : Int))).setCell ⟨T, 3, none⟩ sk') := ((Ext.refl (At T) wr).setAt _ _).setAt _ _
 exact ⟨h.ext.trans2 hE (fun i hi e => by unfold At at e; omega), hE.blk h.boxA (by unfold At; omega), hE.blk h.boxR (by unfold At; omega), (set_same (j := 3) (set_same (j := 2) h.boxT)).trans rfl, hs.ext hE (fun i _ e => .inl (.inr (.inr e))), row_keep h.own hE (fun i hi e => by unfold At at e; omega), hb⟩
theorem FnM.app {o : Obj} {a b : Int} (h : FnM M W wr w gen m T l sg so sk sc) (hown : w'.ownsRow (T + 1) 27 2 sc' (l.length + 1) (flatC l ++ [.int .i64 a, .int .i64 b]))
  (hg : (wr.alloc o).grownBy w' sc.ownBlock) (hv : sc'.ownBlock = sc.ownBlock ∨ sc'.ownBlock = some (wr.alloc o).heap.size) :
  FnM M W (w'.setCell ⟨T, 4, none⟩ sc') w gen m T (l ++ [(a, b)]) sg so sk sc' ∧ w'.heap[T]? = some (.cells #[.int .i64 (w : Int), sg, .int .i64 (w : Int), sk, sc] 30 (0, 0)) := by
 have hE : Ext (fun k => sc.ownBlock = some k) wr w' := ((Ext.refl _ wr).alloc o).grown hg (fun k hk _ => hk)
 have hb := h.big
 have hne : ∀ k, k ≤ T → ¬ sc.ownBlock = some k := fun k hk e => by have := (h.ownLt k e).1; omega
 have hE2 : Ext (At T) w' (w'.setCell ⟨T, 4, none⟩ sc') := (Ext.refl (At T) _).setAt _ _
 have hT := hE.blk h.boxT (hne T (Nat.le_refl _))
 refine ⟨⟨?_, ?_, ?_, ?_, ?_, ?_, hb⟩, hT⟩
 ·refine (h.ext.trans2 hE (fun i hi e => ?_)).trans2 hE2 (fun i hi e => by unfold At at e; omega)
  have := (h.ownLt i e).1
  omega
 ·exact hE2.blk (hE.blk h.boxA (hne _ (by omega))) (by unfold At; omega)
 ·exact hE2.blk (hE.blk h.boxR (hne _ (by omega))) (by unfold At; omega)
 ·exact (set_same (j := 4) hT).trans rfl
 ·exact (area_set hg hv h.kill).ext hE2 (fun i _ e => .inl (.inr (.inr e)))
 have e1 : (l ++ [(a, b)]).length = l.length + 1 := by simp
 rw [e1, ← flatC_app]
 exact row_keep hown hE2 (fun i hi e => by unfold At at e; omega)
theorem FnM.slice (h : FnM M W wr w gen m T l sg so sk sc) : ∃ a c, sc = .slice a l.length c := (Row.ofOwns (M := No) h.own (fun _ _ x => x)).slice
end
theorem FnM.late {M : Nat → Prop} {W w7 : World} {w gen m L : Nat} {sg so sk : Value} (hx : Ext No W w7) (hA : w7.heap[W.heap.size]? = some (.cells #[.int .i64 (w : Int), sg, so] 62 (0, 0)))
  (hC : w7.heap[W.heap.size + 1]? = some (.cells #[.int .i64 0, .slice none 0 0, .int .i64 0, .slice none 0 0, .slice none 0 0] 30 (0, 0))) (hs : SetAt (Lo L) w7 sk w m) (hL : W.heap.size + 1 < L) (hM : ∀ b, M b → b < W.heap.size) :
  FnM M W (w7.alloc (.cells #[.int .i64 (w : Int), sg, .int .i64 (w : Int), sk, .slice none 0 0] 30)) w gen m w7.heap.size [] sg so sk (.slice none 0 0) :=
 ⟨hx.alloc _, alloc_under hA, alloc_under hC, alloc_top rfl, (hs.mono (fun i hi e => by
  unfold Lo
  rcases e with (e | e | e) | e
  ·have := hM i e; omega
  ·omega
  ·omega
  cases e)).extNo ((Ext.refl _ _).alloc _), World.ownsRow_nil _ _ _ _, lt_of_block hC⟩
theorem FnM.early {M : Nat → Prop} {W w7 : World} {w gen m L D : Nat} {sg so sk : Value} (hx : Ext No W w7) (hA : w7.heap[W.heap.size]? = some (.cells #[.int .i64 (w : Int), sg, so] 62 (0, 0)))
  (hC : w7.heap[W.heap.size + 1]? = some (.cells #[.int .i64 0, .slice none 0 0, .int .i64 0, .slice none 0 0, .slice none 0 0] 30 (0, 0))) (hs : SetAt (Lo L) w7 sk w m) (hD : W.heap.size + 1 < D) (hL : D < L) (hI : w7.heap[D]? = some (.cells #[.int .i64 0, .slice none 0 0, .int .i64 0, .slice none 0 0, .slice none 0 0] 30 (0, 0))) (hM : ∀ b, M b → b < W.heap.size) :
  FnM M W (((((w7.setCell ⟨D, 0, none⟩ (.int .i64 (w : Int))).setCell ⟨D, 1, none⟩ sg).setCell ⟨D, 2, none⟩ (.int .i64 (w : Int))).setCell ⟨D, 3, none⟩ sk).setCell ⟨D, 4, none⟩ (.slice none 0 0)) w gen m D [] sg so sk (.slice none 0 0) := by
 have hE := set5 w7 D (.int .i64 (w : Int)) sg (.int .i64 (w : Int)) sk (.slice none 0 0)
 exact ⟨hx.trans2 hE (fun i hi e => by unfold At at e; omega), hE.blk hA (by unfold At; omega), hE.blk hC (by unfold At; omega), BoxR.fin5 ⟨_, rfl, hI⟩ _ _ _ _ _, (hs.early5 hL).mono (fun i hi e => by
  unfold Lo
  rcases e with (e | e | e) | e
  ·have := hM i e; omega
  ·omega
  ·omega
  cases e), World.ownsRow_nil _ _ _ _, hD⟩
def FnPost (M : Nat → Prop) (w gen : Nat) (rs : List Nat) (W : World) (e : Ending) (w' : World) : Prop :=
 ∃ ag cg ak ck ac n cc, e = .returned (.tuple #[.agg #[.int .i64 (w : Int), .slice ag (nw w) cg, .int .i64 (w : Int), .slice ak (nw w) ck, .slice ac n cc], .bool (decide ((n : Int) ≤ 64))]) ∧ n = (copTo w gen rs w).length ∧
  Hid (SetAt M w' (.slice ag (nw w) cg) w gen ∧ SetAt M w' (.slice ak (nw w) ck) w (killTo w gen rs w) ∧ Row M w' 2 (.slice ac n cc) n (flatC (copTo w gen rs w))) ∧ Ext No W w'
set_option maxRecDepth 100000 in
set_option maxHeartbeats 8000000 in
theorem rfunction_any (M : Nat → Prop) (w gen : Nat) (rs : List Nat) (sg so : Value) (W : World) (hM : ∀ b, M b → b < W.heap.size) (hg : SetAt M W sg w gen) (hr : SetsV No W so w rs) (hl : rs.length = w) :
  Calls Tryd.prog 52 #[.agg #[.int .i64 (w : Int), sg, so]] W (FnPost M w gen rs W) := by
 have HR := Lib.hid hr
 have HM := Lib.hid hM
 have HG := Lib.hid hg
 have HLR := Lib.hid hl
 have HRM := Lib.hid hr.hm
 obtain ⟨ag, cg, rfl⟩ := hg.slice
 obtain ⟨ao, co, rfl⟩ := hr.slice
 have hw := hg.hw
 obtain ⟨i0, hi0, hz0, hz1, hz2⟩ := info_parts infoC
 clear hr hM hg hl
 go_enter Tryd.func52, Tryd.ntmps52
 go_wp2_with fail
 have hx0 : Ext No W ((W.alloc (.cells #[.int .i64 (w : Int), .slice ag (nw w) cg, .slice ao rs.length co] 62)).alloc (.cells #[.int .i64 0, .slice none 0 0, .int .i64 0, .slice none 0 0, .slice none 0 0] 30)) := ((Ext.refl _ _).alloc _).alloc _
 have hA : ((W.alloc (.cells #[.int .i64 (w : Int), .slice ag (nw w) cg, .slice ao rs.length co] 62)).alloc (.cells #[.int .i64 0, .slice none 0 0, .int .i64 0, .slice none 0 0, .slice none 0 0] 30)).heap[W.heap.size]? = some (.cells #[.int .i64 (w : Int), .slice ag (nw w) cg, .slice ao rs.length co] 62 (0, 0)) := alloc_under (alloc_top rfl)
 have hB : ((W.alloc (.cells #[.int .i64 (w : Int), .slice ag (nw w) cg, .slice ao rs.length co] 62)).alloc (.cells #[.int .i64 0, .slice none 0 0, .int .i64 0, .slice none 0 0, .slice none 0 0] 30)).heap[W.heap.size + 1]? = some (.cells #[.int .i64 0, .slice none 0 0, .int .i64 0, .slice none 0 0, .slice none 0 0] 30 (0, 0)) := alloc_top (by simp)
 have hsz : W.heap.size + 1 < ((W.alloc (.cells #[.int .i64 (w : Int), .slice ag (nw w) cg, .slice ao rs.length co] 62)).alloc (.cells #[.int .i64 0, .slice none 0 0, .int .i64 0, .slice none 0 0, .slice none 0 0] 30)).heap.size := lt_of_block hB
 generalize ((W.alloc (.cells #[.int .i64 (w : Int), .slice ag (nw w) cg, .slice ao rs.length co] 62)).alloc (.cells #[.int .i64 0, .slice none 0 0, .int .i64 0, .slice none 0 0, .slice none 0 0] 30)) = W2 at *
 have HA := Lib.hid hA
 have HB := Lib.hid hB
 have HX0 := Lib.hid hx0
 go_cut [5] (fun s5 wx => ∃ T g, s5 = .pointer (some ⟨T, 0, none⟩) ∧ Hid (FnM M W wx w gen 0 T [] (.slice ag (nw w) cg) (.slice ao rs.length co) (.slice (some ⟨g, 0, none⟩) (nw w) (nw w)) (.slice none 0 0)))
 case first =>
  have l0 : W2.cell? ⟨W.heap.size, 0, none⟩ = some (.int .i64 (w : Int)) := cellOf hA 0
  have l1 : W2.cell? ⟨W.heap.size, 1, none⟩ = some (.slice ag (nw w) cg) := cellOf hA 1
  have l2 : W2.cell? ⟨W.heap.size, 2, none⟩ = some (.slice ao rs.length co) := cellOf hA 2
  have l3 : Ext No W2 W2 := Ext.refl _ _
  have hlA : W.heap.size < W2.heap.size := by omega
  clear hA hB
  go_region_held3 (fun w' => w'.cell? ⟨W.heap.size, 0, none⟩ = some (.int .i64 (w : Int)) ∧ w'.cell? ⟨W.heap.size, 1, none⟩ = some (.slice ag (nw w) cg) ∧ w'.cell? ⟨W.heap.size, 2, none⟩ = some (.slice ao rs.length co) ∧ Ext No W2 w')
   ((go_split_ands; refine ⟨?_, ?_, ?_, ?_⟩ <;> (repeat (first | (with_reducible assumption) | (with_reducible exact Ext.refl _ _) | (with_reducible refine keepD ?_) | (with_reducible refine keepA ?_) | (with_reducible refine Ext.drew ?_) | (with_reducible refine Ext.alloc ?_ _) | (with_reducible refine BoxR.drew ?_) | (with_reducible refine BoxR.alloc ?_ _) | (with_reducible refine BoxR.set ?_ _ _) | ((with_reducible refine keepS ?_ ?_); (first | (with_reducible assumption) | omega | (simp; omega) | (exact Nat.le_refl _))) | (with_reducible refine Ext.setAt ?_ _ _) | ((with_reducible refine Ext.own ?_ ?_ _); rotate_left; (first | (with_reducible assumption) | omega | (simp; omega) | (exact Nat.le_refl _))) | (with_reducible refine keepN hyA ?_) | (with_reducible refine Ext.transNo ?_ hyA) | (with_reducible refine BoxR.ext ?_ hyA)))))
   (first
    | ((go_at_call 5); (try go_split_ands); (with_reducible refine (rempty_any w _ hw).mono ?_); (have hx4 := (show Ext No W2 _ from by with_reducible assumption)); (rintro e5 w5 ⟨g5, rfl, hb5, hg5, hyA⟩); (have hyC := hyA); (have hs5 := hx4.size); (have hx5 := Ext.transNo hx4 hyA); (first | (with_reducible have hi := two_facts2 hyC (alloc_top (o := (.cells #[.int .i64 0, .slice none 0 0, .int .i64 0, .slice none 0 0, .slice none 0 0] 30)) rfl)) | skip); (try ((obtain ⟨hi, hlt⟩ := hi); (have HI := Lib.hid hi); (have HL := Lib.hid hlt); (have cI := cellOf hi); (have fI := freeOf hi); (clear hi hlt)))))
  all_goals
   go_wp2_with fail
   go_meet
   first
   | exact ⟨_, g5, rfl, Lib.hid (FnM.late (HX0.out.transNo hx5) (hx5.blk HA.out no_no) (hx5.blk HB.out no_no) (hb5.out.set hw (Nat.two_pow_pos _) (fun e => Nat.not_lt.2 hg5 e)) (Nat.lt_of_lt_of_le hsz hs5) HM.out)⟩
   | exact ⟨_, g5, rfl, Lib.hid (FnM.early (HX0.out.transNo hx5) (hx5.blk HA.out no_no) (hx5.blk HB.out no_no) (hb5.out.set hw (Nat.two_pow_pos _) (fun e => Nat.not_lt.2 hg5 e)) hsz HL.out HI.out HM.out)⟩
 case rest =>
 obtain ⟨T, g, rfl, hm⟩ := hcut
 rename World => V
 clear hA hB hx0 hsz HA HB HX0
 go_wp2_with fail
 go_loopw [6] (fun i wr => ∃ (a m : Nat) (ak : Option Addr) (ck : Nat) (ac : Option Addr) (cc : Nat) (l : List (Int × Int)), a ≤ w ∧ i = .int .i64 a ∧ Hid (m = rkillTo w gen rs a ∧ l = copTo w gen rs a) ∧ Hid (FnM M W wr w gen m T l (.slice ag (nw w) cg) (.slice ao rs.length co) (.slice ak (nw w) ck) (.slice ac l.length cc))) (fun i _ => w - (intOf i).toNat)
 case atStart => exact ⟨0, 0, _, _, none, 0, [], Nat.zero_le _, rfl, Lib.hid ⟨rfl, rfl⟩, hm⟩
 clear hm
 obtain ⟨a, m, ak, ck, ac, cc, l, ha, rfl, hml, hm⟩ := hrel
 rename World => wr
 have hpos : (0 : Int) ≤ (a : Int) := by omega
 by_cases hlt : a < w
 ·have hkr : a < rs.length := by have := HLR.out; omega
  have hlz : (a : Int) < (w : Int) := by omega
  have hlrz : (a : Int) < (rs.length : Int) := by omega
  have HKK : Hid (Value.int .i64 ((a : Int) + 1) = .int .i64 ((a + 1 : Nat) : Int)) := Lib.hid (by rw [show ((a + 1 : Nat) : Int) = (a : Int) + 1 from by omega])
  have HRK := Lib.hid (show rowAt rs a = rs[a] from rowAt_get hkr)
  have HRA := Lib.hid (HRM.out rs[a] (List.getElem_mem hkr))
  have HLL := Lib.hid (show l.length ≤ 65536 by
   rw [hml.out.2]
   have h1 := copTo_len w gen rs a
   have h2 : a * w ≤ 256 * 256 := Nat.mul_le_mul (by omega) hw
   omega)
  obtain ⟨gga, goa, gca, aea, cea, hsra, _, _, z0a, z1a, hEa⟩ := (HR.out.extNo hm.out.ext).at hkr
  simp only [Value.slice.injEq] at hsra
  obtain ⟨hq1a, _, rfl⟩ := hsra
  cases hq1a
  have hE9 := Lib.hid hEa.out
  clear hEa
  have cA := cellOf hm.out.boxA
  go_wp2_with fail
  obtain ⟨b1, hb1⟩ : ∃ b1, hasZ w rs[a] (a : Int) = b1 := ⟨_, rfl⟩
  have HB1 := Lib.hid hb1
  refine (rhas_b w rs[a] b1 _ (a : Int) _ hb1 hE9.out).mono ?_
  rintro e6 w6 ⟨rfl, hy6⟩
  have hm6 := Lib.hid (hm.out.stepNo hy6)
  clear hm hy6 hb1 cA z0a z1a hE9
  have hm := hm6
  clear hm6
  cases b1
  ·
   have cT := cellOf hm.out.boxT
   go_wp2_with fail
   refine (rput_any w m a _ _ hlt hm.out.kill.no).mono ?_
   rintro e5 w5 ⟨g5, rfl, hb5, hlo, hx5⟩
   have hm5 := Lib.hid (hm.out.stepNo hx5)
   have hset := hb5.out.set (M := fun b => (M b ∨ b = W.heap.size + 1 ∨ b = T) ∨ (Value.slice ac l.length cc).ownBlock = some b) hw (orN_lt hm.out.kill.hm (bitN_lt hlt)) (fun e => by have := hm.out.hM (fun b hb => Nat.lt_of_lt_of_le (HM.out b hb) hm.out.ext.size) g5 e; omega)
   have hm6 := Lib.hid (hm5.out.putK hset)
   have cT5 := cellOf hm5.out.boxT
   have fT5 := freeOf hm5.out.boxT
   clear hx5 hb5 hset hlo hm cT
   go_wp2_with fail
   clear cT5 fT5 hm5
   have hm := hm6
   clear hm6
   obtain ⟨m', hmq⟩ : ∃ m', m' = m ||| 2 ^ a := ⟨_, rfl⟩
   rw [← hmq] at hm
   have hmk : Hid (m' = rkillTo w gen rs (a + 1)) := Lib.hid (by rw [hmq, rkill_yes (by rw [HRK.out, HB1.out]; rfl), ← hml.out.1])
   clear hmq
   go_loopw [7] (fun i wi => ∃ (b : Nat) (l' : List (Int × Int)) (ac' : Option Addr) (cc' : Nat), b ≤ w ∧ i = .int .i64 b ∧ Hid (l' = l ++ keepC a (memTo (diffN rs[a] gen) b)) ∧ Hid (FnM M W wi w gen m' T l' (.slice ag (nw w) cg) (.slice (some ⟨gga, goa, none⟩) rs.length co) (.slice (some ⟨g5, 0, none⟩) (nw w) (nw w)) (.slice ac' l'.length cc'))) (fun i _ => w - (intOf i).toNat)
   case atStart => exact ⟨0, l, ac, cc, Nat.zero_le _, rfl, Lib.hid (by simp [memTo_zero, keepC]), hm⟩
   clear hm
   obtain ⟨b, l', ac', cc', hb, rfl, hl', hm⟩ := hrel
   rename World => w9
   have hposb : (0 : Int) ≤ (b : Int) := by omega
   by_cases hlb : b < w
   ·have hlbz : (b : Int) < (w : Int) := by omega
    have HKB : Hid (Value.int .i64 ((b : Int) + 1) = .int .i64 ((b + 1 : Nat) : Int)) := Lib.hid (by rw [show ((b + 1 : Nat) : Int) = (b : Int) + 1 from by omega])
    have HLJ := Lib.hid (show l'.length ≤ 66000 by
     rw [hl'.out, List.length_append]
     have h1 := keepC_len a (memTo (diffN rs[a] gen) b)
     have h2 := HLL.out
     have h3 := memTo_len (diffN rs[a] gen) b
     omega)
    by_cases hab : a = b
    ·have hne2 : ((a : Int) != (b : Int)) = false := by simp; omega
     have HAB := Lib.hid hab
     clear hab
     have HLN := Lib.hid (show l' = l ++ keepC a (memTo (diffN rs[a] gen) (b + 1)) by rw [keep_skip (.inr HAB.out)]; exact hl'.out)
     go_wp2_with fail
     go_roundw
     case rel => exact ⟨b + 1, l', ac', cc', by omega, HKB.out, HLN, hm⟩
     case measure => simp [intOf]; omega
    have hne2 : ((a : Int) != (b : Int)) = true := by simp; omega
    have HAB := Lib.hid hab
    clear hab
    have cA := cellOf hm.out.boxA
    obtain ⟨ggb, gob, gcb, aeb, ceb, hsrb, _, _, z0b, z1b, hEb⟩ := (HR.out.extNo hm.out.ext).at hkr
    simp only [Value.slice.injEq] at hsrb
    obtain ⟨hq1b, _, rfl⟩ := hsrb
    cases hq1b
    have hE9 := Lib.hid hEb.out
    clear hEb
    go_wp2_with fail
    obtain ⟨b1, hb1⟩ : ∃ b1, rs[a].testBit b = b1 := ⟨_, rfl⟩
    have HB1 := Lib.hid hb1
    refine (rhas_b w rs[a] b1 _ (b : Int) _ (by rw [hasZ_nat hlb]; exact hb1) hE9.out).mono ?_
    rintro e6 w6 ⟨rfl, hy6⟩
    have hm6 := Lib.hid (hm.out.stepNo hy6)
    clear hm hy6 hb1 cA z0b z1b hE9
    have hm := hm6
    clear hm6
    rename_i w9old
    have cA := cellOf hm.out.boxA
    cases b1
    ·
     have HLN := Lib.hid (show l' = l ++ keepC a (memTo (diffN rs[a] gen) (b + 1)) by rw [keep_skip (.inl (by rw [diffN_bit, HB1.out]; rfl))]; exact hl'.out)
     go_wp2_with fail
     go_roundw
     case rel => exact ⟨b + 1, l', ac', cc', by omega, HKB.out, HLN, hm⟩
     case measure => simp [intOf]; omega
    go_wp2_with fail
    obtain ⟨b2, hb2⟩ : ∃ b2, gen.testBit b = b2 := ⟨_, rfl⟩
    have HB2 := Lib.hid hb2
    refine (rhas_b w gen b2 _ (b : Int) _ (by rw [hasZ_nat hlb]; exact hb2) (HG.out.no.extNo hm.out.ext)).mono ?_
    rintro e8 w9 ⟨rfl, hy8⟩
    have hm8 := Lib.hid (hm.out.stepNo hy8)
    clear hm hy8 hb2 cA
    have hm := hm8
    clear hm8
    cases b2
    ·have HLN := Lib.hid (show l' ++ [((a : Int), (b : Int))] = l ++ keepC a (memTo (diffN rs[a] gen) (b + 1)) by rw [keep_step HAB.out (by rw [diffN_bit, HB1.out, HB2.out]; rfl), ← List.append_assoc, ← hl'.out])
     have hll := HLJ.out
     have cT := cellOf hm.out.boxT
     go_wp2_with (at_builtin; (refine wpList_app _ rfl (.tmp 65) (.tmp 69) 28 rfl (T + 1) 27 i0 _ 2 16 Tryd.underlying28 hi0 hz0 hz1 hz2 rfl (by omega) (.slice ac' l'.length cc') l'.length (flatC l') rfl (row_keep hm.out.own ((Ext.refl No _).alloc _) (fun _ _ x => x)) No (some ⟨w9.heap.size, 0, none⟩) 1 1 [.int .i64 (a : Int), .int .i64 (b : Int)] rfl (Row.block (alloc_top rfl) rfl no_no (by omega)) (by simp [Value.oneCell']) (by omega) (by omega) (by simp; exact Nat.le_of_lt (lt_of_block hm.out.boxT)) ?_); (intro v1 w5 hown1 hg1 hv1); (obtain ⟨hm6, hT6⟩ := hm.out.app hown1 hg1 hv1); (have cT6 := cellOf hT6); (have fT6 := freeOf hT6); (have HM6 := Lib.hid hm6); (obtain ⟨a6, c6, hs6⟩ := hm6.slice); (subst hs6); (clear hm6 hT6 hown1 hg1 hv1))
     go_roundw
     case rel => exact ⟨b + 1, l' ++ [((a : Int), (b : Int))], a6, c6, by omega, HKB.out, HLN, by have := HM6; simp only [List.length_append, List.length_cons, List.length_nil] at this ⊢; exact this⟩
     case measure => simp [intOf]; omega
    ·
     have HLN := Lib.hid (show l' = l ++ keepC a (memTo (diffN rs[a] gen) (b + 1)) by rw [keep_skip (.inl (by rw [diffN_bit, HB2.out]; simp))]; exact hl'.out)
     go_wp2_with fail
     go_roundw
     case rel => exact ⟨b + 1, l', ac', cc', by omega, HKB.out, HLN, hm⟩
     case measure => simp [intOf]; omega
   obtain rfl : b = w := by omega
   have hgeb : ¬ (b : Int) < (b : Int) := by omega
   have HLN := Lib.hid (show l' = copTo b gen rs (a + 1) by rw [copTo, HRK.out, hl'.out, hml.out.2, membersN_all (diffN_lt HRA.out) (Nat.le_refl _)])
   go_wp2_with fail
   go_roundw
   case rel => exact ⟨a + 1, m', _, _, ac', cc', l', by omega, HKK.out, Lib.hid ⟨hmk.out, HLN.out⟩, hm⟩
   case measure => simp [intOf]; omega
  have cA := cellOf hm.out.boxA
  go_wp2_with fail
  obtain ⟨b2, hb2⟩ : ∃ b2, hasZ w gen (a : Int) = b2 := ⟨_, rfl⟩
  have HB2 := Lib.hid hb2
  refine (rhas_b w gen b2 _ (a : Int) _ hb2 (HG.out.no.extNo hm.out.ext)).mono ?_
  rintro e8 w8 ⟨rfl, hy8⟩
  have hm8 := Lib.hid (hm.out.stepNo hy8)
  clear hm hy8 hb2 cA
  have hm := hm8
  clear hm8
  cases b2
  ·
   go_wp2_with fail
   obtain ⟨m', hmq⟩ : ∃ m', m' = m := ⟨_, rfl⟩
   rw [← hmq] at hm
   have hmk : Hid (m' = rkillTo w gen rs (a + 1)) := Lib.hid (by rw [hmq, rkill_no (by rw [HRK.out, HB1.out, HB2.out]; rfl), ← hml.out.1])
   clear hmq
   go_loopw [7] (fun i wi => ∃ (b : Nat) (l' : List (Int × Int)) (ac' : Option Addr) (cc' : Nat), b ≤ w ∧ i = .int .i64 b ∧ Hid (l' = l ++ keepC a (memTo (diffN rs[a] gen) b)) ∧ Hid (FnM M W wi w gen m' T l' (.slice ag (nw w) cg) (.slice (some ⟨gga, goa, none⟩) rs.length co) (.slice ak (nw w) ck) (.slice ac' l'.length cc'))) (fun i _ => w - (intOf i).toNat)
   case atStart => exact ⟨0, l, ac, cc, Nat.zero_le _, rfl, Lib.hid (by simp [memTo_zero, keepC]), hm⟩
   clear hm
   obtain ⟨b, l', ac', cc', hb, rfl, hl', hm⟩ := hrel
   rename World => w9
   have hposb : (0 : Int) ≤ (b : Int) := by omega
   by_cases hlb : b < w
   ·have hlbz : (b : Int) < (w : Int) := by omega
    have HKB : Hid (Value.int .i64 ((b : Int) + 1) = .int .i64 ((b + 1 : Nat) : Int)) := Lib.hid (by rw [show ((b + 1 : Nat) : Int) = (b : Int) + 1 from by omega])
    have HLJ := Lib.hid (show l'.length ≤ 66000 by
     rw [hl'.out, List.length_append]
     have h1 := keepC_len a (memTo (diffN rs[a] gen) b)
     have h2 := HLL.out
     have h3 := memTo_len (diffN rs[a] gen) b
     omega)
    by_cases hab : a = b
    ·have hne2 : ((a : Int) != (b : Int)) = false := by simp; omega
     have HAB := Lib.hid hab
     clear hab
     have HLN := Lib.hid (show l' = l ++ keepC a (memTo (diffN rs[a] gen) (b + 1)) by rw [keep_skip (.inr HAB.out)]; exact hl'.out)
     go_wp2_with fail
     go_roundw
     case rel => exact ⟨b + 1, l', ac', cc', by omega, HKB.out, HLN, hm⟩
     case measure => simp [intOf]; omega
    have hne2 : ((a : Int) != (b : Int)) = true := by simp; omega
    have HAB := Lib.hid hab
    clear hab
    have cA := cellOf hm.out.boxA
    obtain ⟨ggb, gob, gcb, aeb, ceb, hsrb, _, _, z0b, z1b, hEb⟩ := (HR.out.extNo hm.out.ext).at hkr
    simp only [Value.slice.injEq] at hsrb
    obtain ⟨hq1b, _, rfl⟩ := hsrb
    cases hq1b
    have hE9 := Lib.hid hEb.out
    clear hEb
    go_wp2_with fail
    obtain ⟨b1, hb1⟩ : ∃ b1, rs[a].testBit b = b1 := ⟨_, rfl⟩
    have HB1 := Lib.hid hb1
    refine (rhas_b w rs[a] b1 _ (b : Int) _ (by rw [hasZ_nat hlb]; exact hb1) hE9.out).mono ?_
    rintro e6 w6 ⟨rfl, hy6⟩
    have hm6 := Lib.hid (hm.out.stepNo hy6)
    clear hm hy6 hb1 cA z0b z1b hE9
    have hm := hm6
    clear hm6
    rename_i w9old
    have cA := cellOf hm.out.boxA
    cases b1
    ·
     have HLN := Lib.hid (show l' = l ++ keepC a (memTo (diffN rs[a] gen) (b + 1)) by rw [keep_skip (.inl (by rw [diffN_bit, HB1.out]; rfl))]; exact hl'.out)
     go_wp2_with fail
     go_roundw
     case rel => exact ⟨b + 1, l', ac', cc', by omega, HKB.out, HLN, hm⟩
     case measure => simp [intOf]; omega
    go_wp2_with fail
    obtain ⟨b2, hb2⟩ : ∃ b2, gen.testBit b = b2 := ⟨_, rfl⟩
    have HB2 := Lib.hid hb2
    refine (rhas_b w gen b2 _ (b : Int) _ (by rw [hasZ_nat hlb]; exact hb2) (HG.out.no.extNo hm.out.ext)).mono ?_
    rintro e8 w9 ⟨rfl, hy8⟩
    have hm8 := Lib.hid (hm.out.stepNo hy8)
    clear hm hy8 hb2 cA
    have hm := hm8
    clear hm8
    cases b2
    ·have HLN := Lib.hid (show l' ++ [((a : Int), (b : Int))] = l ++ keepC a (memTo (diffN rs[a] gen) (b + 1)) by rw [keep_step HAB.out (by rw [diffN_bit, HB1.out, HB2.out]; rfl), ← List.append_assoc, ← hl'.out])
     have hll := HLJ.out
     have cT := cellOf hm.out.boxT
     go_wp2_with (at_builtin; (refine wpList_app _ rfl (.tmp 65) (.tmp 69) 28 rfl (T + 1) 27 i0 _ 2 16 Tryd.underlying28 hi0 hz0 hz1 hz2 rfl (by omega) (.slice ac' l'.length cc') l'.length (flatC l') rfl (row_keep hm.out.own ((Ext.refl No _).alloc _) (fun _ _ x => x)) No (some ⟨w9.heap.size, 0, none⟩) 1 1 [.int .i64 (a : Int), .int .i64 (b : Int)] rfl (Row.block (alloc_top rfl) rfl no_no (by omega)) (by simp [Value.oneCell']) (by omega) (by omega) (by simp; exact Nat.le_of_lt (lt_of_block hm.out.boxT)) ?_); (intro v1 w5 hown1 hg1 hv1); (obtain ⟨hm6, hT6⟩ := hm.out.app hown1 hg1 hv1); (have cT6 := cellOf hT6); (have fT6 := freeOf hT6); (have HM6 := Lib.hid hm6); (obtain ⟨a6, c6, hs6⟩ := hm6.slice); (subst hs6); (clear hm6 hT6 hown1 hg1 hv1))
     go_roundw
     case rel => exact ⟨b + 1, l' ++ [((a : Int), (b : Int))], a6, c6, by omega, HKB.out, HLN, by have := HM6; simp only [List.length_append, List.length_cons, List.length_nil] at this ⊢; exact this⟩
     case measure => simp [intOf]; omega
    ·
     have HLN := Lib.hid (show l' = l ++ keepC a (memTo (diffN rs[a] gen) (b + 1)) by rw [keep_skip (.inl (by rw [diffN_bit, HB2.out]; simp))]; exact hl'.out)
     go_wp2_with fail
     go_roundw
     case rel => exact ⟨b + 1, l', ac', cc', by omega, HKB.out, HLN, hm⟩
     case measure => simp [intOf]; omega
   obtain rfl : b = w := by omega
   have hgeb : ¬ (b : Int) < (b : Int) := by omega
   have HLN := Lib.hid (show l' = copTo b gen rs (a + 1) by rw [copTo, HRK.out, hl'.out, hml.out.2, membersN_all (diffN_lt HRA.out) (Nat.le_refl _)])
   go_wp2_with fail
   go_roundw
   case rel => exact ⟨a + 1, m', _, _, ac', cc', l', by omega, HKK.out, Lib.hid ⟨hmk.out, HLN.out⟩, hm⟩
   case measure => simp [intOf]; omega
  ·
   have cT := cellOf hm.out.boxT
   go_wp2_with fail
   refine (rput_any w m a _ _ hlt hm.out.kill.no).mono ?_
   rintro e5 w5 ⟨g5, rfl, hb5, hlo, hx5⟩
   have hm5 := Lib.hid (hm.out.stepNo hx5)
   have hset := hb5.out.set (M := fun b => (M b ∨ b = W.heap.size + 1 ∨ b = T) ∨ (Value.slice ac l.length cc).ownBlock = some b) hw (orN_lt hm.out.kill.hm (bitN_lt hlt)) (fun e => by have := hm.out.hM (fun b hb => Nat.lt_of_lt_of_le (HM.out b hb) hm.out.ext.size) g5 e; omega)
   have hm6 := Lib.hid (hm5.out.putK hset)
   have cT5 := cellOf hm5.out.boxT
   have fT5 := freeOf hm5.out.boxT
   clear hx5 hb5 hset hlo hm cT
   go_wp2_with fail
   clear cT5 fT5 hm5
   have hm := hm6
   clear hm6
   obtain ⟨m', hmq⟩ : ∃ m', m' = m ||| 2 ^ a := ⟨_, rfl⟩
   rw [← hmq] at hm
   have hmk : Hid (m' = rkillTo w gen rs (a + 1)) := Lib.hid (by rw [hmq, rkill_yes (by rw [HB2.out, Bool.or_true]), ← hml.out.1])
   clear hmq
   go_loopw [7] (fun i wi => ∃ (b : Nat) (l' : List (Int × Int)) (ac' : Option Addr) (cc' : Nat), b ≤ w ∧ i = .int .i64 b ∧ Hid (l' = l ++ keepC a (memTo (diffN rs[a] gen) b)) ∧ Hid (FnM M W wi w gen m' T l' (.slice ag (nw w) cg) (.slice (some ⟨gga, goa, none⟩) rs.length co) (.slice (some ⟨g5, 0, none⟩) (nw w) (nw w)) (.slice ac' l'.length cc'))) (fun i _ => w - (intOf i).toNat)
   case atStart => exact ⟨0, l, ac, cc, Nat.zero_le _, rfl, Lib.hid (by simp [memTo_zero, keepC]), hm⟩
   clear hm
   obtain ⟨b, l', ac', cc', hb, rfl, hl', hm⟩ := hrel
   rename World => w9
   have hposb : (0 : Int) ≤ (b : Int) := by omega
   by_cases hlb : b < w
   ·have hlbz : (b : Int) < (w : Int) := by omega
    have HKB : Hid (Value.int .i64 ((b : Int) + 1) = .int .i64 ((b + 1 : Nat) : Int)) := Lib.hid (by rw [show ((b + 1 : Nat) : Int) = (b : Int) + 1 from by omega])
    have HLJ := Lib.hid (show l'.length ≤ 66000 by
     rw [hl'.out, List.length_append]
     have h1 := keepC_len a (memTo (diffN rs[a] gen) b)
     have h2 := HLL.out
     have h3 := memTo_len (diffN rs[a] gen) b
     omega)
    by_cases hab : a = b
    ·have hne2 : ((a : Int) != (b : Int)) = false := by simp; omega
     have HAB := Lib.hid hab
     clear hab
     have HLN := Lib.hid (show l' = l ++ keepC a (memTo (diffN rs[a] gen) (b + 1)) by rw [keep_skip (.inr HAB.out)]; exact hl'.out)
     go_wp2_with fail
     go_roundw
     case rel => exact ⟨b + 1, l', ac', cc', by omega, HKB.out, HLN, hm⟩
     case measure => simp [intOf]; omega
    have hne2 : ((a : Int) != (b : Int)) = true := by simp; omega
    have HAB := Lib.hid hab
    clear hab
    have cA := cellOf hm.out.boxA
    obtain ⟨ggb, gob, gcb, aeb, ceb, hsrb, _, _, z0b, z1b, hEb⟩ := (HR.out.extNo hm.out.ext).at hkr
    simp only [Value.slice.injEq] at hsrb
    obtain ⟨hq1b, _, rfl⟩ := hsrb
    cases hq1b
    have hE9 := Lib.hid hEb.out
    clear hEb
    go_wp2_with fail
    obtain ⟨b1, hb1⟩ : ∃ b1, rs[a].testBit b = b1 := ⟨_, rfl⟩
    have HB1 := Lib.hid hb1
    refine (rhas_b w rs[a] b1 _ (b : Int) _ (by rw [hasZ_nat hlb]; exact hb1) hE9.out).mono ?_
    rintro e6 w6 ⟨rfl, hy6⟩
    have hm6 := Lib.hid (hm.out.stepNo hy6)
    clear hm hy6 hb1 cA z0b z1b hE9
    have hm := hm6
    clear hm6
    rename_i w9old
    have cA := cellOf hm.out.boxA
    cases b1
    ·
     have HLN := Lib.hid (show l' = l ++ keepC a (memTo (diffN rs[a] gen) (b + 1)) by rw [keep_skip (.inl (by rw [diffN_bit, HB1.out]; rfl))]; exact hl'.out)
     go_wp2_with fail
     go_roundw
     case rel => exact ⟨b + 1, l', ac', cc', by omega, HKB.out, HLN, hm⟩
     case measure => simp [intOf]; omega
    go_wp2_with fail
    obtain ⟨b2, hb2⟩ : ∃ b2, gen.testBit b = b2 := ⟨_, rfl⟩
    have HB2 := Lib.hid hb2
    refine (rhas_b w gen b2 _ (b : Int) _ (by rw [hasZ_nat hlb]; exact hb2) (HG.out.no.extNo hm.out.ext)).mono ?_
    rintro e8 w9 ⟨rfl, hy8⟩
    have hm8 := Lib.hid (hm.out.stepNo hy8)
    clear hm hy8 hb2 cA
    have hm := hm8
    clear hm8
    cases b2
    ·have HLN := Lib.hid (show l' ++ [((a : Int), (b : Int))] = l ++ keepC a (memTo (diffN rs[a] gen) (b + 1)) by rw [keep_step HAB.out (by rw [diffN_bit, HB1.out, HB2.out]; rfl), ← List.append_assoc, ← hl'.out])
     have hll := HLJ.out
     have cT := cellOf hm.out.boxT
     go_wp2_with (at_builtin; (refine wpList_app _ rfl (.tmp 65) (.tmp 69) 28 rfl (T + 1) 27 i0 _ 2 16 Tryd.underlying28 hi0 hz0 hz1 hz2 rfl (by omega) (.slice ac' l'.length cc') l'.length (flatC l') rfl (row_keep hm.out.own ((Ext.refl No _).alloc _) (fun _ _ x => x)) No (some ⟨w9.heap.size, 0, none⟩) 1 1 [.int .i64 (a : Int), .int .i64 (b : Int)] rfl (Row.block (alloc_top rfl) rfl no_no (by omega)) (by simp [Value.oneCell']) (by omega) (by omega) (by simp; exact Nat.le_of_lt (lt_of_block hm.out.boxT)) ?_); (intro v1 w5 hown1 hg1 hv1); (obtain ⟨hm6, hT6⟩ := hm.out.app hown1 hg1 hv1); (have cT6 := cellOf hT6); (have fT6 := freeOf hT6); (have HM6 := Lib.hid hm6); (obtain ⟨a6, c6, hs6⟩ := hm6.slice); (subst hs6); (clear hm6 hT6 hown1 hg1 hv1))
     go_roundw
     case rel => exact ⟨b + 1, l' ++ [((a : Int), (b : Int))], a6, c6, by omega, HKB.out, HLN, by have := HM6; simp only [List.length_append, List.length_cons, List.length_nil] at this ⊢; exact this⟩
     case measure => simp [intOf]; omega
    ·
     have HLN := Lib.hid (show l' = l ++ keepC a (memTo (diffN rs[a] gen) (b + 1)) by rw [keep_skip (.inl (by rw [diffN_bit, HB2.out]; simp))]; exact hl'.out)
     go_wp2_with fail
     go_roundw
     case rel => exact ⟨b + 1, l', ac', cc', by omega, HKB.out, HLN, hm⟩
     case measure => simp [intOf]; omega
   obtain rfl : b = w := by omega
   have hgeb : ¬ (b : Int) < (b : Int) := by omega
   have HLN := Lib.hid (show l' = copTo b gen rs (a + 1) by rw [copTo, HRK.out, hl'.out, hml.out.2, membersN_all (diffN_lt HRA.out) (Nat.le_refl _)])
   go_wp2_with fail
   go_roundw
   case rel => exact ⟨a + 1, m', _, _, ac', cc', l', by omega, HKK.out, Lib.hid ⟨hmk.out, HLN.out⟩, hm⟩
   case measure => simp [intOf]; omega
 obtain rfl : a = w := by omega
 have hge : ¬ (a : Int) < (a : Int) := by omega
 have HLK := Lib.hid hml.out.2
 have HMK := Lib.hid (hml.out.1.trans (rkillTo_end HG.out.hm))
 go_wp2_with fail
 have cT := cellOf hm.out.boxT
 have l0 : wr.cell? ⟨T, 0, none⟩ = some (.int .i64 (a : Int)) := cT 0
 have l1 : wr.cell? ⟨T, 1, none⟩ = some (.slice ag (nw a) cg) := cT 1
 have l2 : wr.cell? ⟨T, 2, none⟩ = some (.int .i64 (a : Int)) := cT 2
 have l3 : wr.cell? ⟨T, 3, none⟩ = some (.slice ak (nw a) ck) := cT 3
 have l4 : wr.cell? ⟨T, 4, none⟩ = some (.slice ac l.length cc) := cT 4
 have cR := cellOf hm.out.boxR
 have fR := freeOf hm.out.boxR
 have hne : ¬ W.heap.size + 1 = T := by have := hm.out.big; omega
 have hne2 : T ≠ W.heap.size + 1 := fun e => hne e.symm
 clear cT
 go_region_held3 (fun w' => w'.cell? ⟨T, 0, none⟩ = some (.int .i64 (a : Int)) ∧ w'.cell? ⟨T, 1, none⟩ = some (.slice ag (nw a) cg) ∧ w'.cell? ⟨T, 2, none⟩ = some (.int .i64 (a : Int)) ∧ w'.cell? ⟨T, 3, none⟩ = some (.slice ak (nw a) ck) ∧ w'.cell? ⟨T, 4, none⟩ = some (.slice ac l.length cc))
  ((go_split_ands; refine ⟨?_, ?_, ?_, ?_, ?_⟩ <;> (repeat (first | (with_reducible assumption) | (with_reducible exact Ext.refl _ _) | (with_reducible refine keepD ?_) | (with_reducible refine keepA ?_) | (with_reducible refine Ext.drew ?_) | (with_reducible refine Ext.alloc ?_ _) | (with_reducible refine BoxR.drew ?_) | (with_reducible refine BoxR.alloc ?_ _) | (with_reducible refine BoxR.set ?_ _ _) | ((with_reducible refine keepS ?_ ?_); (first | (with_reducible assumption) | omega | (simp; omega) | (exact Nat.le_refl _))) | (with_reducible refine Ext.setAt ?_ _ _) | ((with_reducible refine Ext.own ?_ ?_ _); rotate_left; (first | (with_reducible assumption) | omega | (simp; omega) | (exact Nat.le_refl _))) | (with_reducible refine keepN hyA ?_) | (with_reducible refine Ext.transNo ?_ hyA) | (with_reducible refine BoxR.ext ?_ hyA)))))
  (fail)
 go_wp2_with fail
 have hm9 := hm
 have hfin := BoxR.fin5 ⟨_, rfl, hm9.out.boxR⟩ (.int .i64 (a : Int)) (.slice ag (nw a) cg) (.int .i64 (a : Int)) (.slice ak (nw a) ck) (.slice ac l.length cc)
 have hE0 := set5 wr (W.heap.size + 1) (.int .i64 (a : Int)) (.slice ag (nw a) cg) (.int .i64 (a : Int)) (.slice ak (nw a) ck) (.slice ac l.length cc)
 clear cR fR
 generalize (((((wr.setCell ⟨W.heap.size + 1, 0, none⟩ (.int .i64 (a : Int))).setCell ⟨W.heap.size + 1, 1, none⟩ (.slice ag (nw a) cg)).setCell ⟨W.heap.size + 1, 2, none⟩ (.int .i64 (a : Int))).setCell ⟨W.heap.size + 1, 3, none⟩ (.slice ak (nw a) ck)).setCell ⟨W.heap.size + 1, 4, none⟩ (.slice ac l.length cc)) = WF at *
 have hE := hE0.drew
 have cF := cellOf hfin
 refine ret_ex rfl ?_
 simp [results, Tryd.results52, go_sem, cF]
 have hbig := hm9.out.big
 have HLL2 := HLK.out
 have HMM2 := HMK.out
 refine ⟨ag, cg, ak, ck, ac, l.length, cc, by simp, by rw [HLL2], Lib.hid ⟨?_, ?_, ?_⟩, hm9.out.ext.trans2 hE (fun i hi e => by unfold At at e; omega)⟩
 ·refine SetAt.mono (M := fun b => M b ∨ b = W.heap.size + 1) ((((HG.out.mono (M' := fun b => M b ∨ b = W.heap.size + 1) (fun i hi e => ?_)).extNo hm9.out.ext).ext hE (fun i _ e => .inr e))) (fun i _ e => .inl e)
  rcases e with e | e
  ·exact e
  omega
 ·rw [← HMM2]
  exact (hm9.out.kill.ext hE (fun i _ e => .inl (.inr (.inl e)))).mono (fun i _ e => .inl (.inl e))
 rw [← HLL2]
 refine Row.ofOwns (row_keep hm9.out.own hE (fun i hi e => by unfold At at e; omega)) (fun b hb hmb => ?_)
 have := HM.out b hmb
 omega

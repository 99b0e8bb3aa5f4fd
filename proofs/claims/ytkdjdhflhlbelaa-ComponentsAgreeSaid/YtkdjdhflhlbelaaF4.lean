/- Merged: F3 F4 -/
import Derived.Test.YtkdjdhflhlbelaaI13
import Derived.Test.YtkdjdhflhlbelaaFS
import Derived.Test.YtkdjdhflhlbelaaTrF
set_option linter.unusedVariables false
set_option linter.unusedSimpArgs false
/- F3 -/
namespace Go.Proofs.Ytkdjdhflhlbelaa
open Go Go.RowKit
/-- values in memory, as a list of sets -/
theorem SetsV.list {M : Nat → Prop} {W : World} {so : Value} {w : Nat} {ms : List Nat} (h : SetsV M W so w ms) : ∃ L : LS, LAt kS M W so L ∧ L.map Prod.fst = ms.map (setN w) ∧ L.length = ms.length := by
 obtain ⟨⟨L, h1, h2⟩, _, _⟩ := h
 have e := congrArg List.length h2
 simp only [List.length_map] at e
 exact ⟨L, ⟨h1.row, h1.ok⟩, h2, e⟩
theorem LAt.setsV {M : Nat → Prop} {W : World} {so : Value} {w : Nat} {ms : List Nat} {L : LS} (h : LAt kS M W so L) (he : L.map Prod.fst = ms.map (setN w)) (hw : w ≤ 256) (hm : ∀ m ∈ ms, m < 2 ^ w) : SetsV M W so w ms := ⟨⟨L, ⟨h.row, h.ok⟩, he⟩, hw, hm⟩
theorem Apply_w (M : Nat → Prop) (t : TrD) (w s : Nat) (sg sk sc ss : Value) (W : World) (hw : t.w = w) (hM : ∀ b, M b → b < W.heap.size) (h : TrAt No W sg sk sc t) (hs : SetAt No W ss w s) :
  Calls Try.prog 73 #[.agg #[.int .i64 (w : Int), sg, .int .i64 (w : Int), sk, sc], .agg #[.int .i64 (w : Int), ss]] W (SetEPost M w (applyT t s) W) := by
 subst hw; exact Apply_any M t s sg sk sc ss W hM h hs
theorem SetsV.cells {M : Nat → Prop} {W : World} {so : Value} {w : Nat} {ms : List Nat} (h : SetsV M W so w ms) {i : Nat} (hi : i < ms.length) : ∃ b off cap a c, so = .slice (some ⟨b, off, none⟩) ms.length cap ∧
  (W.cell? ⟨b, off + i * 2, none⟩ = some (.int .i64 (w : Int)) ∧ W.cell? ⟨b, off + i * 2 + 1, none⟩ = some (.slice a (nw w) c)) ∧ Hid (SetAt M W (.slice a (nw w) c) w (rowD ms i)) := by
 obtain ⟨b, off, cap, a, c, h1, _, _, h4, h5, h6⟩ := h.at hi
 exact ⟨b, off, cap, a, c, h1, ⟨h4, h5⟩, Lib.hid (by rw [rowD_get hi]; exact h6.out)⟩
/-- what Right holds: its argument, its result's box, the sum in box D -/
structure RtS (M : Nat → Prop) (W wr : World) (sb : Array Value) (D w m : Nat) (a : Option Addr) (c : Nat) : Prop where
 ext : Ext No W wr
 boxS : wr.heap[W.heap.size]? = some (.cells sb 29 (0, 0))
 boxR : wr.heap[W.heap.size + 1]? = some (.cells #[.int .i64 0, .slice none 0 0] 33 (0, 0))
 boxD : wr.heap[D]? = some (.cells #[.int .i64 (w : Int), .slice a (nw w) c] 33 (0, 0))
 set : SetAt (fun b => M b ∨ b = W.heap.size + 1 ∨ b = D) wr (.slice a (nw w) c) w m
 low : W.heap.size + 1 < D
theorem RtS.step {M : Nat → Prop} {W wr w' : World} {sb : Array Value} {D w m : Nat} {a : Option Addr} {c : Nat} (h : RtS M W wr sb D w m a c) (hx : Ext No wr w') : RtS M W w' sb D w m a c :=
 ⟨h.ext.transNo hx, hx.blk h.boxS no_no, hx.blk h.boxR no_no, hx.blk h.boxD no_no, h.set.extNo hx, h.low⟩
theorem RtS.put {M : Nat → Prop} {W wr : World} {sb : Array Value} {D w m m' : Nat} {a a' : Option Addr} {c c' : Nat} (h : RtS M W wr sb D w m a c) (hs : SetAt (fun b => M b ∨ b = W.heap.size + 1 ∨ b = D) wr (.slice a' (nw w) c') w m') :
  RtS M W ((wr.setCell ⟨D, 0, none⟩ (.int .i64 (w : Int))).setCell ⟨D, 1, none⟩ (.slice a' (nw w) c')) sb D w m' a' c' := by
 have hE : Ext (At D) wr ((wr.setCell ⟨D, 0, none⟩ (.int .i64 (w : Int))).setCell ⟨D, 1, none⟩ (.slice a' (nw w) c')) := ext_two (Ext.refl No wr) D
 have hl := h.low
 exact ⟨h.ext.trans2 hE (fun i hi e => by unfold At at e; omega), hE.blk h.boxS (by unfold At; omega), hE.blk h.boxR (by unfold At; omega), (set_same (j := 1) (set_same (j := 0) h.boxD)).trans rfl, hs.ext hE (fun i _ e => .inr (.inr e)), hl⟩
theorem RtS.hM {M : Nat → Prop} {W wr : World} {sb : Array Value} {D w m : Nat} {a : Option Addr} {c : Nat} (h : RtS M W wr sb D w m a c) (hM : ∀ b, M b → b < W.heap.size) : ∀ b, (M b ∨ b = W.heap.size + 1 ∨ b = D) → b < wr.heap.size := fun b hb => by
 rcases hb with hb | rfl | rfl
 ·exact Nat.lt_of_lt_of_le (hM b hb) h.ext.size
 ·exact lt_of_block h.boxR
 ·exact lt_of_block h.boxD
end Go.Proofs.Ytkdjdhflhlbelaa

/- F4 -/
namespace Go.Proofs.Ytkdjdhflhlbelaa
open Go Go.RowKit
/-- a list of sets under way, in a slice of the call's own -/
structure LnM (M : Nat → Prop) (W wr : World) (base w : Nat) (v : Value) (ms : List Nat) : Prop where
 ext : Ext No W wr
 ex : ∃ L : LS, LOwn kS M wr base v L ∧ L.map Prod.fst = ms.map (setN w)
 low : W.heap.size ≤ base
 hw : w ≤ 256
 hm : ∀ m ∈ ms, m < 2 ^ w
section
variable {M : Nat → Prop} {W wr w' : World} {base w m : Nat} {v v' : Value} {ms : List Nat}
theorem LnM.step (h : LnM M W wr base w v ms) (hx : Ext No wr w') : LnM M W w' base w v ms := by
 obtain ⟨L, h1, h2⟩ := h.ex
 exact ⟨h.ext.transNo hx, ⟨L, h1.extNo hx, h2⟩, h.low, h.hw, h.hm⟩
theorem LnM.slice (h : LnM M W wr base w v ms) : ∃ a c, v = .slice a ms.length c := by
 obtain ⟨L, h1, h2⟩ := h.ex
 have e := congrArg List.length h2
 simp only [List.length_map] at e
 rw [← e]
 exact h1.slice
theorem LnM.lt (h : LnM M W wr base w v ms) : ∀ b, v.ownBlock = some b → base ≤ b ∧ b < wr.heap.size := by
 obtain ⟨L, h1, h2⟩ := h.ex
 exact fun b hb => h1.lt b hb
theorem LnM.hM (hM : ∀ b, M b → b < W.heap.size) (h : LnM M W wr base w v ms) : ∀ b, (M b ∨ v.ownBlock = some b) → b < wr.heap.size := fun b hb => by
 rcases hb with hb | hb
 ·exact Nat.lt_of_lt_of_le (hM b hb) h.ext.size
 ·exact (h.lt b hb).2
theorem LnM.own (h : LnM M W wr base w v ms) : ∃ xs, wr.ownsRow base 33 2 v ms.length xs ∧
  ∀ (v' : Value) (a : Option Addr) (c : Nat) (o : Obj) (w' : World), SetAt (fun b => M b ∨ v.ownBlock = some b) wr (.slice a (nw w) c) w m → w'.ownsRow base 33 2 v' (ms.length + 1) (xs ++ [.int .i64 (w : Int), .slice a (nw w) c]) → (wr.alloc o).grownBy w' v.ownBlock →
   (v'.ownBlock = v.ownBlock ∨ v'.ownBlock = some (wr.alloc o).heap.size) → Ext No W w' → LnM M W w' base w v' (ms ++ [m]) := by
 obtain ⟨L, h1, h2⟩ := h.ex
 have e := congrArg List.length h2
 simp only [List.length_map] at e
 refine ⟨L.flatMap kS.cells, by rw [← e]; exact h1.own, fun v' a c o w' hs hown hg hv hx => ⟨hx, ⟨L ++ [(setN w m, .slice a (nw w) c)], ?_, by rw [List.map_append, List.map_append, h2]; rfl⟩, h.low, h.hw, fun k hk => ?_⟩⟩
 ·rw [← e] at hown
  refine h1.app (E := fun k => v.ownBlock = some k) hs.words hown (((Ext.refl _ wr).alloc o).grown hg (fun k hk _ => hk)) (fun _ e => e) ?_
  rcases hv with hv | hv
  ·exact .inl hv
  ·refine .inr (fun k hk => ?_)
   rw [hv] at hk
   simp only [Option.some.injEq] at hk
   have : (wr.alloc o).heap.size = wr.heap.size + 1 := by simp
   omega
 ·rcases List.mem_append.1 hk with hk | hk
  ·exact h.hm k hk
  ·rw [List.mem_singleton.1 hk]; exact hs.hm
theorem LnM.fin (h : LnM M W wr base w v ms) (hM : ∀ b, M b → b < W.heap.size) : SetsV M wr v w ms := by
 obtain ⟨L, h1, h2⟩ := h.ex
 exact (h1.list (M := M) (fun b hb e => by have := hM b e; have := h.low; omega) (fun _ e => e)).setsV h2 h.hw h.hm
end
/-- what the body of an append leaves: only the slice's own block is written -/
theorem own_ext {W wr w' : World} {o : Obj} {v : Value} {base : Nat} (hx : Ext No W wr) (hg : (wr.alloc o).grownBy w' v.ownBlock) (hl : ∀ b, v.ownBlock = some b → base ≤ b) (hb : W.heap.size ≤ base) : Ext No W w' :=
 (hx.trans2 (((Ext.refl (fun k => v.ownBlock = some k) wr).alloc o).grown hg (fun k hk _ => hk)) (fun i hi e => by have := hl i e; omega))
theorem own_blk {wr w' : World} {o p : Obj} {v : Value} {base n : Nat} (h : wr.heap[n]? = some p) (hg : (wr.alloc o).grownBy w' v.ownBlock) (hl : ∀ b, v.ownBlock = some b → base ≤ b) (hb : n < base) : w'.heap[n]? = some p :=
 (((Ext.refl (fun k => v.ownBlock = some k) wr).alloc o).grown hg (fun k hk _ => hk)).blk h (fun e => by have := hl n e; omega)
/-! ### empty -/
def zeroSets (n : Nat) : Array Value := madeCells (Value.cells (.agg #[.int .i64 0, .slice none 0 0])) (n * 2)
theorem zeroSets_list (n : Nat) : (zeroSets n).toList = (List.replicate n (zeroS, Value.slice none 0 0)).flatMap kS.cells := by
 refine List.ext_getElem? (fun i => ?_)
 have hl : ((List.replicate n (zeroS, Value.slice none 0 0)).flatMap kS.cells).length = n * 2 := by
  induction n with
  | zero => rfl
  | succ n ih => rw [List.replicate_succ, List.flatMap_cons, List.length_append, ih]; simp [kS]; omega
 by_cases h : i < n * 2
 ·have h1 := flat_get2 kS (List.replicate n (zeroS, Value.slice none 0 0)) (i / 2) (i % 2) (by simp; omega) (Nat.mod_lt _ (by decide))
  rw [show i / 2 * kS.s + i % 2 = i from by show i / 2 * 2 + i % 2 = i; omega] at h1
  rw [h1]
  simp only [zeroSets, madeCells, List.getElem_replicate]
  rcases Nat.mod_two_eq_zero_or_one i with e | e <;> simp [h, e, kS, zeroS, Value.cells]
 ·have h2 : ((List.replicate n (zeroS, Value.slice none 0 0)).flatMap kS.cells)[i]? = none := List.getElem?_eq_none (by rw [hl]; omega)
  rw [h2]
  simp [zeroSets, madeCells, h]
theorem mk_sets (n : Nat) (hn : n ≤ 1000) (w : World) : (Instr.makeSlice 27 (.int .i64 (n : Int)) (.int .i64 (n : Int))).run Try.prog w = .ok (.slice (some ⟨w.heap.size, 0, none⟩) n n) (w.alloc (.cells (zeroSets n) 33)) := by
 obtain ⟨i, hi, hz0, hz1, hz2⟩ := info_parts infoS
 have h := run_makeSlice (P := Try.prog) w 27 33 i _ Try.underlying27 hi hz0 .i64 .i64 n n (by omega) (Int.le_refl _) (by rw [hz1]; simp; omega) (by rw [hz2]; omega) (by omega)
 simp only [Int.toNat_natCast, hz1] at h
 exact h
/-- the empty values, the first k of them laid -/
def partE (n k : Nat) (w : Nat) : List RawSet := List.replicate k (setN w 0) ++ List.replicate (n - k) zeroS
theorem partE_set {n k w : Nat} (hk : k < n) : (partE n k w).set k (setN w 0) = partE n (k + 1) w := by
 unfold partE
 rw [List.set_append, if_neg (by simp), List.length_replicate, Nat.sub_self, show n - k = (n - (k + 1)) + 1 from by omega, List.replicate_succ, List.set_cons_zero, List.replicate_succ', List.append_assoc]
 rfl
/-! ### equal -/
end Go.Proofs.Ytkdjdhflhlbelaa

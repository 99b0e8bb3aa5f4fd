/- The walk of TransferFull. -/
import Derived.Test.YtgakojgkkdmabaaDoorTr46
set_option linter.unusedVariables false
set_option linter.unusedSimpArgs false
namespace Go.Proofs.YtgakojgkkdmabaaDoor
open Go Go.RowKit

theorem u8_bd {a0 : Int} (w0 : (Lit.int .u8 a0).wf = true) : 0 ≤ a0 ∧ a0 < 256 := by
  simp only [Lit.wf, Bool.and_eq_true, decide_eq_true_eq] at w0
  have e1 : IntKind.min .u8 = 0 := by decide
  have e2 : IntKind.max .u8 = 255 := by decide
  rw [e1, e2] at w0
  omega
def cycTo (w k : Nat) : List (Int × Int) := (List.range k).map fun (a : Nat) => ((a : Int), ((a : Int) + 1) % (w : Int))
theorem cycTo_len (w k : Nat) : (cycTo w k).length = k := by simp [cycTo]
theorem cycTo_succ (w k : Nat) : cycTo w (k + 1) = cycTo w k ++ [((k : Int), ((k : Int) + 1) % (w : Int))] := by simp [cycTo, List.range_succ]
theorem cycTo_get (w k i : Nat) (h : i < (cycTo w k).length) : (cycTo w k)[i] = ((i : Int), ((i : Int) + 1) % (w : Int)) := by simp [cycTo]
def cycT (w : Nat) : TrD := ⟨w, 0, 0, cycTo w w⟩
theorem compareZ_fst {a b : Int × Int} (h : a.1 < b.1) : compareZ a b < 0 := by simp [compareZ, orZ, cmpZ, h]
theorem cycT_ok {w : Nat} (h1 : 0 < w) (h2 : w ≤ 64) : TrOk (cycT w) := by
  refine ⟨by show w ≤ 256; omega, Nat.two_pow_pos _, Nat.two_pow_pos _, by show (cycTo w w).length ≤ 64; rw [cycTo_len]; exact h2, fun i h => ?_, fun i h => ?_⟩
  · have h : i < (cycTo w w).length := h
    show inB w (cycTo w w)[i].1 = true ∧ inB w (cycTo w w)[i].2 = true
    have hl := cycTo_len w w
    rw [cycTo_get w w i h]
    simp only [inB, decide_eq_true_eq]
    have := Int.emod_nonneg ((i : Int) + 1) (show (w : Int) ≠ 0 by omega)
    have := Int.emod_lt_of_pos ((i : Int) + 1) (show (0 : Int) < w by omega)
    omega
  · have h : i + 1 < (cycTo w w).length := h
    refine compareZ_fst ?_
    show (cycTo w w)[i].1 < (cycTo w w)[i + 1].1
    rw [cycTo_get w w i (by omega), cycTo_get w w (i + 1) h]
    simp only
    omega
theorem full8 : (starT (cycT 8)).copies.length = 56 := by kernel_rfl
theorem full9 : (starT (cycT 9)).copies.length = 72 := by kernel_rfl
theorem full10 : (starT (cycT 10)).copies.length = 90 := by kernel_rfl
theorem full11 : (starT (cycT 11)).copies.length = 110 := by kernel_rfl
def Full8 (W : World) (e : Ending) (w' : World) : Prop := ∃ ag cg ak ck ac cc, e = .returned (.tuple #[.agg #[.int .i64 8, .slice ag (nw 8) cg, .int .i64 8, .slice ak (nw 8) ck, .slice ac 56 cc], .int .i64 0]) ∧ Ext No W w'
theorem starFull8 (g1 k1 c1 : Value) (W : World) (hT : TabW W) (h1 : TrAt No W g1 k1 c1 (cycT 8)) :
    Calls Tryd.prog 27 #[.agg #[.int .i64 8, g1, .int .i64 8, k1, c1]] W (Full8 W) :=
  (star_any No (cycT 8) g1 k1 c1 W (fun _ e => e.elim) hT h1).mono (fun e w' h => by
    have hl := full8
    obtain ⟨ag, cg, ak, ck, ac, cc, h2, _, h3⟩ := h.1 (by rw [show (copTo _ _ _ _).length = 56 from hl]; decide)
    refine ⟨ag, cg, ak, ck, ac, cc, ?_, h3⟩
    rw [h2, show (closeT _ _ _).copies.length = 56 from hl]; rfl)
theorem starFullBig (w n : Nat) (g1 k1 c1 : Value) (W : World) (hl : (starT (cycT w)).copies.length = n) (hn : 64 < n) (hT : TabW W) (h1 : TrAt No W g1 k1 c1 (cycT w)) :
    Calls Tryd.prog 27 #[.agg #[.int .i64 (w : Int), g1, .int .i64 (w : Int), k1, c1]] W (TrNo 7 W) :=
  (star_any No (cycT w) g1 k1 c1 W (fun _ e => e.elim) hT h1).mono (fun e w' h => h.2 (by rw [show (copTo _ _ _ _).length = n from hl]; exact hn))

structure FuM (w0 wr : World) (w DF g1 g2 : Nat) (l : List (Int × Int)) (sc : Value) : Prop where
  ext : Ext No w0 wr
  box : wr.heap[DF]? = some (.cells #[.int .i64 (w : Int), .slice (some ⟨g1, 0, none⟩) (nw w) (nw w), .int .i64 (w : Int), .slice (some ⟨g2, 0, none⟩) (nw w) (nw w), sc] 28 (0, 0))
  b1 : BlkW wr g1 w 0
  b2 : BlkW wr g2 w 0
  own : wr.ownsRow (DF + 1) 50 2 sc l.length (flatC l)
  lt1 : g1 < DF
  lt2 : g2 < DF
  low : w0.heap.size ≤ DF
section
variable {w0 wr w' : World} {w DF g1 g2 : Nat} {l : List (Int × Int)} {sc sc' : Value}
theorem FuM.stepNo (h : FuM w0 wr w DF g1 g2 l sc) (hx : Ext No wr w') : FuM w0 w' w DF g1 g2 l sc :=
  ⟨h.ext.transNo hx, hx.blk h.box no_no, hx.blk h.b1 no_no, hx.blk h.b2 no_no, row_keep h.own hx (fun _ _ x => x), h.lt1, h.lt2, h.low⟩
theorem FuM.app {o : Obj} {a b : Int} (h : FuM w0 wr w DF g1 g2 l sc) (hown : w'.ownsRow (DF + 1) 50 2 sc' (l.length + 1) (flatC l ++ [.int .i64 a, .int .i64 b]))
    (hg : (wr.alloc o).grownBy w' sc.ownBlock) :
    FuM w0 (w'.setCell ⟨DF, 4, none⟩ sc') w DF g1 g2 (l ++ [(a, b)]) sc' ∧ w'.heap[DF]? = some (.cells #[.int .i64 (w : Int), .slice (some ⟨g1, 0, none⟩) (nw w) (nw w), .int .i64 (w : Int), .slice (some ⟨g2, 0, none⟩) (nw w) (nw w), sc] 28 (0, 0)) := by
  have hE : Ext (fun k => sc.ownBlock = some k) wr w' := ((Ext.refl _ wr).alloc o).grown hg (fun k hk _ => hk)
  have hlow : ∀ k, sc.ownBlock = some k → DF + 1 ≤ k := fun k hk => (World.ownsRow.lt h.own k hk).1
  have hne : ∀ k, k ≤ DF → ¬ sc.ownBlock = some k := fun k hk e => by have := hlow k e; omega
  have hE2 : Ext (At DF) w' (w'.setCell ⟨DF, 4, none⟩ sc') := (Ext.refl (At DF) _).setAt _ _
  have hT := hE.blk h.box (hne DF (Nat.le_refl _))
  have h1 := h.lt1
  have h2 := h.lt2
  have h3 := h.low
  refine ⟨⟨?_, ?_, ?_, ?_, ?_, h1, h2, h3⟩, hT⟩
  · refine (h.ext.trans2 hE (fun i hi e => ?_)).trans2 hE2 (fun i hi e => by unfold At at e; omega)
    have := hlow i e
    omega
  · exact (set_same (j := 4) hT).trans rfl
  · exact hE2.blk (hE.blk h.b1 (hne _ (by omega))) (by unfold At; omega)
  · exact hE2.blk (hE.blk h.b2 (hne _ (by omega))) (by unfold At; omega)
  · have e1 : (l ++ [(a, b)]).length = l.length + 1 := by simp
    rw [e1, ← flatC_app]
    exact row_keep hown hE2 (fun i hi e => by unfold At at e; omega)
theorem FuM.slice (h : FuM w0 wr w DF g1 g2 l sc) : ∃ a c, sc = .slice a l.length c := (Row.ofOwns (M := No) h.own (fun _ _ x => x)).slice
theorem FuM.tr (h : FuM w0 wr w DF g1 g2 (cycTo w w) sc) (h1 : 0 < w) (h2 : w ≤ 64) : TrAt No wr (.slice (some ⟨g1, 0, none⟩) (nw w) (nw w)) (.slice (some ⟨g2, 0, none⟩) (nw w) (nw w)) sc (cycT w) :=
  ⟨h.b1.setNo (by show w ≤ 256; omega) (Nat.two_pow_pos _), h.b2.setNo (by show w ≤ 256; omega) (Nat.two_pow_pos _), Row.ofOwns h.own (fun _ _ x => x), cycT_ok h1 h2⟩
end

set_option maxRecDepth 100000 in
set_option maxHeartbeats 8000000 in
theorem transferFull_any (n : Int) (h0 : 0 ≤ n) (h1 : n < 256) (w : World) (hT : TabW w) : Calls Tryd.prog 6 #[.int .u8 n] w fun e w' => e = .returned (.bool true) ∧ Ext No w w' := by
  have HT := Lib.hid hT
  clear hT
  obtain ⟨i0, hi0, hz0, hz1, hz2⟩ := info_parts infoC
  go_enter Tryd.func6, Tryd.ntmps6
  go_wp2_with fail
  obtain ⟨W8, hW, h8, h11⟩ : ∃ W8 : Nat, 8 + n % 4 = (W8 : Int) ∧ 8 ≤ W8 ∧ W8 ≤ 11 := ⟨(8 + n % 4).toNat, by omega, by omega, by omega⟩
  rw [hW]
  clear hW h0 h1
  refine (rempty_any W8 _ (by omega)).mono ?_
  rintro e1 w1 ⟨g1, rfl, hb1, _, hx1⟩
  go_wp2_with fail
  refine (rempty_any W8 _ (by omega)).mono ?_
  rintro e2 w2 ⟨g2, rfl, hb2, _, hx2⟩
  have hxa := hx1.transNo hx2
  have hl1 : g1 < w2.heap.size := lt_of_block (hx2.blk hb1.out no_no)
  have hl2 : g2 < w2.heap.size := lt_of_block hb2.out
  have hm0 := Lib.hid (show FuM w (w2.alloc (.cells #[.int .i64 (W8 : Int), .slice (some ⟨g1, 0, none⟩) (nw W8) (nw W8), .int .i64 (W8 : Int), .slice (some ⟨g2, 0, none⟩) (nw W8) (nw W8), .slice none 0 0] 28)) W8 w2.heap.size g1 g2 (cycTo W8 0) (.slice none 0 0) from
    ⟨hxa.alloc _, alloc_top rfl, alloc_under (hx2.blk hb1.out no_no), alloc_under hb2.out, World.ownsRow_nil _ _ _ _, hl1, hl2, hxa.size⟩)
  clear hb1 hb2 hx1 hx2 hxa hl1 hl2
  go_wp2_with fail
  generalize (w2.alloc (.cells #[.int .i64 (W8 : Int), .slice (some ⟨g1, 0, none⟩) (nw W8) (nw W8), .int .i64 (W8 : Int), .slice (some ⟨g2, 0, none⟩) (nw W8) (nw W8), .slice none 0 0] 28)) = V at *
  generalize w2.heap.size = DF at *
  go_loopw [5] (fun i wr => ∃ (k : Nat) (sc : Value), k ≤ W8 ∧ i = .int .i64 k ∧ Hid (FuM w wr W8 DF g1 g2 (cycTo W8 k) sc)) (fun i _ => W8 - (intOf i).toNat)
  case atStart => exact ⟨0, _, Nat.zero_le _, rfl, hm0⟩
  case round =>
    clear hm0
    obtain ⟨k, sc, hk, rfl, hm⟩ := hrel
    rename World => wr
    have hpos : (0 : Int) ≤ (k : Int) := by omega
    obtain ⟨ac, cc, rfl⟩ := hm.out.slice
    by_cases hlt : k < W8
    · have hlz : (k : Int) < (W8 : Int) := by omega
      have hw0 : (W8 : Int) ≠ 0 := by omega
      have hw1 : (0 : Int) < (W8 : Int) := by omega
      have hlen := cycTo_len W8 k
      have HKK : Hid (Value.int .i64 ((k : Int) + 1) = .int .i64 ((k + 1 : Nat) : Int)) := Lib.hid (by rw [show ((k + 1 : Nat) : Int) = (k : Int) + 1 from by omega])
      have HLL := Lib.hid hlen
      clear hlen
      go_wp2_with fail
      have hwz : ¬ W8 = 0 := by omega
      have hwr : IntKind.i64.wrap ((k : Int) + 1) = (k : Int) + 1 := by rw [IntKind.wrap_i64]; omega
      have htm : ((k : Int) + 1).tmod (W8 : Int) = ((k : Int) + 1) % (W8 : Int) := Int.tmod_eq_emod_of_nonneg (by omega)
      refine wp_region_held_drew (S := (fun _ => True)) (by kernel_rfl) ?_ (fun hHeld => ?_)
      · trivial
      replace hm := Lib.hid (hm.out.stepNo (Ext.refl No wr).drew)
      generalize wr.drew = v0 at *
      refine held_take (i := 0) (v := ?_) rfl (by kernel_rfl) (by kernel_rfl) (by kernel_rfl) (fun _ _ _ h => h) rfl (fun w hSw => ?_) hHeld ?_
      rotate_left
      · (try dsimp only at hSw); go_simp; (try with_reducible rfl)
      try simp only [Act.put, List.setIfInBounds_toArray, List.set_cons_zero, List.set_cons_succ]
      refine held_take (i := 2) (v := ?_) rfl (by kernel_rfl) (by kernel_rfl) (by kernel_rfl) (fun _ _ _ h => h) rfl (fun w hSw => ?_) hHeld ?_
      rotate_left
      · (try dsimp only at hSw); go_simp; (try with_reducible rfl)
      try simp only [Act.put, List.setIfInBounds_toArray, List.set_cons_zero, List.set_cons_succ]
      refine held_take (i := 3) (v := ?_) rfl (by kernel_rfl) (by kernel_rfl) (by kernel_rfl) (fun _ _ _ h => h) rfl (fun w hSw => ?_) hHeld ?_
      rotate_left
      · (try dsimp only at hSw); go_simp; (try with_reducible rfl)
      try simp only [Act.put, List.setIfInBounds_toArray, List.set_cons_zero, List.set_cons_succ]
      refine held_take (i := 4) (v := ?_) rfl (by kernel_rfl) (by kernel_rfl) (by kernel_rfl) (fun _ _ _ h => h) rfl (fun w hSw => ?_) hHeld ?_
      rotate_left
      · (try dsimp only at hSw); go_simp; (try with_reducible rfl)
      try simp only [Act.put, List.setIfInBounds_toArray, List.set_cons_zero, List.set_cons_succ]
      refine held_take (i := 5) (v := ?_) rfl (by kernel_rfl) (by kernel_rfl) (by kernel_rfl) (fun _ _ _ h => h) rfl (fun w hSw => ?_) hHeld ?_
      rotate_left
      · (try dsimp only at hSw); go_simp; (try with_reducible rfl)
      try simp only [Act.put, List.setIfInBounds_toArray, List.set_cons_zero, List.set_cons_succ]
      refine held_take (i := 6) (v := ?_) rfl (by kernel_rfl) (by kernel_rfl) (by kernel_rfl) (fun _ _ _ h => h) rfl (fun w hSw => ?_) hHeld ?_
      rotate_left
      · (try dsimp only at hSw); go_simp; (try with_reducible rfl)
      try simp only [Act.put, List.setIfInBounds_toArray, List.set_cons_zero, List.set_cons_succ]
      refine held_take (i := 7) (v := ?_) rfl (by kernel_rfl) (by kernel_rfl) (by kernel_rfl) (fun _ _ _ h => h) rfl (fun w hSw => ?_) hHeld ?_
      rotate_left
      · (try dsimp only at hSw); go_simp; (try with_reducible rfl)
      try simp only [Act.put, List.setIfInBounds_toArray, List.set_cons_zero, List.set_cons_succ]
      refine held_next2 (i := 1) (j := 8) (by kernel_rfl) (NextOp.mk rfl rfl (fun K hK => ?_)) (NextOp.mk rfl rfl (fun K hK => ?_))
      · ((have cX := cellOf hm.out.box); go_simp; (clear cX))
        refine hK.out _ _ ?_ (fun hNew => ?_)
        · trivial
        clear hK K hHeld
        have hHeld := hNew
        clear hNew
        skip
        try simp only [Act.put, List.setIfInBounds_toArray, List.set_cons_zero, List.set_cons_succ]
        refine held_call (i := 8) rfl (by kernel_rfl) rfl (fun K hK => ?_)
        go_simp
        refine hK.out _ _ ?_ (fun hNew => ?_)
        · trivial
        clear hK K hHeld
        have hHeld := hNew
        clear hNew
        skip
        try simp only [Act.put, List.setIfInBounds_toArray, List.set_cons_zero, List.set_cons_succ]
        refine held_call (i := 9) rfl (by kernel_rfl) rfl (fun K hK => ?_)
        ((refine wp_app _ (.tmp 23) (.tmp 30) 26 rfl (DF + 1) 50 i0 _ 2 16 Tryd.underlying26 hi0 hz0 hz1 hz2 rfl (by omega) (.slice ac (cycTo W8 k).length cc) (cycTo W8 k).length (flatC (cycTo W8 k)) rfl (row_keep hm.out.own ((Ext.refl No _).alloc _) (fun _ _ x => x)) No (some ⟨v0.heap.size, 0, none⟩) 1 1 [.int .i64 (k : Int), .int .i64 (((k : Int) + 1) % (W8 : Int))] rfl (Row.block (alloc_top rfl) rfl no_no (by omega)) (by simp [Value.oneCell']) (by have := HLL.out; omega) (by have := HLL.out; omega) (by simp; exact Nat.le_of_lt (lt_of_block hm.out.box)) ?_); (intro v1 w9 hown1 hg1 hv1); (obtain ⟨hm9, hX9⟩ := hm.out.app hown1 hg1); (have HM9 := Lib.hid hm9); (have HX9 := Lib.hid hX9); (obtain ⟨a9, c9, hs9⟩ := hm9.slice); (subst hs9); (clear hm9 hX9 hown1 hg1))
        refine hK.out _ _ ?_ (fun hNew => ?_)
        · trivial
        clear hK K hHeld
        have hHeld := hNew
        clear hNew
        skip
        try simp only [Act.put, List.setIfInBounds_toArray, List.set_cons_zero, List.set_cons_succ]
        refine held_take (i := 10) (v := ?_) rfl (by kernel_rfl) (by kernel_rfl) (by kernel_rfl) (fun _ _ _ h => h) rfl (fun w hSw => ?_) hHeld ?_
        rotate_left
        · (try dsimp only at hSw); go_simp; (try with_reducible rfl)
        try simp only [Act.put, List.setIfInBounds_toArray, List.set_cons_zero, List.set_cons_succ]
        refine held_call (i := 11) rfl (by kernel_rfl) rfl (fun K hK => ?_)
        ((have cX := cellOf HX9.out); (have fX := freeOf HX9.out); go_simp; (clear cX fX))
        refine hK.out _ _ ?_ (fun hNew => ?_)
        · trivial
        clear hK K hHeld
        have hHeld := hNew
        clear hNew
        clear HX9
        try simp only [Act.put, List.setIfInBounds_toArray, List.set_cons_zero, List.set_cons_succ]
        refine wpAnyH_done (by kernel_rfl) ?_ _
        go_wp2_with fail
        go_roundw
        case rel =>
          simp only [List.length_append, List.length_cons, List.length_nil] at HM9
          exact ⟨k + 1, _, by omega, HKK.out, by rw [cycTo_succ]; exact HM9⟩
        case measure => simp [intOf]; omega
      · go_simp
        refine hK.out _ _ ?_ (fun hNew => ?_)
        · trivial
        clear hK K hHeld
        have hHeld := hNew
        clear hNew
        skip
        try simp only [Act.put, List.setIfInBounds_toArray, List.set_cons_zero, List.set_cons_succ]
        refine held_call (i := 1) rfl (by kernel_rfl) rfl (fun K hK => ?_)
        ((have cX := cellOf hm.out.box); (have cX2 := cellOf (alloc_under (o := (.cells #[.int .i64 (k : Int), .int .i64 (((k : Int) + 1) % (W8 : Int))] 50)) hm.out.box)); go_simp; (clear cX cX2))
        refine hK.out _ _ ?_ (fun hNew => ?_)
        · trivial
        clear hK K hHeld
        have hHeld := hNew
        clear hNew
        skip
        try simp only [Act.put, List.setIfInBounds_toArray, List.set_cons_zero, List.set_cons_succ]
        refine held_call (i := 9) rfl (by kernel_rfl) rfl (fun K hK => ?_)
        ((refine wp_app _ (.tmp 23) (.tmp 30) 26 rfl (DF + 1) 50 i0 _ 2 16 Tryd.underlying26 hi0 hz0 hz1 hz2 rfl (by omega) (.slice ac (cycTo W8 k).length cc) (cycTo W8 k).length (flatC (cycTo W8 k)) rfl (row_keep hm.out.own ((Ext.refl No _).alloc _) (fun _ _ x => x)) No (some ⟨v0.heap.size, 0, none⟩) 1 1 [.int .i64 (k : Int), .int .i64 (((k : Int) + 1) % (W8 : Int))] rfl (Row.block (alloc_top rfl) rfl no_no (by omega)) (by simp [Value.oneCell']) (by have := HLL.out; omega) (by have := HLL.out; omega) (by simp; exact Nat.le_of_lt (lt_of_block hm.out.box)) ?_); (intro v1 w9 hown1 hg1 hv1); (obtain ⟨hm9, hX9⟩ := hm.out.app hown1 hg1); (have HM9 := Lib.hid hm9); (have HX9 := Lib.hid hX9); (obtain ⟨a9, c9, hs9⟩ := hm9.slice); (subst hs9); (clear hm9 hX9 hown1 hg1))
        refine hK.out _ _ ?_ (fun hNew => ?_)
        · trivial
        clear hK K hHeld
        have hHeld := hNew
        clear hNew
        skip
        try simp only [Act.put, List.setIfInBounds_toArray, List.set_cons_zero, List.set_cons_succ]
        refine held_take (i := 10) (v := ?_) rfl (by kernel_rfl) (by kernel_rfl) (by kernel_rfl) (fun _ _ _ h => h) rfl (fun w hSw => ?_) hHeld ?_
        rotate_left
        · (try dsimp only at hSw); go_simp; (try with_reducible rfl)
        try simp only [Act.put, List.setIfInBounds_toArray, List.set_cons_zero, List.set_cons_succ]
        refine held_call (i := 11) rfl (by kernel_rfl) rfl (fun K hK => ?_)
        ((have cX := cellOf HX9.out); (have fX := freeOf HX9.out); go_simp; (clear cX fX))
        refine hK.out _ _ ?_ (fun hNew => ?_)
        · trivial
        clear hK K hHeld
        have hHeld := hNew
        clear hNew
        clear HX9
        try simp only [Act.put, List.setIfInBounds_toArray, List.set_cons_zero, List.set_cons_succ]
        refine wpAnyH_done (by kernel_rfl) ?_ _
        go_wp2_with fail
        go_roundw
        case rel =>
          simp only [List.length_append, List.length_cons, List.length_nil] at HM9
          exact ⟨k + 1, _, by omega, HKK.out, by rw [cycTo_succ]; exact HM9⟩
        case measure => simp [intOf]; omega
    · obtain rfl : k = W8 := by omega
      have hge : ¬ (k : Int) < (k : Int) := by omega
      have cF := cellOf hm.out.box
      have HTW := Lib.hid (HT.out.ext hm.out.ext)
      have HTR := Lib.hid (hm.out.tr (by omega) (by omega))
      have HXF := Lib.hid hm.out.ext
      clear hm hlt hk hge hpos
      have hcase : k = 8 ∨ k = 9 ∨ k = 10 ∨ k = 11 := by omega
      go_wp2_with fail
      clear cF
      clear h8 h11
      rcases hcase with rfl | rfl | rfl | rfl
      · refine (starFull8 _ _ _ _ HTW.out HTR.out).mono ?_
        rintro e6 w6 ⟨ag, cg, ak, ck, bc, dc, rfl, hx6⟩
        have HX6 := Lib.hid (HXF.out.transNo (hx6.alloc (.cells #[.int .i64 8, .slice ag (nw 8) cg, .int .i64 8, .slice ak (nw 8) ck, .slice bc 56 dc] 28)))
        clear hx6
        go_wp2_with fail
        refine (sane_any _).mono ?_
        rintro eS wS ⟨rfl, hy⟩
        have kE := HX6.out.transNo hy
        go_wp2_with fail
        go_ret
        exact ⟨rfl, kE⟩
      · refine (starFullBig 9 72 _ _ _ _ full9 (by decide) HTW.out HTR.out).mono ?_
        rintro e6 w6 ⟨rfl, hx6⟩
        have HX6 := Lib.hid (HXF.out.transNo (hx6.alloc (.cells #[.int .i64 0, .slice none 0 0, .int .i64 0, .slice none 0 0, .slice none 0 0] 28)))
        clear hx6
        go_wp2_with fail
        refine (sane_any _).mono ?_
        rintro eS wS ⟨rfl, hy⟩
        have kE := HX6.out.transNo hy
        go_wp2_with fail
        go_ret
        exact ⟨rfl, kE⟩
      · refine (starFullBig 10 90 _ _ _ _ full10 (by decide) HTW.out HTR.out).mono ?_
        rintro e6 w6 ⟨rfl, hx6⟩
        have HX6 := Lib.hid (HXF.out.transNo (hx6.alloc (.cells #[.int .i64 0, .slice none 0 0, .int .i64 0, .slice none 0 0, .slice none 0 0] 28)))
        clear hx6
        go_wp2_with fail
        refine (sane_any _).mono ?_
        rintro eS wS ⟨rfl, hy⟩
        have kE := HX6.out.transNo hy
        go_wp2_with fail
        go_ret
        exact ⟨rfl, kE⟩
      · refine (starFullBig 11 110 _ _ _ _ full11 (by decide) HTW.out HTR.out).mono ?_
        rintro e6 w6 ⟨rfl, hx6⟩
        have HX6 := Lib.hid (HXF.out.transNo (hx6.alloc (.cells #[.int .i64 0, .slice none 0 0, .int .i64 0, .slice none 0 0, .slice none 0 0] 28)))
        clear hx6
        go_wp2_with fail
        refine (sane_any _).mono ?_
        rintro eS wS ⟨rfl, hy⟩
        have kE := HX6.out.transNo hy
        go_wp2_with fail
        go_ret
        exact ⟨rfl, kE⟩
end Go.Proofs.YtgakojgkkdmabaaDoor

/- The tape: SpoilSet. -/
import Derived.Test.YtfejidihocoboaaTrF
import Derived.Test.YtfejidihocoboaaHeld
import Derived.Test.YtfejidihocoboaaTrB
import Derived.Test.YtfejidihocoboaaFL
import Derived.Deep.LoopGhost
set_option linter.unusedVariables false
set_option linter.unusedSimpArgs false
namespace Go.Proofs.Ytfejidihocoboaa
open Go Go.RowKit
structure SpM (tb : Nat) (W wr : World) (D : Nat) (z : Int) (v : Value) (l : List Nat) : Prop where
  ext : Ext (At tb) W wr
  tape : TapeOk wr tb
  boxC : wr.heap[W.heap.size + 1]? = some (.cells #[.int .i64 0, .slice none 0 0] 40 (0, 0))
  boxD : wr.heap[D]? = some (.cells #[.int .i64 z, v] 40 (0, 0))
  own : OwnW wr (W.heap.size + 2) v l
  low : W.heap.size + 2 ≤ D
  ne : ∀ k, v.ownBlock = some k → k ≠ D
  lt : tb < W.heap.size
section
variable {tb : Nat} {W wr w' : World} {D : Nat} {z : Int} {v v' : Value} {l : List Nat}
theorem SpM.step (h : SpM tb W wr D z v l) (hx : Ext (At tb) wr w') (ht : TapeOk w' tb) : SpM tb W w' D z v l :=
  ⟨h.ext.trans hx, ht, hx.blk h.boxC (by have := h.lt; unfold At; omega), hx.blk h.boxD (by have := h.lt; have := h.low; unfold At; omega), h.own.ext hx (fun i hi e => by have := h.lt; unfold At at e; omega), h.low, h.ne, h.lt⟩
theorem SpM.stepNo (h : SpM tb W wr D z v l) (hx : Ext No wr w') : SpM tb W w' D z v l := h.step hx.ofNo (h.tape.ext hx)
theorem SpM.ownLt (h : SpM tb W wr D z v l) (k : Nat) (hk : v.ownBlock = some k) : W.heap.size + 2 ≤ k ∧ k < wr.heap.size := World.ownsRow.lt h.own.own k hk
theorem SpM.putW (h : SpM tb W wr D z v l) (z' : Int) : SpM tb W (wr.setCell ⟨D, 0, none⟩ (.int .i64 z')) D z' v l := by
  have hE : Ext (At D) wr (wr.setCell ⟨D, 0, none⟩ (.int .i64 z')) := (Ext.refl (At D) _).setAt _ _
  have h1 := h.low
  have h2 := h.lt
  exact ⟨h.ext.trans2 hE (fun i hi e => by unfold At at e; omega), h.tape.extAbove hE (fun i hi e => by unfold At at e; omega), hE.blk h.boxC (by unfold At; omega), (set_same (j := 0) h.boxD).trans rfl, ⟨row_keep2 h.own.own hE (fun k hk e => h.ne k hk e), h.own.lt⟩, h1, h.ne, h2⟩
theorem SpM.app {o : Obj} {x : Nat} (h : SpM tb W wr D z v l) (hx : x < 2 ^ 64) (hown : w'.ownsRow (W.heap.size + 2) 86 1 v' (l.length + 1) (u64s l ++ [.int .u64 (x : Int)])) (hg : (wr.alloc o).grownBy w' v.ownBlock) (hv : v'.ownBlock = v.ownBlock ∨ v'.ownBlock = some (wr.alloc o).heap.size) :
    SpM tb W (w'.setCell ⟨D, 1, none⟩ v') D z v' (l ++ [x]) ∧ w'.heap[D]? = some (.cells #[.int .i64 z, v] 40 (0, 0)) := by
  have hE : Ext (fun k => v.ownBlock = some k) wr w' := ((Ext.refl _ wr).alloc o).grown hg (fun k hk _ => hk)
  have h1 := h.low
  have h2 := h.lt
  have hl : ∀ k, v.ownBlock = some k → W.heap.size + 2 ≤ k := fun k hk => (h.ownLt k hk).1
  have hD := hE.blk h.boxD (fun e => h.ne D e rfl)
  have hDlt := lt_of_block h.boxD
  have hne : ∀ k, v'.ownBlock = some k → k ≠ D := fun k hk => by
    rcases hv with hv | hv
    · exact h.ne k (hv ▸ hk)
    · rw [hv] at hk
      simp only [Option.some.injEq] at hk
      have : (wr.alloc o).heap.size = wr.heap.size + 1 := by simp
      omega
  have hE2 : Ext (At D) w' (w'.setCell ⟨D, 1, none⟩ v') := (Ext.refl (At D) _).setAt _ _
  refine ⟨⟨?_, ?_, hE2.blk (hE.blk h.boxC (fun e => by have := hl _ e; omega)) (by unfold At; omega), (set_same (j := 1) hD).trans rfl, ⟨?_, fun n hn => ?_⟩, h1, hne, h2⟩, hD⟩
  · exact (h.ext.trans2 hE (fun i hi e => by have := hl i e; omega)).trans2 hE2 (fun i hi e => by unfold At at e; omega)
  · exact (h.tape.extAbove hE (fun i hi e => by have := hl i e; omega)).extAbove hE2 (fun i hi e => by unfold At at e; omega)
  · have e1 : (l ++ [x]).length = l.length + 1 := by simp
    rw [e1, show u64s (l ++ [x]) = u64s l ++ [.int .u64 (x : Int)] from by simp [u64s]]
    exact row_keep2 hown hE2 (fun k hk e => hne k hk e)
  · rcases List.mem_append.1 hn with hn | hn
    · exact h.own.lt n hn
    · rw [List.mem_singleton.1 hn]; exact hx
theorem SpM.setL {g cap i n : Nat} (h : SpM tb W wr D z (.slice (some ⟨g, 0, none⟩) l.length cap) l) (hn : n < 2 ^ 64) : SpM tb W (wr.setCell ⟨g, i, none⟩ (.int .u64 (n : Int))) D z (.slice (some ⟨g, 0, none⟩) l.length cap) (l.set i n) := by
  have hE : Ext (At g) wr (wr.setCell ⟨g, i, none⟩ (.int .u64 (n : Int))) := (Ext.refl (At g) _).setAt _ _
  have h1 := h.low
  have h2 := h.lt
  have h3 := (h.ownLt g rfl).1
  have h4 := h.ne g rfl
  exact ⟨h.ext.trans2 hE (fun i hi e => by unfold At at e; omega), h.tape.extAbove hE (fun i hi e => by unfold At at e; omega), hE.blk h.boxC (by unfold At; omega), hE.blk h.boxD (by unfold At; omega), h.own.set i n hn, h1, h.ne, h2⟩
end
def GenRawS (tb : Nat) (W : World) (e : Ending) (w' : World) : Prop :=
  ∃ (z : Int) (a : Option Addr) (c : Nat) (l : List Nat), e = .returned (.agg #[.int .i64 z, .slice a l.length c]) ∧ Hid (WordsAt (Lo W.heap.size) w' (.slice a l.length c) l) ∧ TapeOk w' tb ∧ Ext (At tb) W w'
theorem spoil_end {tb : Nat} {W wr : World} {D : Nat} {z : Int} {a : Option Addr} {n c : Nat} {l : List Nat} {tmps : Array Value} (h : SpM tb W wr D z (.slice a n c) l) (hn : n = l.length) (h4 : tmps[4]? = some (.pointer (some ⟨W.heap.size + 1, 0, none⟩))) :
    bodyPost Try.prog Try.f22 (GenRawS tb W) .ret { tmps := tmps, defers := [] } ((wr.setCell ⟨W.heap.size + 1, 0, none⟩ (.int .i64 z)).setCell ⟨W.heap.size + 1, 1, none⟩ (.slice a n c)) := by
  subst hn
  have hE : Ext (At (W.heap.size + 1)) wr ((wr.setCell ⟨W.heap.size + 1, 0, none⟩ (.int .i64 z)).setCell ⟨W.heap.size + 1, 1, none⟩ (.slice a l.length c)) := ((Ext.refl (At (W.heap.size + 1)) _).setAt _ _).setAt _ _
  have hbF := (set_same (j := 1) (u := .slice a l.length c) (set_same (j := 0) (u := .int .i64 z) h.boxC)).trans rfl
  have h1 := h.lt
  generalize ((wr.setCell ⟨W.heap.size + 1, 0, none⟩ (.int .i64 z)).setCell ⟨W.heap.size + 1, 1, none⟩ (.slice a l.length c)) = WF at *
  have cF := cellOf hbF
  refine ret_ex rfl ?_
  simp [results, Try.results22, go_sem, cF, h4]
  exact ⟨z, a, c, l, rfl, Lib.hid ⟨Row.ofOwns (row_keep h.own.own hE (fun i hi e => by unfold At at e; omega)) (fun b hb hm => by unfold Lo at hm; omega), h.own.lt⟩, h.tape.extAbove hE (fun i hi e => by unfold At at e; omega), h.ext.trans2 hE (fun i hi e => by unfold At at e; omega)⟩
set_option maxRecDepth 100000 in
set_option maxHeartbeats 8000000 in
theorem spoilS_any (tb : Nat) (s : RawSet) (sl : Value) (W : World) (h : WordsAt No W sl s.words) (hlen : s.words.length ≤ 1048576) (ht : TapeOk W tb) :
    Calls Try.prog 22 #[.pointer (some ⟨tb, 0, none⟩), .agg #[.int .i64 s.width, sl]] W (GenRawS tb W) := by
  obtain ⟨i0, hi0, hz0, hz1, hz2⟩ := info_parts infoW
  have H := Lib.hid h
  have HT := Lib.hid ht
  have hlt0 := ht.lt
  obtain ⟨al, cl, rfl⟩ := h.slice
  clear h ht
  go_enter Try.func22, Try.ntmps22
  go_wp2_with fail
  have hx0 : Ext No W ((W.alloc (.cells #[.int .i64 s.width, .slice al s.words.length cl] 40)).alloc (.cells #[.int .i64 0, .slice none 0 0] 40)) := ((Ext.refl _ _).alloc _).alloc _
  have hA : ((W.alloc (.cells #[.int .i64 s.width, .slice al s.words.length cl] 40)).alloc (.cells #[.int .i64 0, .slice none 0 0] 40)).heap[W.heap.size]? = some (.cells #[.int .i64 s.width, .slice al s.words.length cl] 40 (0, 0)) := alloc_under (alloc_top rfl)
  have hC : ((W.alloc (.cells #[.int .i64 s.width, .slice al s.words.length cl] 40)).alloc (.cells #[.int .i64 0, .slice none 0 0] 40)).heap[W.heap.size + 1]? = some (.cells #[.int .i64 0, .slice none 0 0] 40 (0, 0)) := alloc_top (by simp)
  have hsz : ((W.alloc (.cells #[.int .i64 s.width, .slice al s.words.length cl] 40)).alloc (.cells #[.int .i64 0, .slice none 0 0] 40)).heap.size = W.heap.size + 2 := by simp
  generalize ((W.alloc (.cells #[.int .i64 s.width, .slice al s.words.length cl] 40)).alloc (.cells #[.int .i64 0, .slice none 0 0] 40)) = W1 at *
  have HA := Lib.hid hA
  have HC := Lib.hid hC
  have HX0 := Lib.hid hx0
  have HW := Lib.hid (H.out.extNo hx0)
  clear hC hx0
  go_cut [5] (fun s5 wx => ∃ (D : Nat) (v : Value), s5 = .pointer (some ⟨D, 0, none⟩) ∧ Hid (SpM tb W wx D s.width v s.words))
  case first =>
    have l0 : W1.cell? ⟨W.heap.size, 0, none⟩ = some (.int .i64 s.width) := cellOf hA 0
    have l1 : W1.cell? ⟨W.heap.size, 1, none⟩ = some (.slice al s.words.length cl) := cellOf hA 1
    have hlA : W.heap.size < W1.heap.size := by omega
    clear hA
    refine wp_region_held_drew (S := (fun w' => w'.cell? ⟨W.heap.size, 0, none⟩ = some (.int .i64 s.width) ∧ w'.cell? ⟨W.heap.size, 1, none⟩ = some (.slice al s.words.length cl))) (by kernel_rfl) ?_ (fun hHeld => ?_)
    · (go_split_ands; refine ⟨?_, ?_⟩ <;> (repeat (first | (with_reducible assumption) | (with_reducible exact Ext.refl _ _) | (with_reducible refine keepD ?_) | (with_reducible refine keepA ?_) | (with_reducible refine Ext.drew ?_) | (with_reducible refine Ext.alloc ?_ _) | (with_reducible refine BoxR.drew ?_) | (with_reducible refine BoxR.alloc ?_ _) | (with_reducible refine BoxR.set ?_ _ _) | ((with_reducible refine keepS ?_ ?_); (first | (with_reducible assumption) | omega | (simp; omega) | (exact Nat.le_refl _))) | (with_reducible refine Ext.setAt ?_ _ _) | ((with_reducible refine Ext.own ?_ ?_ _); rotate_left; (first | (with_reducible assumption) | omega | (simp; omega) | (exact Nat.le_refl _))) | (with_reducible refine keepN hyA ?_) | (with_reducible refine Ext.transNo ?_ hyA) | (with_reducible refine BoxR.ext ?_ hyA))))
    have hE : Ext No W1 W1.drew := (Ext.refl No W1).drew
    generalize W1.drew = v0 at *
    refine held_take (i := 0) (v := ?_) rfl (by kernel_rfl) (by kernel_rfl) (by kernel_rfl) (fun _ _ _ h => h) rfl (fun w hSw => ?_) hHeld ?_
    rotate_left
    · (try dsimp only at hSw); go_simp; (try with_reducible rfl)
    try simp only [Act.put, List.setIfInBounds_toArray, List.set_cons_zero, List.set_cons_succ]
    refine held_take (i := 1) (v := ?_) rfl (by kernel_rfl) (by kernel_rfl) (by kernel_rfl) (fun _ _ _ h => h) rfl (fun w hSw => ?_) hHeld ?_
    rotate_left
    · (try dsimp only at hSw); go_simp; (try with_reducible rfl)
    try simp only [Act.put, List.setIfInBounds_toArray, List.set_cons_zero, List.set_cons_succ]
    refine held_take (i := 3) (v := ?_) rfl (by kernel_rfl) (by kernel_rfl) (by kernel_rfl) (fun _ _ _ h => h) rfl (fun w hSw => ?_) hHeld ?_
    rotate_left
    · (try dsimp only at hSw); go_simp; (try with_reducible rfl)
    try simp only [Act.put, List.setIfInBounds_toArray, List.set_cons_zero, List.set_cons_succ]
    refine held_take (i := 4) (v := ?_) rfl (by kernel_rfl) (by kernel_rfl) (by kernel_rfl) (fun _ _ _ h => h) rfl (fun w hSw => ?_) hHeld ?_
    rotate_left
    · (try dsimp only at hSw); go_simp; (try with_reducible rfl)
    try simp only [Act.put, List.setIfInBounds_toArray, List.set_cons_zero, List.set_cons_succ]
    refine held_next2 (i := 2) (j := 7) (by kernel_rfl) (NextOp.mk rfl rfl (fun K hK => ?_)) (NextOp.mk rfl rfl (fun K hK => ?_))
    · go_simp
      refine hK.out _ _ ?_ (fun hNew => ?_)
      · (go_split_ands; refine ⟨?_, ?_⟩ <;> (repeat (first | (with_reducible assumption) | (with_reducible exact Ext.refl _ _) | (with_reducible refine keepD ?_) | (with_reducible refine keepA ?_) | (with_reducible refine Ext.drew ?_) | (with_reducible refine Ext.alloc ?_ _) | (with_reducible refine BoxR.drew ?_) | (with_reducible refine BoxR.alloc ?_ _) | (with_reducible refine BoxR.set ?_ _ _) | ((with_reducible refine keepS ?_ ?_); (first | (with_reducible assumption) | omega | (simp; omega) | (exact Nat.le_refl _))) | (with_reducible refine Ext.setAt ?_ _ _) | ((with_reducible refine Ext.own ?_ ?_ _); rotate_left; (first | (with_reducible assumption) | omega | (simp; omega) | (exact Nat.le_refl _))) | (with_reducible refine keepN hyA ?_) | (with_reducible refine Ext.transNo ?_ hyA) | (with_reducible refine BoxR.ext ?_ hyA))))
      clear hK K hHeld
      have hHeld := hNew
      clear hNew
      have hown0 := World.ownsRow_made v0 #[] 0 (e := 86) (size := 1) (Nat.le_refl _) (Nat.zero_le _) rfl
      have hGs : W.heap.size + 2 ≤ v0.heap.size := by have := hE.size; omega
      replace hE := hE.alloc (.cells #[] 86)
      have hGl : v0.heap.size < (v0.alloc (.cells #[] 86)).heap.size := by simp
      generalize (v0.alloc (.cells #[] 86)) = v1 at *
      generalize v0.heap.size = G at *
      try simp only [Act.put, List.setIfInBounds_toArray, List.set_cons_zero, List.set_cons_succ]
      refine held_next2 (i := 5) (j := 7) (by kernel_rfl) (NextOp.mk rfl rfl (fun K hK => ?_)) (NextOp.mk rfl rfl (fun K hK => ?_))
      · ((refine wp_app _ (.tmp 8) (.tmp 10) 38 rfl G 86 i0 _ 1 8 Try.underlying38 hi0 hz0 hz1 hz2 rfl (by omega) (.slice (some ⟨G, 0, none⟩) 0 0) 0 [] rfl hown0 No al s.words.length cl (u64s s.words) rfl (Row.extNo HW.out.row hE) (u64s_one s.words) (by omega) (by omega) (by first | exact Nat.le_of_lt hGl | (have := hE.size; omega)) ?_); (intro vq w9 hown1 hg1 hv1))
        refine hK.out _ _ ?_ (fun hNew => ?_)
        · (go_split_ands; refine ⟨?_, ?_⟩ <;> (first | exact Ext.keepM ((Ext.refl (fun k => k = G) _).grown hg1 (fun k hk _ => by cases hk; rfl)) (by with_reducible assumption) (by show ¬ W.heap.size = G; omega) | (repeat (first | (with_reducible assumption) | (with_reducible exact Ext.refl _ _) | (with_reducible refine keepD ?_) | (with_reducible refine keepA ?_) | (with_reducible refine Ext.drew ?_) | (with_reducible refine Ext.alloc ?_ _) | (with_reducible refine BoxR.drew ?_) | (with_reducible refine BoxR.alloc ?_ _) | (with_reducible refine BoxR.set ?_ _ _) | ((with_reducible refine keepS ?_ ?_); (first | (with_reducible assumption) | omega | (simp; omega) | (exact Nat.le_refl _))) | (with_reducible refine Ext.setAt ?_ _ _) | ((with_reducible refine Ext.own ?_ ?_ _); rotate_left; (first | (with_reducible assumption) | omega | (simp; omega) | (exact Nat.le_refl _))) | (with_reducible refine keepN hyA ?_) | (with_reducible refine Ext.transNo ?_ hyA) | (with_reducible refine BoxR.ext ?_ hyA)))))
        clear hK K hHeld
        have hHeld := hNew
        clear hNew
        simp only [Nat.zero_add, List.nil_append] at hown1
        have hyE : Ext No W1 w9 := hE.grown hg1 (fun k hk hlt => by cases hk; exact absurd hlt (Nat.not_lt.2 (by show W1.heap.size ≤ G; omega)))
        have hkl : ∀ k, vq.ownBlock = some k → k < w9.heap.size := fun k hk => (World.ownsRow.lt hown1 k hk).2
        clear hE
        have hE := hyE
        obtain ⟨av1, cv1, hsl1⟩ := (Row.ofOwns (M := No) hown1 (fun _ _ x => x)).slice
        subst hsl1
        clear hg1 hv1 hown0 hyE
        try simp only [Act.put, List.setIfInBounds_toArray, List.set_cons_zero, List.set_cons_succ]
        refine held_take (i := 6) (v := ?_) rfl (by kernel_rfl) (by kernel_rfl) (by kernel_rfl) (fun _ _ _ h => h) rfl (fun w hSw => ?_) hHeld ?_
        rotate_left
        · (try dsimp only at hSw); go_simp; (try with_reducible rfl)
        try simp only [Act.put, List.setIfInBounds_toArray, List.set_cons_zero, List.set_cons_succ]
        refine held_call (i := 7) rfl (by kernel_rfl) rfl (fun K hK => ?_)
        go_simp
        refine hK.out _ _ ?_ (fun hNew => ?_)
        · (go_split_ands; refine ⟨?_, ?_⟩ <;> (repeat (first | (with_reducible assumption) | (with_reducible exact Ext.refl _ _) | (with_reducible refine keepD ?_) | (with_reducible refine keepA ?_) | (with_reducible refine Ext.drew ?_) | (with_reducible refine Ext.alloc ?_ _) | (with_reducible refine BoxR.drew ?_) | (with_reducible refine BoxR.alloc ?_ _) | (with_reducible refine BoxR.set ?_ _ _) | ((with_reducible refine keepS ?_ ?_); (first | (with_reducible assumption) | omega | (simp; omega) | (exact Nat.le_refl _))) | (with_reducible refine Ext.setAt ?_ _ _) | ((with_reducible refine Ext.own ?_ ?_ _); rotate_left; (first | (with_reducible assumption) | omega | (simp; omega) | (exact Nat.le_refl _))) | (with_reducible refine keepN hyA ?_) | (with_reducible refine Ext.transNo ?_ hyA) | (with_reducible refine BoxR.ext ?_ hyA))))
        clear hK K hHeld
        have hHeld := hNew
        clear hNew
        have hDb := alloc_top (w := w9) (o := (.cells #[.int .i64 0, .slice none 0 0] 40)) rfl
        have hDs : W.heap.size + 2 ≤ w9.heap.size := by have := hE.size; omega
        replace hE := hE.alloc (.cells #[.int .i64 0, .slice none 0 0] 40)
        replace hown1 := row_keep hown1 ((Ext.refl No w9).alloc (.cells #[.int .i64 0, .slice none 0 0] 40)) (fun _ _ x => x)
        have hneD : ∀ k, (Value.slice av1 s.words.length cv1).ownBlock = some k → k ≠ w9.heap.size := fun k hk => by have := hkl k hk; omega
        have hDlt : w9.heap.size < (w9.alloc (.cells #[.int .i64 0, .slice none 0 0] 40)).heap.size := by simp
        generalize (w9.alloc (.cells #[.int .i64 0, .slice none 0 0] 40)) = v3 at *
        generalize w9.heap.size = D at *
        try simp only [Act.put, List.setIfInBounds_toArray, List.set_cons_zero, List.set_cons_succ]
        refine held_call (i := 8) rfl (by kernel_rfl) rfl (fun K hK => ?_)
        ((have cX := cellOf hDb); (have fX := freeOf hDb); go_simp; (clear cX fX))
        refine hK.out _ _ ?_ (fun hNew => ?_)
        · (go_split_ands; refine ⟨?_, ?_⟩ <;> (repeat (first | (with_reducible assumption) | (with_reducible exact Ext.refl _ _) | (with_reducible refine keepD ?_) | (with_reducible refine keepA ?_) | (with_reducible refine Ext.drew ?_) | (with_reducible refine Ext.alloc ?_ _) | (with_reducible refine BoxR.drew ?_) | (with_reducible refine BoxR.alloc ?_ _) | (with_reducible refine BoxR.set ?_ _ _) | ((with_reducible refine keepS ?_ ?_); (first | (with_reducible assumption) | omega | (simp; omega) | (exact Nat.le_refl _))) | (with_reducible refine Ext.setAt ?_ _ _) | ((with_reducible refine Ext.own ?_ ?_ _); rotate_left; (first | (with_reducible assumption) | omega | (simp; omega) | (exact Nat.le_refl _))) | (with_reducible refine keepN hyA ?_) | (with_reducible refine Ext.transNo ?_ hyA) | (with_reducible refine BoxR.ext ?_ hyA))))
        clear hK K hHeld
        have hHeld := hNew
        clear hNew
        skip
        try simp only [Act.put, List.setIfInBounds_toArray, List.set_cons_zero, List.set_cons_succ]
        refine wpAnyH_done (by kernel_rfl) ?_ _
        go_wp2_with fail
        go_meet
        have hE2 : Ext (At D) v3 ((v3.setCell ⟨D, 0, none⟩ (.int .i64 s.width)).setCell ⟨D, 1, none⟩ (.slice av1 s.words.length cv1)) := ((Ext.refl (At D) _).setAt _ _).setAt _ _
        exact ⟨D, _, rfl, Lib.hid ⟨(HX0.out.transNo hE).ofNo.trans2 hE2 (fun i hi e => by unfold At at e; omega), (HT.out.ext (HX0.out.transNo hE)).extAbove hE2 (fun i hi e => by unfold At at e; omega), hE2.blk (hE.blk HC.out no_no) (by unfold At; omega), (set_same (j := 1) (set_same (j := 0) hDb)).trans rfl, ⟨row_base (row_keep2 hown1 hE2 (fun k hk e => hneD k hk e)) hGs, H.out.lt⟩, hDs, hneD, hlt0⟩⟩
      · go_simp
        refine hK.out _ _ ?_ (fun hNew => ?_)
        · (go_split_ands; refine ⟨?_, ?_⟩ <;> (repeat (first | (with_reducible assumption) | (with_reducible exact Ext.refl _ _) | (with_reducible refine keepD ?_) | (with_reducible refine keepA ?_) | (with_reducible refine Ext.drew ?_) | (with_reducible refine Ext.alloc ?_ _) | (with_reducible refine BoxR.drew ?_) | (with_reducible refine BoxR.alloc ?_ _) | (with_reducible refine BoxR.set ?_ _ _) | ((with_reducible refine keepS ?_ ?_); (first | (with_reducible assumption) | omega | (simp; omega) | (exact Nat.le_refl _))) | (with_reducible refine Ext.setAt ?_ _ _) | ((with_reducible refine Ext.own ?_ ?_ _); rotate_left; (first | (with_reducible assumption) | omega | (simp; omega) | (exact Nat.le_refl _))) | (with_reducible refine keepN hyA ?_) | (with_reducible refine Ext.transNo ?_ hyA) | (with_reducible refine BoxR.ext ?_ hyA))))
        clear hK K hHeld
        have hHeld := hNew
        clear hNew
        have hDb := alloc_top (w := v1) (o := (.cells #[.int .i64 0, .slice none 0 0] 40)) rfl
        have hDs : W.heap.size + 2 ≤ v1.heap.size := by have := hE.size; omega
        replace hE := hE.alloc (.cells #[.int .i64 0, .slice none 0 0] 40)
        replace hown0 := row_keep hown0 ((Ext.refl No v1).alloc (.cells #[.int .i64 0, .slice none 0 0] 40)) (fun _ _ x => x)
        have hDG : G < v1.heap.size := hGl
        have hDlt : v1.heap.size < (v1.alloc (.cells #[.int .i64 0, .slice none 0 0] 40)).heap.size := by simp
        generalize (v1.alloc (.cells #[.int .i64 0, .slice none 0 0] 40)) = v2 at *
        generalize v1.heap.size = D at *
        try simp only [Act.put, List.setIfInBounds_toArray, List.set_cons_zero, List.set_cons_succ]
        refine held_call (i := 5) rfl (by kernel_rfl) rfl (fun K hK => ?_)
        ((refine wp_app _ (.tmp 8) (.tmp 10) 38 rfl G 86 i0 _ 1 8 Try.underlying38 hi0 hz0 hz1 hz2 rfl (by omega) (.slice (some ⟨G, 0, none⟩) 0 0) 0 [] rfl hown0 No al s.words.length cl (u64s s.words) rfl (Row.extNo HW.out.row hE) (u64s_one s.words) (by omega) (by omega) (by first | exact Nat.le_of_lt hGl | (have := hE.size; omega)) ?_); (intro vq w9 hown1 hg1 hv1))
        refine hK.out _ _ ?_ (fun hNew => ?_)
        · (go_split_ands; refine ⟨?_, ?_⟩ <;> (first | exact Ext.keepM ((Ext.refl (fun k => k = G) _).grown hg1 (fun k hk _ => by cases hk; rfl)) (by with_reducible assumption) (by show ¬ W.heap.size = G; omega) | (repeat (first | (with_reducible assumption) | (with_reducible exact Ext.refl _ _) | (with_reducible refine keepD ?_) | (with_reducible refine keepA ?_) | (with_reducible refine Ext.drew ?_) | (with_reducible refine Ext.alloc ?_ _) | (with_reducible refine BoxR.drew ?_) | (with_reducible refine BoxR.alloc ?_ _) | (with_reducible refine BoxR.set ?_ _ _) | ((with_reducible refine keepS ?_ ?_); (first | (with_reducible assumption) | omega | (simp; omega) | (exact Nat.le_refl _))) | (with_reducible refine Ext.setAt ?_ _ _) | ((with_reducible refine Ext.own ?_ ?_ _); rotate_left; (first | (with_reducible assumption) | omega | (simp; omega) | (exact Nat.le_refl _))) | (with_reducible refine keepN hyA ?_) | (with_reducible refine Ext.transNo ?_ hyA) | (with_reducible refine BoxR.ext ?_ hyA)))))
        clear hK K hHeld
        have hHeld := hNew
        clear hNew
        simp only [Nat.zero_add, List.nil_append] at hown1
        have hyE : Ext No W1 w9 := hE.grown hg1 (fun k hk hlt => by cases hk; exact absurd hlt (Nat.not_lt.2 (by show W1.heap.size ≤ G; omega)))
        have hkl : ∀ k, vq.ownBlock = some k → k < w9.heap.size := fun k hk => (World.ownsRow.lt hown1 k hk).2
        replace hDb := (hg1.block D (by first | exact hDlt | omega) (fun e => by simp only [Value.ownBlock, Option.some.injEq] at e; omega)).trans hDb
        have hneD : ∀ k, vq.ownBlock = some k → k ≠ D := fun k hk => by
          rcases hv1 with e | e
          · rw [hk] at e; simp only [Value.ownBlock, Option.some.injEq] at e; omega
          · rw [hk] at e; simp only [Option.some.injEq] at e; omega
        clear hE
        have hE := hyE
        obtain ⟨av1, cv1, hsl1⟩ := (Row.ofOwns (M := No) hown1 (fun _ _ x => x)).slice
        subst hsl1
        clear hg1 hv1 hown0 hyE
        try simp only [Act.put, List.setIfInBounds_toArray, List.set_cons_zero, List.set_cons_succ]
        refine held_take (i := 6) (v := ?_) rfl (by kernel_rfl) (by kernel_rfl) (by kernel_rfl) (fun _ _ _ h => h) rfl (fun w hSw => ?_) hHeld ?_
        rotate_left
        · (try dsimp only at hSw); go_simp; (try with_reducible rfl)
        try simp only [Act.put, List.setIfInBounds_toArray, List.set_cons_zero, List.set_cons_succ]
        refine held_call (i := 8) rfl (by kernel_rfl) rfl (fun K hK => ?_)
        ((have cX := cellOf hDb); (have fX := freeOf hDb); go_simp; (clear cX fX))
        refine hK.out _ _ ?_ (fun hNew => ?_)
        · (go_split_ands; refine ⟨?_, ?_⟩ <;> (repeat (first | (with_reducible assumption) | (with_reducible exact Ext.refl _ _) | (with_reducible refine keepD ?_) | (with_reducible refine keepA ?_) | (with_reducible refine Ext.drew ?_) | (with_reducible refine Ext.alloc ?_ _) | (with_reducible refine BoxR.drew ?_) | (with_reducible refine BoxR.alloc ?_ _) | (with_reducible refine BoxR.set ?_ _ _) | ((with_reducible refine keepS ?_ ?_); (first | (with_reducible assumption) | omega | (simp; omega) | (exact Nat.le_refl _))) | (with_reducible refine Ext.setAt ?_ _ _) | ((with_reducible refine Ext.own ?_ ?_ _); rotate_left; (first | (with_reducible assumption) | omega | (simp; omega) | (exact Nat.le_refl _))) | (with_reducible refine keepN hyA ?_) | (with_reducible refine Ext.transNo ?_ hyA) | (with_reducible refine BoxR.ext ?_ hyA))))
        clear hK K hHeld
        have hHeld := hNew
        clear hNew
        skip
        try simp only [Act.put, List.setIfInBounds_toArray, List.set_cons_zero, List.set_cons_succ]
        refine wpAnyH_done (by kernel_rfl) ?_ _
        go_wp2_with fail
        go_meet
        have hE2 : Ext (At D) w9 ((w9.setCell ⟨D, 0, none⟩ (.int .i64 s.width)).setCell ⟨D, 1, none⟩ (.slice av1 s.words.length cv1)) := ((Ext.refl (At D) _).setAt _ _).setAt _ _
        exact ⟨D, _, rfl, Lib.hid ⟨(HX0.out.transNo hE).ofNo.trans2 hE2 (fun i hi e => by unfold At at e; omega), (HT.out.ext (HX0.out.transNo hE)).extAbove hE2 (fun i hi e => by unfold At at e; omega), hE2.blk (hE.blk HC.out no_no) (by unfold At; omega), (set_same (j := 1) (set_same (j := 0) hDb)).trans rfl, ⟨row_base (row_keep2 hown1 hE2 (fun k hk e => hneD k hk e)) hGs, H.out.lt⟩, hDs, hneD, hlt0⟩⟩
    · go_simp
      refine hK.out _ _ ?_ (fun hNew => ?_)
      · (go_split_ands; refine ⟨?_, ?_⟩ <;> (repeat (first | (with_reducible assumption) | (with_reducible exact Ext.refl _ _) | (with_reducible refine keepD ?_) | (with_reducible refine keepA ?_) | (with_reducible refine Ext.drew ?_) | (with_reducible refine Ext.alloc ?_ _) | (with_reducible refine BoxR.drew ?_) | (with_reducible refine BoxR.alloc ?_ _) | (with_reducible refine BoxR.set ?_ _ _) | ((with_reducible refine keepS ?_ ?_); (first | (with_reducible assumption) | omega | (simp; omega) | (exact Nat.le_refl _))) | (with_reducible refine Ext.setAt ?_ _ _) | ((with_reducible refine Ext.own ?_ ?_ _); rotate_left; (first | (with_reducible assumption) | omega | (simp; omega) | (exact Nat.le_refl _))) | (with_reducible refine keepN hyA ?_) | (with_reducible refine Ext.transNo ?_ hyA) | (with_reducible refine BoxR.ext ?_ hyA))))
      clear hK K hHeld
      have hHeld := hNew
      clear hNew
      have hDb := alloc_top (w := v0) (o := (.cells #[.int .i64 0, .slice none 0 0] 40)) rfl
      have hDs : W.heap.size + 2 ≤ v0.heap.size := by have := hE.size; omega
      replace hE := hE.alloc (.cells #[.int .i64 0, .slice none 0 0] 40)
      have hDlt : v0.heap.size < (v0.alloc (.cells #[.int .i64 0, .slice none 0 0] 40)).heap.size := by simp
      generalize (v0.alloc (.cells #[.int .i64 0, .slice none 0 0] 40)) = v1 at *
      generalize v0.heap.size = D at *
      try simp only [Act.put, List.setIfInBounds_toArray, List.set_cons_zero, List.set_cons_succ]
      refine held_call (i := 2) rfl (by kernel_rfl) rfl (fun K hK => ?_)
      go_simp
      refine hK.out _ _ ?_ (fun hNew => ?_)
      · (go_split_ands; refine ⟨?_, ?_⟩ <;> (repeat (first | (with_reducible assumption) | (with_reducible exact Ext.refl _ _) | (with_reducible refine keepD ?_) | (with_reducible refine keepA ?_) | (with_reducible refine Ext.drew ?_) | (with_reducible refine Ext.alloc ?_ _) | (with_reducible refine BoxR.drew ?_) | (with_reducible refine BoxR.alloc ?_ _) | (with_reducible refine BoxR.set ?_ _ _) | ((with_reducible refine keepS ?_ ?_); (first | (with_reducible assumption) | omega | (simp; omega) | (exact Nat.le_refl _))) | (with_reducible refine Ext.setAt ?_ _ _) | ((with_reducible refine Ext.own ?_ ?_ _); rotate_left; (first | (with_reducible assumption) | omega | (simp; omega) | (exact Nat.le_refl _))) | (with_reducible refine keepN hyA ?_) | (with_reducible refine Ext.transNo ?_ hyA) | (with_reducible refine BoxR.ext ?_ hyA))))
      clear hK K hHeld
      have hHeld := hNew
      clear hNew
      have hown0 := World.ownsRow_made v1 #[] 0 (e := 86) (size := 1) (Nat.le_refl _) (Nat.zero_le _) rfl
      have hGs : W.heap.size + 2 ≤ v1.heap.size := by have := hE.size; omega
      replace hE := hE.alloc (.cells #[] 86)
      replace hDb := alloc_under (o := (.cells #[] 86)) hDb
      have hDG : D < v1.heap.size := hDlt
      have hGl : v1.heap.size < (v1.alloc (.cells #[] 86)).heap.size := by simp
      generalize (v1.alloc (.cells #[] 86)) = v2 at *
      generalize v1.heap.size = G at *
      try simp only [Act.put, List.setIfInBounds_toArray, List.set_cons_zero, List.set_cons_succ]
      refine held_call (i := 5) rfl (by kernel_rfl) rfl (fun K hK => ?_)
      ((refine wp_app _ (.tmp 8) (.tmp 10) 38 rfl G 86 i0 _ 1 8 Try.underlying38 hi0 hz0 hz1 hz2 rfl (by omega) (.slice (some ⟨G, 0, none⟩) 0 0) 0 [] rfl hown0 No al s.words.length cl (u64s s.words) rfl (Row.extNo HW.out.row hE) (u64s_one s.words) (by omega) (by omega) (by first | exact Nat.le_of_lt hGl | (have := hE.size; omega)) ?_); (intro vq w9 hown1 hg1 hv1))
      refine hK.out _ _ ?_ (fun hNew => ?_)
      · (go_split_ands; refine ⟨?_, ?_⟩ <;> (first | exact Ext.keepM ((Ext.refl (fun k => k = G) _).grown hg1 (fun k hk _ => by cases hk; rfl)) (by with_reducible assumption) (by show ¬ W.heap.size = G; omega) | (repeat (first | (with_reducible assumption) | (with_reducible exact Ext.refl _ _) | (with_reducible refine keepD ?_) | (with_reducible refine keepA ?_) | (with_reducible refine Ext.drew ?_) | (with_reducible refine Ext.alloc ?_ _) | (with_reducible refine BoxR.drew ?_) | (with_reducible refine BoxR.alloc ?_ _) | (with_reducible refine BoxR.set ?_ _ _) | ((with_reducible refine keepS ?_ ?_); (first | (with_reducible assumption) | omega | (simp; omega) | (exact Nat.le_refl _))) | (with_reducible refine Ext.setAt ?_ _ _) | ((with_reducible refine Ext.own ?_ ?_ _); rotate_left; (first | (with_reducible assumption) | omega | (simp; omega) | (exact Nat.le_refl _))) | (with_reducible refine keepN hyA ?_) | (with_reducible refine Ext.transNo ?_ hyA) | (with_reducible refine BoxR.ext ?_ hyA)))))
      clear hK K hHeld
      have hHeld := hNew
      clear hNew
      simp only [Nat.zero_add, List.nil_append] at hown1
      have hyE : Ext No W1 w9 := hE.grown hg1 (fun k hk hlt => by cases hk; exact absurd hlt (Nat.not_lt.2 (by show W1.heap.size ≤ G; omega)))
      have hkl : ∀ k, vq.ownBlock = some k → k < w9.heap.size := fun k hk => (World.ownsRow.lt hown1 k hk).2
      replace hDb := (hg1.block D (by first | exact hDlt | omega) (fun e => by simp only [Value.ownBlock, Option.some.injEq] at e; omega)).trans hDb
      have hneD : ∀ k, vq.ownBlock = some k → k ≠ D := fun k hk => by
        rcases hv1 with e | e
        · rw [hk] at e; simp only [Value.ownBlock, Option.some.injEq] at e; omega
        · rw [hk] at e; simp only [Option.some.injEq] at e; omega
      clear hE
      have hE := hyE
      obtain ⟨av1, cv1, hsl1⟩ := (Row.ofOwns (M := No) hown1 (fun _ _ x => x)).slice
      subst hsl1
      clear hg1 hv1 hown0 hyE
      try simp only [Act.put, List.setIfInBounds_toArray, List.set_cons_zero, List.set_cons_succ]
      refine held_take (i := 6) (v := ?_) rfl (by kernel_rfl) (by kernel_rfl) (by kernel_rfl) (fun _ _ _ h => h) rfl (fun w hSw => ?_) hHeld ?_
      rotate_left
      · (try dsimp only at hSw); go_simp; (try with_reducible rfl)
      try simp only [Act.put, List.setIfInBounds_toArray, List.set_cons_zero, List.set_cons_succ]
      refine held_call (i := 8) rfl (by kernel_rfl) rfl (fun K hK => ?_)
      ((have cX := cellOf hDb); (have fX := freeOf hDb); go_simp; (clear cX fX))
      refine hK.out _ _ ?_ (fun hNew => ?_)
      · (go_split_ands; refine ⟨?_, ?_⟩ <;> (repeat (first | (with_reducible assumption) | (with_reducible exact Ext.refl _ _) | (with_reducible refine keepD ?_) | (with_reducible refine keepA ?_) | (with_reducible refine Ext.drew ?_) | (with_reducible refine Ext.alloc ?_ _) | (with_reducible refine BoxR.drew ?_) | (with_reducible refine BoxR.alloc ?_ _) | (with_reducible refine BoxR.set ?_ _ _) | ((with_reducible refine keepS ?_ ?_); (first | (with_reducible assumption) | omega | (simp; omega) | (exact Nat.le_refl _))) | (with_reducible refine Ext.setAt ?_ _ _) | ((with_reducible refine Ext.own ?_ ?_ _); rotate_left; (first | (with_reducible assumption) | omega | (simp; omega) | (exact Nat.le_refl _))) | (with_reducible refine keepN hyA ?_) | (with_reducible refine Ext.transNo ?_ hyA) | (with_reducible refine BoxR.ext ?_ hyA))))
      clear hK K hHeld
      have hHeld := hNew
      clear hNew
      skip
      try simp only [Act.put, List.setIfInBounds_toArray, List.set_cons_zero, List.set_cons_succ]
      refine wpAnyH_done (by kernel_rfl) ?_ _
      go_wp2_with fail
      go_meet
      have hE2 : Ext (At D) w9 ((w9.setCell ⟨D, 0, none⟩ (.int .i64 s.width)).setCell ⟨D, 1, none⟩ (.slice av1 s.words.length cv1)) := ((Ext.refl (At D) _).setAt _ _).setAt _ _
      exact ⟨D, _, rfl, Lib.hid ⟨(HX0.out.transNo hE).ofNo.trans2 hE2 (fun i hi e => by unfold At at e; omega), (HT.out.ext (HX0.out.transNo hE)).extAbove hE2 (fun i hi e => by unfold At at e; omega), hE2.blk (hE.blk HC.out no_no) (by unfold At; omega), (set_same (j := 1) (set_same (j := 0) hDb)).trans rfl, ⟨row_base (row_keep2 hown1 hE2 (fun k hk e => hneD k hk e)) hGs, H.out.lt⟩, hDs, hneD, hlt0⟩⟩
  case rest =>
  obtain ⟨D, v, rfl, hm⟩ := hcut
  rename World => V
  clear hA HA HC HX0 HW hsz
  obtain ⟨av, cv, rfl⟩ := hm.out.own.slice
  go_wp2_with fail
  refine (next_lt tb 4 (by decide) (by decide) _ hm.out.tape).mono ?_
  rintro e1 w1 ⟨r, rfl, hr, ht1, hx1, -⟩
  have hm1 := Lib.hid (hm.out.step hx1 ht1)
  clear hm hx1 ht1
  have hr4 : r = 0 ∨ r = 1 ∨ r = 2 ∨ r = 3 := by omega
  clear hr
  rcases hr4 with rfl | rfl | rfl | rfl
  · go_wp2_with fail
    refine wp_region_held_drew (S := (fun _ => True)) (by kernel_rfl) ?_ (fun hHeld => ?_)
    · trivial
    replace hm1 := Lib.hid (hm1.out.stepNo (Ext.refl No w1).drew)
    generalize w1.drew = v0 at *
    refine held_take (i := 0) (v := ?_) rfl (by kernel_rfl) (by kernel_rfl) (by kernel_rfl) (fun _ _ _ h => h) rfl (fun w hSw => ?_) hHeld ?_
    rotate_left
    · (try dsimp only at hSw); go_simp; (try with_reducible rfl)
    try simp only [Act.put, List.setIfInBounds_toArray, List.set_cons_zero, List.set_cons_succ]
    refine held_take (i := 2) (v := ?_) rfl (by kernel_rfl) (by kernel_rfl) (by kernel_rfl) (fun _ _ _ h => h) rfl (fun w hSw => ?_) hHeld ?_
    rotate_left
    · (try dsimp only at hSw); go_simp; (try with_reducible rfl)
    try simp only [Act.put, List.setIfInBounds_toArray, List.set_cons_zero, List.set_cons_succ]
    refine held_next2 (i := 1) (j := 3) (by kernel_rfl) (NextOp.mk rfl rfl (fun K hK => ?_)) (NextOp.mk rfl rfl (fun K hK => ?_))
    · ((have cX := cellOf hm1.out.boxD); go_simp; (clear cX))
      refine hK.out _ _ ?_ (fun hNew => ?_)
      · trivial
      clear hK K hHeld
      have hHeld := hNew
      clear hNew
      skip
      try simp only [Act.put, List.setIfInBounds_toArray, List.set_cons_zero, List.set_cons_succ]
      refine held_call (i := 3) rfl (by kernel_rfl) rfl (fun K hK => ?_)
      (go_simp; go_at_call 12; (with_reducible refine (next_lt tb 5 (by decide) (by decide) _ hm1.out.tape).mono ?_); (rintro e5 w5 ⟨r5, rfl, hr5, ht5, hx5, -⟩); go_simp)
      refine hK.out _ _ ?_ (fun hNew => ?_)
      · trivial
      clear hK K hHeld
      have hHeld := hNew
      clear hNew
      replace hm1 := Lib.hid (hm1.out.step hx5 ht5)
      clear hx5 ht5
      try simp only [Act.put, List.setIfInBounds_toArray, List.set_cons_zero, List.set_cons_succ]
      refine held_take (i := 4) (v := ?_) rfl (by kernel_rfl) (by kernel_rfl) (by kernel_rfl) (fun _ _ _ h => h) rfl (fun w hSw => ?_) hHeld ?_
      rotate_left
      · (try dsimp only at hSw); go_simp; (try with_reducible rfl)
      try simp only [Act.put, List.setIfInBounds_toArray, List.set_cons_zero, List.set_cons_succ]
      refine held_take (i := 5) (v := ?_) rfl (by kernel_rfl) (by kernel_rfl) (by kernel_rfl) (fun _ _ _ h => h) rfl (fun w hSw => ?_) hHeld ?_
      rotate_left
      · (try dsimp only at hSw); go_simp; (try with_reducible rfl)
      try simp only [Act.put, List.setIfInBounds_toArray, List.set_cons_zero, List.set_cons_succ]
      refine held_take (i := 6) (v := ?_) rfl (by kernel_rfl) (by kernel_rfl) (by kernel_rfl) (fun _ _ _ h => h) rfl (fun w hSw => ?_) hHeld ?_
      rotate_left
      · (try dsimp only at hSw); go_simp; (try with_reducible rfl)
      try simp only [Act.put, List.setIfInBounds_toArray, List.set_cons_zero, List.set_cons_succ]
      refine held_call (i := 7) rfl (by kernel_rfl) rfl (fun K hK => ?_)
      ((have cX := cellOf hm1.out.boxD); (have fX := freeOf hm1.out.boxD); go_simp; (clear cX fX))
      refine hK.out _ _ ?_ (fun hNew => ?_)
      · trivial
      clear hK K hHeld
      have hHeld := hNew
      clear hNew
      skip
      try simp only [Act.put, List.setIfInBounds_toArray, List.set_cons_zero, List.set_cons_succ]
      refine wpAnyH_done (by kernel_rfl) ?_ _
      have hmA := Lib.hid (fun z' => hm1.out.putW z')
      have cDF := fun z' j => cellOf (hmA.out z').boxD j
      have cCF := fun z' j => cellOf (hmA.out z').boxC j
      have fCF := fun z' j => freeOf (hmA.out z').boxC j
      have hneF : ¬ W.heap.size + 1 = D := by have := (hmA.out 0).low; omega
      go_wp2_with fail
      refine spoil_end (hmA.out _) ?_ ?_
      · first | rfl | exact HN9.out | exact (List.length_set ..).symm | exact HL0.out.symm
      · rfl
      
    · (go_simp; go_at_call 12; (with_reducible refine (next_lt tb 5 (by decide) (by decide) _ hm1.out.tape).mono ?_); (rintro e5 w5 ⟨r5, rfl, hr5, ht5, hx5, -⟩); go_simp)
      refine hK.out _ _ ?_ (fun hNew => ?_)
      · trivial
      clear hK K hHeld
      have hHeld := hNew
      clear hNew
      replace hm1 := Lib.hid (hm1.out.step hx5 ht5)
      clear hx5 ht5
      try simp only [Act.put, List.setIfInBounds_toArray, List.set_cons_zero, List.set_cons_succ]
      refine held_take (i := 4) (v := ?_) rfl (by kernel_rfl) (by kernel_rfl) (by kernel_rfl) (fun _ _ _ h => h) rfl (fun w hSw => ?_) hHeld ?_
      rotate_left
      · (try dsimp only at hSw); go_simp; (try with_reducible rfl)
      try simp only [Act.put, List.setIfInBounds_toArray, List.set_cons_zero, List.set_cons_succ]
      refine held_call (i := 1) rfl (by kernel_rfl) rfl (fun K hK => ?_)
      ((have cX := cellOf hm1.out.boxD); go_simp; (clear cX))
      refine hK.out _ _ ?_ (fun hNew => ?_)
      · trivial
      clear hK K hHeld
      have hHeld := hNew
      clear hNew
      skip
      try simp only [Act.put, List.setIfInBounds_toArray, List.set_cons_zero, List.set_cons_succ]
      refine held_take (i := 5) (v := ?_) rfl (by kernel_rfl) (by kernel_rfl) (by kernel_rfl) (fun _ _ _ h => h) rfl (fun w hSw => ?_) hHeld ?_
      rotate_left
      · (try dsimp only at hSw); go_simp; (try with_reducible rfl)
      try simp only [Act.put, List.setIfInBounds_toArray, List.set_cons_zero, List.set_cons_succ]
      refine held_take (i := 6) (v := ?_) rfl (by kernel_rfl) (by kernel_rfl) (by kernel_rfl) (fun _ _ _ h => h) rfl (fun w hSw => ?_) hHeld ?_
      rotate_left
      · (try dsimp only at hSw); go_simp; (try with_reducible rfl)
      try simp only [Act.put, List.setIfInBounds_toArray, List.set_cons_zero, List.set_cons_succ]
      refine held_call (i := 7) rfl (by kernel_rfl) rfl (fun K hK => ?_)
      ((have cX := cellOf hm1.out.boxD); (have fX := freeOf hm1.out.boxD); go_simp; (clear cX fX))
      refine hK.out _ _ ?_ (fun hNew => ?_)
      · trivial
      clear hK K hHeld
      have hHeld := hNew
      clear hNew
      skip
      try simp only [Act.put, List.setIfInBounds_toArray, List.set_cons_zero, List.set_cons_succ]
      refine wpAnyH_done (by kernel_rfl) ?_ _
      have hmA := Lib.hid (fun z' => hm1.out.putW z')
      have cDF := fun z' j => cellOf (hmA.out z').boxD j
      have cCF := fun z' j => cellOf (hmA.out z').boxC j
      have fCF := fun z' j => freeOf (hmA.out z').boxC j
      have hneF : ¬ W.heap.size + 1 = D := by have := (hmA.out 0).low; omega
      go_wp2_with fail
      refine spoil_end (hmA.out _) ?_ ?_
      · first | rfl | exact HN9.out | exact (List.length_set ..).symm | exact HL0.out.symm
      · rfl
      
  · go_wp2_with fail
    refine wp_region_held_drew (S := (fun _ => True)) (by kernel_rfl) ?_ (fun hHeld => ?_)
    · trivial
    replace hm1 := Lib.hid (hm1.out.stepNo (Ext.refl No w1).drew)
    generalize w1.drew = v0 at *
    refine held_take (i := 0) (v := ?_) rfl (by kernel_rfl) (by kernel_rfl) (by kernel_rfl) (fun _ _ _ h => h) rfl (fun w hSw => ?_) hHeld ?_
    rotate_left
    · (try dsimp only at hSw); go_simp; (try with_reducible rfl)
    try simp only [Act.put, List.setIfInBounds_toArray, List.set_cons_zero, List.set_cons_succ]
    refine held_take (i := 2) (v := ?_) rfl (by kernel_rfl) (by kernel_rfl) (by kernel_rfl) (fun _ _ _ h => h) rfl (fun w hSw => ?_) hHeld ?_
    rotate_left
    · (try dsimp only at hSw); go_simp; (try with_reducible rfl)
    try simp only [Act.put, List.setIfInBounds_toArray, List.set_cons_zero, List.set_cons_succ]
    refine held_next2 (i := 1) (j := 3) (by kernel_rfl) (NextOp.mk rfl rfl (fun K hK => ?_)) (NextOp.mk rfl rfl (fun K hK => ?_))
    · ((have cX := cellOf hm1.out.boxD); go_simp; (clear cX))
      refine hK.out _ _ ?_ (fun hNew => ?_)
      · trivial
      clear hK K hHeld
      have hHeld := hNew
      clear hNew
      skip
      try simp only [Act.put, List.setIfInBounds_toArray, List.set_cons_zero, List.set_cons_succ]
      refine held_call (i := 3) rfl (by kernel_rfl) rfl (fun K hK => ?_)
      (go_simp; go_at_call 12; (with_reducible refine (next_lt tb 2 (by decide) (by decide) _ hm1.out.tape).mono ?_); (rintro e5 w5 ⟨r5, rfl, hr5, ht5, hx5, -⟩); go_simp)
      refine hK.out _ _ ?_ (fun hNew => ?_)
      · trivial
      clear hK K hHeld
      have hHeld := hNew
      clear hNew
      replace hm1 := Lib.hid (hm1.out.step hx5 ht5)
      clear hx5 ht5
      have hwr := wrapU r5 (by omega)
      try simp only [Act.put, List.setIfInBounds_toArray, List.set_cons_zero, List.set_cons_succ]
      refine held_take (i := 4) (v := ?_) rfl (by kernel_rfl) (by kernel_rfl) (by kernel_rfl) (fun _ _ _ h => h) rfl (fun w hSw => ?_) hHeld ?_
      rotate_left
      · (try dsimp only at hSw); go_simp; (try with_reducible rfl)
      try simp only [Act.put, List.setIfInBounds_toArray, List.set_cons_zero, List.set_cons_succ]
      refine held_call (i := 5) rfl (by kernel_rfl) rfl (fun K hK => ?_)
      go_simp
      refine hK.out _ _ ?_ (fun hNew => ?_)
      · trivial
      clear hK K hHeld
      have hHeld := hNew
      clear hNew
      skip
      try simp only [Act.put, List.setIfInBounds_toArray, List.set_cons_zero, List.set_cons_succ]
      refine held_call (i := 6) rfl (by kernel_rfl) rfl (fun K hK => ?_)
      ((refine wp_app _ (.tmp 33) (.tmp 37) 38 rfl (W.heap.size + 2) 86 i0 _ 1 8 Try.underlying38 hi0 hz0 hz1 hz2 rfl (by omega) (.slice av s.words.length cv) s.words.length (u64s s.words) rfl (row_keep hm1.out.own.own ((Ext.refl No _).alloc _) (fun _ _ x => x)) No (some ⟨w5.heap.size, 0, none⟩) 1 1 [.int .u64 (r5 : Int)] rfl (Row.block (alloc_top rfl) rfl no_no (by omega)) (by simp [Value.oneCell']) (by omega) (by omega) (by have := hm1.out.low; have := lt_of_block hm1.out.boxD; simp; omega) ?_); (intro v1 w9 hown1 hg1 hv1); (obtain ⟨hm9, hX9⟩ := hm1.out.app (x := r5) (by omega) hown1 hg1 hv1); (have HM9 := Lib.hid hm9); (have HX9 := Lib.hid hX9); (obtain ⟨a9, c9, hs9⟩ := hm9.own.slice); (obtain ⟨n9, hn9⟩ : ∃ n9, n9 = (s.words ++ [r5]).length := ⟨_, rfl⟩); (rw [← hn9] at hs9); (have HN9 := Lib.hid hn9); (clear hn9); (subst hs9); (clear hm9 hX9 hown1 hg1 hv1))
      refine hK.out _ _ ?_ (fun hNew => ?_)
      · trivial
      clear hK K hHeld
      have hHeld := hNew
      clear hNew
      clear hm1
      try simp only [Act.put, List.setIfInBounds_toArray, List.set_cons_zero, List.set_cons_succ]
      refine held_take (i := 7) (v := ?_) rfl (by kernel_rfl) (by kernel_rfl) (by kernel_rfl) (fun _ _ _ h => h) rfl (fun w hSw => ?_) hHeld ?_
      rotate_left
      · (try dsimp only at hSw); go_simp; (try with_reducible rfl)
      try simp only [Act.put, List.setIfInBounds_toArray, List.set_cons_zero, List.set_cons_succ]
      refine held_call (i := 8) rfl (by kernel_rfl) rfl (fun K hK => ?_)
      ((have cX := cellOf HX9.out); (have fX := freeOf HX9.out); go_simp; (clear cX fX))
      refine hK.out _ _ ?_ (fun hNew => ?_)
      · trivial
      clear hK K hHeld
      have hHeld := hNew
      clear hNew
      clear HX9
      try simp only [Act.put, List.setIfInBounds_toArray, List.set_cons_zero, List.set_cons_succ]
      refine wpAnyH_done (by kernel_rfl) ?_ _
      have hmF := HM9
      have cDF := cellOf hmF.out.boxD
      have cCF := cellOf hmF.out.boxC
      have fCF := freeOf hmF.out.boxC
      have hneF : ¬ W.heap.size + 1 = D := by have := hmF.out.low; omega
      go_wp2_with fail
      refine spoil_end hmF.out ?_ ?_
      · first | rfl | exact HN9.out | exact (List.length_set ..).symm | exact HL0.out.symm
      · rfl
      
    · (go_simp; go_at_call 12; (with_reducible refine (next_lt tb 2 (by decide) (by decide) _ hm1.out.tape).mono ?_); (rintro e5 w5 ⟨r5, rfl, hr5, ht5, hx5, -⟩); go_simp)
      refine hK.out _ _ ?_ (fun hNew => ?_)
      · trivial
      clear hK K hHeld
      have hHeld := hNew
      clear hNew
      replace hm1 := Lib.hid (hm1.out.step hx5 ht5)
      clear hx5 ht5
      have hwr := wrapU r5 (by omega)
      try simp only [Act.put, List.setIfInBounds_toArray, List.set_cons_zero, List.set_cons_succ]
      refine held_take (i := 4) (v := ?_) rfl (by kernel_rfl) (by kernel_rfl) (by kernel_rfl) (fun _ _ _ h => h) rfl (fun w hSw => ?_) hHeld ?_
      rotate_left
      · (try dsimp only at hSw); go_simp; (try with_reducible rfl)
      try simp only [Act.put, List.setIfInBounds_toArray, List.set_cons_zero, List.set_cons_succ]
      refine held_next2 (i := 1) (j := 5) (by kernel_rfl) (NextOp.mk rfl rfl (fun K hK => ?_)) (NextOp.mk rfl rfl (fun K hK => ?_))
      · ((have cX := cellOf hm1.out.boxD); go_simp; (clear cX))
        refine hK.out _ _ ?_ (fun hNew => ?_)
        · trivial
        clear hK K hHeld
        have hHeld := hNew
        clear hNew
        skip
        try simp only [Act.put, List.setIfInBounds_toArray, List.set_cons_zero, List.set_cons_succ]
        refine held_call (i := 5) rfl (by kernel_rfl) rfl (fun K hK => ?_)
        go_simp
        refine hK.out _ _ ?_ (fun hNew => ?_)
        · trivial
        clear hK K hHeld
        have hHeld := hNew
        clear hNew
        skip
        try simp only [Act.put, List.setIfInBounds_toArray, List.set_cons_zero, List.set_cons_succ]
        refine held_call (i := 6) rfl (by kernel_rfl) rfl (fun K hK => ?_)
        ((refine wp_app _ (.tmp 33) (.tmp 37) 38 rfl (W.heap.size + 2) 86 i0 _ 1 8 Try.underlying38 hi0 hz0 hz1 hz2 rfl (by omega) (.slice av s.words.length cv) s.words.length (u64s s.words) rfl (row_keep hm1.out.own.own ((Ext.refl No _).alloc _) (fun _ _ x => x)) No (some ⟨w5.heap.size, 0, none⟩) 1 1 [.int .u64 (r5 : Int)] rfl (Row.block (alloc_top rfl) rfl no_no (by omega)) (by simp [Value.oneCell']) (by omega) (by omega) (by have := hm1.out.low; have := lt_of_block hm1.out.boxD; simp; omega) ?_); (intro v1 w9 hown1 hg1 hv1); (obtain ⟨hm9, hX9⟩ := hm1.out.app (x := r5) (by omega) hown1 hg1 hv1); (have HM9 := Lib.hid hm9); (have HX9 := Lib.hid hX9); (obtain ⟨a9, c9, hs9⟩ := hm9.own.slice); (obtain ⟨n9, hn9⟩ : ∃ n9, n9 = (s.words ++ [r5]).length := ⟨_, rfl⟩); (rw [← hn9] at hs9); (have HN9 := Lib.hid hn9); (clear hn9); (subst hs9); (clear hm9 hX9 hown1 hg1 hv1))
        refine hK.out _ _ ?_ (fun hNew => ?_)
        · trivial
        clear hK K hHeld
        have hHeld := hNew
        clear hNew
        clear hm1
        try simp only [Act.put, List.setIfInBounds_toArray, List.set_cons_zero, List.set_cons_succ]
        refine held_take (i := 7) (v := ?_) rfl (by kernel_rfl) (by kernel_rfl) (by kernel_rfl) (fun _ _ _ h => h) rfl (fun w hSw => ?_) hHeld ?_
        rotate_left
        · (try dsimp only at hSw); go_simp; (try with_reducible rfl)
        try simp only [Act.put, List.setIfInBounds_toArray, List.set_cons_zero, List.set_cons_succ]
        refine held_call (i := 8) rfl (by kernel_rfl) rfl (fun K hK => ?_)
        ((have cX := cellOf HX9.out); (have fX := freeOf HX9.out); go_simp; (clear cX fX))
        refine hK.out _ _ ?_ (fun hNew => ?_)
        · trivial
        clear hK K hHeld
        have hHeld := hNew
        clear hNew
        clear HX9
        try simp only [Act.put, List.setIfInBounds_toArray, List.set_cons_zero, List.set_cons_succ]
        refine wpAnyH_done (by kernel_rfl) ?_ _
        have hmF := HM9
        have cDF := cellOf hmF.out.boxD
        have cCF := cellOf hmF.out.boxC
        have fCF := freeOf hmF.out.boxC
        have hneF : ¬ W.heap.size + 1 = D := by have := hmF.out.low; omega
        go_wp2_with fail
        refine spoil_end hmF.out ?_ ?_
        · first | rfl | exact HN9.out | exact (List.length_set ..).symm | exact HL0.out.symm
        · rfl
        
      · go_simp
        refine hK.out _ _ ?_ (fun hNew => ?_)
        · trivial
        clear hK K hHeld
        have hHeld := hNew
        clear hNew
        skip
        try simp only [Act.put, List.setIfInBounds_toArray, List.set_cons_zero, List.set_cons_succ]
        refine held_call (i := 1) rfl (by kernel_rfl) rfl (fun K hK => ?_)
        ((have cX := cellOf hm1.out.boxD); (have cX2 := cellOf (alloc_under (o := (.cells #[.int .u64 (r5 : Int)] 86)) hm1.out.boxD)); go_simp; (clear cX cX2))
        refine hK.out _ _ ?_ (fun hNew => ?_)
        · trivial
        clear hK K hHeld
        have hHeld := hNew
        clear hNew
        skip
        try simp only [Act.put, List.setIfInBounds_toArray, List.set_cons_zero, List.set_cons_succ]
        refine held_call (i := 6) rfl (by kernel_rfl) rfl (fun K hK => ?_)
        ((refine wp_app _ (.tmp 33) (.tmp 37) 38 rfl (W.heap.size + 2) 86 i0 _ 1 8 Try.underlying38 hi0 hz0 hz1 hz2 rfl (by omega) (.slice av s.words.length cv) s.words.length (u64s s.words) rfl (row_keep hm1.out.own.own ((Ext.refl No _).alloc _) (fun _ _ x => x)) No (some ⟨w5.heap.size, 0, none⟩) 1 1 [.int .u64 (r5 : Int)] rfl (Row.block (alloc_top rfl) rfl no_no (by omega)) (by simp [Value.oneCell']) (by omega) (by omega) (by have := hm1.out.low; have := lt_of_block hm1.out.boxD; simp; omega) ?_); (intro v1 w9 hown1 hg1 hv1); (obtain ⟨hm9, hX9⟩ := hm1.out.app (x := r5) (by omega) hown1 hg1 hv1); (have HM9 := Lib.hid hm9); (have HX9 := Lib.hid hX9); (obtain ⟨a9, c9, hs9⟩ := hm9.own.slice); (obtain ⟨n9, hn9⟩ : ∃ n9, n9 = (s.words ++ [r5]).length := ⟨_, rfl⟩); (rw [← hn9] at hs9); (have HN9 := Lib.hid hn9); (clear hn9); (subst hs9); (clear hm9 hX9 hown1 hg1 hv1))
        refine hK.out _ _ ?_ (fun hNew => ?_)
        · trivial
        clear hK K hHeld
        have hHeld := hNew
        clear hNew
        clear hm1
        try simp only [Act.put, List.setIfInBounds_toArray, List.set_cons_zero, List.set_cons_succ]
        refine held_take (i := 7) (v := ?_) rfl (by kernel_rfl) (by kernel_rfl) (by kernel_rfl) (fun _ _ _ h => h) rfl (fun w hSw => ?_) hHeld ?_
        rotate_left
        · (try dsimp only at hSw); go_simp; (try with_reducible rfl)
        try simp only [Act.put, List.setIfInBounds_toArray, List.set_cons_zero, List.set_cons_succ]
        refine held_call (i := 8) rfl (by kernel_rfl) rfl (fun K hK => ?_)
        ((have cX := cellOf HX9.out); (have fX := freeOf HX9.out); go_simp; (clear cX fX))
        refine hK.out _ _ ?_ (fun hNew => ?_)
        · trivial
        clear hK K hHeld
        have hHeld := hNew
        clear hNew
        clear HX9
        try simp only [Act.put, List.setIfInBounds_toArray, List.set_cons_zero, List.set_cons_succ]
        refine wpAnyH_done (by kernel_rfl) ?_ _
        have hmF := HM9
        have cDF := cellOf hmF.out.boxD
        have cCF := cellOf hmF.out.boxC
        have fCF := freeOf hmF.out.boxC
        have hneF : ¬ W.heap.size + 1 = D := by have := hmF.out.low; omega
        go_wp2_with fail
        refine spoil_end hmF.out ?_ ?_
        · first | rfl | exact HN9.out | exact (List.length_set ..).symm | exact HL0.out.symm
        · rfl
        
  · have cD := cellOf hm1.out.boxD
    by_cases hl0 : s.words.length = 0
    · have HL0 := Lib.hid hl0
      clear cD
      rw [hl0] at hm1 ⊢
      clear hl0
      have hmF := hm1
      have cDF := cellOf hmF.out.boxD
      have cCF := cellOf hmF.out.boxC
      have fCF := freeOf hmF.out.boxC
      have hneF : ¬ W.heap.size + 1 = D := by have := hmF.out.low; omega
      go_wp2_with fail
      refine spoil_end hmF.out ?_ ?_
      · first | rfl | exact HN9.out | exact (List.length_set ..).symm | exact HL0.out.symm
      · rfl
    · have hz : (0 : Int) < (s.words.length : Int) := by omega
      have hlw := hlen
      obtain ⟨g, cg, hsl, hg1, hg2⟩ := hm1.out.own.shape hl0
      simp only [Value.slice.injEq] at hsl
      obtain ⟨rfl, _, rfl⟩ := hsl
      go_wp2_with fail
      clear cD
      have hlm : IntKind.i64.wrap ((s.words.length : Int) - 1) = ((s.words.length - 1 : Nat) : Int) := by rw [IntWalk.i64_in _ (by omega)]; omega
      have hlp : 0 ≤ ((s.words.length - 1 : Nat) : Int) := by omega
      have hlq : ((s.words.length - 1 : Nat) : Int) < (s.words.length : Int) := by omega
      have hlq2 : s.words.length - 1 < s.words.length := by omega
      obtain ⟨x, hx⟩ : ∃ x, x = s.words[s.words.length - 1] := ⟨_, rfl⟩
      have hx64 : x < 2 ^ 64 := by rw [hx]; exact hm1.out.own.lt _ (List.getElem_mem hlq2)
      have HXE := Lib.hid hx
      clear hx
      have hgD : g ≠ D := hm1.out.ne g rfl
      have hDg : D ≠ g := fun e => hgD e.symm
      have l0 : w1.cell? ⟨D, 1, none⟩ = some (.slice (some ⟨g, 0, none⟩) s.words.length cv) := cellOf hm1.out.boxD 1
      refine wp_region_held_drew (S := (fun w' => w'.cell? ⟨D, 1, none⟩ = some (.slice (some ⟨g, 0, none⟩) s.words.length cv))) (by kernel_rfl) ?_ (fun hHeld => ?_)
      · (exact cellOf hm1.out.boxD 1)
      replace hm1 := Lib.hid (hm1.out.stepNo (Ext.refl No w1).drew)
      generalize w1.drew = v0 at *
      refine held_take (i := 0) (v := ?_) rfl (by kernel_rfl) (by kernel_rfl) (by kernel_rfl) (fun _ _ _ h => h) rfl (fun w hSw => ?_) hHeld ?_
      rotate_left
      · (try dsimp only at hSw); go_simp; (try with_reducible rfl)
      try simp only [Act.put, List.setIfInBounds_toArray, List.set_cons_zero, List.set_cons_succ]
      refine held_take (i := 1) (v := ?_) rfl (by kernel_rfl) (by kernel_rfl) (by kernel_rfl) (fun _ _ _ h => h) rfl (fun w hSw => ?_) hHeld ?_
      rotate_left
      · (try dsimp only at hSw); go_simp; (try with_reducible rfl)
      try simp only [Act.put, List.setIfInBounds_toArray, List.set_cons_zero, List.set_cons_succ]
      refine held_take (i := 2) (v := ?_) rfl (by kernel_rfl) (by kernel_rfl) (by kernel_rfl) (fun _ _ _ h => h) rfl (fun w hSw => ?_) hHeld ?_
      rotate_left
      · (try dsimp only at hSw); go_simp; (try with_reducible rfl)
      try simp only [Act.put, List.setIfInBounds_toArray, List.set_cons_zero, List.set_cons_succ]
      refine held_take (i := 3) (v := ?_) rfl (by kernel_rfl) (by kernel_rfl) (by kernel_rfl) (fun _ _ _ h => h) rfl (fun w hSw => ?_) hHeld ?_
      rotate_left
      · (try dsimp only at hSw); go_simp; (try with_reducible rfl)
      try simp only [Act.put, List.setIfInBounds_toArray, List.set_cons_zero, List.set_cons_succ]
      refine held_take (i := 4) (v := ?_) rfl (by kernel_rfl) (by kernel_rfl) (by kernel_rfl) (fun _ _ _ h => h) rfl (fun w hSw => ?_) hHeld ?_
      rotate_left
      · (try dsimp only at hSw); go_simp; (try with_reducible rfl)
      try simp only [Act.put, List.setIfInBounds_toArray, List.set_cons_zero, List.set_cons_succ]
      refine held_take (i := 5) (v := ?_) rfl (by kernel_rfl) (by kernel_rfl) (by kernel_rfl) (fun _ _ _ h => h) rfl (fun w hSw => ?_) hHeld ?_
      rotate_left
      · (try dsimp only at hSw); go_simp; (try with_reducible rfl)
      try simp only [Act.put, List.setIfInBounds_toArray, List.set_cons_zero, List.set_cons_succ]
      refine held_take (i := 6) (v := ?_) rfl (by kernel_rfl) (by kernel_rfl) (by kernel_rfl) (fun _ _ _ h => h) rfl (fun w hSw => ?_) hHeld ?_
      rotate_left
      · (try dsimp only at hSw); go_simp; (try with_reducible rfl)
      try simp only [Act.put, List.setIfInBounds_toArray, List.set_cons_zero, List.set_cons_succ]
      refine held_take (i := 8) (v := ?_) rfl (by kernel_rfl) (by kernel_rfl) (by kernel_rfl) (fun _ _ _ h => h) rfl (fun w hSw => ?_) hHeld ?_
      rotate_left
      · (try dsimp only at hSw); go_simp; (try with_reducible rfl)
      try simp only [Act.put, List.setIfInBounds_toArray, List.set_cons_zero, List.set_cons_succ]
      refine held_next2 (i := 7) (j := 9) (by kernel_rfl) (NextOp.mk rfl rfl (fun K hK => ?_)) (NextOp.mk rfl rfl (fun K hK => ?_))
      · ((have cX := hm1.out.own.at (i := s.words.length - 1) (by omega)); (rw [← HXE.out] at cX); go_simp; (clear cX))
        refine hK.out _ _ ?_ (fun hNew => ?_)
        · (exact cellOf hm1.out.boxD 1)
        clear hK K hHeld
        have hHeld := hNew
        clear hNew
        skip
        try simp only [Act.put, List.setIfInBounds_toArray, List.set_cons_zero, List.set_cons_succ]
        refine held_call (i := 9) rfl (by kernel_rfl) rfl (fun K hK => ?_)
        (go_simp; go_at_call 12; (with_reducible refine (next_lt tb 64 (by decide) (by decide) _ hm1.out.tape).mono ?_); (rintro e9 w9 ⟨r9, rfl, hr9, ht9, hx9, -⟩); go_simp)
        refine hK.out _ _ ?_ (fun hNew => ?_)
        · ((try dsimp only); exact cellOf (hm1.out.step hx9 ht9).boxD 1)
        clear hK K hHeld
        have hHeld := hNew
        clear hNew
        replace hm1 := Lib.hid (hm1.out.step hx9 ht9)
        clear hx9 ht9
        have hwr := wrapU r9 (by omega)
        have h64 : r9 < 64 := by omega
        have hor := bits_or x (p2 r9) hx64 (p2_lt h64)
        have hsh := shl_p2 h64
        try simp only [Act.put, List.setIfInBounds_toArray, List.set_cons_zero, List.set_cons_succ]
        refine held_take (i := 10) (v := ?_) rfl (by kernel_rfl) (by kernel_rfl) (by kernel_rfl) (fun _ _ _ h => h) rfl (fun w hSw => ?_) hHeld ?_
        rotate_left
        · (try dsimp only at hSw); go_simp; (try with_reducible rfl)
        try simp only [Act.put, List.setIfInBounds_toArray, List.set_cons_zero, List.set_cons_succ]
        refine held_take (i := 11) (v := ?_) rfl (by kernel_rfl) (by kernel_rfl) (by kernel_rfl) (fun _ _ _ h => h) rfl (fun w hSw => ?_) hHeld ?_
        rotate_left
        · (try dsimp only at hSw); go_simp; (try with_reducible rfl)
        try simp only [Act.put, List.setIfInBounds_toArray, List.set_cons_zero, List.set_cons_succ]
        refine held_take (i := 12) (v := ?_) rfl (by kernel_rfl) (by kernel_rfl) (by kernel_rfl) (fun _ _ _ h => h) rfl (fun w hSw => ?_) hHeld ?_
        rotate_left
        · (try dsimp only at hSw); go_simp; (try with_reducible rfl)
        try simp only [Act.put, List.setIfInBounds_toArray, List.set_cons_zero, List.set_cons_succ]
        refine held_take (i := 13) (v := ?_) rfl (by kernel_rfl) (by kernel_rfl) (by kernel_rfl) (fun _ _ _ h => h) rfl (fun w hSw => ?_) hHeld ?_
        rotate_left
        · (try dsimp only at hSw); go_simp; (try with_reducible rfl)
        try simp only [Act.put, List.setIfInBounds_toArray, List.set_cons_zero, List.set_cons_succ]
        refine held_call (i := 14) rfl (by kernel_rfl) rfl (fun K hK => ?_)
        ((have cX := hm1.out.own.at (i := s.words.length - 1) (by omega)); (rw [← HXE.out] at cX); (have fX := hm1.out.own.free (s.words.length - 1)); go_simp; (clear cX fX))
        refine hK.out _ _ ?_ (fun hNew => ?_)
        · ((try dsimp only); exact keepS hDg (cellOf hm1.out.boxD 1))
        clear hK K hHeld
        have hHeld := hNew
        clear hNew
        skip
        try simp only [Act.put, List.setIfInBounds_toArray, List.set_cons_zero, List.set_cons_succ]
        refine wpAnyH_done (by kernel_rfl) ?_ _
        have hmF := Lib.hid (hm1.out.setL (i := s.words.length - 1) (n := x ||| p2 r9) (Nat.or_lt_two_pow hx64 (p2_lt h64)))
        have cDF := cellOf hmF.out.boxD
        have cCF := cellOf hmF.out.boxC
        have fCF := freeOf hmF.out.boxC
        have hneF : ¬ W.heap.size + 1 = D := by have := hmF.out.low; omega
        go_wp2_with fail
        refine spoil_end hmF.out ?_ ?_
        · first | rfl | exact HN9.out | exact (List.length_set ..).symm | exact HL0.out.symm
        · rfl
        
      · (go_simp; go_at_call 12; (with_reducible refine (next_lt tb 64 (by decide) (by decide) _ hm1.out.tape).mono ?_); (rintro e9 w9 ⟨r9, rfl, hr9, ht9, hx9, -⟩); go_simp)
        refine hK.out _ _ ?_ (fun hNew => ?_)
        · ((try dsimp only); exact cellOf (hm1.out.step hx9 ht9).boxD 1)
        clear hK K hHeld
        have hHeld := hNew
        clear hNew
        replace hm1 := Lib.hid (hm1.out.step hx9 ht9)
        clear hx9 ht9
        have hwr := wrapU r9 (by omega)
        have h64 : r9 < 64 := by omega
        have hor := bits_or x (p2 r9) hx64 (p2_lt h64)
        have hsh := shl_p2 h64
        try simp only [Act.put, List.setIfInBounds_toArray, List.set_cons_zero, List.set_cons_succ]
        refine held_take (i := 10) (v := ?_) rfl (by kernel_rfl) (by kernel_rfl) (by kernel_rfl) (fun _ _ _ h => h) rfl (fun w hSw => ?_) hHeld ?_
        rotate_left
        · (try dsimp only at hSw); go_simp; (try with_reducible rfl)
        try simp only [Act.put, List.setIfInBounds_toArray, List.set_cons_zero, List.set_cons_succ]
        refine held_take (i := 11) (v := ?_) rfl (by kernel_rfl) (by kernel_rfl) (by kernel_rfl) (fun _ _ _ h => h) rfl (fun w hSw => ?_) hHeld ?_
        rotate_left
        · (try dsimp only at hSw); go_simp; (try with_reducible rfl)
        try simp only [Act.put, List.setIfInBounds_toArray, List.set_cons_zero, List.set_cons_succ]
        refine held_call (i := 7) rfl (by kernel_rfl) rfl (fun K hK => ?_)
        ((have cX := hm1.out.own.at (i := s.words.length - 1) (by omega)); (rw [← HXE.out] at cX); go_simp; (clear cX))
        refine hK.out _ _ ?_ (fun hNew => ?_)
        · (exact cellOf hm1.out.boxD 1)
        clear hK K hHeld
        have hHeld := hNew
        clear hNew
        skip
        try simp only [Act.put, List.setIfInBounds_toArray, List.set_cons_zero, List.set_cons_succ]
        refine held_take (i := 12) (v := ?_) rfl (by kernel_rfl) (by kernel_rfl) (by kernel_rfl) (fun _ _ _ h => h) rfl (fun w hSw => ?_) hHeld ?_
        rotate_left
        · (try dsimp only at hSw); go_simp; (try with_reducible rfl)
        try simp only [Act.put, List.setIfInBounds_toArray, List.set_cons_zero, List.set_cons_succ]
        refine held_take (i := 13) (v := ?_) rfl (by kernel_rfl) (by kernel_rfl) (by kernel_rfl) (fun _ _ _ h => h) rfl (fun w hSw => ?_) hHeld ?_
        rotate_left
        · (try dsimp only at hSw); go_simp; (try with_reducible rfl)
        try simp only [Act.put, List.setIfInBounds_toArray, List.set_cons_zero, List.set_cons_succ]
        refine held_call (i := 14) rfl (by kernel_rfl) rfl (fun K hK => ?_)
        ((have cX := hm1.out.own.at (i := s.words.length - 1) (by omega)); (rw [← HXE.out] at cX); (have fX := hm1.out.own.free (s.words.length - 1)); go_simp; (clear cX fX))
        refine hK.out _ _ ?_ (fun hNew => ?_)
        · ((try dsimp only); exact keepS hDg (cellOf hm1.out.boxD 1))
        clear hK K hHeld
        have hHeld := hNew
        clear hNew
        skip
        try simp only [Act.put, List.setIfInBounds_toArray, List.set_cons_zero, List.set_cons_succ]
        refine wpAnyH_done (by kernel_rfl) ?_ _
        have hmF := Lib.hid (hm1.out.setL (i := s.words.length - 1) (n := x ||| p2 r9) (Nat.or_lt_two_pow hx64 (p2_lt h64)))
        have cDF := cellOf hmF.out.boxD
        have cCF := cellOf hmF.out.boxC
        have fCF := freeOf hmF.out.boxC
        have hneF : ¬ W.heap.size + 1 = D := by have := hmF.out.low; omega
        go_wp2_with fail
        refine spoil_end hmF.out ?_ ?_
        · first | rfl | exact HN9.out | exact (List.length_set ..).symm | exact HL0.out.symm
        · rfl
        
  · go_wp2_with fail
    have hx5 : Ext No w1 (w1.alloc (.cells #[.int .i64 (-1), .int .i64 257, .int .i64 320, .int .i64 0] 3)) := (Ext.refl _ _).alloc _
    have hm5 := Lib.hid (hm1.out.stepNo hx5)
    have hb5 := alloc_top (w := w1) (o := .cells #[.int .i64 (-1), .int .i64 257, .int .i64 320, .int .i64 0] 3) rfl
    have hlt5 := hm5.out.lt
    have hsz5 : W.heap.size ≤ w1.heap.size := hm1.out.ext.size
    clear hx5 hm1
    refine (next_lt tb 4 (by decide) (by decide) _ hm5.out.tape).mono ?_
    rintro e6 w6 ⟨r6, rfl, hr6, ht6, hx6, -⟩
    have hm6 := Lib.hid (hm5.out.step hx6 ht6)
    have hb6 := hx6.blk hb5 (by unfold At; omega)
    have cB := cellOf hb6
    have cD := cellOf hm6.out.boxD
    have fD := freeOf hm6.out.boxD
    clear hm5 hx6 ht6 hb5
    have hr4 : r6 = 0 ∨ r6 = 1 ∨ r6 = 2 ∨ r6 = 3 := by omega
    clear hr6
    rcases hr4 with rfl | rfl | rfl | rfl
    all_goals
      have hmA := Lib.hid (fun z' => hm6.out.putW z')
      have cDF := fun z' j => cellOf (hmA.out z').boxD j
      have cCF := fun z' j => cellOf (hmA.out z').boxC j
      have fCF := fun z' j => freeOf (hmA.out z').boxC j
      have hneF : ¬ W.heap.size + 1 = D := by have := (hmA.out 0).low; omega
      go_wp2_with fail
      refine spoil_end (hmA.out _) ?_ ?_
      · first | rfl | exact HN9.out | exact (List.length_set ..).symm | exact HL0.out.symm
      · rfl
end Go.Proofs.Ytfejidihocoboaa

/- The tape: Values. -/
import Derived.Test.YtjeohlooaiociaaGreatDoorFS
import Derived.Test.YtjeohlooaiociaaGreatDoorTrC
import Derived.Test.YtjeohlooaiociaaGreatDoorSp1
import Derived.Test.YtjeohlooaiociaaGreatDoorF4
import Derived.Test.YtjeohlooaiociaaGreatDoorHeldL
set_option linter.unusedVariables false
set_option linter.unusedSimpArgs false
namespace Go.Proofs.YtjeohlooaiociaaGreatDoor
open Go Go.RowKit
structure VaM (tb : Nat) (W wr : World) (bx : Array Value) (v : Value) (L : LS) : Prop where
 ext : Ext (At tb) W wr
 tape : TapeOk wr tb
 box : wr.heap[W.heap.size]? = some (.cells bx 27 (0, 0))
 own : LOwn kS (fun b => b ≤ W.heap.size) wr (W.heap.size + 1) v L
 lt : tb < W.heap.size
section
variable {tb : Nat} {W wr w' : World} {bx : Array Value} {v v' : Value} {L : LS} {p : RawSet × Value}
theorem VaM.step (h : VaM tb W wr bx v L) (hx : Ext (At tb) wr w') (ht : TapeOk w' tb) : VaM tb W w' bx v L := by
 have h1 := h.lt
 exact ⟨h.ext.trans hx, ht, hx.blk h.box (by unfold At; omega), h.own.ext2 hx (fun i hi e => by have := (h.own.lt i hi).1; unfold At at e; omega) (fun i _ e => by unfold At at e; omega), h1⟩
theorem VaM.stepNo (h : VaM tb W wr bx v L) (hx : Ext No wr w') : VaM tb W w' bx v L := h.step hx.ofNo (h.tape.ext hx)
theorem VaM.app {o : Obj} (h : VaM tb W wr bx v L) (hp : kS.ok (fun b => b ≤ W.heap.size ∨ v.ownBlock = some b) wr p) (hown : w'.ownsRow (W.heap.size + 1) 50 2 v' (L.length + 1) (L.flatMap kS.cells ++ kS.cells p)) (hg : (wr.alloc o).grownBy w' v.ownBlock) (hv : v'.ownBlock = v.ownBlock ∨ v'.ownBlock = some (wr.alloc o).heap.size) :
  VaM tb W w' bx v' (L ++ [p]) := by
 have hE : Ext (fun k => v.ownBlock = some k) wr w' := ((Ext.refl _ wr).alloc o).grown hg (fun k hk _ => hk)
 have h1 := h.lt
 have hl : ∀ i, v.ownBlock = some i → W.heap.size + 1 ≤ i := fun i hi => (h.own.lt i hi).1
 refine ⟨h.ext.trans2 hE (fun i hi e => by have := hl i e; omega), h.tape.extAbove hE (fun i hi e => by have := hl i e; omega), hE.blk h.box (fun e => by have := hl _ e; omega), h.own.app (E := fun k => v.ownBlock = some k) hp hown hE (fun _ e => e) ?_, h1⟩
 rcases hv with hv | hv
 ·exact .inl hv
 ·refine .inr (fun k hk => ?_)
  rw [hv] at hk
  simp only [Option.some.injEq] at hk
  have : (wr.alloc o).heap.size = wr.heap.size + 1 := by simp
  omega
theorem VaM.put {g cap i : Nat} (h : VaM tb W wr bx (.slice (some ⟨g, 0, none⟩) L.length cap) L) (hi : i < L.length) (hp : WordsAt (fun b => b ≤ W.heap.size ∨ b = g) wr p.2 p.1.words) :
  VaM tb W ((wr.setCell ⟨g, i * 2, none⟩ (.int .i64 p.1.width)).setCell ⟨g, i * 2 + 1, none⟩ p.2) bx (.slice (some ⟨g, 0, none⟩) L.length cap) (L.set i p) := by
 have h1 := h.lt
 have h2 := (h.own.lt g rfl).1
 have hso : SetsOwn (fun b => b ≤ W.heap.size) wr (W.heap.size + 1) (.slice (some ⟨g, 0, none⟩) L.length cap) L := ⟨h.own.own, h.own.ok⟩
 have hput := hso.put hi hp
 have hE : Ext (At g) wr ((wr.setCell ⟨g, i * 2, none⟩ (.int .i64 p.1.width)).setCell ⟨g, i * 2 + 1, none⟩ p.2) := ((Ext.refl (At g) wr).setAt _ _).setAt _ _
 exact ⟨h.ext.trans2 hE (fun i hi e => by unfold At at e; omega), h.tape.extAbove hE (fun i hi e => by unfold At at e; omega), hE.blk h.box (by unfold At; omega), ⟨hput.own, hput.ok⟩, h1⟩
theorem VaM.own2 (h : VaM tb W wr bx v L) : SetsOwn (fun b => b ≤ W.heap.size) wr (W.heap.size + 1) v L := ⟨h.own.own, h.own.ok⟩
theorem VaM.hM (h : VaM tb W wr bx v L) : ∀ b, (b ≤ W.heap.size ∨ v.ownBlock = some b) → b < wr.heap.size := fun b hb => by
 rcases hb with hb | hb
 ·have := lt_of_block h.box; omega
 ·exact (h.own.lt b hb).2
end
def GenVals (tb n : Nat) (W : World) (e : Ending) (w' : World) : Prop :=
 ∃ (v : Value) (L : LS), e = .returned v ∧ L.length ≤ n ∧ Hid (LOwn kS (Lo W.heap.size) w' W.heap.size v L) ∧ TapeOk w' tb ∧ Ext (At tb) W w'
theorem vals_end {tb n : Nat} {W wr : World} {bx : Array Value} {v : Value} {L : LS} (h : VaM tb W wr bx v L) (hl : L.length ≤ n) : GenVals tb n W (.returned v) wr :=
 ⟨v, L, rfl, hl, Lib.hid (LOwn.mono ⟨row_base h.own.own (Nat.le_succ _), h.own.ok⟩ (fun i _ e => by unfold Lo at e; omega)), h.tape, h.ext⟩
set_option maxRecDepth 100000 in
set_option maxHeartbeats 8000000 in
theorem values_any (tb u n : Nat) (vd vt : Value) (ab : Option Addr) (cb : Nat) (W : World) (hu : u ≤ 255) (hn : 1 ≤ n) (hn2 : n ≤ 256) (ht : TapeOk W tb) :
  Calls Tryz.prog 21 #[.pointer (some ⟨tb, 0, none⟩), .agg #[.int .i64 (u : Int), vd, vt, .slice ab n cb]] W (GenVals tb (n + 1) W) := by
 obtain ⟨i0, hi0, hz0, hz1, hz2⟩ := info_parts infoS
 have hlt0 := ht.lt
 have hw9 : u ≤ 256 := by omega
 have hw1 : u + 1 ≤ 256 := by omega
 go_enter Tryz.func21, Tryz.ntmps21
 go_wp2_with fail
 have hx0 : Ext No W (W.alloc (.cells #[.int .i64 (u : Int), vd, vt, .slice ab n cb] 27)) := (Ext.refl _ _).alloc _
 have HM0 := Lib.hid (show VaM tb W _ #[.int .i64 (u : Int), vd, vt, .slice ab n cb] (.slice none 0 0) [] from ⟨hx0.ofNo, ht.ext hx0, alloc_top rfl, LOwn.nil _ _ _ _, hlt0⟩)
 clear hx0 ht
 generalize (W.alloc (.cells #[.int .i64 (u : Int), vd, vt, .slice ab n cb] 27)) = V1 at *
 go_loopw [5, 6] (fun s5 s6 wr => ∃ (k : Nat) (v : Value) (L : LS) (ms : List Nat), s5 = v ∧ s6 = .int .i64 k ∧ k ≤ n ∧ Hid (VaM tb W wr #[.int .i64 (u : Int), vd, vt, .slice ab n cb] v L) ∧ Hid (L.map Prod.fst = ms.map (setN u)) ∧ Hid (ms.length = k)) (fun _ s6 _ => n - (intOf s6).toNat)
 case atStart => exact ⟨0, _, [], [], rfl, rfl, Nat.zero_le _, HM0, Lib.hid rfl, Lib.hid rfl⟩
 case round =>
  clear HM0
  obtain ⟨k, v, L, ms, rfl, rfl, hk, hm, hLm, hml⟩ := hrel
  rename World => wr
  have hLl : Hid (L.length = k) := Lib.hid (by have := congrArg List.length hLm.out; have := hml.out; simp only [List.length_map] at *; omega)
  obtain ⟨a0, c0, e0⟩ := hm.out.own.slice
  rw [hLl.out] at e0
  subst e0
  have hWs := lt_of_block hm.out.box
  by_cases hlt : k < n
  ·have hlz : (k : Int) < (n : Int) := by omega
   have HKK : Hid (Value.int .i64 ((k : Int) + 1) = .int .i64 ((k + 1 : Nat) : Int)) := Lib.hid (by rw [show ((k + 1 : Nat) : Int) = (k : Int) + 1 from by omega])
   have cX := cellOf hm.out.box
   go_wp2_with fail
   clear cX
   refine (gset_any tb u _ hw9 hm.out.tape).mono ?_
   rintro e9 w9 ⟨m9, g9, hm9', rfl, hb9, hlo9, ht9, hx9⟩
   have hm3 := hm.out.step hx9 ht9
   have hs3 := hb9.out.set (M := fun b => b ≤ W.heap.size ∨ (Value.slice a0 k c0).ownBlock = some b) hw9 hm9' (fun e => by have := hm.out.hM _ e; omega)
   have hS3 := Lib.hid hs3
   have HM3 := Lib.hid hm3
   have hown := hm3.own.own
   rw [hLl.out] at hown
   have hsz : W.heap.size + 1 ≤ w9.heap.size := lt_of_block hm3.box
   clear hm hm3 hs3 hb9 hx9 ht9 hlo9
   go_wp2_with (at_builtin; (refine wpList_app _ rfl (.tmp 14) (.tmp 19) 25 rfl (W.heap.size + 1) 50 i0 _ 2 32 Tryz.underlying25 hi0 hz0 hz1 hz2 rfl (by omega) (.slice a0 k c0) k (L.flatMap kS.cells) rfl (row_keep hown ((Ext.refl No _).alloc _) (fun _ _ x => x)) No (some ⟨w9.heap.size, 0, none⟩) 1 1 [.int .i64 (u : Int), .slice (some ⟨g9, 0, none⟩) (nw u) (nw u)] rfl (Row.block (alloc_top rfl) rfl no_no (by omega)) (by simp [Value.oneCell']) (by omega) (by omega) (by simp; omega) ?_); (intro v1 w1 hown1 hg1 hv1); (have hm9 := Lib.hid (HM3.out.app (p := (setN u m9, .slice (some ⟨g9, 0, none⟩) (nw u) (nw u))) hS3.out.words (by rw [hLl.out]; exact hown1) hg1 hv1)); (clear hown1 hg1 hv1 hown))
   go_roundw
   case rel => exact ⟨k + 1, _, L ++ [(setN u m9, .slice (some ⟨g9, 0, none⟩) (nw u) (nw u))], ms ++ [m9], rfl, HKK.out, by omega, hm9, Lib.hid (by rw [List.map_append, List.map_append, hLm.out]; rfl), Lib.hid (by rw [List.length_append, hml.out]; rfl)⟩
   case measure => simp [intOf]; omega
  ·have hkn : k = n := by omega
   subst hkn
   have hge : ¬ (k : Int) < (k : Int) := by omega
   have cX := cellOf hm.out.box
   go_wp2_with fail
   clear cX
   refine (next_lt tb 8 (by decide) (by decide) _ hm.out.tape).mono ?_
   rintro e8 w8 ⟨r8, rfl, hr8, ht8, hx8, -⟩
   have hm8 := Lib.hid (hm.out.step hx8 ht8)
   have hW8 := lt_of_block hm8.out.box
   clear hm ht8 hx8
   have hm := hm8
   clear hm8
   by_cases h1 : r8 = 1
   ·have h1z : ((r8 : Int) == 1) = true := by simp [h1]
    have cX := cellOf hm.out.box
    go_wp2_with fail
    clear cX
    refine (gset_any tb u _ hw9 hm.out.tape).mono ?_
    rintro e9 w9 ⟨m9, g9, hm9', rfl, hb9, hlo9, ht9, hx9⟩
    have hm3 := hm.out.step hx9 ht9
    have hs3 := hb9.out.set (M := fun b => b ≤ W.heap.size ∨ (Value.slice a0 k c0).ownBlock = some b) hw9 hm9' (fun e => by have := hm.out.hM _ e; omega)
    have hS3 := Lib.hid hs3
    have HM3 := Lib.hid hm3
    have hown := hm3.own.own
    rw [hLl.out] at hown
    have hsz : W.heap.size + 1 ≤ w9.heap.size := lt_of_block hm3.box
    clear hm hm3 hs3 hb9 hx9 ht9 hlo9
    go_wp2_with (at_builtin; (refine wpList_app _ rfl (.tmp 25) (.tmp 30) 25 rfl (W.heap.size + 1) 50 i0 _ 2 32 Tryz.underlying25 hi0 hz0 hz1 hz2 rfl (by omega) (.slice a0 k c0) k (L.flatMap kS.cells) rfl (row_keep hown ((Ext.refl No _).alloc _) (fun _ _ x => x)) No (some ⟨w9.heap.size, 0, none⟩) 1 1 [.int .i64 (u : Int), .slice (some ⟨g9, 0, none⟩) (nw u) (nw u)] rfl (Row.block (alloc_top rfl) rfl no_no (by omega)) (by simp [Value.oneCell']) (by omega) (by omega) (by simp; omega) ?_); (intro v1 w1 hown1 hg1 hv1); (have hm9 := Lib.hid (HM3.out.app (p := (setN u m9, .slice (some ⟨g9, 0, none⟩) (nw u) (nw u))) hS3.out.words (by rw [hLl.out]; exact hown1) hg1 hv1)); (clear hown1 hg1 hv1 hown))
    go_ret
    exact vals_end hm9.out (by rw [List.length_append, hLl.out]; exact Nat.le_refl _)
   ·have h1z : ((r8 : Int) == 1) = false := by simp; omega
    by_cases h2 : r8 = 2
    ·have h2z : ((r8 : Int) == 2) = true := by simp [h2]
     go_upto_region 10 with (fail)
     obtain ⟨g, rfl, -, -, -, -, -⟩ := hm.out.own2.ownAt (k := 0) (by rw [hLl.out]; exact hn)
     have hgl := (hm.out.own.lt g rfl).2
     have hgk : 0 < k := hn
     refine wp_region_heldL [11] (fun w' => Ext (At tb) w8 w' ∧ TapeOk w' tb) (by kernel_rfl) ?_ (fun hHeld => ?_)
     ·exact ⟨(Ext.refl _ _).drew, hm.out.tape.ext (Ext.refl _ _).drew⟩
     have HE := Lib.hid (show Ext (At tb) w8 w8.drew ∧ TapeOk w8.drew tb from ⟨(Ext.refl _ _).drew, hm.out.tape.ext (Ext.refl _ _).drew⟩)
     generalize w8.drew = v0 at *
     refine heldL_free (i := 0) (v := ?_) rfl (by kernel_rfl) (by kernel_rfl) (by kernel_rfl) (by kernel_rfl) (by kernel_rfl) (fun _ _ _ h => h) rfl (fun w => ?_) hHeld ?_
     rotate_left
     ·go_simp; (try with_reducible rfl)
     try simp only [Act.put, nzA, nzB, nzC]
     refine heldL_free (i := 1) (v := ?_) rfl (by kernel_rfl) (by kernel_rfl) (by kernel_rfl) (by kernel_rfl) (by kernel_rfl) (fun _ _ _ h => h) rfl (fun w => ?_) hHeld ?_
     rotate_left
     ·go_simp; (try with_reducible rfl)
     try simp only [Act.put, nzA, nzB, nzC]
     refine heldL_free (i := 2) (v := ?_) rfl (by kernel_rfl) (by kernel_rfl) (by kernel_rfl) (by kernel_rfl) (by kernel_rfl) (fun _ _ _ h => h) rfl (fun w => ?_) hHeld ?_
     rotate_left
     ·go_simp; (try with_reducible rfl)
     try simp only [Act.put, nzA, nzB, nzC]
     refine heldL_free (i := 3) (v := ?_) rfl (by kernel_rfl) (by kernel_rfl) (by kernel_rfl) (by kernel_rfl) (by kernel_rfl) (fun _ _ _ h => h) rfl (fun w => ?_) hHeld ?_
     rotate_left
     ·go_simp; (try with_reducible rfl)
     try simp only [Act.put, nzA, nzB, nzC]
     refine heldL_free (i := 5) (v := ?_) rfl (by kernel_rfl) (by kernel_rfl) (by kernel_rfl) (by kernel_rfl) (by kernel_rfl) (fun _ _ _ h => h) rfl (fun w => ?_) hHeld ?_
     rotate_left
     ·go_simp; (try with_reducible rfl)
     try simp only [Act.put, nzA, nzB, nzC]
     refine heldL_free (i := 6) (v := ?_) rfl (by kernel_rfl) (by kernel_rfl) (by kernel_rfl) (by kernel_rfl) (by kernel_rfl) (fun _ _ _ h => h) rfl (fun w => ?_) hHeld ?_
     rotate_left
     ·go_simp; (try with_reducible rfl)
     try simp only [Act.put, nzA, nzB, nzC]
     refine heldL_take (i := 7) (v := ?_) rfl (by kernel_rfl) (by kernel_rfl) (by kernel_rfl) (by kernel_rfl) (by kernel_rfl) (fun _ _ _ h => h) rfl (fun w hSw => ?_) hHeld ?_
     rotate_left
     ·(have x0 := cellOf (hSw.1.blk hm.out.box (fun e => by unfold At at e; omega))); go_simp; (try with_reducible rfl)
     try simp only [Act.put, nzA, nzB, nzC]
     refine heldL_free (i := 8) (v := ?_) rfl (by kernel_rfl) (by kernel_rfl) (by kernel_rfl) (by kernel_rfl) (by kernel_rfl) (fun _ _ _ h => h) rfl (fun w => ?_) hHeld ?_
     rotate_left
     ·go_simp; (try with_reducible rfl)
     try simp only [Act.put, nzA, nzB, nzC]
     refine heldL_next1 (i := 4) (by kernel_rfl) (NextL.mk rfl rfl (fun K hK => ?_))
     (go_simp; (go_at_call 23); (refine (next_lt tb (k : Int) (by omega) (by omega) _ HE.out.2).mono ?_); (rintro e3 v1 ⟨r3, rfl, hr3, htA, hyA, -⟩); go_simp)
     refine hK.out _ _ ?_ ?_
     ·intro _; exact ⟨HE.out.1.trans hyA, htA⟩
     clear hK K hHeld
     intro hHeld
     replace HE := Lib.hid (show Ext (At tb) w8 v1 ∧ TapeOk v1 tb from ⟨HE.out.1.trans hyA, htA⟩)
     clear hyA htA
     have hrz : (r3 : Int) < (k : Int) := by omega
     try simp only [Act.put, nzA, nzB, nzC]
     refine heldL_next1 (i := 9) (by kernel_rfl) (NextL.mk rfl rfl (fun K hK => ?_))
     (go_simp; (go_at_call 33); (rw [show IntKind.i64.wrap ((u : Int) + 1) = ((u + 1 : Nat) : Int) from by rw [IntWalk.i64_in _ (by omega)]; omega]); (refine (gset_any tb (u + 1) _ hw1 HE.out.2).mono ?_); (rintro e4 v2 ⟨m4, g4, hm4, rfl, hb4, hlo4, htA, hyA⟩); (have hsz4 := HE.out.1.size); go_simp)
     refine hK.out _ _ ?_ ?_
     ·intro _; exact ⟨HE.out.1.trans hyA, htA⟩
     clear hK K hHeld
     intro hHeld
     have hs4 := Lib.hid (hb4.out.set (M := fun b => b ≤ W.heap.size ∨ b = g) hw1 hm4 (fun e => by rcases e with e | e <;> omega))
     replace HE := Lib.hid (show Ext (At tb) w8 v2 ∧ TapeOk v2 tb from ⟨HE.out.1.trans hyA, htA⟩)
     clear hyA htA hb4
     try simp only [Act.put, nzA, nzB, nzC]
     refine heldL_free (i := 10) (v := ?_) rfl (by kernel_rfl) (by kernel_rfl) (by kernel_rfl) (by kernel_rfl) (by kernel_rfl) (fun _ _ _ h => h) rfl (fun w => ?_) hHeld ?_
     rotate_left
     ·go_simp; (try with_reducible rfl)
     try simp only [Act.put, nzA, nzB, nzC]
     refine heldL_next1 (i := 11) (by kernel_rfl) (NextL.mk rfl rfl (fun K hK => ?_))
     ((have hm5 := hm.out.step HE.out.1 HE.out.2); (obtain ⟨g', hg', -, -, -, hcell, hfro⟩ := hm5.own2.ownAt (k := r3) (by rw [hLl.out]; omega)); (simp only [Option.some.injEq, Addr.mk.injEq, and_true] at hg'); (subst hg'); (obtain ⟨q0, q1⟩ := hcell r3 (by rw [hLl.out]; omega)); (have hput := Lib.hid (VaM.put (p := (setN (u + 1) m4, .slice (some ⟨g4, 0, none⟩) (nw (u + 1)) (nw (u + 1)))) (i := r3) (by have h := hm5; rw [← hLl.out] at h; exact h) (by rw [hLl.out]; omega) hs4.out.words)); (rw [hLl.out] at hput); go_simp; (clear q0 q1 hcell hfro))
     refine hK.out _ _ ?_ ?_
     ·exact fun h => absurd h (by decide)
     clear hK K hHeld
     intro hHeld
     try simp only [Act.put, nzA, nzB, nzC]
     refine heldL_done (by kernel_rfl) ?_ _
     go_wp2_with fail
     go_ret
     exact vals_end hput.out (by rw [List.length_set, hLl.out]; exact Nat.le_succ _)
    ·have h2z : ((r8 : Int) == 2) = false := by simp; omega
     by_cases h3 : r8 = 3
     ·have h3z : ((r8 : Int) == 3) = true := by simp [h3]
      obtain ⟨g, rfl, -, -, -, hcell, hfro⟩ := hm.out.own2.ownAt (k := 0) (by rw [hLl.out]; exact hn)
      obtain ⟨q0, q1⟩ := hcell 0 (by rw [hLl.out]; exact hn)
      simp only [Nat.zero_mul, Nat.zero_add] at q0 q1
      have hml0 : 0 < L.length := by rw [hLl.out]; exact hn
      have hw0 : WordsAt No w8 (L[0]'hml0).2 (L[0]'hml0).1.words := (hm.out.own2.ok _ (List.getElem_mem hml0)).mono (fun _ _ x => x.elim)
      have hl0 : (L[0]'hml0).1.words.length ≤ 1048576 := by
       have h5 : (L[0]'hml0).1 ∈ ms.map (setN u) := by rw [← hLm.out]; exact List.mem_map.2 ⟨_, List.getElem_mem hml0, rfl⟩
       obtain ⟨m5, _, h6⟩ := List.mem_map.1 h5
       rw [← h6, show (setN u m5).words.length = nw u from wordsN_len ..]
       unfold nw; omega
      have hW0 := Lib.hid (And.intro hw0 hl0)
      have hFR := Lib.hid hfro
      obtain ⟨a5, c5, e5⟩ := hw0.slice
      have HE5 := Lib.hid e5
      rw [e5] at q1
      clear hcell hw0 hl0 hfro e5
      go_wp2_with fail
      clear q0 q1
      refine (spoilS_any tb (L[0]'hml0).1 _ _ (by have h := hW0.out.1; rw [HE5.out] at h; exact h) hW0.out.2 hm.out.tape).mono ?_
      rintro e9 w9 ⟨z9, a9, c9, l9, rfl, hw9', ht9, hx9⟩
      have hm9 := Lib.hid (hm.out.step hx9 ht9)
      have hgl := (hm.out.own.lt g rfl).2
      obtain ⟨g', hg', -, -, -, hcell, hfro⟩ := hm9.out.own2.ownAt (k := 0) (by rw [hLl.out]; exact hn)
      simp only [Option.some.injEq, Addr.mk.injEq, and_true] at hg'
      subst hg'
      obtain ⟨q0, q1⟩ := hcell 0 (by rw [hLl.out]; exact hn)
      simp only [Nat.zero_mul, Nat.zero_add] at q0 q1
      have hput := Lib.hid (VaM.put (p := (⟨z9, l9⟩, .slice a9 l9.length c9)) (i := 0) (by have h := hm9.out; rw [← hLl.out] at h; exact h) hml0 (hw9'.out.mono (fun i hi e => by unfold Lo; rcases e with e | e <;> omega)))
      simp only [Nat.zero_mul, Nat.zero_add] at hput
      rw [hLl.out] at hput
      clear hcell hm hx9 ht9 hm9
      go_wp2_with fail
      clear q0 q1 hfro
      go_ret
      exact vals_end hput.out (by rw [List.length_set, hLl.out]; exact Nat.le_succ _)
     ·have h3z : ((r8 : Int) == 3) = false := by simp; omega
      go_wp2_with fail
      go_ret
      exact vals_end hm.out (by rw [hLl.out]; exact Nat.le_succ _)
end Go.Proofs.YtjeohlooaiociaaGreatDoor

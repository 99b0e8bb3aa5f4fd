/- Configurations. -/
import Derived.Test.YtfjcofjfacdppaaTape
namespace Go.Proofs.Ytfjcofjfacdppaa
open Go Go.RowKit

def is7 (v : Value) : Prop := ∃ a b c d e f g : Int, v = .agg #[.int .i64 a, .int .i64 b, .int .i64 c, .int .i64 d, .int .i64 e, .int .i64 f, .int .i64 g]
def CfgPost (tb : Nat) (w : World) (e : Ending) (w' : World) : Prop := ∃ v, e = .returned v ∧ is7 v ∧ TapeOk w' tb ∧ Ext (At tb) w w'
theorem eight (j : Nat) (h : (j : Int) < 8) : ∃ z : Int, (#[Value.int .i64 (-1), .int .i64 0, .int .i64 9, .int .i64 17, .int .i64 513, .int .i64 257, .int .i64 1025, .int .i64 65] : Array Value)[j]? = some (.int .i64 z) := by
  match j, h with
  | 0, _ => exact ⟨_, rfl⟩
  | 1, _ => exact ⟨_, rfl⟩
  | 2, _ => exact ⟨_, rfl⟩
  | 3, _ => exact ⟨_, rfl⟩
  | 4, _ => exact ⟨_, rfl⟩
  | 5, _ => exact ⟨_, rfl⟩
  | 6, _ => exact ⟨_, rfl⟩
  | 7, _ => exact ⟨_, rfl⟩
  | j + 8, h => omega
theorem ret_ex {P : Program} {fn : Func} {R : Ending → World → Prop} {a : Act} {w : World}
    (hd : a.defers = []) (h : ∃ v, (results fn a.tmps).run P w = .ok v w ∧ R (.returned v) w) : bodyPost P fn R .ret a w := by
  obtain ⟨v, hr, hR⟩ := h; exact ⟨hd, v, hr, hR⟩

set_option maxHeartbeats 800000 in
set_option maxRecDepth 100000 in
theorem config_any (tb : Nat) (w : World) (ht : TapeOk w tb) :
    Calls Try.prog 29 #[.pointer (some ⟨tb, 0, none⟩)] w (CfgPost tb w) := by
  have htb := ht.lt
  go_enter Try.func29, Try.ntmps29
  go_wp2_with fail
  refine (next_lt tb _ (by omega) (by omega) _ (ht.ext ((Ext.refl _ _).alloc _))).mono ?_
  rintro e w1 ⟨r1, rfl, hs1, ht1, hx, hz1⟩
  clear ht
  go_wp2_with (go_at_call 36; refine (next_lt tb _ (by omega) (by omega) _ (by assumption)).mono ?_; rintro e w2 ⟨r2, rfl, hs2, ht2, hx2, hz2⟩; replace hx := hx.trans hx2; clear hx2)
  have hsz : w2.heap.size = w.heap.size + 1 := by simp_all
  have hR : w2.heap[w.heap.size]? = some (.cells #[.int .i64 0, .int .i64 0, .int .i64 0, .int .i64 0, .int .i64 0, .int .i64 0, .int .i64 0] 34 (0, 0)) :=
    hx.blk (alloc_top rfl) (by unfold At; omega)
  refine (next_lt tb _ (by omega) (by omega) _ (ht2.ext (((Ext.refl _ _).alloc _).alloc _))).mono ?_
  rintro e w3 ⟨r3, rfl, hs3, ht3, hx3, hz3⟩
  have hx3' := hx.trans (((Ext.refl _ _).alloc _).alloc _ |>.trans hx3)
  have hR3 := hx3.blk (alloc_under (alloc_under hR)) (by unfold At; omega)
  have hC3 := hx3.blk (n := w.heap.size + 1) (alloc_under (alloc_top hsz.symm)) (by unfold At; omega)
  have hS3 := hx3.blk (n := w.heap.size + 1 + 1) (alloc_top (by rw [World.size_alloc, hsz])) (by unfold At; omega)
  obtain ⟨z, hz⟩ := eight r3 hs3
  have hcz := (cellOf hS3 r3).trans hz
  have hz3' : w3.heap.size = w.heap.size + 1 + 1 + 1 := by rw [hz3]; simp [hsz]
  clear hz hS3 hx3 hz3 hR hx
  go_wp2_with fail
  refine (next_lt tb _ (by omega) (by omega) _ ht3).mono ?_
  rintro e w4 ⟨r4, rfl, hs4, ht4, hx4, hz4⟩
  have hR4 := hx4.blk hR3 (by unfold At; omega)
  have hC4 := hx4.blk hC3 (by unfold At; omega)
  have cR := cellOf hR4
  have cC := cellOf hC4
  have fR := freeOf hR4
  have fC := freeOf hC4
  have HX := Lib.hid ((hx3'.trans hx4))
  clear hR3 hC3 hx4 hx3' hcz ht1 ht2
  go_wp2
  all_goals
    refine ret_ex rfl ?_
    simp [results, Try.results29, go_sem, cR]
    have hxa : Ext (From w.heap.size) w4 w4 := Ext.refl _ _
    have hxb : Ext (At tb) w w4 := ((Ext.refl _ w).alloc _).trans HX.out
    refine ⟨_, rfl, ⟨_, _, _, _, _, _, _, rfl⟩, ht4.extAbove (M := From w.heap.size) ?_ (fun i hi => by unfold From; omega), ?_⟩
    all_goals repeat (first | (with_reducible exact hxa) | (with_reducible exact hxb) | ((with_reducible refine Ext.setCell ?_ ?_ _); rotate_left; (intro hlt; first | exact Nat.le_refl _ | exact Nat.le_succ _ | exact absurd hlt (Nat.lt_irrefl _) | exact absurd hlt (Nat.not_lt.2 (Nat.le_succ _)))))
end Go.Proofs.Ytfjcofjfacdppaa

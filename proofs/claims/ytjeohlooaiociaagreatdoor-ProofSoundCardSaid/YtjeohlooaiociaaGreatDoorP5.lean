/- Ranks in memory while they are made. -/
import Derived.Test.YtjeohlooaiociaaGreatDoorP3
set_option linter.unusedVariables false
set_option linter.unusedSimpArgs false
namespace Go.Proofs.YtjeohlooaiociaaGreatDoor
open Go Go.RowKit Tj
theorem updS5 {α : Type} {f : Nat → α} {n : Nat} {v : α} : upd f n v n = v := if_pos rfl
theorem updN5 {α : Type} {f : Nat → α} {n i : Nat} {v : α} (h : i ≠ n) : upd f n v i = f i := if_neg h
theorem infoInt5 : (Tryz.prog.info? 3).map (fun i => (i.zero, i.size, i.bytes)) = some (some (.int .i64 0), 1, 8) := by kernel_rfl
theorem infoRow5 : (Tryz.prog.info? 22).map (fun i => (i.zero, i.size, i.bytes)) = some (some (.slice none 0 0), 1, 24) := by kernel_rfl
def rowP (n : Nat) (f : Nat → Value) : Array Value := ((List.range n).map f).toArray
theorem zeroIP_eq (n : Nat) : madeCells (Value.cells (.int .i64 0)) (n * 1) = rowP n (fun _ => .int .i64 0) := by
 refine Array.ext (by simp [madeCells, rowP]) (fun i h1 h2 => ?_)
 simp [madeCells, rowP, Value.cells, Nat.mod_one]
theorem zeroR_eq (n : Nat) : madeCells (Value.cells (.slice none 0 0)) (n * 1) = rowP n (fun _ => .slice none 0 0) := by
 refine Array.ext (by simp [madeCells, rowP]) (fun i h1 h2 => ?_)
 simp [madeCells, rowP, Value.cells, Nat.mod_one]
theorem mk_intsP (n : Nat) (hn : n ≤ 1000) (w : World) : (Instr.makeSlice 22 (.int .i64 (n : Int)) (.int .i64 (n : Int))).run Tryz.prog w = .ok (.slice (some ⟨w.heap.size, 0, none⟩) n n) (w.alloc (.cells (rowP n (fun _ => .int .i64 0)) 3)) := by
 obtain ⟨i, hi, hz0, hz1, hz2⟩ := info_parts infoInt5
 have h := run_makeSlice (P := Tryz.prog) w 22 3 i _ Tryz.underlying22 hi hz0 .i64 .i64 n n (by omega) (Int.le_refl _) (by rw [hz1]; simp; omega) (by rw [hz2]; omega) (by omega)
 simp only [Int.toNat_natCast, hz1, zeroIP_eq] at h
 exact h
theorem mk_rows (n : Nat) (hn : n ≤ 1000) (w : World) : (Instr.makeSlice 23 (.int .i64 (n : Int)) (.int .i64 (n : Int))).run Tryz.prog w = .ok (.slice (some ⟨w.heap.size, 0, none⟩) n n) (w.alloc (.cells (rowP n (fun _ => .slice none 0 0)) 22)) := by
 obtain ⟨i, hi, hz0, hz1, hz2⟩ := info_parts infoRow5
 have h := run_makeSlice (P := Tryz.prog) w 23 22 i _ Tryz.underlying23 hi hz0 .i64 .i64 n n (by omega) (Int.le_refl _) (by rw [hz1]; simp; omega) (by rw [hz2]; omega) (by omega)
 simp only [Int.toNat_natCast, hz1, zeroR_eq] at h
 exact h
theorem BlkF.ints5 {M : Nat → Prop} {w : World} {b N : Nat} {g : Nat → Nat} (h : BlkF w b 3 N (fun i => .int .i64 (g i : Int))) (hN : N ≤ 1000) (hM : ∀ i, b ≤ i → ¬ M i) : Ints M w .i64 (.slice (some ⟨b, 0, none⟩) N N) (natsZ ((List.range N).map g)) := by
 have h1 : w.ownsRow b 3 1 (.slice (some ⟨b, 0, none⟩) N N) N ((natsZ ((List.range N).map g)).map (.int .i64)) :=
  ⟨by simp [natsZ], .inr ⟨b, N, _, rfl, Nat.le_refl _, h, Nat.le_refl _, by simp only [maxLen]; omega, by simp, by
   rw [List.take_of_length_le (by simp)]
   simp [natsZ, Function.comp_def]⟩⟩
 have h2 := Row.ofOwns (M := M) h1 hM
 unfold Ints
 rw [show (natsZ ((List.range N).map g)).length = N from by simp [natsZ]]
 exact h2
/-- the row gr of N rows, of which the first k are there: row n in block bo n, with c n numbers -/
structure RkM (base : Nat) (wr : World) (gr N k : Nat) (c bo : Nat → Nat) (f : Nat → Nat → Nat) : Prop where
 row : BlkF wr gr 22 N (fun n => if n < k then .slice (some ⟨bo n, 0, none⟩) (c n) (c n) else .slice none 0 0)
 blk : ∀ n, n < k → BlkF wr (bo n) 3 (c n) (fun i => .int .i64 (f n i : Int))
 inj : ∀ n m, n < k → m < k → bo n = bo m → n = m
 lo : ∀ n, n < k → base ≤ bo n ∧ bo n ≠ gr
 hg : base ≤ gr
section
variable {base gr N k : Nat} {wr w' : World} {c bo : Nat → Nat} {f : Nat → Nat → Nat}
theorem RkM.stepNo (h : RkM base wr gr N k c bo f) (hx : Ext No wr w') : RkM base w' gr N k c bo f :=
 ⟨h.row.ext hx no_no, fun n hn => (h.blk n hn).ext hx no_no, h.inj, h.lo, h.hg⟩
theorem RkM.lt (h : RkM base wr gr N k c bo f) : gr < wr.heap.size := lt_of_block h.row
theorem RkM.ltB (h : RkM base wr gr N k c bo f) {n : Nat} (hn : n < k) : bo n < wr.heap.size := lt_of_block (h.blk n hn)
/-- one row more: its block is there already -/
theorem RkM.add {q : Nat} (h : RkM base wr gr N k c bo f) (hq : BlkF wr q 3 (c k) (fun _ => .int .i64 0)) (hb : base ≤ q) (hne : q ≠ gr) (hnew : ∀ n, n < k → bo n ≠ q) (hf : ∀ i, f k i = 0) :
  RkM base (wr.setCell ⟨gr, k, none⟩ (.slice (some ⟨q, 0, none⟩) (c k) (c k))) gr N (k + 1) c (upd bo k q) f := by
 have hE : Ext (At gr) wr (wr.setCell ⟨gr, k, none⟩ (.slice (some ⟨q, 0, none⟩) (c k) (c k))) := (Ext.refl (At gr) wr).setAt _ _
 refine ⟨?_, fun n hn => ?_, fun n m hn hm e => ?_, fun n hn => ?_, h.hg⟩
 ·have h1 := h.row.set k (.slice (some ⟨q, 0, none⟩) (c k) (c k))
  unfold BlkF at h1 ⊢
  rw [h1]
  congr 3
  refine List.map_congr_left (fun n hn => ?_)
  by_cases e : n = k
  ·subst e; simp [updS5]
  ·rw [updN5 e, updN5 e]
   by_cases h2 : n < k
   ·rw [if_pos h2, if_pos (by omega)]
   ·rw [if_neg h2, if_neg (by omega)]
 ·by_cases e : n = k
  ·subst e
   rw [updS5]
   have h1 := hq.ext hE (fun e => hne e)
   unfold BlkF at h1 ⊢
   rw [h1]
   simp [hf]
  ·rw [updN5 e]
   exact (h.blk n (by omega)).ext hE (fun e2 => (h.lo n (by omega)).2 e2)
 ·by_cases e1 : n = k
  ·by_cases e2 : m = k
   ·omega
   ·subst e1
    rw [updS5, updN5 e2] at e
    exact absurd e.symm (hnew m (by omega))
  ·by_cases e2 : m = k
   ·subst e2
    rw [updS5, updN5 e1] at e
    exact absurd e (hnew n (by omega))
   ·rw [updN5 e1, updN5 e2] at e
    exact h.inj n m (by omega) (by omega) e
 ·by_cases e : n = k
  ·subst e; rw [updS5]; exact ⟨hb, hne⟩
  ·rw [updN5 e]; exact h.lo n (by omega)
/-- a rank is set -/
theorem RkM.put {n i v : Nat} (h : RkM base wr gr N k c bo f) (hn : n < k) :
  RkM base (wr.setCell ⟨bo n, i, none⟩ (.int .i64 (v : Int))) gr N k c bo (upd f n (upd (f n) i v)) := by
 have hE : Ext (At (bo n)) wr (wr.setCell ⟨bo n, i, none⟩ (.int .i64 (v : Int))) := (Ext.refl (At (bo n)) wr).setAt _ _
 refine ⟨h.row.ext hE (fun e => (h.lo n hn).2 e.symm), fun m hm => ?_, h.inj, h.lo, h.hg⟩
 by_cases e : m = n
 ·subst e
  rw [updS5]
  have h1 := (h.blk m hm).set i (.int .i64 (v : Int))
  unfold BlkF at h1 ⊢
  rw [h1]
  congr 3
  refine List.map_congr_left (fun j _ => ?_)
  unfold upd
  split <;> rfl
 ·rw [updN5 e]
  exact (h.blk m hm).ext hE (fun e2 => e (h.inj m n hm hn e2))
/-- as a list of lists -/
theorem RkM.list {M : Nat → Prop} (h : RkM base wr gr N N c bo f) (hN : N ≤ 1000) (hc : ∀ n, n < N → c n ≤ 1000) (hM : ∀ b, base ≤ b → ¬ M b) :
  ∃ R : LD, R.length = N ∧ LAt kD M wr (.slice (some ⟨gr, 0, none⟩) N N) R ∧ ∀ n, n < N → rkD R n = natsZ ((List.range (c n)).map (f n)) := by
 refine ⟨(List.range N).map fun n => (natsZ ((List.range (c n)).map (f n)), .slice (some ⟨bo n, 0, none⟩) (c n) (c n)), by simp, ⟨?_, fun p hp => ?_⟩, fun n hn => ?_⟩
 ·have h1 : wr.ownsRow base 22 1 (.slice (some ⟨gr, 0, none⟩) N N) N ((List.range N).map fun n => Value.slice (some ⟨bo n, 0, none⟩) (c n) (c n)) :=
   ⟨by simp, .inr ⟨gr, N, _, rfl, h.hg, h.row, Nat.le_refl _, by simp only [maxLen]; omega, by simp, by
    rw [List.take_of_length_le (by simp)]
    show (List.range N).map _ = _
    refine List.map_congr_left (fun n hn => ?_)
    rw [if_pos (List.mem_range.1 hn)]⟩⟩
  have h2 := Row.ofOwns (M := M) h1 hM
  have e : ((List.range N).map fun n => (natsZ ((List.range (c n)).map (f n)), Value.slice (some ⟨bo n, 0, none⟩) (c n) (c n))).flatMap kD.cells = (List.range N).map fun n => Value.slice (some ⟨bo n, 0, none⟩) (c n) (c n) := by
   rw [List.flatMap_map]
   show (List.range N).flatMap (fun n => [Value.slice (some ⟨bo n, 0, none⟩) (c n) (c n)]) = _
   rw [← List.map_eq_flatMap]
  rw [List.length_map, List.length_range, e]
  exact h2
 ·obtain ⟨n, hn, rfl⟩ := List.mem_map.1 hp
  have hn := List.mem_range.1 hn
  exact BlkF.ints5 (h.blk n hn) (hc n hn) (fun i hi => hM i (Nat.le_trans (h.lo n hn).1 hi))
 ·rw [rkD_get (by simpa using hn)]
  simp
end
end Go.Proofs.YtjeohlooaiociaaGreatDoor

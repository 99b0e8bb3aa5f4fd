
import Derived.Test.YtjeohlooaiociaaGreatDoorP4
set_option linter.unusedVariables false
set_option linter.unusedSimpArgs false
namespace Go.Proofs.YtjeohlooaiociaaGreatDoor
open Go Go.RowKit Tj
theorem updS5 {α : Type} {f : Nat → α} {n : Nat} {v : α} : upd f n v n = v := if_pos rfl
theorem updN5 {α : Type} {f : Nat → α} {n i : Nat} {v : α} (h : i ≠ n) : upd f n v i = f i := if_neg h
theorem infoInt5 : (Tryz.prog.info? 3).map (fun i => (i.zero, i.size, i.bytes)) = some (some (.int .i64 0), 1, 8) := by kernel_rfl
theorem infoRow5 : (Tryz.prog.info? 22).map (fun i => (i.zero, i.size, i.bytes)) = some (some (.slice none 0 0), 1, 24) := by kernel_rfl
def rowP (n : Nat) (f : Nat → Value) : Array Value := ((List.range n).map f).toArray
theorem zeroIP_eq (n : Nat) : madeCells (Value.cells (.int .i64 0)) (n * 1) = rowP n (fun _ => .int .i64 0) := by
 refine Array.ext (by simp [madeCells, rowP]) (fun i h1 h2 => ?_)
 simp [madeCells, rowP, Value.cells, Nat.mod_one]
theorem zeroR_eq (n : Nat) : madeCells (Value.cells (.slice none 0 0)) (n * 1) = rowP n (fun _ => .slice none 0 0) := by
 refine Array.ext (by simp [madeCells, rowP]) (fun i h1 h2 => ?_)
 simp [madeCells, rowP, Value.cells, Nat.mod_one]
theorem mk_intsP (n : Nat) (hn : n ≤ 1000) (w : World) : (Instr.makeSlice 22 (.int .i64 (n : Int)) (.int .i64 (n : Int))).run Tryz.prog w = .ok (.slice (some ⟨w.heap.size, 0, none⟩) n n) (w.alloc (.cells (rowP n (fun _ => .int .i64 0)) 3)) := by
 obtain ⟨i, hi, hz0, hz1, hz2⟩ := info_parts infoInt5
 have h := run_makeSlice (P := Tryz.prog) w 22 3 i _ Tryz.underlying22 hi hz0 .i64 .i64 n n (by omega) (Int.le_refl _) (by rw [hz1]; simp; omega) (by rw [hz2]; omega) (by omega)
 simp only [Int.toNat_natCast, hz1, zeroIP_eq] at h
 exact h
theorem mk_rows (n : Nat) (hn : n ≤ 1000) (w : World) : (Instr.makeSlice 23 (.int .i64 (n : Int)) (.int .i64 (n : Int))).run Tryz.prog w = .ok (.slice (some ⟨w.heap.size, 0, none⟩) n n) (w.alloc (.cells (rowP n (fun _ => .slice none 0 0)) 22)) := by
 obtain ⟨i, hi, hz0, hz1, hz2⟩ := info_parts infoRow5
 have h := run_makeSlice (P := Tryz.prog) w 23 22 i _ Tryz.underlying23 hi hz0 .i64 .i64 n n (by omega) (Int.le_refl _) (by rw [hz1]; simp; omega) (by rw [hz2]; omega) (by omega)
 simp only [Int.toNat_natCast, hz1, zeroR_eq] at h
 exact h
theorem BlkF.ints5 {M : Nat → Prop} {w : World} {b N : Nat} {g : Nat → Nat} (h : BlkF w b 3 N (fun i => .int .i64 (g i : Int))) (hN : N ≤ 1000) (hM : ∀ i, b ≤ i → ¬ M i) : Ints M w .i64 (.slice (some ⟨b, 0, none⟩) N N) (natsZ ((List.range N).map g)) := by
 have h1 : w.ownsRow b 3 1 (.slice (some ⟨b, 0, none⟩) N N) N ((natsZ ((List.range N).map g)).map (.int .i64)) :=
  ⟨by simp [natsZ], .inr ⟨b, N, _, rfl, Nat.le_refl _, h, Nat.le_refl _, by simp only [maxLen]; omega, by simp, by
   rw [List.take_of_length_le (by simp)]
   simp [natsZ, Function.comp_def]⟩⟩
 have h2 := Row.ofOwns (M := M) h1 hM
 unfold Ints
 rw [show (natsZ ((List.range N).map g)).length = N from by simp [natsZ]]
 exact h2
structure RkM (base : Nat) (wr : World) (gr N k : Nat) (c bo : Nat → Nat) (f : Nat → Nat → Nat) : Prop where
 row : BlkF wr gr 22 N (fun n => if n < k then .slice (some ⟨bo n, 0, none⟩) (c n) (c n) else .slice none 0 0)
 blk : ∀ n, n < k → BlkF wr (bo n) 3 (c n) (fun i => .int .i64 (f n i : Int))
 inj : ∀ n m, n < k → m < k → bo n = bo m → n = m
 lo : ∀ n, n < k → base ≤ bo n ∧ bo n ≠ gr
 hg : base ≤ gr
section
variable {base gr N k : Nat} {wr w' : World} {c bo : Nat → Nat} {f : Nat → Nat → Nat}
theorem RkM.stepNo (h : RkM base wr gr N k c bo f) (hx : Ext No wr w') : RkM base w' gr N k c bo f :=
 ⟨h.row.ext hx no_no, fun n hn => (h.blk n hn).ext hx no_no, h.inj, h.lo, h.hg⟩
theorem RkM.lt (h : RkM base wr gr N k c bo f) : gr < wr.heap.size := lt_of_block h.row
theorem RkM.ltB (h : RkM base wr gr N k c bo f) {n : Nat} (hn : n < k) : bo n < wr.heap.size := lt_of_block (h.blk n hn)
theorem RkM.add {q : Nat} (h : RkM base wr gr N k c bo f) (hq : BlkF wr q 3 (c k) (fun _ => .int .i64 0)) (hb : base ≤ q) (hne : q ≠ gr) (hnew : ∀ n, n < k → bo n ≠ q) (hf : ∀ i, f k i = 0) :
  RkM base (wr.setCell ⟨gr, k, none⟩ (.slice (some ⟨q, 0, none⟩) (c k) (c k))) gr N (k + 1) c (upd bo k q) f := by
 have hE : Ext (At gr) wr (wr.setCell ⟨gr, k, none⟩ (.slice (some ⟨q, 0, none⟩) (c k) (c k))) := (Ext.refl (At gr) wr).setAt _ _
 refine ⟨?_, fun n hn => ?_, fun n m hn hm e => ?_, fun n hn => ?_, h.hg⟩
 ·have h1 := h.row.set k (.slice (some ⟨q, 0, none⟩) (c k) (c k))
  unfold BlkF at h1 ⊢
  rw [h1]
  congr 3
  refine List.map_congr_left (fun n hn => ?_)
  by_cases e : n = k
  ·subst e; simp [updS5]
  rw [updN5 e, updN5 e]
  by_cases h2 : n < k
  ·rw [if_pos h2, if_pos (by omega)]
  rw [if_neg h2, if_neg (by omega)]
 ·by_cases e : n = k
  ·subst e
   rw [updS5]
   have h1 := hq.ext hE (fun e => hne e)
   unfold BlkF at h1 ⊢
   rw [h1]
   simp [hf]
  rw [updN5 e]
  exact (h.blk n (by omega)).ext hE (fun e2 => (h.lo n (by omega)).2 e2)
 ·by_cases e1 : n = k
  ·by_cases e2 : m = k
   ·omega
   subst e1
   rw [updS5, updN5 e2] at e
   exact absurd e.symm (hnew m (by omega))
  by_cases e2 : m = k
  ·subst e2
   rw [updS5, updN5 e1] at e
   exact absurd e (hnew n (by omega))
  rw [updN5 e1, updN5 e2] at e
  exact h.inj n m (by omega) (by omega) e
 by_cases e : n = k
 ·subst e; rw [updS5]; exact ⟨hb, hne⟩
 rw [updN5 e]; exact h.lo n (by omega)
theorem RkM.put {n i v : Nat} (h : RkM base wr gr N k c bo f) (hn : n < k) :
  RkM base (wr.setCell ⟨bo n, i, none⟩ (.int .i64 (v : Int))) gr N k c bo (upd f n (upd (f n) i v)) := by
 have hE : Ext (At (bo n)) wr (wr.setCell ⟨bo n, i, none⟩ (.int .i64 (v : Int))) := (Ext.refl (At (bo n)) wr).setAt _ _
 refine ⟨h.row.ext hE (fun e => (h.lo n hn).2 e.symm), fun m hm => ?_, h.inj, h.lo, h.hg⟩
 by_cases e : m = n
 ·subst e
  rw [updS5]
  have h1 := (h.blk m hm).set i (.int .i64 (v : Int))
  unfold BlkF at h1 ⊢
  rw [h1]
  congr 3
  refine List.map_congr_left (fun j _ => ?_)
  unfold upd
  split <;> rfl
 rw [updN5 e]
 exact (h.blk m hm).ext hE (fun e2 => e (h.inj m n hm hn e2))
theorem RkM.list {M : Nat → Prop} (h : RkM base wr gr N N c bo f) (hN : N ≤ 1000) (hc : ∀ n, n < N → c n ≤ 1000) (hM : ∀ b, base ≤ b → ¬ M b) :
  ∃ R : LD, R.length = N ∧ LAt kD M wr (.slice (some ⟨gr, 0, none⟩) N N) R ∧ ∀ n, n < N → rkD R n = natsZ ((List.range (c n)).map (f n)) := by
 refine ⟨(List.range N).map fun n => (natsZ ((List.range (c n)).map (f n)), .slice (some ⟨bo n, 0, none⟩) (c n) (c n)), by simp, ⟨?_, fun p hp => ?_⟩, fun n hn => ?_⟩
 ·have h1 : wr.ownsRow base 22 1 (.slice (some ⟨gr, 0, none⟩) N N) N ((List.range N).map fun n => Value.slice (some ⟨bo n, 0, none⟩) (c n) (c n)) :=
   ⟨by simp, .inr ⟨gr, N, _, rfl, h.hg, h.row, Nat.le_refl _, by simp only [maxLen]; omega, by simp, by
    rw [List.take_of_length_le (by simp)]
    show (List.range N).map _ = _
    refine List.map_congr_left (fun n hn => ?_)
    rw [if_pos (List.mem_range.1 hn)]⟩⟩
  have h2 := Row.ofOwns (M := M) h1 hM
  have e : ((List.range N).map fun n => (natsZ ((List.range (c n)).map (f n)), Value.slice (some ⟨bo n, 0, none⟩) (c n) (c n))).flatMap kD.cells = (List.range N).map fun n => Value.slice (some ⟨bo n, 0, none⟩) (c n) (c n) := by
   rw [List.flatMap_map]
   show (List.range N).flatMap (fun n => [Value.slice (some ⟨bo n, 0, none⟩) (c n) (c n)]) = _
   rw [← List.map_eq_flatMap]
  rw [List.length_map, List.length_range, e]
  exact h2
 ·obtain ⟨n, hn, rfl⟩ := List.mem_map.1 hp
  have hn := List.mem_range.1 hn
  exact BlkF.ints5 (h.blk n hn) (hc n hn) (fun i hi => hM i (Nat.le_trans (h.lo n hn).1 hi))
 rw [rkD_get (by simpa using hn)]
 simp
end
end Go.Proofs.YtjeohlooaiociaaGreatDoor

namespace Go.Proofs.YtjeohlooaiociaaGreatDoor
open Go Go.RowKit
def RkBad (r : Int) : Prop := r < 0 ∨ 1073741824 < r
theorem rk1_any (r : Int) (W : World) : Calls Tryz.prog 91 #[.int .i64 r] W (Tells (RkBad r) W) := by
 go_enter Tryz.func91, Tryz.ntmps91
 by_cases h1 : r < 0
 ·go_wp2_with fail
  go_ret
  exact ⟨true, rfl, ⟨fun _ => .inl h1, fun _ => rfl⟩, Ext.refl _ _⟩
 by_cases h2 : 1073741824 < r
 ·go_wp2_with fail
  go_ret
  exact ⟨_, rfl, ⟨fun _ => .inr h2, fun _ => by simp [h2]⟩, Ext.refl _ _⟩
 go_wp2_with fail
 go_ret
 exact ⟨_, rfl, ⟨fun h => (by revert h; simp; try omega), fun h => (by rcases h with h | h <;> omega)⟩, Ext.refl _ _⟩
set_option maxRecDepth 100000 in
set_option maxHeartbeats 2000000 in
theorem idxRk_any (l : List Int) (sl : Value) (W : World) (h : Ints No W .i64 sl l) :
  Calls Tryz.prog 120 #[sl, .func (.func 91) #[] #[]] W fun e w' => (∃ z : Int, e = .returned (.int .i64 z) ∧ (0 ≤ z ↔ ∃ (k : Nat) (hk : k < l.length), RkBad l[k])) ∧ Ext No W w' := by
 have H := Lib.hid h
 obtain ⟨a, cap, rfl⟩ := Row.slice h
 have hlen := h.2.1
 clear h
 go_enter Tryz.func120, Tryz.ntmps120
 go_wp2_with fail
 go_loopw [5, 8] (fun _ i wr => ∃ k : Nat, k ≤ l.length ∧ i = .int .i64 k ∧ Ext No W wr ∧ Hid (∀ j (hj : j < l.length), j < k → ¬ RkBad l[j])) (fun _ i _ => l.length - (intOf i).toNat)
 case atStart => exact ⟨0, Nat.zero_le _, rfl, Ext.refl _ _, Lib.hid (fun j _ hj => absurd hj (Nat.not_lt_zero _))⟩
 obtain ⟨k, hk, rfl, hx, hm⟩ := hrel
 by_cases hlt : k < l.length
 ·obtain ⟨b, off, cap', hsl, hb1, _, hcell⟩ := Ints.at H.out hlt
  simp only [Value.slice.injEq] at hsl
  obtain ⟨rfl, _, rfl⟩ := hsl
  have q0 := hx.keep (hcell k hlt)
  clear hcell
  obtain ⟨p, hp⟩ : ∃ p, p = l[k] := ⟨_, rfl⟩
  rw [← hp] at q0
  have HP := Lib.hid hp
  clear hp
  go_wp2_with fail
  go_at_call 91
  refine (rk1_any p _).mono ?_
  rintro e1 w1 ⟨bb, rfl, hbb, hx1⟩
  cases bb with
  | true =>
   have HBB := Lib.hid (tells_yes hbb)
   clear hbb
   go_wp2_with fail
   go_ret
   exact ⟨⟨k, rfl, ⟨fun _ => ⟨k, hlt, by have := HBB.out; rw [HP.out] at this; exact this⟩, fun _ => by omega⟩⟩, hx.transNo hx1⟩
  | false =>
   have HBB := Lib.hid (tells_no hbb)
   clear hbb
   go_wp2_with fail
   go_roundw
   case rel => exact ⟨k + 1, by omega, by go_num, hx.transNo hx1, Lib.hid (fun j hj hjk hbad => by
    by_cases e : j = k
    ·subst e
     rw [← HP.out] at hbad
     exact HBB.out hbad
    exact hm.out j hj (by omega) hbad)⟩
   case measure => simp [intOf]; omega
 go_wp2_with fail
 go_ret
 exact ⟨⟨-1, rfl, ⟨fun e => absurd e (by decide), fun ⟨j, hj, e⟩ => absurd e (hm.out j hj (by omega))⟩⟩, hx⟩
theorem ctnRk_any (l : List Int) (sl : Value) (W : World) (h : Ints No W .i64 sl l) :
  Calls Tryz.prog 90 #[sl, .func (.func 91) #[] #[]] W (Tells (∃ (k : Nat) (hk : k < l.length), RkBad l[k]) W) := by
 go_enter Tryz.func90, Tryz.ntmps90
 go_wp2_with fail
 refine (idxRk_any l _ _ h).mono ?_
 rintro e w1 ⟨⟨z, rfl, hz⟩, hx⟩
 have HZ := Lib.hid hz
 clear hz
 go_wp2_with fail
 go_ret
 exact ⟨_, rfl, ⟨fun e => HZ.out.1 (by simpa using e), fun e => by simpa using HZ.out.2 e⟩, hx⟩
theorem setN_inj2 {w w' m m' : Nat} (hm : m < 2 ^ w) (hm' : m' < 2 ^ w') (e : setN w m = setN w' m') : w = w' ∧ m = m' := by
 have e1 := congrArg RawSet.width e
 have e2 := congrArg RawSet.words e
 have e3 : (w : Int) = (w' : Int) := e1
 obtain rfl : w = w' := by omega
 exact ⟨rfl, wordsN_inj hm hm' e2⟩
def RankOk (s : RawSet) (l : List Int) : Prop := ∃ w m : Nat, w ≤ 256 ∧ m < 2 ^ w ∧ s = setN w m ∧ l.length = (membersN w m).length ∧ ∀ k (hk : k < l.length), ¬ RkBad l[k]
def RankedP (Lv : LS) (R : LD) : Prop := Lv.length = R.length ∧ ∀ n (h : n < Lv.length) (h2 : n < R.length), RankOk Lv[n].1 R[n].1
set_option maxRecDepth 100000 in
set_option maxHeartbeats 8000000 in
theorem ranked_any (vv vr : Value) (Lv : LS) (R : LD) (W : World) (hv : LAt kS No W vv Lv) (hr : LAt kD No W vr R) :
  Calls Tryz.prog 50 #[.agg #[vv, vr]] W (Tells (RankedP Lv R) W) := by
 have HV := Lib.hid hv
 have HR := Lib.hid hr
 obtain ⟨av, cv, rfl⟩ := hv.slice
 obtain ⟨ar, cr, rfl⟩ := hr.slice
 have hlv := hv.row.2.1
 clear hv hr
 go_enter Tryz.func50, Tryz.ntmps50
 go_upto_region 1 with (fail)
 have hx0 : Ext No W (W.alloc (.cells #[.slice av Lv.length cv, .slice ar R.length cr] 29)) := (Ext.refl _ _).alloc _
 have HB := Lib.hid (alloc_top (w := W) (o := (.cells #[.slice av Lv.length cv, .slice ar R.length cr] 29)) rfl)
 generalize (W.alloc (.cells #[.slice av Lv.length cv, .slice ar R.length cr] 29)) = V at *
 generalize W.heap.size = A at *
 have HX := Lib.hid hx0
 clear hx0
 have cB := cellOf HB.out
 by_cases hl : Lv.length = R.length
 ·have hlz : ((Lv.length : Int) != (R.length : Int)) = false := by simp; omega
  have HL := Lib.hid hl
  clear hl
  go_wp2_with fail
  clear cB
  go_loopw [3, 4, 15] (fun _ _ i wr => ∃ k : Nat, k ≤ Lv.length ∧ i = .int .i64 k ∧ Hid (Ext No V wr) ∧ Hid (∀ n (h : n < Lv.length) (h2 : n < R.length), n < k → RankOk Lv[n].1 R[n].1)) (fun _ _ i _ => Lv.length - (intOf i).toNat)
  case atStart => exact ⟨0, Nat.zero_le _, rfl, Lib.hid (Ext.refl _ _), Lib.hid (fun _ _ _ hj => absurd hj (Nat.not_lt_zero _))⟩
  obtain ⟨k, hk, rfl, hx, hall⟩ := hrel
  rename World => wr
  have HXR := Lib.hid (HX.out.transNo hx.out)
  by_cases hlt : k < Lv.length
  ·have hlz2 : (k : Int) < (Lv.length : Int) := by omega
   have hk2 : k < R.length := by rw [← HL.out]; exact hlt
   have hlz3 : (k : Int) < (R.length : Int) := by omega
   have HKK : Hid (Value.int .i64 ((k : Int) + 1) = .int .i64 ((k + 1 : Nat) : Int)) := Lib.hid (by rw [show ((k + 1 : Nat) : Int) = (k : Int) + 1 from by omega])
   have hV1 := HV.out.extNo HXR.out
   obtain ⟨b, off, cap', hsl, _, _, hcell⟩ := hV1.atS hlt
   simp only [Value.slice.injEq] at hsl
   obtain ⟨rfl, _, rfl⟩ := hsl
   obtain ⟨q0, q1⟩ := hcell k hlt
   have hok : WordsAt No wr Lv[k].2 Lv[k].1.words := hV1.ok _ (List.getElem_mem hlt)
   obtain ⟨s, hs⟩ : ∃ s, s = Lv[k].1 := ⟨_, rfl⟩
   obtain ⟨pv, hpv⟩ : ∃ pv, pv = Lv[k].2 := ⟨_, rfl⟩
   rw [← hs] at q0 hok
   rw [← hpv] at q1 hok
   obtain ⟨pa, pc, rfl⟩ := hok.slice
   have hR1 := HR.out.extNo HXR.out
   obtain ⟨br, or, kr, hre, _, _, hcr⟩ := hR1.atD hk2
   simp only [Value.slice.injEq] at hre
   obtain ⟨rfl, -, rfl⟩ := hre
   have gr := hcr k hk2
   have hri : Ints No wr .i64 R[k].2 R[k].1 := hR1.ok _ (List.getElem_mem hk2)
   obtain ⟨l, hlq⟩ : ∃ l, l = R[k].1 := ⟨_, rfl⟩
   rw [← hlq] at hri
   obtain ⟨ra, rc, hrv⟩ := Row.slice hri
   rw [hrv] at gr hri
   have HNX : Hid (RankOk s l → ∀ n (h : n < Lv.length) (h2 : n < R.length), n < k + 1 → RankOk Lv[n].1 R[n].1) := Lib.hid (fun hc n hn hn2 hnk => by
    by_cases e : n = k
    ·subst e; rw [← hs, ← hlq]; exact hc
    exact hall.out n hn hn2 (by omega))
   have HNO : Hid (¬ RankOk s l → ¬ RankedP Lv R) := Lib.hid (fun hc h => hc (by rw [hs, hlq]; exact h.2 k hlt hk2))
   have HGR := Lib.hid gr
   have HRI := Lib.hid hri
   have HOK := Lib.hid hok
   have HBr := Lib.hid (hx.out.blk HB.out no_no)
   have hws := hok.lt
   have HWS := Lib.hid hws
   have HLT := Lib.hid hlt
   clear hcell hcr hs hpv hlq hrv gr hri hok hws hV1 hR1
   go_upto_region 6 with (fail)
   have hxa : Ext No wr (wr.alloc (.cells #[.int .i64 s.width, .slice pa s.words.length pc] 50)) := (Ext.refl _ _).alloc _
   have HBV := Lib.hid (alloc_top (w := wr) (o := (.cells #[.int .i64 s.width, .slice pa s.words.length pc] 50)) rfl)
   generalize (wr.alloc (.cells #[.int .i64 s.width, .slice pa s.words.length pc] 50)) = w6 at *
   generalize wr.heap.size = D at *
   replace HGR := Lib.hid (hxa.keep HGR.out)
   replace HRI := Lib.hid (HRI.out.ext hxa (fun _ _ x => x.elim))
   replace HOK := Lib.hid (HOK.out.extNo hxa)
   replace HBr := Lib.hid (hxa.blk HBr.out no_no)
   have HX6 := Lib.hid (HXR.out.transNo hxa)
   have HY6 := Lib.hid (hx.out.transNo hxa)
   clear hxa q0 q1 HXR hx
   by_cases hvs : validB s = true
   ·obtain ⟨w, m, hw, hm, hse⟩ := (validB_iff HWS.out).1 hvs
    have HVS := Lib.hid hvs
    have HSE := Lib.hid hse
    have HSA := Lib.hid (show SetAt No w6 (.slice pa s.words.length pc) w m from ⟨by rw [show wordsN w m = s.words from by rw [hse]; rfl]; exact HOK.out, hw, hm⟩)
    obtain ⟨cn, hcn⟩ : ∃ cn, cn = (membersN w m).length := ⟨_, rfl⟩
    have HCN := Lib.hid (show cntN m (nw w) = cn from by rw [hcn]; exact count_members hm)
    have HCE := Lib.hid hcn
    have hsw : s.width = (w : Int) := by rw [hse]; rfl
    have HSW := Lib.hid hsw
    have HHW := Lib.hid (And.intro hw hm)
    clear hvs hse hcn hsw hw hm
    by_cases hcl : l.length = cn
    ·have hclz : ((l.length : Int) != (cn : Int)) = false := by simp; omega
     have HCL := Lib.hid hcl
     clear hcl
     refine wp_region_held_drew (S := (fun w' => Ext No w6 w')) (by kernel_rfl) ?_ (fun hHeld => ?_)
     ·exact (Ext.refl _ _).drew
     refine hTk 0 ?_ hHeld (fun w hSw => ?_) ?_
     rotate_left
     ·(have hEs : Ext No w6 _ := hSw); (have x0 := cellOf (hEs.blk HBV.out no_no)); go_simp; (try with_reducible rfl)
     simp only [Act.put, nzA, nzB, nzC]
     refine hHc 1 fun K hK => ?_
     ((have hEx : Ext No w6 _ := hHeld); go_simp; (go_at_call 73); (refine (valid_any _ s _ ⟨_, rfl, HOK.out.extNo hEx⟩).mono ?_); (rintro e7 w7 ⟨rfl, hyA⟩); (rw [HVS.out]); go_simp)
     refine hK.out _ _ ?_ ?_
     ·exact Ext.transNo (show Ext No w6 _ from hHeld) hyA
     clear hK K hHeld
     intro hHeld
     try simp only [Act.put, nzA, nzB, nzC]
     refine hHs [2, 3, 4, 5, 6, 7] ?_
     iterate 6
      refine hTn ?_ hHeld (fun w hSw => ?_) ?_
      rotate_left
      ·(have hEs : Ext No w6 _ := hSw); (have q0 := cellOf (hEs.blk HBr.out no_no)); go_simp; (try with_reducible rfl)
      simp only [Act.put, nzA, nzB, nzC]
     refine hHe ?_
     refine hHs [8, 9] ?_
     iterate 2
      refine hTn ?_ hHeld (fun w hSw => ?_) ?_
      rotate_left
      ·(have hEs : Ext No w6 _ := hSw); (have q0 := hEs.keep HGR.out); go_simp; (try with_reducible rfl)
      simp only [Act.put, nzA, nzB, nzC]
     refine hHe ?_
     refine hTk 10 ?_ hHeld (fun w hSw => ?_) ?_
     rotate_left
     ·(have hEs : Ext No w6 _ := hSw); (have x0 := cellOf (hEs.blk HBV.out no_no)); go_simp; (try with_reducible rfl)
     simp only [Act.put, nzA, nzB, nzC]
     refine hHc 11 fun K hK => ?_
     ((have hEx : Ext No w6 _ := hHeld); go_simp; (rw [HSW.out]); (go_at_call 35); (refine (count_any w m _ _ (HSA.out.extNo hEx)).mono ?_); (rintro e8 w8 ⟨rfl, hyA⟩); (rw [HCN.out]); go_simp)
     refine hK.out _ _ ?_ ?_
     ·exact Ext.transNo (show Ext No w6 _ from hHeld) hyA
     clear hK K hHeld
     intro hHeld
     try simp only [Act.put, nzA, nzB, nzC]
     refine hHs [12, 13, 14, 15, 16, 17, 18] ?_
     iterate 7
      refine hTn ?_ hHeld (fun w hSw => ?_) ?_
      rotate_left
      ·(have hEs : Ext No w6 _ := hSw); (have q0 := cellOf (hEs.blk HBr.out no_no)); go_simp; (try with_reducible rfl)
      simp only [Act.put, nzA, nzB, nzC]
     refine hHe ?_
     refine hTk 19 ?_ hHeld (fun w hSw => ?_) ?_
     rotate_left
     ·(have hEs : Ext No w6 _ := hSw); (have x0 := hEs.keep HGR.out); go_simp; (try with_reducible rfl)
     simp only [Act.put, nzA, nzB, nzC]
     refine hHc 20 fun K hK => ?_
     ((have hEx : Ext No w6 _ := hHeld); go_simp; (go_at_call 90); (refine (ctnRk_any l _ _ (HRI.out.ext hEx (fun _ _ x => x.elim))).mono ?_); (rintro e9 w9 ⟨bc, rfl, hbc, hyA⟩); go_simp)
     refine hK.out _ _ ?_ ?_
     ·exact Ext.transNo (show Ext No w6 _ from hHeld) hyA
     clear hK K hHeld
     intro hHeld
     try simp only [Act.put, nzA, nzB, nzC]
     refine hTk 21 ?_ hHeld (fun w hSw => ?_) ?_
     rotate_left
     ·go_simp; (try with_reducible rfl)
     simp only [Act.put, nzA, nzB, nzC]
     refine wpAnyH_done (by kernel_rfl) ?_ _
     have hEx : Ext No w6 _ := hHeld
     cases bc with
     | true =>
      have HBC := Lib.hid (tells_yes hbc)
      clear hbc
      go_wp2_with fail
      go_ret
      exact ⟨false, rfl, ⟨fun h => (by cases h), fun h => absurd h (HNO.out (fun ⟨w', m', _, _, _, _, hb⟩ => by
       obtain ⟨j, hj, hbad⟩ := HBC.out
       exact hb j hj hbad))⟩, HX6.out.transNo hEx⟩
     | false =>
      have HBC := Lib.hid (tells_no hbc)
      clear hbc
      go_wp2_with fail
      go_roundw
      case rel => exact ⟨k + 1, by omega, HKK.out, Lib.hid (HY6.out.transNo hEx), Lib.hid (HNX.out ⟨w, m, HHW.out.1, HHW.out.2, HSE.out, by rw [HCL.out, HCE.out], fun j hj hb => HBC.out ⟨j, hj, hb⟩⟩)⟩
      case measure => simp [intOf]; omega
    have hclz : ((l.length : Int) != (cn : Int)) = true := by simp; omega
    have HCL := Lib.hid hcl
    clear hcl
    refine wp_region_held_drew (S := (fun w' => Ext No w6 w')) (by kernel_rfl) ?_ (fun hHeld => ?_)
    ·exact (Ext.refl _ _).drew
    refine hTk 0 ?_ hHeld (fun w hSw => ?_) ?_
    rotate_left
    ·(have hEs : Ext No w6 _ := hSw); (have x0 := cellOf (hEs.blk HBV.out no_no)); go_simp; (try with_reducible rfl)
    simp only [Act.put, nzA, nzB, nzC]
    refine hHc 1 fun K hK => ?_
    ((have hEx : Ext No w6 _ := hHeld); go_simp; (go_at_call 73); (refine (valid_any _ s _ ⟨_, rfl, HOK.out.extNo hEx⟩).mono ?_); (rintro e7 w7 ⟨rfl, hyA⟩); (rw [HVS.out]); go_simp)
    refine hK.out _ _ ?_ ?_
    ·exact Ext.transNo (show Ext No w6 _ from hHeld) hyA
    clear hK K hHeld
    intro hHeld
    try simp only [Act.put, nzA, nzB, nzC]
    refine hHs [2, 3, 4, 5, 6, 7] ?_
    iterate 6
     refine hTn ?_ hHeld (fun w hSw => ?_) ?_
     rotate_left
     ·(have hEs : Ext No w6 _ := hSw); (have q0 := cellOf (hEs.blk HBr.out no_no)); go_simp; (try with_reducible rfl)
     simp only [Act.put, nzA, nzB, nzC]
    refine hHe ?_
    refine hHs [8, 9] ?_
    iterate 2
     refine hTn ?_ hHeld (fun w hSw => ?_) ?_
     rotate_left
     ·(have hEs : Ext No w6 _ := hSw); (have q0 := hEs.keep HGR.out); go_simp; (try with_reducible rfl)
     simp only [Act.put, nzA, nzB, nzC]
    refine hHe ?_
    refine hTk 10 ?_ hHeld (fun w hSw => ?_) ?_
    rotate_left
    ·(have hEs : Ext No w6 _ := hSw); (have x0 := cellOf (hEs.blk HBV.out no_no)); go_simp; (try with_reducible rfl)
    simp only [Act.put, nzA, nzB, nzC]
    refine hHc 11 fun K hK => ?_
    ((have hEx : Ext No w6 _ := hHeld); go_simp; (rw [HSW.out]); (go_at_call 35); (refine (count_any w m _ _ (HSA.out.extNo hEx)).mono ?_); (rintro e8 w8 ⟨rfl, hyA⟩); (rw [HCN.out]); go_simp)
    refine hK.out _ _ ?_ ?_
    ·exact Ext.transNo (show Ext No w6 _ from hHeld) hyA
    clear hK K hHeld
    intro hHeld
    try simp only [Act.put, nzA, nzB, nzC]
    refine hHs [12, 13, 14] ?_
    iterate 3
     refine hTn ?_ hHeld (fun w hSw => ?_) ?_
     rotate_left
     ·go_simp; (try with_reducible rfl)
     simp only [Act.put, nzA, nzB, nzC]
    refine hHe ?_
    refine hHs [15, 16, 17, 18, 19, 20] ?_
    iterate 6
     refine hSn hHeld ?_
     simp only [Act.put, nzA, nzB, nzC]
    refine hHe ?_
    refine hTk 21 ?_ hHeld (fun w hSw => ?_) ?_
    rotate_left
    ·go_simp; (try with_reducible rfl)
    simp only [Act.put, nzA, nzB, nzC]
    refine wpAnyH_done (by kernel_rfl) ?_ _
    have hEx : Ext No w6 _ := hHeld
    go_wp2_with fail
    go_ret
    exact ⟨false, rfl, ⟨fun h => (by cases h), fun h => absurd h (HNO.out (fun ⟨w', m', hw', hm', he, hl', _⟩ => by
     obtain ⟨e1, e2⟩ := setN_inj2 HHW.out.2 hm' (HSE.out.symm.trans he)
     subst e1; subst e2
     exact HCL.out (by rw [hl', HCE.out])))⟩, HX6.out.transNo hEx⟩
   have hvf : validB s = false := by simpa using hvs
   have HVS := Lib.hid hvf
   clear hvs hvf
   refine wp_region_held_drew (S := (fun w' => Ext No w6 w')) (by kernel_rfl) ?_ (fun hHeld => ?_)
   ·exact (Ext.refl _ _).drew
   refine hTk 0 ?_ hHeld (fun w hSw => ?_) ?_
   rotate_left
   ·(have hEs : Ext No w6 _ := hSw); (have x0 := cellOf (hEs.blk HBV.out no_no)); go_simp; (try with_reducible rfl)
   simp only [Act.put, nzA, nzB, nzC]
   refine hHc 1 fun K hK => ?_
   ((have hEx : Ext No w6 _ := hHeld); go_simp; (go_at_call 73); (refine (valid_any _ s _ ⟨_, rfl, HOK.out.extNo hEx⟩).mono ?_); (rintro e7 w7 ⟨rfl, hyA⟩); (rw [HVS.out]); go_simp)
   refine hK.out _ _ ?_ ?_
   ·exact Ext.transNo (show Ext No w6 _ from hHeld) hyA
   clear hK K hHeld
   intro hHeld
   try simp only [Act.put, nzA, nzB, nzC]
   refine hHs [2, 3] ?_
   iterate 2
    refine hTn ?_ hHeld (fun w hSw => ?_) ?_
    rotate_left
    ·go_simp; (try with_reducible rfl)
    simp only [Act.put, nzA, nzB, nzC]
   refine hHe ?_
   refine hHs [4, 5, 6, 7, 8, 9, 10, 11, 12] ?_
   iterate 9
    refine hSn hHeld ?_
    simp only [Act.put, nzA, nzB, nzC]
   refine hHe ?_
   refine hHs [13, 14] ?_
   iterate 2
    refine hTn ?_ hHeld (fun w hSw => ?_) ?_
    rotate_left
    ·go_simp; (try with_reducible rfl)
    simp only [Act.put, nzA, nzB, nzC]
   refine hHe ?_
   refine hHs [15, 16, 17, 18, 19, 20] ?_
   iterate 6
    refine hSn hHeld ?_
    simp only [Act.put, nzA, nzB, nzC]
   refine hHe ?_
   refine hTk 21 ?_ hHeld (fun w hSw => ?_) ?_
   rotate_left
   ·go_simp; (try with_reducible rfl)
   simp only [Act.put, nzA, nzB, nzC]
   refine wpAnyH_done (by kernel_rfl) ?_ _
   have hEx : Ext No w6 _ := hHeld
   go_wp2_with fail
   go_ret
   exact ⟨false, rfl, ⟨fun h => (by cases h), fun h => absurd h (HNO.out (fun ⟨w', m', hw', hm', he, _, _⟩ => by
    have := validB_set hw' hm'
    rw [← he, HVS.out] at this
    cases this))⟩, HX6.out.transNo hEx⟩
  have hge : ¬ (k : Int) < (Lv.length : Int) := by omega
  go_wp2_with fail
  go_ret
  exact ⟨true, rfl, ⟨fun _ => ⟨HL.out, fun n hn hn2 => hall.out n hn hn2 (by omega)⟩, fun _ => rfl⟩, HXR.out⟩
 have hlz : ((Lv.length : Int) != (R.length : Int)) = true := by simp; omega
 have HL := Lib.hid hl
 clear hl
 go_wp2_with fail
 go_ret
 exact ⟨false, rfl, ⟨fun h => (by cases h), fun h => absurd h.1 HL.out⟩, HX.out⟩

/- slices.Repeat of one int; math/bits.Mul. -/
import Derived.Test.YtkdjdhflhlbelaaK2
import Derived.Shelf.Bits.Mul64
import Derived.Laws.CopyOwn
set_option linter.unusedVariables false
set_option linter.unusedSimpArgs false
namespace Go.Proofs.Ytkdjdhflhlbelaa
open Go Go.RowKit Tj
set_option maxHeartbeats 1000000 in
theorem mul64_any (x y : Nat) (hx : x < 18446744073709551616) (hy : y < 18446744073709551616) (w : World) :
  Calls Try.prog 143 #[.int .u64 x, .int .u64 y] w fun e w' => e = .returned (.tuple #[.int .u64 ((x * y / 18446744073709551616 : Nat) : Int), .int .u64 ((x * y % 18446744073709551616 : Nat) : Int)]) ∧ w' = w := by
 obtain ⟨bd, bt, bw, hhi⟩ := Go.Lib.mul64_hi x y hx hy
 have ba := Go.Lib.half_mul_le (a := x / 4294967296) (b := y / 4294967296) (by omega) (by omega)
 have bb := Go.Lib.half_mul_le (a := x / 4294967296) (b := y % 4294967296) (by omega) (by omega)
 have bc := Go.Lib.half_mul_le (a := x % 4294967296) (b := y / 4294967296) (by omega) (by omega)
 have ba' : x / 4294967296 * (y / 4294967296) < 18446744073709551616 := by omega
 have bb' : x / 4294967296 * (y % 4294967296) < 18446744073709551616 := by omega
 have bc' : x % 4294967296 * (y / 4294967296) < 18446744073709551616 := by omega
 have bh1 : x / 4294967296 * (y / 4294967296) + (x / 4294967296 * (y % 4294967296) + x % 4294967296 * (y % 4294967296) / 4294967296) / 4294967296 < 18446744073709551616 := by omega
 have bh : x / 4294967296 * (y / 4294967296) + (x / 4294967296 * (y % 4294967296) + x % 4294967296 * (y % 4294967296) / 4294967296) / 4294967296 + ((x / 4294967296 * (y % 4294967296) + x % 4294967296 * (y % 4294967296) / 4294967296) % 4294967296 + x % 4294967296 * (y / 4294967296)) / 4294967296 < 18446744073709551616 := by omega
 go_enter Try.func143, Try.ntmps143
 go_wp2_with fail
 simp only [Mul64.maskN x hx, Mul64.maskN y hy, Mul64.divN, Mul64.mulN, Mul64.addN, Mul64.wrapN _ bd, Mul64.wrapN _ bb', Mul64.wrapN _ bt, Mul64.maskN _ bt, Mul64.wrapN _ bc', Mul64.wrapN _ bw, Mul64.wrapN _ ba', Mul64.wrapN _ bh1, Mul64.wrapN _ bh, Mul64.wrapM (x * y)]
 rw [hhi]
 go_ret2
 exact ⟨rfl, rfl⟩
set_option maxHeartbeats 1000000 in
theorem mul_any (x y : Nat) (hx : x < 18446744073709551616) (hy : y < 18446744073709551616) (w : World) :
  Calls Try.prog 135 #[.int .u64 x, .int .u64 y] w fun e w' => e = .returned (.tuple #[.int .u64 ((x * y / 18446744073709551616 : Nat) : Int), .int .u64 ((x * y % 18446744073709551616 : Nat) : Int)]) ∧ w' = w := by
 go_enter Try.func135, Try.ntmps135
 go_wp2_with fail
 refine (mul64_any x y hx hy _).mono ?_
 rintro e w' ⟨rfl, hw⟩
 rw [hw]
 go_wp2_with fail
 go_ret2
 exact ⟨rfl, rfl⟩
theorem mul_one_any (n : Nat) (hn : n ≤ 1000) (w : World) :
  Calls Try.prog 135 #[.int .u64 1, .int .u64 (n : Int)] w fun e w' => e = .returned (.tuple #[.int .u64 0, .int .u64 (n : Int)]) ∧ w' = w := by
 have h := mul_any 1 n (by omega) (by omega) w
 rw [show 1 * n / 18446744073709551616 = 0 from by omega, show 1 * n % 18446744073709551616 = n from by omega] at h
 exact h
def rowF (n : Nat) (f : Nat → Value) : Array Value := ((List.range n).map f).toArray
theorem zeroI_eq (n : Nat) : madeCells (Value.cells (.int .i64 0)) (n * 1) = rowF n (fun _ => .int .i64 0) := by
 refine Array.ext (by simp [madeCells, rowF]) (fun i h1 h2 => ?_)
 simp [madeCells, rowF, Value.cells, Nat.mod_one]
theorem mk_ints (n : Nat) (hn : n ≤ 1000) (w : World) : (Instr.makeSlice 22 (.int .i64 (n : Int)) (.int .i64 (n : Int))).run Try.prog w = .ok (.slice (some ⟨w.heap.size, 0, none⟩) n n) (w.alloc (.cells (rowF n (fun _ => .int .i64 0)) 3)) := by
 obtain ⟨i, hi, hz0, hz1, hz2⟩ := info_parts infoInt2
 have h := run_makeSlice (P := Try.prog) w 22 3 i _ Try.underlying22 hi hz0 .i64 .i64 n n (by omega) (Int.le_refl _) (by rw [hz1]; simp; omega) (by rw [hz2]; omega) (by omega)
 simp only [Int.toNat_natCast, hz1, zeroI_eq] at h
 exact h
theorem blk_made {w : World} {n : Nat} {f : Nat → Value} {T : TypeId} : BlkF (w.alloc (.cells (rowF n f) T)) w.heap.size T n f := alloc_top rfl
/-- the first k are c, the others 0 -/
def fillF (c : Int) (k : Nat) : Nat → Value := fun i => .int .i64 (if i < k then c else 0)
theorem fill_row (n k m : Nat) (c : Int) (h : k + m ≤ n) : ((List.range n).map (fillF c k)).take k ++ (List.replicate m (Value.int .i64 c) ++ ((List.range n).map (fillF c k)).drop (k + m)) = (List.range n).map (fillF c (k + m)) := by
 refine List.ext_getElem (by simp; omega) (fun i h1 h2 => ?_)
 have hi : i < n := by simpa using h2
 simp only [List.getElem_append, List.getElem_take, List.getElem_map, List.getElem_range, List.getElem_drop, List.getElem_replicate, fillF, List.length_take, List.length_map, List.length_range, List.length_replicate]
 by_cases e1 : i < min k n
 ·rw [dif_pos e1, if_pos (by omega), if_pos (by omega)]
 ·rw [dif_neg e1]
  by_cases e2 : i - min k n < m
  ·rw [dif_pos e2, if_pos (by omega)]
  ·rw [dif_neg e2, if_neg (by omega), if_neg (by omega)]
theorem wp_copy {P : Program} {o : Oper} {a : Act} {w : World} {K : Act → World → Prop} {Q : Exit → Act → World → Prop} (d s : Operand) (dT sT : TypeId)
  (ho : o.op = .call { callee := .builtin .copy, args := #[d, s], argTypes := #[dT, sT] }) (elem : TypeId) (hu : P.underlying dT = some (.slice elem)) (hsz : (P.info? elem).map (·.size) = some 1)
  (g off dLen dCap : Nat) (ad : Addr) (sLen sCap : Nat) (hd : a.eval d = .slice (some ⟨g, off, none⟩) dLen dCap) (hs : a.eval s = .slice (some ad) sLen sCap)
  (cur : List Value) (t : TypeId) (hg : w.heap[g]? = some (.cells cur.toArray t (0, 0))) (cs : List Value) (hn : cs.length = Nat.min sLen dLen)
  (hsrc : ∀ j v, cs[j]? = some v → w.cell? (ad.add j) = some v) (hfit : off + cs.length ≤ cur.length) (h1 : ∀ v ∈ cs, v.oneCell' = true)
  (h : ∀ w', w'.heap[g]? = some (.cells (cur.take off ++ (cs ++ cur.drop (off + cs.length))).toArray t (0, 0)) → Ext (At g) w w' → K (a.put o.dst (goInt cs.length)) w') :
  Oper.wp P o a w K Q := by
 have hrun := run_copy_row (P := P) w dT sT o.type elem g off dLen dCap ad sLen sCap cur.toArray t cs hu hsz hg hn hsrc (by simpa using hfit) h1
 unfold Oper.wp
 simp [execOp, ho, resolve, invoke, builtin, hd, hs, hrun, Result.andThen]
 refine h _ (by simpa using setRow_heap w g _ _ t _ hg) ⟨rfl, rfl, rfl, by simp [World.setRow], fun i hi hne => setRow_other w g i _ (fun e => hne e)⟩
theorem run_copy {P : Program} {w : World} (dT sT ty elem : TypeId) (hu : P.underlying dT = some (.slice elem)) (hsz : (P.info? elem).map (·.size) = some 1)
  (g off dLen dCap : Nat) (ad : Addr) (sLen sCap : Nat) (cur : List Value) (t : TypeId) (hg : w.heap[g]? = some (.cells cur.toArray t (0, 0))) (cs : List Value) (hn : cs.length = Nat.min sLen dLen)
  (hsrc : ∀ j v, cs[j]? = some v → w.cell? (ad.add j) = some v) (hfit : off + cs.length ≤ cur.length) (h1 : ∀ v ∈ cs, v.oneCell' = true) :
  ∃ w', (Builtin.copy_ #[dT, sT] ty #[.slice (some ⟨g, off, none⟩) dLen dCap, .slice (some ad) sLen sCap]).run P w = .ok (goInt cs.length) w' ∧
   Hid (w'.heap[g]? = some (.cells (cur.take off ++ (cs ++ cur.drop (off + cs.length))).toArray t (0, 0))) ∧ Hid (Ext (At g) w w') :=
 ⟨_, run_copy_row (P := P) w dT sT ty elem g off dLen dCap ad sLen sCap cur.toArray t cs hu hsz hg hn hsrc (by simpa using hfit) h1, by simpa [Hid] using setRow_heap w g _ _ t _ hg, ⟨rfl, rfl, rfl, by simp [World.setRow], fun i hi hne => setRow_other w g i _ (fun e => hne e)⟩⟩
theorem add_at (g i : Nat) (j : Nat) : ((⟨g, i, none⟩ : Addr).add j) = ⟨g, i + j, none⟩ := by unfold Addr.add; split <;> simp_all
def RepPost (n : Nat) (c : Int) (W : World) (e : Ending) (w' : World) : Prop :=
 ∃ g, e = .returned (.slice (some ⟨g, 0, none⟩) n n) ∧ W.heap.size ≤ g ∧ Hid (BlkF w' g 3 n (fun _ => .int .i64 c)) ∧ Ext No W w'
set_option maxRecDepth 100000 in
set_option maxHeartbeats 4000000 in
theorem repeat_any (n b : Nat) (c : Int) (W : World) (hn1 : 1 ≤ n) (hn : n ≤ 256) (hb : W.heap[b]? = some (.cells #[.int .i64 c] 3 (0, 0))) :
  Calls Try.prog 118 #[.slice (some ⟨b, 0, none⟩) 1 1, .int .i64 (n : Int)] W (RepPost n c W) := by
 have hi1 : (Try.prog.info? 3).map (·.size) = some 1 := by kernel_rfl
 have HB := Lib.hid hb
 have hmk := mk_ints n (by omega)
 have hnn : ¬ ((n : Int) < 0) := by omega
 have hcv : IntKind.u64.wrap (n : Int) = (n : Int) := by rw [IntKind.wrap_u64]; omega
 have hcw : IntKind.i64.wrap (n : Int) = (n : Int) := IntWalk.i64_in _ (by omega)
 have hgt : ¬ ((9223372036854775807 : Int) < (n : Int)) := by omega
 have hb0 := cellOf hb
 clear hb
 go_enter Try.func118, Try.ntmps118
 go_wp2_with fail
 refine (mul_one_any n (by omega) _).mono ?_
 rintro e1 w1 ⟨rfl, hw1⟩
 rw [hw1]
 have hx0 : Ext No W (W.alloc (.cells (rowF n (fun _ => .int .i64 0)) 3)) := (Ext.refl _ _).alloc _
 have HG := Lib.hid (show BlkF (W.alloc (.cells (rowF n (fun _ => .int .i64 0)) 3)) W.heap.size 3 n (fillF c 0) from by
  rw [show fillF c 0 = fun _ => Value.int .i64 0 from by funext i; simp [fillF]]
  exact blk_made)
 have HSRC := Lib.hid (show ∀ (j : Nat) (v : Value), (List.replicate 1 (Value.int .i64 c))[j]? = some v → (W.alloc (.cells (rowF n (fun _ => .int .i64 0)) 3)).cell? ((⟨b, 0, none⟩ : Addr).add j) = some v from fun j v hj => by
  match j, hj with
  | 0, hj =>
   rw [add_at, ← Option.some.inj hj]
   exact hx0.keep (show W.cell? ⟨b, 0, none⟩ = some (.int .i64 c) from cellOf HB.out 0)
  | j + 1, hj => simp at hj)
 have HX := Lib.hid hx0
 clear hx0
 go_upto_region 7 with (fail)
 generalize (W.alloc (.cells (rowF n (fun _ => .int .i64 0)) 3)) = w2 at *
 obtain ⟨g, hg⟩ : ∃ g, g = W.heap.size := ⟨_, rfl⟩
 rw [← hg] at HG ⊢
 have hgl : W.heap.size ≤ g := by omega
 clear hg hb0 hmk
 have HMN := Lib.hid (show (List.replicate 1 (Value.int .i64 c)).length = Nat.min 1 n from (Nat.min_eq_left hn1).symm)
 have HFT := Lib.hid (show 0 + (List.replicate 1 (Value.int .i64 c)).length ≤ ((List.range n).map (fillF c 0)).length from by simp; omega)
 obtain ⟨w9, hcp, hg9, hx9⟩ := run_copy (P := Try.prog) (w := w2) 22 22 3 3 Try.underlying22 hi1 g 0 n n ⟨b, 0, none⟩ 1 1 ((List.range n).map (fillF c 0)) 3 HG.out (List.replicate 1 (.int .i64 c)) HMN.out HSRC.out HFT.out (fun v hv => by rw [List.eq_of_mem_replicate hv]; rfl)
 rw [show goInt (List.replicate 1 (Value.int .i64 c)).length = .int .i64 1 from rfl] at hcp
 have HG9 := Lib.hid (show BlkF w9 g 3 n (fillF c (0 + 1)) from by have h := fill_row n 0 1 c (by omega); unfold BlkF; rw [← h]; exact hg9.out)
 have HX9 := Lib.hid (HX.out.trans2 hx9.out (fun i hi e => by unfold At at e; omega))
 clear hg9 hx9
 go_wp2_with fail
 clear hcp
 go_loopw [8] (fun s8 wr => ∃ k : Nat, s8 = .int .i64 k ∧ 1 ≤ k ∧ k ≤ n ∧ Hid (BlkF wr g 3 n (fillF c k)) ∧ Hid (Ext No W wr)) (fun s8 _ => n - (intOf s8).toNat)
 case atStart => exact ⟨1, by simp, Nat.le_refl _, hn1, HG9, HX9⟩
 case round =>
  clear HG9 HX9 HG HX HSRC
  obtain ⟨k, rfl, hk1, hk, hG, hx⟩ := hrel
  rename World => wr
  by_cases hlt : k < n
  ·have hlz : (k : Int) < (n : Int) := by omega
   have hkz : (k : Int) ≤ (n : Int) := by omega
   have hkz0 : (0 : Int) ≤ (k : Int) := by omega
   have hnk : ¬ (n = k) := by omega
   obtain ⟨m, hm⟩ : ∃ m, m = min k (n - k) := ⟨_, rfl⟩
   have hm1 : 1 ≤ m := by omega
   have hkm : k + m ≤ n := by omega
   have HM := Lib.hid hm
   have hmk2 : m ≤ k := by omega
   clear hm
   obtain ⟨k2, hk2⟩ : ∃ k2, k2 = k + m := ⟨_, rfl⟩
   have hadd : IntKind.i64.wrap ((k : Int) + (m : Int)) = (k2 : Int) := by rw [IntWalk.i64_in _ (by omega)]; omega
   have HK2 := Lib.hid hk2
   have hk2n : k2 ≤ n := by omega
   have hk2k : k < k2 := by omega
   clear hk2
   go_upto_region 9 with (fail)
   refine wp_region_held_drew (S := (fun w' => Ext (At g) wr w')) (by kernel_rfl) ?_ (fun hHeld => ?_)
   ·exact (Ext.refl _ _).drew
   have hGd := Lib.hid (hG.out.ext (Ext.refl No wr).drew no_no)
   have hxd := Lib.hid (hx.out.transNo (Ext.refl No wr).drew)
   generalize wr.drew = v0 at *
   have HSR := Lib.hid (show ∀ (j : Nat) (v : Value), (List.replicate m (Value.int .i64 c))[j]? = some v → v0.cell? ((⟨g, 0, none⟩ : Addr).add j) = some v from fun j v hj => by
    have hjm : j < m := by
     obtain ⟨h1, -⟩ := List.getElem?_eq_some_iff.1 hj
     simpa using h1
    rw [List.getElem?_replicate, if_pos hjm] at hj
    rw [add_at, ← Option.some.inj hj, Nat.zero_add, hGd.out.cell (show j < n by omega)]
    show some (Value.int .i64 (if j < k then c else 0)) = _
    rw [if_pos (by omega)])
   refine hTk (i := 0) (v := ?_) hHeld (fun w hSw => ?_) ?_
   rotate_left
   ·go_simp; (try with_reducible rfl)
   try simp only [Act.put, nzA, nzB, nzC]
   refine hTk (i := 1) (v := ?_) hHeld (fun w hSw => ?_) ?_
   rotate_left
   ·go_simp; (try with_reducible rfl)
   try simp only [Act.put, nzA, nzB, nzC]
   refine hTk (i := 2) (v := ?_) hHeld (fun w hSw => ?_) ?_
   rotate_left
   ·go_simp; (try with_reducible rfl)
   try simp only [Act.put, nzA, nzB, nzC]
   refine hTk (i := 3) (v := ?_) hHeld (fun w hSw => ?_) ?_
   rotate_left
   ·go_simp; (try with_reducible rfl)
   try simp only [Act.put, nzA, nzB, nzC]
   refine hTk (i := 4) (v := ?_) hHeld (fun w hSw => ?_) ?_
   rotate_left
   ·go_simp; (try with_reducible rfl)
   try simp only [Act.put, nzA, nzB, nzC]
   refine hTk (i := 5) (v := ?_) hHeld (fun w hSw => ?_) ?_
   rotate_left
   ·go_simp; (try with_reducible rfl)
   try simp only [Act.put, nzA, nzB, nzC]
   refine hTk (i := 6) (v := ?_) hHeld (fun w hSw => ?_) ?_
   rotate_left
   ·go_simp; (try with_reducible rfl)
   try simp only [Act.put, nzA, nzB, nzC]
   refine held_call (i := 7) rfl (by kernel_rfl) rfl (fun K hK => ?_)
   (refine wp_copy (.tmp 41) (.tmp 44) 22 22 rfl 3 Try.underlying22 hi1 g k (n - k) (n - k) ⟨g, 0, none⟩ k n rfl rfl ((List.range n).map (fillF c k)) 3 hGd.out (List.replicate m (.int .i64 c)) (by rw [List.length_replicate, HM.out]) HSR.out (by rw [List.length_replicate, List.length_map, List.length_range]; omega) (fun v hv => by rw [List.eq_of_mem_replicate hv]; rfl) (fun w9 hg9 hx9 => ?_))
   refine hK.out _ _ ?_ ?_
   ·exact Ext.trans2 (show Ext (At g) wr _ from hHeld) hx9 (fun _ _ e => e)
   clear hK K hHeld
   intro hHeld
   have HG9 := Lib.hid (show BlkF w9 g 3 n (fillF c k2) from by have h := fill_row n k m c (by omega); unfold BlkF; rw [HK2.out, ← h]; rw [List.length_replicate] at hg9; exact hg9)
   have HX9 := Lib.hid (hxd.out.trans2 hx9 (fun i hi e => by unfold At at e; omega))
   try simp only [Act.put, nzA, nzB, nzC]
   refine hTk (i := 8) (v := ?_) hHeld (fun w hSw => ?_) ?_
   rotate_left
   ·go_simp; (try with_reducible rfl)
   try simp only [Act.put, nzA, nzB, nzC]
   refine hTk (i := 9) (v := ?_) hHeld (fun w hSw => ?_) ?_
   rotate_left
   ·go_simp; (try with_reducible rfl)
   try simp only [Act.put, nzA, nzB, nzC]
   refine wpAnyH_done (by kernel_rfl) ?_ _
   go_wp2_with fail
   go_roundw
   case rel => exact ⟨k2, by simp [hadd], by omega, by omega, HG9, HX9⟩
   case measure => simp [intOf, hadd]; omega
  ·have hge : ¬ (k : Int) < (n : Int) := by omega
   obtain rfl : k = n := by omega
   go_wp2_with fail
   go_ret
   have e : fillF c k = fun i => if i < k then Value.int .i64 c else .int .i64 0 := by
    funext i
    unfold fillF
    split <;> rfl
   exact ⟨g, rfl, hgl, Lib.hid (by
    have h := hG.out
    unfold BlkF at h ⊢
    rw [show (List.range k).map (fun _ => Value.int .i64 c) = (List.range k).map (fillF c k) from List.map_congr_left (fun i hi => by
     rw [e]
     exact (if_pos (List.mem_range.1 hi)).symm)]
    exact h), hx.out⟩
end Go.Proofs.Ytkdjdhflhlbelaa

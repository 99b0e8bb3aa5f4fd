
import Derived.Test.YtjeohlooaiociaaGreatDoorP8
set_option linter.unusedVariables false
set_option linter.unusedSimpArgs false
namespace Go.Proofs.YtjeohlooaiociaaGreatDoor
open Go Go.RowKit
def crcBit (c : Nat) : Nat := (c / 2) ^^^ (if c % 2 = 1 then 3988292384 else 0)
def crcK (c : Nat) : Nat → Nat
 | 0 => c
 | k + 1 => crcBit (crcK c k)
def crcStep (c b : Nat) : Nat := crcK (c ^^^ b) 8
def crcN (l : List Nat) : Nat := l.foldl crcStep 4294967295
def crcF (l : List Nat) : Nat := 4294967295 ^^^ crcN l
theorem xor_lt32 {a b : Nat} (ha : a < 4294967296) (hb : b < 4294967296) : a ^^^ b < 4294967296 := Nat.xor_lt_two_pow (n := 32) ha hb
theorem ofInt32 (a : Nat) : BitVec.ofInt 32 (a : Int) = BitVec.ofNat 32 a := by
 apply BitVec.eq_of_toNat_eq
 simp
theorem wrap32 (n : Nat) (h : n < 4294967296) : IntKind.u32.wrap (n : Int) = n := by
 simp only [IntKind.wrap, IntKind.bits, IntKind.signed]
 simp
 omega
theorem xor_u32 (a b : Nat) (ha : a < 4294967296) (hb : b < 4294967296) : bits .xor .u32 (a : Int) (b : Int) = ((a ^^^ b : Nat) : Int) := by
 unfold bits
 show IntKind.u32.wrap (((BitVec.ofInt 32 (a : Int) ^^^ BitVec.ofInt 32 (b : Int)).toNat : Nat) : Int) = _
 rw [ofInt32, ofInt32, BitVec.toNat_xor, BitVec.toNat_ofNat, BitVec.toNat_ofNat, Nat.mod_eq_of_lt (by omega), Nat.mod_eq_of_lt (by omega), wrap32 _ (xor_lt32 ha hb)]
theorem and_u32 (a b : Nat) (ha : a < 4294967296) (hb : b < 4294967296) : bits .and .u32 (a : Int) (b : Int) = ((a &&& b : Nat) : Int) := by
 unfold bits
 show IntKind.u32.wrap (((BitVec.ofInt 32 (a : Int) &&& BitVec.ofInt 32 (b : Int)).toNat : Nat) : Int) = _
 rw [ofInt32, ofInt32, BitVec.toNat_and, BitVec.toNat_ofNat, BitVec.toNat_ofNat, Nat.mod_eq_of_lt (by omega), Nat.mod_eq_of_lt (by omega), wrap32 _ (Nat.lt_of_le_of_lt Nat.and_le_left ha)]
theorem crc_step {x : Nat} (h : x < 4294967296) : bits .xor .u32 ((x : Int) / 2) (bits .and .u32 3988292384 (-bits .and .u32 (x : Int) 1 % 4294967296)) = ((crcBit x : Nat) : Int) := by
 have e1 : bits .and .u32 (x : Int) 1 = ((x % 2 : Nat) : Int) := by
  have := and_u32 x 1 h (by omega)
  rw [Nat.and_one_is_mod] at this
  exact this
 rw [e1, show ((x : Int) / 2) = ((x / 2 : Nat) : Int) from by simp]
 unfold crcBit
 rcases Nat.mod_two_eq_zero_or_one x with e | e
 ·rw [e, if_neg (by omega)]
  have e2 : bits .and .u32 3988292384 (-((0 : Nat) : Int) % 4294967296) = ((0 : Nat) : Int) := by
   have := and_u32 3988292384 0 (by omega) (by omega)
   simpa using this
  rw [e2]
  exact xor_u32 _ _ (by omega) (by omega)
 rw [e, if_pos rfl]
 have e2 : bits .and .u32 3988292384 (-((1 : Nat) : Int) % 4294967296) = ((3988292384 : Nat) : Int) := by
  have := and_u32 3988292384 4294967295 (by omega) (by omega)
  rw [show (3988292384 &&& 4294967295 : Nat) = 3988292384 from by decide] at this
  exact this
 rw [e2]
 exact xor_u32 _ _ (by omega) (by omega)
theorem crcBit_lt {c : Nat} (h : c < 4294967296) : crcBit c < 4294967296 := by
 unfold crcBit
 refine xor_lt32 (by omega) ?_
 split <;> omega
theorem crcK_lt {c : Nat} (h : c < 4294967296) : ∀ k, crcK c k < 4294967296
 | 0 => h
 | k + 1 => crcBit_lt (crcK_lt h k)
theorem crcStep_lt {c b : Nat} (h : c < 4294967296) (hb : b < 256) : crcStep c b < 4294967296 := crcK_lt (xor_lt32 h (by omega)) 8
theorem crcTo_lt : ∀ (l : List Nat) (c : Nat), c < 4294967296 → (∀ b ∈ l, b < 256) → l.foldl crcStep c < 4294967296
 | [], c, h, _ => h
 | b :: l, c, h, hb => crcTo_lt l _ (crcStep_lt h (hb b (List.mem_cons_self ..))) (fun x hx => hb x (List.mem_cons_of_mem _ hx))
set_option maxRecDepth 100000 in
set_option maxHeartbeats 4000000 in
theorem checksum_any (l : List Nat) (sl : Value) (W : World) (h : Ints No W .u8 sl (natsZ l)) (hb : ∀ b ∈ l, b < 256) :
  Calls Tryz.prog 101 #[sl] W (fun e w' => e = .returned (.int .u32 ((crcF l : Nat) : Int)) ∧ Ext No W w') := by
 have H := Lib.hid h
 have HB := Lib.hid hb
 have hz : (natsZ l).length = l.length := by simp [natsZ]
 obtain ⟨a, c, rfl⟩ := Row.slice h
 have hlen := h.2.1
 rw [hz] at hlen
 rw [hz] at H ⊢
 clear h hb hz
 go_enter Tryz.func101, Tryz.ntmps101
 go_wp2_with fail
 go_loopw [3, 5, 8, 16] (fun s3 _ i _ wr => ∃ k : Nat, k ≤ l.length ∧ i = .int .i64 k ∧ s3 = .int .u32 ((crcN (l.take k) : Nat) : Int) ∧ Hid (Ext No W wr)) (fun _ _ i _ _ => l.length - (intOf i).toNat)
 case atStart => exact ⟨0, Nat.zero_le _, rfl, rfl, Lib.hid (Ext.refl _ _)⟩
 obtain ⟨k, hk, rfl, rfl, hx⟩ := hrel
 rename World => wr
 by_cases hlt : k < l.length
 ·have hlz : (k : Int) < (l.length : Int) := by omega
  have HKK : Hid (Value.int .i64 ((k : Int) + 1) = .int .i64 ((k + 1 : Nat) : Int)) := Lib.hid (by rw [show ((k + 1 : Nat) : Int) = (k : Int) + 1 from by omega])
  obtain ⟨b, hbb⟩ : ∃ b, b = l[k] := ⟨_, rfl⟩
  have hcell : ∃ bo oo ko, (Value.slice a l.length c) = .slice (some ⟨bo, oo, none⟩) l.length ko ∧ W.cell? ⟨bo, oo + k, none⟩ = some (.int .u8 (b : Int)) := by
   have hz : (natsZ l).length = l.length := by simp [natsZ]
   obtain ⟨bo, oo, ko, h1, _, _, h4⟩ := Row.shape H.out (by simp [natsZ]; omega)
   rw [hz] at h1
   exact ⟨bo, oo, ko, h1, by rw [hbb]; exact h4 k _ (by simp [natsZ, hlt])⟩
  obtain ⟨bo, oo, ko, hve, q0⟩ := hcell
  simp only [Value.slice.injEq] at hve
  obtain ⟨rfl, -, rfl⟩ := hve
  replace q0 := hx.out.keep q0
  have hbl : b < 256 := by rw [hbb]; exact HB.out _ (List.getElem_mem hlt)
  obtain ⟨cc, hcc⟩ : ∃ cc, cc = crcN (l.take k) := ⟨_, rfl⟩
  rw [← hcc]
  have hcl : cc < 4294967296 := by rw [hcc]; exact crcTo_lt _ _ (by decide) (fun x hx => HB.out x (List.mem_of_mem_take hx))
  have HST := Lib.hid (show crcN (l.take (k + 1)) = crcStep cc b from by
   rw [hcc, hbb]
   unfold crcN
   rw [List.take_succ_eq_append_getElem hlt, List.foldl_append]; rfl)
  have HX1 := Lib.hid (xor_u32 cc b hcl (by omega))
  obtain ⟨x0, hx0⟩ : ∃ x0, x0 = cc ^^^ b := ⟨_, rfl⟩
  have hx0l : x0 < 4294967296 := by rw [hx0]; exact xor_lt32 hcl (by omega)
  rw [← hx0] at HX1
  have HST2 := Lib.hid (show crcN (l.take (k + 1)) = crcK x0 8 from by rw [HST.out, hx0]; rfl)
  have hxo := HX1.out
  clear hbb hcc hx0
  go_wp2_with fail
  clear hxo
  go_loopw [3, 16] (fun s3 i wy => ∃ j : Nat, j ≤ 8 ∧ i = .int .i64 j ∧ s3 = .int .u32 ((crcK x0 j : Nat) : Int) ∧ Hid (Ext No W wy)) (fun _ i _ => 8 - (intOf i).toNat)
  case atStart => exact ⟨0, Nat.zero_le _, rfl, rfl, hx⟩
  obtain ⟨j, hj, rfl, rfl, hy⟩ := hrel
  rename World => wy
  by_cases hltj : j < 8
  ·have hjz : (j : Int) < 8 := by omega
   have HJJ : Hid (Value.int .i64 ((j : Int) + 1) = .int .i64 ((j + 1 : Nat) : Int)) := Lib.hid (by rw [show ((j + 1 : Nat) : Int) = (j : Int) + 1 from by omega])
   obtain ⟨x, hxx⟩ : ∃ x, x = crcK x0 j := ⟨_, rfl⟩
   have hxl : x < 4294967296 := by rw [hxx]; exact crcK_lt hx0l j
   have HXX := Lib.hid (show crcK x0 (j + 1) = crcBit x from by rw [hxx]; rfl)
   rw [← hxx]
   clear hxx
   have HCS := Lib.hid (crc_step hxl)
   go_wp2_with fail
   go_roundw
   case rel => exact ⟨j + 1, by omega, HJJ.out, by rw [HCS.out, HXX.out], hy⟩
   case measure => simp [intOf]; omega
  have hgej : ¬ (j : Int) < 8 := by omega
  have hj8 : j = 8 := by omega
  have HJ8 := Lib.hid hj8
  clear hj8
  go_wp2_with fail
  go_roundw
  case rel => exact ⟨k + 1, by omega, HKK.out, by rw [HST2.out, HJ8.out], hy⟩
  case measure => simp [intOf]; omega
 have hge : ¬ (k : Int) < (l.length : Int) := by omega
 have hkk : k = l.length := by omega
 have HKE := Lib.hid hkk
 have HXF := Lib.hid (xor_u32 4294967295 (crcN l) (by omega) (crcTo_lt l _ (by decide) HB.out))
 subst hkk
 rw [List.take_length]
 go_wp2_with fail
 go_ret
 exact ⟨by rw [show IntKind.u32.max = (4294967295 : Nat) from rfl, HXF.out]; rfl, hx.out⟩
end Go.Proofs.YtjeohlooaiociaaGreatDoor

namespace Go.Proofs.YtjeohlooaiociaaGreatDoor
open Go Go.RowKit
theorem pchecksum_any (l : List Nat) (sl : Value) (W : World) (h : Ints No W .u8 sl (natsZ l)) (hb : ∀ b ∈ l, b < 256) :
  Calls Tryz.prog 57 #[sl] W (fun e w' => e = .returned (.int .u32 ((crcF l : Nat) : Int)) ∧ Ext No W w') := by
 go_enter Tryz.func57, Tryz.ntmps57
 go_wp2_with fail
 refine (checksum_any l _ _ h hb).mono ?_
 rintro e w1 ⟨rfl, hx⟩
 go_wp2_with fail
 go_ret
 exact ⟨rfl, hx⟩
set_option maxRecDepth 100000 in
set_option maxHeartbeats 4000000 in
theorem rchecksum_any (l : List Nat) (sl : Value) (W : World) (h : Ints No W .u8 sl (natsZ l)) (hb : ∀ b ∈ l, b < 256) :
  Calls Tryz.prog 65 #[sl] W (fun e w' => e = .returned (.int .u32 ((crcF l : Nat) : Int)) ∧ Ext No W w') := by
 have H := Lib.hid h
 have HB := Lib.hid hb
 have hz : (natsZ l).length = l.length := by simp [natsZ]
 obtain ⟨a, c, rfl⟩ := Row.slice h
 have hlen := h.2.1
 rw [hz] at hlen
 rw [hz] at H ⊢
 clear h hb hz
 go_enter Tryz.func65, Tryz.ntmps65
 go_wp2_with fail
 go_loopw [3, 4, 5] (fun s3 i _ wr => ∃ k : Nat, k ≤ l.length ∧ i = .int .i64 k ∧ s3 = .int .u32 ((crcN (l.take k) : Nat) : Int) ∧ Hid (Ext No W wr)) (fun _ i _ _ => l.length - (intOf i).toNat)
 case atStart => exact ⟨0, Nat.zero_le _, rfl, rfl, Lib.hid (Ext.refl _ _)⟩
 obtain ⟨k, hk, rfl, rfl, hx⟩ := hrel
 rename World => wr
 by_cases hlt : k < l.length
 ·have hlz : (k : Int) < (l.length : Int) := by omega
  have HKK : Hid (Value.int .i64 ((k : Int) + 1) = .int .i64 ((k + 1 : Nat) : Int)) := Lib.hid (by rw [show ((k + 1 : Nat) : Int) = (k : Int) + 1 from by omega])
  obtain ⟨b, hbb⟩ : ∃ b, b = l[k] := ⟨_, rfl⟩
  have hcell : ∃ bo oo ko, (Value.slice a l.length c) = .slice (some ⟨bo, oo, none⟩) l.length ko ∧ W.cell? ⟨bo, oo + k, none⟩ = some (.int .u8 (b : Int)) := by
   have hz : (natsZ l).length = l.length := by simp [natsZ]
   obtain ⟨bo, oo, ko, h1, _, _, h4⟩ := Row.shape H.out (by simp [natsZ]; omega)
   rw [hz] at h1
   exact ⟨bo, oo, ko, h1, by rw [hbb]; exact h4 k _ (by simp [natsZ, hlt])⟩
  obtain ⟨bo, oo, ko, hve, q0⟩ := hcell
  simp only [Value.slice.injEq] at hve
  obtain ⟨rfl, -, rfl⟩ := hve
  replace q0 := hx.out.keep q0
  have hbl : b < 256 := by rw [hbb]; exact HB.out _ (List.getElem_mem hlt)
  obtain ⟨cc, hcc⟩ : ∃ cc, cc = crcN (l.take k) := ⟨_, rfl⟩
  rw [← hcc]
  have hcl : cc < 4294967296 := by rw [hcc]; exact crcTo_lt _ _ (by decide) (fun x hx => HB.out x (List.mem_of_mem_take hx))
  have HST := Lib.hid (show crcN (l.take (k + 1)) = crcStep cc b from by
   rw [hcc, hbb]
   unfold crcN
   rw [List.take_succ_eq_append_getElem hlt, List.foldl_append]; rfl)
  have HX1 := Lib.hid (xor_u32 cc b hcl (by omega))
  obtain ⟨x0, hx0⟩ : ∃ x0, x0 = cc ^^^ b := ⟨_, rfl⟩
  have hx0l : x0 < 4294967296 := by rw [hx0]; exact xor_lt32 hcl (by omega)
  rw [← hx0] at HX1
  have HST2 := Lib.hid (show crcN (l.take (k + 1)) = crcK x0 8 from by rw [HST.out, hx0]; rfl)
  have hxo := HX1.out
  clear hbb hcc hx0
  go_wp2_with fail
  clear hxo
  go_loopw [3, 5] (fun s3 i wy => ∃ j : Nat, j ≤ 8 ∧ i = .int .i64 j ∧ s3 = .int .u32 ((crcK x0 j : Nat) : Int) ∧ Hid (Ext No W wy)) (fun _ i _ => 8 - (intOf i).toNat)
  case atStart => exact ⟨0, Nat.zero_le _, rfl, rfl, hx⟩
  obtain ⟨j, hj, rfl, rfl, hy⟩ := hrel
  rename World => wy
  by_cases hltj : j < 8
  ·have hjz : (j : Int) < 8 := by omega
   have HJJ : Hid (Value.int .i64 ((j : Int) + 1) = .int .i64 ((j + 1 : Nat) : Int)) := Lib.hid (by rw [show ((j + 1 : Nat) : Int) = (j : Int) + 1 from by omega])
   obtain ⟨x, hxx⟩ : ∃ x, x = crcK x0 j := ⟨_, rfl⟩
   have hxl : x < 4294967296 := by rw [hxx]; exact crcK_lt hx0l j
   have HXX := Lib.hid (show crcK x0 (j + 1) = crcBit x from by rw [hxx]; rfl)
   rw [← hxx]
   clear hxx
   have e1 : bits .and .u32 (x : Int) 1 = ((x % 2 : Nat) : Int) := by
    have := and_u32 x 1 hxl (by omega)
    rw [Nat.and_one_is_mod] at this
    exact this
   rcases Nat.mod_two_eq_zero_or_one x with e | e
   ·rw [e] at e1
    have HCS := Lib.hid (show x / 2 = crcBit x from by unfold crcBit; rw [if_neg (by omega)]; simp)
    have HCV := Lib.hid (show Value.int .u32 ((x : Int) / 2) = .int .u32 ((x / 2 : Nat) : Int) from by simp)
    clear e
    go_wp2_with fail
    go_roundw
    case rel => exact ⟨j + 1, by omega, HJJ.out, by rw [HXX.out, ← HCS.out]; exact HCV.out, hy⟩
    case measure => simp [intOf]; omega
   rw [e] at e1
   have HCS := Lib.hid (show bits .xor .u32 ((x : Int) / 2) 3988292384 = ((crcBit x : Nat) : Int) from by
    rw [show ((x : Int) / 2) = ((x / 2 : Nat) : Int) from by simp]
    unfold crcBit
    rw [if_pos e]
    exact xor_u32 _ _ (by omega) (by decide))
   clear e
   go_wp2_with fail
   go_roundw
   case rel => exact ⟨j + 1, by omega, HJJ.out, by rw [HXX.out, ← HCS.out], hy⟩
   case measure => simp [intOf]; omega
  have hgej : ¬ (j : Int) < 8 := by omega
  have hj8 : j = 8 := by omega
  have HJ8 := Lib.hid hj8
  clear hj8
  go_wp2_with fail
  go_roundw
  case rel => exact ⟨k + 1, by omega, HKK.out, by rw [HST2.out, HJ8.out], hy⟩
  case measure => simp [intOf]; omega
 have hge : ¬ (k : Int) < (l.length : Int) := by omega
 have hkk : k = l.length := by omega
 have HKE := Lib.hid hkk
 have HXF := Lib.hid (xor_u32 4294967295 (crcN l) (by omega) (crcTo_lt l _ (by decide) HB.out))
 subst hkk
 rw [List.take_length]
 go_wp2_with fail
 go_ret
 exact ⟨by rw [show IntKind.u32.max = (4294967295 : Nat) from rfl, HXF.out]; rfl, hx.out⟩
theorem open_short (a : Option Addr) (n c : Nat) (hn : n < 4) (W : World) :
  Calls Tryz.prog 69 #[.slice a n c] W (fun e w' => e = .returned (.tuple #[.pointer none, .int .i64 12]) ∧ Ext No W w') := by
 have hnz : (n : Int) < 4 := by omega
 go_enter Tryz.func69, Tryz.ntmps69
 go_wp2_with fail
 refine ret_ex rfl ?_
 simp [results, Tryz.results69, go_sem]
 exact Ext.refl _ _
theorem decode_short (a : Option Addr) (n c : Nat) (hn : n < 4) (W : World) :
  Calls Tryz.prog 29 #[.slice a n c] W (fun e w' => e = .returned (.tuple #[.agg #[.slice none 0 0, .slice none 0 0], .int .i64 12]) ∧ Ext No W w') := by
 go_enter Tryz.func29, Tryz.ntmps29
 go_upto_region 1 with (fail)
 have hx0 : Ext No W (W.alloc (.cells #[.slice none 0 0, .slice none 0 0] 29)) := (Ext.refl _ _).alloc _
 have HA := Lib.hid (alloc_top (w := W) (o := (.cells #[.slice none 0 0, .slice none 0 0] 29)) rfl)
 generalize (W.alloc (.cells #[.slice none 0 0, .slice none 0 0] 29)) = V at *
 go_wp2_with fail
 refine (open_short a n c hn _).mono ?_
 rintro e1 w1 ⟨rfl, hx1⟩
 have hA1 := hx1.blk HA.out no_no
 have cA := cellOf hA1
 have fA := freeOf hA1
 go_wp2_with fail
 have hbF := (set_same (j := 1) (u := .slice none 0 0) (set_same (j := 0) (u := .slice none 0 0) hA1)).trans rfl
 have hE : Ext (At W.heap.size) w1 ((w1.setCell ⟨W.heap.size, 0, none⟩ (.slice none 0 0)).setCell ⟨W.heap.size, 1, none⟩ (.slice none 0 0)) := ((Ext.refl (At W.heap.size) w1).setAt _ _).setAt _ _
 clear cA fA
 generalize ((w1.setCell ⟨W.heap.size, 0, none⟩ (.slice none 0 0)).setCell ⟨W.heap.size, 1, none⟩ (.slice none 0 0)) = WF at *
 have cF := cellOf hbF
 refine ret_ex rfl ?_
 simp [results, Tryz.results29, go_sem, cF]
 exact (hx0.transNo hx1).trans2 hE (fun i hi e => by unfold At at e; omega)

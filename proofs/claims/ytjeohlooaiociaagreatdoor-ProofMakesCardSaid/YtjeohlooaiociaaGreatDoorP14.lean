
import Derived.Test.YtjeohlooaiociaaGreatDoorP8
set_option linter.unusedVariables false
set_option linter.unusedSimpArgs false
namespace Go.Proofs.YtjeohlooaiociaaGreatDoor
open Go Go.RowKit
def crcBit (c : Nat) : Nat := (c / 2) ^^^ (if c % 2 = 1 then 3988292384 else 0)
def crcK (c : Nat) : Nat → Nat
 | 0 => c
 | k + 1 => crcBit (crcK c k)
def crcStep (c b : Nat) : Nat := crcK (c ^^^ b) 8
def crcN (l : List Nat) : Nat := l.foldl crcStep 4294967295
def crcF (l : List Nat) : Nat := 4294967295 ^^^ crcN l
theorem xor_lt32 {a b : Nat} (ha : a < 4294967296) (hb : b < 4294967296) : a ^^^ b < 4294967296 := Nat.xor_lt_two_pow (n := 32) ha hb
theorem ofInt32 (a : Nat) : BitVec.ofInt 32 (a : Int) = BitVec.ofNat 32 a := by
 apply BitVec.eq_of_toNat_eq
 simp
theorem wrap32 (n : Nat) (h : n < 4294967296) : IntKind.u32.wrap (n : Int) = n := by
 simp only [IntKind.wrap, IntKind.bits, IntKind.signed]
 simp
 omega
theorem xor_u32 (a b : Nat) (ha : a < 4294967296) (hb : b < 4294967296) : bits .xor .u32 (a : Int) (b : Int) = ((a ^^^ b : Nat) : Int) := by
 unfold bits
 show IntKind.u32.wrap (((BitVec.ofInt 32 (a : Int) ^^^ BitVec.ofInt 32 (b : Int)).toNat : Nat) : Int) = _
 rw [ofInt32, ofInt32, BitVec.toNat_xor, BitVec.toNat_ofNat, BitVec.toNat_ofNat, Nat.mod_eq_of_lt (by omega), Nat.mod_eq_of_lt (by omega), wrap32 _ (xor_lt32 ha hb)]
theorem and_u32 (a b : Nat) (ha : a < 4294967296) (hb : b < 4294967296) : bits .and .u32 (a : Int) (b : Int) = ((a &&& b : Nat) : Int) := by
 unfold bits
 show IntKind.u32.wrap (((BitVec.ofInt 32 (a : Int) &&& BitVec.ofInt 32 (b : Int)).toNat : Nat) : Int) = _
 rw [ofInt32, ofInt32, BitVec.toNat_and, BitVec.toNat_ofNat, BitVec.toNat_ofNat, Nat.mod_eq_of_lt (by omega), Nat.mod_eq_of_lt (by omega), wrap32 _ (Nat.lt_of_le_of_lt Nat.and_le_left ha)]
theorem crc_step {x : Nat} (h : x < 4294967296) : bits .xor .u32 ((x : Int) / 2) (bits .and .u32 3988292384 (-bits .and .u32 (x : Int) 1 % 4294967296)) = ((crcBit x : Nat) : Int) := by
 have e1 : bits .and .u32 (x : Int) 1 = ((x % 2 : Nat) : Int) := by
  have := and_u32 x 1 h (by omega)
  rw [Nat.and_one_is_mod] at this
  exact this
 rw [e1, show ((x : Int) / 2) = ((x / 2 : Nat) : Int) from by simp]
 unfold crcBit
 rcases Nat.mod_two_eq_zero_or_one x with e | e
 ·rw [e, if_neg (by omega)]
  have e2 : bits .and .u32 3988292384 (-((0 : Nat) : Int) % 4294967296) = ((0 : Nat) : Int) := by
   have := and_u32 3988292384 0 (by omega) (by omega)
   simpa using this
  rw [e2]
  exact xor_u32 _ _ (by omega) (by omega)
 rw [e, if_pos rfl]
 have e2 : bits .and .u32 3988292384 (-((1 : Nat) : Int) % 4294967296) = ((3988292384 : Nat) : Int) := by
  have := and_u32 3988292384 4294967295 (by omega) (by omega)
  rw [show (3988292384 &&& 4294967295 : Nat) = 3988292384 from by decide] at this
  exact this
 rw [e2]
 exact xor_u32 _ _ (by omega) (by omega)
theorem crcBit_lt {c : Nat} (h : c < 4294967296) : crcBit c < 4294967296 := by
 unfold crcBit
 refine xor_lt32 (by omega) ?_
 split <;> omega
theorem crcK_lt {c : Nat} (h : c < 4294967296) : ∀ k, crcK c k < 4294967296
 | 0 => h
 | k + 1 => crcBit_lt (crcK_lt h k)
theorem crcStep_lt {c b : Nat} (h : c < 4294967296) (hb : b < 256) : crcStep c b < 4294967296 := crcK_lt (xor_lt32 h (by omega)) 8
theorem crcTo_lt : ∀ (l : List Nat) (c : Nat), c < 4294967296 → (∀ b ∈ l, b < 256) → l.foldl crcStep c < 4294967296
 | [], c, h, _ => h
 | b :: l, c, h, hb => crcTo_lt l _ (crcStep_lt h (hb b (List.mem_cons_self ..))) (fun x hx => hb x (List.mem_cons_of_mem _ hx))
set_option maxRecDepth 100000 in
set_option maxHeartbeats 4000000 in
theorem checksum_any (l : List Nat) (sl : Value) (W : World) (h : Ints No W .u8 sl (natsZ l)) (hb : ∀ b ∈ l, b < 256) :
  Calls Tryz.prog 101 #[sl] W (fun e w' => e = .returned (.int .u32 ((crcF l : Nat) : Int)) ∧ Ext No W w') := by
 have H := Lib.hid h
 have HB := Lib.hid hb
 have hz : (natsZ l).length = l.length := by simp [natsZ]
 obtain ⟨a, c, rfl⟩ := Row.slice h
 have hlen := h.2.1
 rw [hz] at hlen
 rw [hz] at H ⊢
 clear h hb hz
 go_enter Tryz.func101, Tryz.ntmps101
 go_wp2_with fail
 go_loopw [3, 5, 8, 16] (fun s3 _ i _ wr => ∃ k : Nat, k ≤ l.length ∧ i = .int .i64 k ∧ s3 = .int .u32 ((crcN (l.take k) : Nat) : Int) ∧ Hid (Ext No W wr)) (fun _ _ i _ _ => l.length - (intOf i).toNat)
 case atStart => exact ⟨0, Nat.zero_le _, rfl, rfl, Lib.hid (Ext.refl _ _)⟩
 obtain ⟨k, hk, rfl, rfl, hx⟩ := hrel
 rename World => wr
 by_cases hlt : k < l.length
 ·have hlz : (k : Int) < (l.length : Int) := by omega
  have HKK : Hid (Value.int .i64 ((k : Int) + 1) = .int .i64 ((k + 1 : Nat) : Int)) := Lib.hid (by rw [show ((k + 1 : Nat) : Int) = (k : Int) + 1 from by omega])
  obtain ⟨b, hbb⟩ : ∃ b, b = l[k] := ⟨_, rfl⟩
  have hcell : ∃ bo oo ko, (Value.slice a l.length c) = .slice (some ⟨bo, oo, none⟩) l.length ko ∧ W.cell? ⟨bo, oo + k, none⟩ = some (.int .u8 (b : Int)) := by
   have hz : (natsZ l).length = l.length := by simp [natsZ]
   obtain ⟨bo, oo, ko, h1, _, _, h4⟩ := Row.shape H.out (by simp [natsZ]; omega)
   rw [hz] at h1
   exact ⟨bo, oo, ko, h1, by rw [hbb]; exact h4 k _ (by simp [natsZ, hlt])⟩
  obtain ⟨bo, oo, ko, hve, q0⟩ := hcell
  simp only [Value.slice.injEq] at hve
  obtain ⟨rfl, -, rfl⟩ := hve
  replace q0 := hx.out.keep q0
  have hbl : b < 256 := by rw [hbb]; exact HB.out _ (List.getElem_mem hlt)
  obtain ⟨cc, hcc⟩ : ∃ cc, cc = crcN (l.take k) := ⟨_, rfl⟩
  rw [← hcc]
  have hcl : cc < 4294967296 := by rw [hcc]; exact crcTo_lt _ _ (by decide) (fun x hx => HB.out x (List.mem_of_mem_take hx))
  have HST := Lib.hid (show crcN (l.take (k + 1)) = crcStep cc b from by
   rw [hcc, hbb]
   unfold crcN
   rw [List.take_succ_eq_append_getElem hlt, List.foldl_append]; rfl)
  have HX1 := Lib.hid (xor_u32 cc b hcl (by omega))
  obtain ⟨x0, hx0⟩ : ∃ x0, x0 = cc ^^^ b := ⟨_, rfl⟩
  have hx0l : x0 < 4294967296 := by rw [hx0]; exact xor_lt32 hcl (by omega)
  rw [← hx0] at HX1
  have HST2 := Lib.hid (show crcN (l.take (k + 1)) = crcK x0 8 from by rw [HST.out, hx0]; rfl)
  have hxo := HX1.out
  clear hbb hcc hx0
  go_wp2_with fail
  clear hxo
  go_loopw [3, 16] (fun s3 i wy => ∃ j : Nat, j ≤ 8 ∧ i = .int .i64 j ∧ s3 = .int .u32 ((crcK x0 j : Nat) : Int) ∧ Hid (Ext No W wy)) (fun _ i _ => 8 - (intOf i).toNat)
  case atStart => exact ⟨0, Nat.zero_le _, rfl, rfl, hx⟩
  obtain ⟨j, hj, rfl, rfl, hy⟩ := hrel
  rename World => wy
  by_cases hltj : j < 8
  ·have hjz : (j : Int) < 8 := by omega
   have HJJ : Hid (Value.int .i64 ((j : Int) + 1) = .int .i64 ((j + 1 : Nat) : Int)) := Lib.hid (by rw [show ((j + 1 : Nat) : Int) = (j : Int) + 1 from by omega])
   obtain ⟨x, hxx⟩ : ∃ x, x = crcK x0 j := ⟨_, rfl⟩
   have hxl : x < 4294967296 := by rw [hxx]; exact crcK_lt hx0l j
   have HXX := Lib.hid (show crcK x0 (j + 1) = crcBit x from by rw [hxx]; rfl)
   rw [← hxx]
   clear hxx
   have HCS := Lib.hid (crc_step hxl)
   go_wp2_with fail
   go_roundw
   case rel => exact ⟨j + 1, by omega, HJJ.out, by rw [HCS.out, HXX.out], hy⟩
   case measure => simp [intOf]; omega
  have hgej : ¬ (j : Int) < 8 := by omega
  have hj8 : j = 8 := by omega
  have HJ8 := Lib.hid hj8
  clear hj8
  go_wp2_with fail
  go_roundw
  case rel => exact ⟨k + 1, by omega, HKK.out, by rw [HST2.out, HJ8.out], hy⟩
  case measure => simp [intOf]; omega
 have hge : ¬ (k : Int) < (l.length : Int) := by omega
 have hkk : k = l.length := by omega
 have HKE := Lib.hid hkk
 have HXF := Lib.hid (xor_u32 4294967295 (crcN l) (by omega) (crcTo_lt l _ (by decide) HB.out))
 subst hkk
 rw [List.take_length]
 go_wp2_with fail
 go_ret
 exact ⟨by rw [show IntKind.u32.max = (4294967295 : Nat) from rfl, HXF.out]; rfl, hx.out⟩
end Go.Proofs.YtjeohlooaiociaaGreatDoor

namespace Go.Proofs.YtjeohlooaiociaaGreatDoor
open Go Go.RowKit Tj
theorem inI_zero (S : SysD) (n b : Nat) : inI S n b 0 = false := by
 unfold inI
 show (rowD (List.replicate S.deps.length 0) n).testBit b = false
 have e : rowD (List.replicate S.deps.length 0) n = 0 := by
  unfold rowD
  rw [List.getElem?_replicate]
  split <;> rfl
 rw [e, Nat.zero_testBit]
theorem inI_up {S : SysD} (hS : SysOk S) {n b : Nat} : ∀ r, inI S n b r = true → inI S n b (r + 1) = true := fun r h => by
 by_cases hn : n < S.deps.length
 ·exact iter_up hS r n hn b h
 have e : rowD (iterD S r) n = 0 := by
  unfold rowD
  rw [List.getElem?_eq_none (by rw [(good_iter hS r).len]; omega)]; rfl
 unfold inI at h
 rw [e, Nat.zero_testBit] at h
 cases h
theorem inI_le {S : SysD} (hS : SysOk S) {n b r : Nat} (h : inI S n b r = true) : ∀ d, inI S n b (r + d) = true
 | 0 => h
 | d + 1 => inI_up hS _ (inI_le hS h d)
theorem mem_inI {S : SysD} {R n : Nat} {x : Int} : x ∈ memD S (iterD S R) n ↔ ∃ b : Nat, x = b ∧ b < S.w ∧ inI S n b R = true := by
 unfold memD
 rw [membersP_mem]
 rfl
theorem ranks_lt {S : SysD} (hS : SysOk S) {R n i : Nat} (hi : i < (memD S (iterD S R) n).length) : rkI S (iterD S R) n i R < R := by
 have hx := List.getElem_mem hi
 obtain ⟨b, e, hb, hin⟩ := mem_inI.1 hx
 unfold rkI
 rw [show (memD S (iterD S R) n).getD i 0 = ((b : Nat) : Int) from by rw [← e]; simp [hi]]
 exact (rk_mem (inI_zero S n b) (inI_up hS) hin).1
theorem rounds_le {S : SysD} (hS : SysOk S) {R : Nat} (hF : FixAt S R) : R ≤ S.deps.length * S.w := by
 obtain ⟨R2, h1, h2⟩ := fix_ex hS
 have := hF.eq h1.first h1.fix
 omega
end Go.Proofs.YtjeohlooaiociaaGreatDoor

namespace Go.Proofs.YtjeohlooaiociaaGreatDoor
open Go Go.RowKit Tj
theorem ranked_facts {S : SysD} {Lv : LS} {R : LD} {vs : List Nat} (h : AboveL S Lv vs) (k : RankedP Lv R) {n : Nat} (hn : n < S.deps.length) : (rkD R n).length = (memD S vs n).length ∧ ∀ i (hi : i < (rkD R n).length), ¬ RkBad (rkD R n)[i] := by
 have hll : Lv.length = vs.length := by have := congrArg List.length h.1; simpa using this
 have h1 : n < Lv.length := by rw [hll, h.2.1]; exact hn
 have h2 : n < R.length := by rw [← k.1]; exact h1
 have h3 : n < vs.length := by rw [h.2.1]; exact hn
 obtain ⟨w, m, hw', hm, he, hl, hb⟩ := k.2 n h1 h2
 have e1 : Lv[n].1 = setN S.w vs[n] := by
  have := congrArg (fun l => l[n]?) h.1
  simpa [h1, h3] using this
 obtain ⟨e2, e3⟩ := setN_inj2 hm (h.2.2.1 _ (List.getElem_mem h3)) (he.symm.trans e1)
 subst e2
 have e4 : rkD R n = R[n].1 := rkD_get h2
 refine ⟨by rw [e4, hl]; unfold memD; rw [rowD_get h3, ← e3], fun i hi => ?_⟩
 simp only [e4] at hi ⊢
 exact hb i hi
theorem acc_bit {S : SysD} (hS : SysOk S) {R : Nat} (hF : FixAt S R) {Lv : LS} {Rk : LD} {vs : List Nat} (hA : AboveL S Lv vs) (hR : RankedP Lv Rk) (hD : ∀ n, n < S.deps.length → DerP S vs Rk n) :
  ∀ k : Nat, ∀ n, n < S.deps.length → ∀ i (hi : i < (memD S vs n).length) (h2 : i < (rkD Rk n).length), (rkD Rk n)[i] < (k : Int) → ∃ b : Nat, (memD S vs n)[i] = (b : Int) ∧ b < S.w ∧ inI S n b R = true
 | 0, n, hn, i, hi, h2, hlt => by
  have := (ranked_facts hA hR hn).2 i h2
  unfold RkBad at this
  omega
 | k + 1, n, hn, i, hi, h2, hlt => by
  obtain ⟨b, e, hb, _⟩ := membersP_mem.1 (List.getElem_mem hi)
  refine ⟨b, e, hb, ?_⟩
  have hc := hD n hn i hi h2
  have er : rowD (iterD S R) n = rightD S (iterD S R) n := by
   have h3 : iterD S (R + 1) = iterD S R := hF.fix
   have h4 : iterD S (R + 1) = nextTo S (iterD S R) S.deps.length := rfl
   have h5 : rowD (nextTo S (iterD S R) S.deps.length) n = rightD S (iterD S R) n := nextTo_row hn
   rw [← h4, h3] at h5
   exact h5
  unfold inI
  rw [er, right_bit]
  have hz : ∀ m, hasZ S.w m (memD S vs n)[i] = true → m.testBit b = true := fun m h => by
   rw [e] at h
   unfold hasZ at h
   simp only [Bool.and_eq_true] at h
   simpa using h.2
  rcases hc with h | ⟨j, hj, h⟩
  ·exact .inl (hz _ h)
  have hmd := List.getElem_mem hj
  have hmN := hS.dep hmd
  obtain ⟨ho, hw⟩ := hS.tr hmN
  refine .inr ⟨_, hmd, (appT_bit ho (by rw [hw]; exact hb)).2 ?_⟩
  rcases h with h | ⟨i', hi', h2', hlt', hfo⟩
  ·exact .inl (hz _ h)
  obtain ⟨a, ea, ha, hin⟩ := acc_bit hS hF hA hR hD k _ hmN i' hi' h2' (by omega)
  rw [ea, e] at hfo
  unfold followsX at hfo
  simp only [Bool.and_eq_true] at hfo
  exact .inr ⟨a, by rw [hw]; exact ha, hin, hfo.2.2⟩
theorem acc_least {S : SysD} (hS : SysOk S) {R : Nat} (hF : FixAt S R) {Lv : LS} {Rk : LD} {vs : List Nat} (hA : AboveL S Lv vs) (hR : RankedP Lv Rk) (hD : ∀ n, n < S.deps.length → DerP S vs Rk n) : vs = iterD S R := by
 refine LeV.anti ⟨hA.2.1, hA.2.2.1⟩ (good_iter hS R) (fun n hn b hb => ?_) (iter_least hS hA.2.2.2 R)
 have hbw : b < S.w := by
  rcases Nat.lt_or_ge b S.w with h | h
  ·exact h
  have h3 : n < vs.length := by rw [hA.2.1]; exact hn
  have hlt : rowD vs n < 2 ^ S.w := by rw [rowD_get h3]; exact hA.2.2.1 _ (List.getElem_mem h3)
  rw [Nat.testBit_lt_two_pow (Nat.lt_of_lt_of_le hlt (Nat.pow_le_pow_right (by decide) h))] at hb
  cases hb
 have h5 : ((b : Nat) : Int) ∈ memD S vs n := membersP_mem.2 ⟨b, rfl, hbw, hb⟩
 obtain ⟨i, hi, e⟩ := List.mem_iff_getElem.1 h5
 obtain ⟨hl, hp⟩ := ranked_facts hA hR hn
 have h2 : i < (rkD Rk n).length := by rw [hl]; exact hi
 obtain ⟨b', e', _, hin⟩ := acc_bit hS hF hA hR hD ((rkD Rk n)[i].toNat + 1) n hn i hi h2 (by have := hp i h2; unfold RkBad at this; omega)
 have : b' = b := by rw [e] at e'; omega
 rw [this] at hin
 exact hin
end Go.Proofs.YtjeohlooaiociaaGreatDoor

namespace Go.Proofs.YtjeohlooaiociaaGreatDoor
open Go Go.RowKit
theorem pchecksum_any (l : List Nat) (sl : Value) (W : World) (h : Ints No W .u8 sl (natsZ l)) (hb : ∀ b ∈ l, b < 256) :
  Calls Tryz.prog 57 #[sl] W (fun e w' => e = .returned (.int .u32 ((crcF l : Nat) : Int)) ∧ Ext No W w') := by
 go_enter Tryz.func57, Tryz.ntmps57
 go_wp2_with fail
 refine (checksum_any l _ _ h hb).mono ?_
 rintro e w1 ⟨rfl, hx⟩
 go_wp2_with fail
 go_ret
 exact ⟨rfl, hx⟩
theorem open_short (a : Option Addr) (n c : Nat) (hn : n < 4) (W : World) :
  Calls Tryz.prog 69 #[.slice a n c] W (fun e w' => e = .returned (.tuple #[.pointer none, .int .i64 12]) ∧ Ext No W w') := by
 have hnz : (n : Int) < 4 := by omega
 go_enter Tryz.func69, Tryz.ntmps69
 go_wp2_with fail
 refine ret_ex rfl ?_
 simp [results, Tryz.results69, go_sem]
 exact Ext.refl _ _
theorem decode_short (a : Option Addr) (n c : Nat) (hn : n < 4) (W : World) :
  Calls Tryz.prog 29 #[.slice a n c] W (fun e w' => e = .returned (.tuple #[.agg #[.slice none 0 0, .slice none 0 0], .int .i64 12]) ∧ Ext No W w') := by
 go_enter Tryz.func29, Tryz.ntmps29
 go_upto_region 1 with (fail)
 have hx0 : Ext No W (W.alloc (.cells #[.slice none 0 0, .slice none 0 0] 29)) := (Ext.refl _ _).alloc _
 have HA := Lib.hid (alloc_top (w := W) (o := (.cells #[.slice none 0 0, .slice none 0 0] 29)) rfl)
 generalize (W.alloc (.cells #[.slice none 0 0, .slice none 0 0] 29)) = V at *
 go_wp2_with fail
 refine (open_short a n c hn _).mono ?_
 rintro e1 w1 ⟨rfl, hx1⟩
 have hA1 := hx1.blk HA.out no_no
 have cA := cellOf hA1
 have fA := freeOf hA1
 go_wp2_with fail
 have hbF := (set_same (j := 1) (u := .slice none 0 0) (set_same (j := 0) (u := .slice none 0 0) hA1)).trans rfl
 have hE : Ext (At W.heap.size) w1 ((w1.setCell ⟨W.heap.size, 0, none⟩ (.slice none 0 0)).setCell ⟨W.heap.size, 1, none⟩ (.slice none 0 0)) := ((Ext.refl (At W.heap.size) w1).setAt _ _).setAt _ _
 clear cA fA
 generalize ((w1.setCell ⟨W.heap.size, 0, none⟩ (.slice none 0 0)).setCell ⟨W.heap.size, 1, none⟩ (.slice none 0 0)) = WF at *
 have cF := cellOf hbF
 refine ret_ex rfl ?_
 simp [results, Tryz.results29, go_sem, cF]
 exact (hx0.transNo hx1).trans2 hE (fun i hi e => by unfold At at e; omega)
end Go.Proofs.YtjeohlooaiociaaGreatDoor

namespace Go.Proofs.YtjeohlooaiociaaGreatDoor
open Go Go.RowKit Tj
theorem mk_bit {S : SysD} (hS : SysOk S) {R : Nat} {Rk : LD} (hk : ∀ n, n < S.deps.length → rkD Rk n = natsZ ((List.range (memD S (iterD S R) n).length).map fun i => rkI S (iterD S R) n i R)) {n : Nat} (hn : n < S.deps.length) {b : Nat} (hb : b < S.w) (h : inI S n b R = true) :
  ∃ i, ∃ hi : i < (memD S (iterD S R) n).length, ∃ h2 : i < (rkD Rk n).length, (memD S (iterD S R) n)[i] = (b : Int) ∧ (rkD Rk n)[i] = (rkTo S n b R : Nat) := by
 have h5 : ((b : Nat) : Int) ∈ memD S (iterD S R) n := mem_inI.2 ⟨b, rfl, hb, h⟩
 obtain ⟨i, hi, e⟩ := List.mem_iff_getElem.1 h5
 have h2 : i < (rkD Rk n).length := by rw [hk n hn]; simpa [natsZ] using hi
 refine ⟨i, hi, h2, e, ?_⟩
 have e2 : (rkD Rk n)[i] = ((rkI S (iterD S R) n i R : Nat) : Int) := by
  simp only [hk n hn, natsZ]
  simp
 rw [e2]
 unfold rkI
 rw [show (memD S (iterD S R) n).getD i 0 = ((b : Nat) : Int) from by rw [← e]; simp [hi]]
 rfl
theorem mk_acc {S : SysD} (hS : SysOk S) {R : Nat} (hF : FixAt S R) {Rk : LD} (hl : Rk.length = S.deps.length) (hk : ∀ n, n < S.deps.length → rkD Rk n = natsZ ((List.range (memD S (iterD S R) n).length).map fun i => rkI S (iterD S R) n i R))
  {Lv : LS} (hv : Lv.map Prod.fst = (iterD S R).map (setN S.w)) : AccP S Lv Rk := by
 have hG := good_iter hS R
 have hll : Lv.length = S.deps.length := by have := congrArg List.length hv; simpa [hG.len] using this
 have hR := rounds_le hS hF
 have hRB : R ≤ 65536 := Nat.le_trans hR (Nat.le_trans (Nat.mul_le_mul hS.n2 hS.w) (by decide))
 refine ⟨⟨by rw [hll, hl], fun n h1 h2 => ?_⟩, iterD S R, ⟨hv, hG.len, hG.lt, ?_⟩, fun n hn i hi h2 => ?_⟩
 ·have hn : n < S.deps.length := by omega
  have h3 : n < (iterD S R).length := by rw [hG.len]; exact hn
  have e1 : Lv[n].1 = setN S.w (iterD S R)[n] := by
   have := congrArg (fun l => l[n]?) hv
   simpa [h1, h3] using this
  have e4 : Rk[n].1 = natsZ ((List.range (memD S (iterD S R) n).length).map fun i => rkI S (iterD S R) n i R) := by rw [← hk n hn, rkD_get h2]
  refine ⟨S.w, (iterD S R)[n], hS.w, hG.lt _ (List.getElem_mem h3), e1, ?_, fun k hk2 => ?_⟩
  ·rw [e4]
   unfold memD natsZ
   rw [rowD_get h3]; simp
  simp only [e4] at hk2 ⊢
  have hk3 : k < (memD S (iterD S R) n).length := by simpa [natsZ] using hk2
  have := ranks_lt hS hk3
  unfold RkBad natsZ
  simp
  omega
 ·have h3 : nextD S (iterD S R) = iterD S R := hF.fix
  rw [h3]; exact LeV.refl _ _
 obtain ⟨b, e, hb, hin⟩ := mem_inI.1 (List.getElem_mem hi)
 obtain ⟨h5, h6, h7⟩ := rk_mem (inI_zero S n b) (inI_up hS) hin
 have e2 : (rkD Rk n)[i] = ((rkTo S n b R : Nat) : Int) := by
  have e3 : (rkD Rk n)[i] = ((rkI S (iterD S R) n i R : Nat) : Int) := by
   simp only [hk n hn, natsZ]
   simp
  rw [e3]
  unfold rkI
  rw [show (memD S (iterD S R) n).getD i 0 = ((b : Nat) : Int) from by rw [← e]; simp [hi]]
  rfl
 rw [e2, e]
 have h8 : rowD (nextTo S (iterD S (rkTo S n b R)) S.deps.length) n = rightD S (iterD S (rkTo S n b R)) n := nextTo_row hn
 have h9 : (rightD S (iterD S (rkTo S n b R)) n).testBit b = true := by rw [← h8]; exact h6
 have hz : ∀ m, m.testBit b = true → hasZ S.w m (b : Int) = true := fun m h => by
  unfold hasZ inB
  simp [h, hb]
 rcases (right_bit _ _ _ _).1 h9 with h | ⟨m, hm, h⟩
 ·exact .inl (hz _ h)
 obtain ⟨j, hj, ej⟩ := List.mem_iff_getElem.1 hm
 have hmN := hS.dep hm
 obtain ⟨ho, hw⟩ := hS.tr hmN
 refine .inr ⟨j, hj, ?_⟩
 rw [ej]
 rcases (appT_bit ho (by rw [hw]; exact hb)).1 h with h | ⟨a, ha, hta, hf⟩
 ·exact .inl (hz _ h)
 rw [hw] at ha
 have hinR : inI S m a R = true := by
  have := inI_le hS (S := S) (n := m) (b := a) (r := rkTo S n b R) hta (R - rkTo S n b R)
  rwa [show rkTo S n b R + (R - rkTo S n b R) = R from by omega] at this
 obtain ⟨i', hi', h2', e1', e2'⟩ := mk_bit hS hk hmN ha hinR
 refine .inr ⟨i', hi', h2', ?_, ?_⟩
 ·rw [e2']
  have : rkTo S m a R < rkTo S n b R := by
   obtain ⟨g1, g2, g3⟩ := rk_mem (inI_zero S m a) (inI_up hS) hinR
   rcases Nat.lt_or_ge (rkTo S m a R) (rkTo S n b R) with h | h
   ·exact h
   have := inI_le hS (S := S) (n := m) (b := a) (r := rkTo S n b R) hta (rkTo S m a R - rkTo S n b R)
   rw [show rkTo S n b R + (rkTo S m a R - rkTo S n b R) = rkTo S m a R from by omega, g3] at this
   cases this
  omega
 rw [e1']
 unfold followsX inB
 simp [hw, ha, hb, hf]

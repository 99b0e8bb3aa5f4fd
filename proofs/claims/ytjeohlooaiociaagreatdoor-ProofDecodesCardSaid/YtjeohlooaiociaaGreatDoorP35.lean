
import Derived.Test.YtjeohlooaiociaaGreatDoorP34
set_option linter.unusedVariables false
set_option linter.unusedSimpArgs false
namespace Go.Proofs.YtjeohlooaiociaaGreatDoor
open Go Go.RowKit
def rdGo (most : Nat) : Nat → Nat → Nat → Option (List Nat) → Nat × Option (List Nat)
 | 0, _, _, _ => (0, none)
 | _ + 1, _, _, none => (0, none)
 | _ + 1, _, _, some [] => (0, none)
 | f + 1, k, n, some (c :: r) => if c < 128 then (if (c = 0 ∧ 0 < k) ∨ most < n + c * 128 ^ k then (0, none) else (n + c * 128 ^ k, some r)) else rdGo most f (k + 1) (n + (c - 128) * 128 ^ k) (some r)
def rdNum (most : Nat) (st : Option (List Nat)) : Nat × Option (List Nat) := rdGo most 5 0 0 st
def rdSt (l : List Nat) (at1 : Nat) (bad : Bool) : Option (List Nat) := if bad then none else some (l.drop at1)
def RdM (w : World) (E : Nat) (sl : Value) (l : List Nat) (st : Option (List Nat)) : Prop :=
 ∃ (at1 : Nat) (bad : Bool), w.heap[E]? = some (.cells #[sl, .int .i64 (at1 : Int), .bool bad] 126 (0, 0)) ∧ at1 ≤ l.length ∧ st = rdSt l at1 bad
def RdPost (E : Nat) (sl : Value) (l : List Nat) (r : Nat × Option (List Nat)) (W : World) (e : Ending) (w' : World) : Prop :=
 e = .returned (.int .i64 (r.1 : Int)) ∧ RdM w' E sl l r.2 ∧ Ext (At E) W w'
set_option maxRecDepth 100000 in
theorem len64_c (w : World) : Calls Tryz.prog 131 #[.int .u64 1073741824] w fun e w' => e = .returned (.int .i64 31) ∧ w' = w := by
 go_enter Tryz.func131, Tryz.ntmps131
 go_wp2_with fail
 go_ret
 exact ⟨by kernel_rfl, rfl⟩
theorem len_c (w : World) : Calls Tryz.prog 106 #[.int .u64 1073741824] w fun e w' => e = .returned (.int .i64 31) ∧ w' = w := by
 go_enter Tryz.func106, Tryz.ntmps106
 go_wp2_with fail
 refine (len64_c _).mono ?_
 rintro e w' ⟨rfl, hw⟩
 rw [hw]
 go_wp2_with fail
 go_ret
 exact ⟨rfl, rfl⟩
theorem ints_u8 {M : Nat → Prop} {w : World} {sl : Value} {l : List Nat} (h : Ints M w .u8 sl (natsZ l)) {k : Nat} (hk : k < l.length) : ∃ bo oo ko, sl = .slice (some ⟨bo, oo, none⟩) l.length ko ∧ ∀ j (hj : j < l.length), w.cell? ⟨bo, oo + j, none⟩ = some (.int .u8 (l[j] : Int)) := by
 have hz : (natsZ l).length = l.length := by simp [natsZ]
 obtain ⟨bo, oo, ko, h1, _, _, h4⟩ := Row.shape h (by simp [natsZ]; omega)
 rw [hz] at h1
 exact ⟨bo, oo, ko, h1, fun j hj => h4 j _ (by simp [natsZ, hj])⟩
theorem RdM.box {w : World} {E : Nat} {sl : Value} {l : List Nat} {st : Option (List Nat)} (h : RdM w E sl l st) : E < w.heap.size := by
 obtain ⟨_, _, h, -, -⟩ := h
 exact lt_of_block h
theorem andnot_bytes : ((List.range 256).all fun a => bits .andNot .u8 ((a : Nat) : Int) 128 == ((a % 128 : Nat) : Int)) = true := by kernel_rfl
theorem andnot_byte (c : Nat) (hc : c < 256) : bits .andNot .u8 (c : Int) 128 = ((c % 128 : Nat) : Int) := eq_of_beq (List.all_eq_true.1 andnot_bytes c (List.mem_range.2 hc))
theorem or_i64 (a b : Nat) (ha : a < 34359738368) (hb : b < 34359738368) (hab : a ||| b < 34359738368) : bits .or .i64 (a : Int) (b : Int) = ((a ||| b : Nat) : Int) := by
 unfold bits
 show IntKind.i64.wrap (((BitVec.ofInt 64 (a : Int) ||| BitVec.ofInt 64 (b : Int)).toNat : Nat) : Int) = _
 rw [ofInt64n, ofInt64n, BitVec.toNat_or, BitVec.toNat_ofNat, BitVec.toNat_ofNat, Nat.mod_eq_of_lt (by omega), Nat.mod_eq_of_lt (by omega)]
 exact IntWalk.i64_in _ (by omega)
theorem num_lt {n c k : Nat} (hn : n < 128 ^ k) : n + c % 128 * 128 ^ k < 128 ^ (k + 1) := by
 have h1 : c % 128 ≤ 127 := by omega
 have h2 := Nat.mul_le_mul_right (128 ^ k) h1
 rw [Nat.pow_succ]; omega
theorem num_or (n c k : Nat) (hn : n < 128 ^ k) (hc : c < 256) (hk : k < 5) : bits .or .i64 (n : Int) (wrap64 (wrap64 (bits .andNot .u8 (c : Int) 128) * 2 ^ (7 * k))) = ((n + c % 128 * 128 ^ k : Nat) : Int) := by
 have h1 : (128 : Nat) ^ k ≤ 128 ^ 4 := Nat.pow_le_pow_right (by decide) (by omega)
 have h2 : (128 : Nat) ^ (k + 1) ≤ 128 ^ 5 := Nat.pow_le_pow_right (by decide) (by omega)
 have h3 : (128 : Nat) ^ 4 = 268435456 := rfl
 have h4 : (128 : Nat) ^ 5 = 34359738368 := rfl
 have hlt := num_lt (c := c) hn
 have e : (128 : Nat) ^ k = 2 ^ (7 * k) := by rw [Nat.pow_mul]
 rw [andnot_byte c hc, show wrap64 ((c % 128 : Nat) : Int) = ((c % 128 : Nat) : Int) from by unfold wrap64; omega]
 have e2 : ((c % 128 : Nat) : Int) * 2 ^ (7 * k) = ((c % 128 * 128 ^ k : Nat) : Int) := by rw [e]; simp
 have e3 : n ||| c % 128 * 128 ^ k = n + c % 128 * 128 ^ k := by
  rw [e, ← Nat.shiftLeft_eq, Nat.or_comm, ← Nat.shiftLeft_add_eq_or_of_lt (by rw [← e]; exact hn), Nat.add_comm]
 rw [e2]
 generalize c % 128 * 128 ^ k = x at *
 rw [show wrap64 ((x : Nat) : Int) = (x : Int) from by unfold wrap64; omega, or_i64 n x (by omega) (by omega) (by omega), e3]
theorem rd_set1 {E a : Nat} {b : Bool} {wr : World} {sl : Value} (n : Nat) (h : wr.heap[E]? = some (.cells #[sl, .int .i64 (a : Int), .bool b] 126 (0, 0))) :
  ((wr.drewN n).setCell ⟨E, 1, none⟩ (.int .i64 ((a : Int) + 1))).heap[E]? = some (.cells #[sl, .int .i64 ((a + 1 : Nat) : Int), .bool b] 126 (0, 0)) :=
 (set_same (j := 1) (show (wr.drewN n).heap[E]? = _ from h)).trans (by rw [show ((a + 1 : Nat) : Int) = (a : Int) + 1 from by omega]; rfl)
theorem rd_fin {E a : Nat} {b c : Bool} {wr : World} {sl : Value} {l : List Nat} (n : Nat) (h : wr.heap[E]? = some (.cells #[sl, .int .i64 (a : Int), .bool b] 126 (0, 0))) (ha : a < l.length) :
  RdM (((wr.drewN n).setCell ⟨E, 1, none⟩ (.int .i64 ((a : Int) + 1))).setCell ⟨E, 2, none⟩ (.bool c)) E sl l (rdSt l (a + 1) c) :=
 ⟨a + 1, c, (set_same (j := 2) (rd_set1 n h)).trans rfl, ha, rfl⟩
theorem rd_ext {E n : Nat} {W wr : World} {u v : Value} (h : Ext (At E) W wr) : Ext (At E) W (((wr.drewN n).setCell ⟨E, 1, none⟩ u).setCell ⟨E, 2, none⟩ v) := h.trans2 ((((Ext.refl (At E) wr).drewN n).setAt _ _).setAt _ _) (fun _ _ e => e)
set_option maxRecDepth 100000 in
set_option maxHeartbeats 4000000 in
theorem number_any (M : Nat → Prop) (E most : Nat) (sl : Value) (l : List Nat) (st : Option (List Nat)) (W : World) (h : RdM W E sl l st) (hl : Ints M W .u8 sl (natsZ l)) (hM : M E) (hb : ∀ x ∈ l, x < 256) (hl2 : l.length ≤ 1099511627776) (hm : most < 1099511627776) :
  Calls Tryz.prog 70 #[.pointer (some ⟨E, 0, none⟩), .int .i64 (most : Int)] W (RdPost E sl l (rdNum most st) W) := by
 have HL := Lib.hid hl
 have HB := Lib.hid hb
 have HM := Lib.hid hM
 obtain ⟨a0, c0, rfl⟩ : ∃ a c, sl = .slice a l.length c := by
  obtain ⟨_, _, a, c, rfl, _, _⟩ := hl
  exact ⟨a, c, by simp [natsZ]⟩
 obtain ⟨at0, bad0, hbx0, hat0, hst0⟩ := h
 clear hl hb hM
 go_enter Tryz.func70, Tryz.ntmps70
 go_wp2_with fail
 refine (len_c _).mono ?_
 rintro e0 w0 ⟨rfl, hw⟩
 rw [hw]
 clear hw
 go_wp2_with fail
 go_loopw [5, 11] (fun s5 s11 wr => ∃ (k n at1 : Nat) (bad : Bool), k ≤ 5 ∧ n < 128 ^ k ∧ at1 ≤ l.length ∧ s11 = .int .i64 (k : Int) ∧ s5 = .int .i64 (n : Int) ∧ Hid (wr.heap[E]? = some (.cells #[.slice a0 l.length c0, .int .i64 (at1 : Int), .bool bad] 126 (0, 0))) ∧ Hid (Ext (At E) W wr) ∧ Hid (rdNum most st = rdGo most (5 - k) k n (rdSt l at1 bad))) (fun _ s11 _ => 5 - (intOf s11).toNat)
 case atStart => exact ⟨0, 0, at0, bad0, by omega, by omega, hat0, rfl, rfl, Lib.hid hbx0, Lib.hid (Ext.refl _ _), Lib.hid (by rw [hst0]; rfl)⟩
 obtain ⟨k, n, at1, bad, hk, hn, hat, rfl, rfl, hbx, hx, heq⟩ := hrel
 rename World => wr
 clear hbx0 hat0 hst0
 by_cases hk5 : k < 5
 ·have hkz : (k : Int) < 5 := by omega
  have cE := cellOf hbx.out
  have fE := freeOf hbx.out
  cases hbd : bad with
  | true =>
   subst hbd
   go_wp2_with (go_quiet (fail))
   go_ret
   clear cE fE
   refine ⟨by rw [heq.out, show 5 - k = (4 - k) + 1 by omega]; rfl, ⟨at1, true, (set_same (j := 2) hbx.out).trans rfl, hat, ?_⟩, hx.out.trans2 (((Ext.refl (At E) wr).drewN _).setAt _ _) (fun i _ e => e)⟩
   rw [heq.out, show 5 - k = (4 - k) + 1 by omega]; rfl
  | false =>
   subst hbd
   by_cases hae : at1 = l.length
   ·have haz : (at1 : Int) = (l.length : Int) := by omega
    go_wp2_with (go_quiet (fail))
    go_ret
    clear cE fE
    have e9 : rdNum most st = (0, none) := by
     rw [heq.out, show 5 - k = (4 - k) + 1 by omega, hae]
     simp [rdSt, rdGo]
    rw [e9]
    exact ⟨rfl, ⟨at1, true, (set_same (j := 2) hbx.out).trans rfl, hat, rfl⟩, hx.out.trans2 (((Ext.refl (At E) wr).drewN _).setAt _ _) (fun i _ e => e)⟩
   have haz : ¬ (at1 : Int) = (l.length : Int) := by omega
   have hlt : at1 < l.length := by omega
   obtain ⟨bi, oi, ki, hie, hci⟩ := ints_u8 (show Ints M wr .u8 (.slice a0 l.length c0) (natsZ l) from Row.ext HL.out hx.out (fun b _ e => by rw [show b = E from e]; exact HM.out)) hlt
   simp only [Value.slice.injEq] at hie
   obtain ⟨rfl, -, -⟩ := hie
   have q0 := hci at1 hlt
   obtain ⟨c, hc⟩ : ∃ c, c = l[at1] := ⟨_, rfl⟩
   have hcb : c < 256 := by rw [hc]; exact HB.out _ (List.getElem_mem hlt)
   have HDR := Lib.hid (show l.drop at1 = c :: l.drop (at1 + 1) from by rw [hc]; exact List.drop_eq_getElem_cons hlt)
   rw [← hc] at q0
   clear hci hc
   have hv := num_or n c k hn hcb hk5
   have HVL := Lib.hid (num_lt (c := c) hn)
   obtain ⟨v, hvd⟩ : ∃ v, v = n + c % 128 * 128 ^ k := ⟨_, rfl⟩
   rw [← hvd] at hv HVL
   have HVD := Lib.hid hvd
   clear hvd
   have HGO := Lib.hid (show rdNum most st = rdGo most ((4 - k) + 1) k n (some (c :: l.drop (at1 + 1))) from by rw [heq.out, show 5 - k = (4 - k) + 1 by omega, ← HDR.out]; rfl)
   clear heq
   by_cases h128 : c < 128
   ·have h128z : (c : Int) < 128 := by omega
    have HV2 := Lib.hid (show v = n + c * 128 ^ k from by rw [HVD.out, Nat.mod_eq_of_lt h128])
    by_cases hbad : (c = 0 ∧ 0 < k) ∨ most < v
    ·have HR := Lib.hid (show rdNum most st = (0, none) from by
      rw [HGO.out, rdGo, if_pos h128, if_pos (by rw [← HV2.out]; exact hbad)])
     clear hn
     by_cases hc0 : c = 0
     ·by_cases hk0 : 0 < k
      ·have hk0z : (0 : Int) < (k : Int) := by omega
       subst hc0
       go_wp2_with (go_quiet (fail))
       go_ret
       rw [HR.out]
       exact ⟨rfl, rd_fin _ hbx.out hlt, rd_ext hx.out⟩
      obtain rfl : k = 0 := by omega
      have hmv : (most : Int) < (v : Int) := by omega
      subst hc0
      have hv' : bits .or .i64 (n : Int) (wrap64 (wrap64 (bits .andNot .u8 0 128))) = (v : Int) := by simpa using hv
      go_wp2_with (go_quiet (fail))
      go_ret
      rw [HR.out]
      exact ⟨rfl, rd_fin _ hbx.out hlt, rd_ext hx.out⟩
     have hc0z : ¬ (c : Int) = 0 := by omega
     have hmv : (most : Int) < (v : Int) := by omega
     go_wp2_with (go_quiet (fail))
     go_ret
     rw [HR.out]
     exact ⟨rfl, rd_fin _ hbx.out hlt, rd_ext hx.out⟩
    have HR := Lib.hid (show rdNum most st = (v, some (l.drop (at1 + 1))) from by
     rw [HGO.out, rdGo, if_pos h128, if_neg (by rw [← HV2.out]; exact hbad), ← HV2.out])
    have hmv : ¬ (most : Int) < (v : Int) := by omega
    clear hn
    by_cases hc0 : c = 0
    ·obtain rfl : k = 0 := by omega
     subst hc0
     have hv' : bits .or .i64 (n : Int) (wrap64 (wrap64 (bits .andNot .u8 0 128))) = (v : Int) := by simpa using hv
     go_wp2_with (go_quiet (fail))
     go_ret
     rw [HR.out]
     exact ⟨rfl, rd_fin _ hbx.out hlt, rd_ext hx.out⟩
    have hc0z : ¬ (c : Int) = 0 := by omega
    go_wp2_with (go_quiet (fail))
    go_ret
    rw [HR.out]
    exact ⟨rfl, rd_fin _ hbx.out hlt, rd_ext hx.out⟩
   have h128z : ¬ (c : Int) < 128 := by omega
   have HR := Lib.hid (show rdNum most st = rdGo most (5 - (k + 1)) (k + 1) v (rdSt l (at1 + 1) false) from by
    rw [HGO.out, rdGo, if_neg h128, HVD.out, show c % 128 = c - 128 by omega, show 5 - (k + 1) = 4 - k by omega]; rfl)
   have HKK : Hid (Value.int .i64 ((k : Int) + 1) = .int .i64 ((k + 1 : Nat) : Int)) := Lib.hid (by rw [show ((k + 1 : Nat) : Int) = (k : Int) + 1 from by omega])
   clear hn
   go_wp2_with (go_quiet (fail))
   go_roundw
   case rel => exact ⟨k + 1, v, at1 + 1, false, by omega, HVL.out, hlt, HKK.out, rfl, Lib.hid (rd_set1 _ hbx.out), Lib.hid (hx.out.trans2 (((Ext.refl (At E) wr).drewN _).setAt _ _) (fun _ _ e => e)), HR⟩
   case measure => simp [intOf]; omega
 have hkz : ¬ (k : Int) < 5 := by omega
 have cE := cellOf hbx.out
 have fE := freeOf hbx.out
 go_wp2_with fail
 go_ret
 clear cE fE
 have e9 : rdNum most st = (0, none) := by
  rw [heq.out, show 5 - k = 0 by omega]; rfl
 rw [e9]
 exact ⟨rfl, ⟨at1, true, (set_same (j := 2) hbx.out).trans rfl, hat, rfl⟩, hx.out.trans2 ((Ext.refl (At E) wr).setAt _ _) (fun i _ e => e)⟩

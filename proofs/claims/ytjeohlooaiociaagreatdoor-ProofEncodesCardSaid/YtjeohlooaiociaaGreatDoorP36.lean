
import Derived.Test.YtjeohlooaiociaaGreatDoorP34
set_option linter.unusedVariables false
set_option linter.unusedSimpArgs false
namespace Go.Proofs.YtjeohlooaiociaaGreatDoor
open Go Go.RowKit
def rdGo (most : Nat) : Nat → Nat → Nat → Option (List Nat) → Nat × Option (List Nat)
 | 0, _, _, _ => (0, none)
 | _ + 1, _, _, none => (0, none)
 | _ + 1, _, _, some [] => (0, none)
 | f + 1, k, n, some (c :: r) => if c < 128 then (if (c = 0 ∧ 0 < k) ∨ most < n + c * 128 ^ k then (0, none) else (n + c * 128 ^ k, some r)) else rdGo most f (k + 1) (n + (c - 128) * 128 ^ k) (some r)
def rdNum (most : Nat) (st : Option (List Nat)) : Nat × Option (List Nat) := rdGo most 5 0 0 st
def rdSt (l : List Nat) (at1 : Nat) (bad : Bool) : Option (List Nat) := if bad then none else some (l.drop at1)
def RdM (w : World) (E : Nat) (sl : Value) (l : List Nat) (st : Option (List Nat)) : Prop :=
 ∃ (at1 : Nat) (bad : Bool), w.heap[E]? = some (.cells #[sl, .int .i64 (at1 : Int), .bool bad] 126 (0, 0)) ∧ at1 ≤ l.length ∧ st = rdSt l at1 bad
def RdPost (E : Nat) (sl : Value) (l : List Nat) (r : Nat × Option (List Nat)) (W : World) (e : Ending) (w' : World) : Prop :=
 e = .returned (.int .i64 (r.1 : Int)) ∧ RdM w' E sl l r.2 ∧ Ext (At E) W w'
set_option maxRecDepth 100000 in
theorem len64_c (w : World) : Calls Tryz.prog 131 #[.int .u64 1073741824] w fun e w' => e = .returned (.int .i64 31) ∧ w' = w := by
 go_enter Tryz.func131, Tryz.ntmps131
 go_wp2_with fail
 go_ret
 exact ⟨by kernel_rfl, rfl⟩
theorem len_c (w : World) : Calls Tryz.prog 106 #[.int .u64 1073741824] w fun e w' => e = .returned (.int .i64 31) ∧ w' = w := by
 go_enter Tryz.func106, Tryz.ntmps106
 go_wp2_with fail
 refine (len64_c _).mono ?_
 rintro e w' ⟨rfl, hw⟩
 rw [hw]
 go_wp2_with fail
 go_ret
 exact ⟨rfl, rfl⟩
theorem ints_u8 {M : Nat → Prop} {w : World} {sl : Value} {l : List Nat} (h : Ints M w .u8 sl (natsZ l)) {k : Nat} (hk : k < l.length) : ∃ bo oo ko, sl = .slice (some ⟨bo, oo, none⟩) l.length ko ∧ ∀ j (hj : j < l.length), w.cell? ⟨bo, oo + j, none⟩ = some (.int .u8 (l[j] : Int)) := by
 have hz : (natsZ l).length = l.length := by simp [natsZ]
 obtain ⟨bo, oo, ko, h1, _, _, h4⟩ := Row.shape h (by simp [natsZ]; omega)
 rw [hz] at h1
 exact ⟨bo, oo, ko, h1, fun j hj => h4 j _ (by simp [natsZ, hj])⟩
theorem RdM.box {w : World} {E : Nat} {sl : Value} {l : List Nat} {st : Option (List Nat)} (h : RdM w E sl l st) : E < w.heap.size := by
 obtain ⟨_, _, h, -, -⟩ := h
 exact lt_of_block h
theorem andnot_bytes : ((List.range 256).all fun a => bits .andNot .u8 ((a : Nat) : Int) 128 == ((a % 128 : Nat) : Int)) = true := by kernel_rfl
theorem andnot_byte (c : Nat) (hc : c < 256) : bits .andNot .u8 (c : Int) 128 = ((c % 128 : Nat) : Int) := eq_of_beq (List.all_eq_true.1 andnot_bytes c (List.mem_range.2 hc))
theorem or_i64 (a b : Nat) (ha : a < 34359738368) (hb : b < 34359738368) (hab : a ||| b < 34359738368) : bits .or .i64 (a : Int) (b : Int) = ((a ||| b : Nat) : Int) := by
 unfold bits
 show IntKind.i64.wrap (((BitVec.ofInt 64 (a : Int) ||| BitVec.ofInt 64 (b : Int)).toNat : Nat) : Int) = _
 rw [ofInt64n, ofInt64n, BitVec.toNat_or, BitVec.toNat_ofNat, BitVec.toNat_ofNat, Nat.mod_eq_of_lt (by omega), Nat.mod_eq_of_lt (by omega)]
 exact IntWalk.i64_in _ (by omega)
theorem num_lt {n c k : Nat} (hn : n < 128 ^ k) : n + c % 128 * 128 ^ k < 128 ^ (k + 1) := by
 have h1 : c % 128 ≤ 127 := by omega
 have h2 := Nat.mul_le_mul_right (128 ^ k) h1
 rw [Nat.pow_succ]; omega
theorem num_or (n c k : Nat) (hn : n < 128 ^ k) (hc : c < 256) (hk : k < 5) : bits .or .i64 (n : Int) (wrap64 (wrap64 (bits .andNot .u8 (c : Int) 128) * 2 ^ (7 * k))) = ((n + c % 128 * 128 ^ k : Nat) : Int) := by
 have h1 : (128 : Nat) ^ k ≤ 128 ^ 4 := Nat.pow_le_pow_right (by decide) (by omega)
 have h2 : (128 : Nat) ^ (k + 1) ≤ 128 ^ 5 := Nat.pow_le_pow_right (by decide) (by omega)
 have h3 : (128 : Nat) ^ 4 = 268435456 := rfl
 have h4 : (128 : Nat) ^ 5 = 34359738368 := rfl
 have hlt := num_lt (c := c) hn
 have e : (128 : Nat) ^ k = 2 ^ (7 * k) := by rw [Nat.pow_mul]
 rw [andnot_byte c hc, show wrap64 ((c % 128 : Nat) : Int) = ((c % 128 : Nat) : Int) from by unfold wrap64; omega]
 have e2 : ((c % 128 : Nat) : Int) * 2 ^ (7 * k) = ((c % 128 * 128 ^ k : Nat) : Int) := by rw [e]; simp
 have e3 : n ||| c % 128 * 128 ^ k = n + c % 128 * 128 ^ k := by
  rw [e, ← Nat.shiftLeft_eq, Nat.or_comm, ← Nat.shiftLeft_add_eq_or_of_lt (by rw [← e]; exact hn), Nat.add_comm]
 rw [e2]
 generalize c % 128 * 128 ^ k = x at *
 rw [show wrap64 ((x : Nat) : Int) = (x : Int) from by unfold wrap64; omega, or_i64 n x (by omega) (by omega) (by omega), e3]
theorem rd_set1 {E a : Nat} {b : Bool} {wr : World} {sl : Value} (n : Nat) (h : wr.heap[E]? = some (.cells #[sl, .int .i64 (a : Int), .bool b] 126 (0, 0))) :
  ((wr.drewN n).setCell ⟨E, 1, none⟩ (.int .i64 ((a : Int) + 1))).heap[E]? = some (.cells #[sl, .int .i64 ((a + 1 : Nat) : Int), .bool b] 126 (0, 0)) :=
 (set_same (j := 1) (show (wr.drewN n).heap[E]? = _ from h)).trans (by rw [show ((a + 1 : Nat) : Int) = (a : Int) + 1 from by omega]; rfl)
theorem rd_fin {E a : Nat} {b c : Bool} {wr : World} {sl : Value} {l : List Nat} (n : Nat) (h : wr.heap[E]? = some (.cells #[sl, .int .i64 (a : Int), .bool b] 126 (0, 0))) (ha : a < l.length) :
  RdM (((wr.drewN n).setCell ⟨E, 1, none⟩ (.int .i64 ((a : Int) + 1))).setCell ⟨E, 2, none⟩ (.bool c)) E sl l (rdSt l (a + 1) c) :=
 ⟨a + 1, c, (set_same (j := 2) (rd_set1 n h)).trans rfl, ha, rfl⟩
theorem rd_ext {E n : Nat} {W wr : World} {u v : Value} (h : Ext (At E) W wr) : Ext (At E) W (((wr.drewN n).setCell ⟨E, 1, none⟩ u).setCell ⟨E, 2, none⟩ v) := h.trans2 ((((Ext.refl (At E) wr).drewN n).setAt _ _).setAt _ _) (fun _ _ e => e)
set_option maxRecDepth 100000 in
set_option maxHeartbeats 4000000 in
theorem number_any (M : Nat → Prop) (E most : Nat) (sl : Value) (l : List Nat) (st : Option (List Nat)) (W : World) (h : RdM W E sl l st) (hl : Ints M W .u8 sl (natsZ l)) (hM : M E) (hb : ∀ x ∈ l, x < 256) (hl2 : l.length ≤ 1099511627776) (hm : most < 1099511627776) :
  Calls Tryz.prog 70 #[.pointer (some ⟨E, 0, none⟩), .int .i64 (most : Int)] W (RdPost E sl l (rdNum most st) W) := by
 have HL := Lib.hid hl
 have HB := Lib.hid hb
 have HM := Lib.hid hM
 obtain ⟨a0, c0, rfl⟩ : ∃ a c, sl = .slice a l.length c := by
  obtain ⟨_, _, a, c, rfl, _, _⟩ := hl
  exact ⟨a, c, by simp [natsZ]⟩
 obtain ⟨at0, bad0, hbx0, hat0, hst0⟩ := h
 clear hl hb hM
 go_enter Tryz.func70, Tryz.ntmps70
 go_wp2_with fail
 refine (len_c _).mono ?_
 rintro e0 w0 ⟨rfl, hw⟩
 rw [hw]
 clear hw
 go_wp2_with fail
 go_loopw [5, 11] (fun s5 s11 wr => ∃ (k n at1 : Nat) (bad : Bool), k ≤ 5 ∧ n < 128 ^ k ∧ at1 ≤ l.length ∧ s11 = .int .i64 (k : Int) ∧ s5 = .int .i64 (n : Int) ∧ Hid (wr.heap[E]? = some (.cells #[.slice a0 l.length c0, .int .i64 (at1 : Int), .bool bad] 126 (0, 0))) ∧ Hid (Ext (At E) W wr) ∧ Hid (rdNum most st = rdGo most (5 - k) k n (rdSt l at1 bad))) (fun _ s11 _ => 5 - (intOf s11).toNat)
 case atStart => exact ⟨0, 0, at0, bad0, by omega, by omega, hat0, rfl, rfl, Lib.hid hbx0, Lib.hid (Ext.refl _ _), Lib.hid (by rw [hst0]; rfl)⟩
 obtain ⟨k, n, at1, bad, hk, hn, hat, rfl, rfl, hbx, hx, heq⟩ := hrel
 rename World => wr
 clear hbx0 hat0 hst0
 by_cases hk5 : k < 5
 ·have hkz : (k : Int) < 5 := by omega
  have cE := cellOf hbx.out
  have fE := freeOf hbx.out
  cases hbd : bad with
  | true =>
   subst hbd
   go_wp2_with (go_quiet (fail))
   go_ret
   clear cE fE
   refine ⟨by rw [heq.out, show 5 - k = (4 - k) + 1 by omega]; rfl, ⟨at1, true, (set_same (j := 2) hbx.out).trans rfl, hat, ?_⟩, hx.out.trans2 (((Ext.refl (At E) wr).drewN _).setAt _ _) (fun i _ e => e)⟩
   rw [heq.out, show 5 - k = (4 - k) + 1 by omega]; rfl
  | false =>
   subst hbd
   by_cases hae : at1 = l.length
   ·have haz : (at1 : Int) = (l.length : Int) := by omega
    go_wp2_with (go_quiet (fail))
    go_ret
    clear cE fE
    have e9 : rdNum most st = (0, none) := by
     rw [heq.out, show 5 - k = (4 - k) + 1 by omega, hae]
     simp [rdSt, rdGo]
    rw [e9]
    exact ⟨rfl, ⟨at1, true, (set_same (j := 2) hbx.out).trans rfl, hat, rfl⟩, hx.out.trans2 (((Ext.refl (At E) wr).drewN _).setAt _ _) (fun i _ e => e)⟩
   have haz : ¬ (at1 : Int) = (l.length : Int) := by omega
   have hlt : at1 < l.length := by omega
   obtain ⟨bi, oi, ki, hie, hci⟩ := ints_u8 (show Ints M wr .u8 (.slice a0 l.length c0) (natsZ l) from Row.ext HL.out hx.out (fun b _ e => by rw [show b = E from e]; exact HM.out)) hlt
   simp only [Value.slice.injEq] at hie
   obtain ⟨rfl, -, -⟩ := hie
   have q0 := hci at1 hlt
   obtain ⟨c, hc⟩ : ∃ c, c = l[at1] := ⟨_, rfl⟩
   have hcb : c < 256 := by rw [hc]; exact HB.out _ (List.getElem_mem hlt)
   have HDR := Lib.hid (show l.drop at1 = c :: l.drop (at1 + 1) from by rw [hc]; exact List.drop_eq_getElem_cons hlt)
   rw [← hc] at q0
   clear hci hc
   have hv := num_or n c k hn hcb hk5
   have HVL := Lib.hid (num_lt (c := c) hn)
   obtain ⟨v, hvd⟩ : ∃ v, v = n + c % 128 * 128 ^ k := ⟨_, rfl⟩
   rw [← hvd] at hv HVL
   have HVD := Lib.hid hvd
   clear hvd
   have HGO := Lib.hid (show rdNum most st = rdGo most ((4 - k) + 1) k n (some (c :: l.drop (at1 + 1))) from by rw [heq.out, show 5 - k = (4 - k) + 1 by omega, ← HDR.out]; rfl)
   clear heq
   by_cases h128 : c < 128
   ·have h128z : (c : Int) < 128 := by omega
    have HV2 := Lib.hid (show v = n + c * 128 ^ k from by rw [HVD.out, Nat.mod_eq_of_lt h128])
    by_cases hbad : (c = 0 ∧ 0 < k) ∨ most < v
    ·have HR := Lib.hid (show rdNum most st = (0, none) from by
      rw [HGO.out, rdGo, if_pos h128, if_pos (by rw [← HV2.out]; exact hbad)])
     clear hn
     by_cases hc0 : c = 0
     ·by_cases hk0 : 0 < k
      ·have hk0z : (0 : Int) < (k : Int) := by omega
       subst hc0
       go_wp2_with (go_quiet (fail))
       go_ret
       rw [HR.out]
       exact ⟨rfl, rd_fin _ hbx.out hlt, rd_ext hx.out⟩
      obtain rfl : k = 0 := by omega
      have hmv : (most : Int) < (v : Int) := by omega
      subst hc0
      have hv' : bits .or .i64 (n : Int) (wrap64 (wrap64 (bits .andNot .u8 0 128))) = (v : Int) := by simpa using hv
      go_wp2_with (go_quiet (fail))
      go_ret
      rw [HR.out]
      exact ⟨rfl, rd_fin _ hbx.out hlt, rd_ext hx.out⟩
     have hc0z : ¬ (c : Int) = 0 := by omega
     have hmv : (most : Int) < (v : Int) := by omega
     go_wp2_with (go_quiet (fail))
     go_ret
     rw [HR.out]
     exact ⟨rfl, rd_fin _ hbx.out hlt, rd_ext hx.out⟩
    have HR := Lib.hid (show rdNum most st = (v, some (l.drop (at1 + 1))) from by
     rw [HGO.out, rdGo, if_pos h128, if_neg (by rw [← HV2.out]; exact hbad), ← HV2.out])
    have hmv : ¬ (most : Int) < (v : Int) := by omega
    clear hn
    by_cases hc0 : c = 0
    ·obtain rfl : k = 0 := by omega
     subst hc0
     have hv' : bits .or .i64 (n : Int) (wrap64 (wrap64 (bits .andNot .u8 0 128))) = (v : Int) := by simpa using hv
     go_wp2_with (go_quiet (fail))
     go_ret
     rw [HR.out]
     exact ⟨rfl, rd_fin _ hbx.out hlt, rd_ext hx.out⟩
    have hc0z : ¬ (c : Int) = 0 := by omega
    go_wp2_with (go_quiet (fail))
    go_ret
    rw [HR.out]
    exact ⟨rfl, rd_fin _ hbx.out hlt, rd_ext hx.out⟩
   have h128z : ¬ (c : Int) < 128 := by omega
   have HR := Lib.hid (show rdNum most st = rdGo most (5 - (k + 1)) (k + 1) v (rdSt l (at1 + 1) false) from by
    rw [HGO.out, rdGo, if_neg h128, HVD.out, show c % 128 = c - 128 by omega, show 5 - (k + 1) = 4 - k by omega]; rfl)
   have HKK : Hid (Value.int .i64 ((k : Int) + 1) = .int .i64 ((k + 1 : Nat) : Int)) := Lib.hid (by rw [show ((k + 1 : Nat) : Int) = (k : Int) + 1 from by omega])
   clear hn
   go_wp2_with (go_quiet (fail))
   go_roundw
   case rel => exact ⟨k + 1, v, at1 + 1, false, by omega, HVL.out, hlt, HKK.out, rfl, Lib.hid (rd_set1 _ hbx.out), Lib.hid (hx.out.trans2 (((Ext.refl (At E) wr).drewN _).setAt _ _) (fun _ _ e => e)), HR⟩
   case measure => simp [intOf]; omega
 have hkz : ¬ (k : Int) < 5 := by omega
 have cE := cellOf hbx.out
 have fE := freeOf hbx.out
 go_wp2_with fail
 go_ret
 clear cE fE
 have e9 : rdNum most st = (0, none) := by
  rw [heq.out, show 5 - k = 0 by omega]; rfl
 rw [e9]
 exact ⟨rfl, ⟨at1, true, (set_same (j := 2) hbx.out).trans rfl, hat, rfl⟩, hx.out.trans2 ((Ext.refl (At E) wr).setAt _ _) (fun i _ e => e)⟩
end Go.Proofs.YtjeohlooaiociaaGreatDoor

namespace Go.Proofs.YtjeohlooaiociaaGreatDoor
open Go Go.RowKit
set_option maxRecDepth 100000 in
set_option maxHeartbeats 1000000 in
theorem of_bad (w : Nat) (l : List Int) (sl : Value) (W : World) (hw : w ≤ 256) (hl : Row No W 1 sl l.length (ints l)) (hin : ∀ x ∈ l, 0 ≤ x) (hbad : ¬ ∀ x ∈ l, x < (w : Int)) :
  Calls Tryz.prog 107 #[.int .i64 (w : Int), sl] W (SetNo 3 W) := by
 have HL := Lib.hid hl
 have HIN := Lib.hid hin
 obtain ⟨a, c, rfl⟩ := hl.slice
 have hbig := hl.2.1
 have HBAD := Lib.hid hbad
 clear hl hin hbad
 go_enter Tryz.func107, Tryz.ntmps107
 go_wp2_with fail
 refine (bempty_own w _ hw).mono ?_
 rintro e1 w1 ⟨g, rfl, hb, hg, hx1⟩
 rw [alloc_size1] at hg
 have hxa : Ext No W w1 := Ext.transNo ((Ext.refl _ _).alloc _) hx1
 have hbC := hx1.blk (alloc_top (w := W) rfl) no_no
 have hgl := lt_of_block (show w1.heap[g]? = _ from hb.out)
 have hm0 := Lib.hid (show OfM W (w1.alloc (.cells #[.int .i64 (w : Int), .slice (some ⟨g, 0, none⟩) (nw w) (nw w)] 50)) w 0 g w1.heap.size from
  ⟨hxa.alloc _, alloc_under hbC, alloc_top rfl, (hb.out.own hw hg).ext ((Ext.refl No _).alloc _) (fun _ _ x => x), hg, hgl⟩)
 clear hb hg hx1 hxa hbC hgl
 go_wp2_with fail
 generalize (w1.alloc (.cells #[.int .i64 (w : Int), .slice (some ⟨g, 0, none⟩) (nw w) (nw w)] 50)) = W1 at *
 generalize w1.heap.size = D at *
 go_loopw [17] (fun i wr => ∃ k : Nat, k ≤ l.length ∧ i = .int .i64 k ∧ Hid (∀ x ∈ l.take k, x < (w : Int)) ∧ Hid (OfM W wr w (ofN (l.take k)) g D)) (fun i _ => l.length - (intOf i).toNat)
 case atStart => exact ⟨0, Nat.zero_le _, rfl, Lib.hid (fun x hx => by simp at hx), hm0⟩
 clear hm0
 obtain ⟨k, hk, rfl, hin, hm⟩ := hrel
 rename World => wr
 have hpos : (0 : Int) ≤ (k : Int) := by omega
 by_cases hlt : k < l.length
 ·obtain ⟨b, off, cap, hsl, _, _, hcell⟩ := (HL.out.extNo hm.out.ext).shape (by omega)
  simp only [Value.slice.injEq] at hsl
  obtain ⟨rfl, _, rfl⟩ := hsl
  have q0 := hcell k _ (show (ints l)[k]? = some (.int .i64 l[k]) from by simp [ints, hlt])
  obtain ⟨x, hx⟩ : ∃ x : Nat, l[k] = (x : Int) := ⟨l[k].toNat, by have := HIN.out _ (List.getElem_mem hlt); omega⟩
  rw [hx] at q0
  have hx0 : ((x : Int) < 0) = False := by simp
  have hlz : (k : Int) < (l.length : Int) := by omega
  have HIN2 := Lib.hid (show x < w → ∀ y ∈ l.take (k + 1), y < (w : Int) from fun hxw y hy => by
   rw [List.take_succ_eq_append_getElem hlt] at hy
   rcases List.mem_append.1 hy with hy | hy
   ·exact hin.out y hy
   rw [List.mem_singleton.1 hy, hx]; omega)
  by_cases hxw : x < w
  ·have HS : Hid (ofN (l.take (k + 1)) = ofN (l.take k) ||| 2 ^ x) := Lib.hid (by rw [List.take_succ_eq_append_getElem hlt, hx, ofN_snoc])
   have HKK : Hid (Value.int .i64 ((k : Int) + 1) = .int .i64 ((k + 1 : Nat) : Int)) := Lib.hid (by rw [show ((k + 1 : Nat) : Int) = (k : Int) + 1 from by omega])
   have hxz : (x : Int) < (w : Int) := by omega
   have cD := cellOf hm.out.boxD
   clear hcell hx hin
   go_wp2_with fail
   refine (put_any (W.heap.size + 1) g (nw w) w _ x hxw hw _ hm.out.own (Nat.lt_trans hm.out.hD (lt_of_block hm.out.boxD)) hm.out.hg).mono ?_
   rintro e5 w5 ⟨rfl, ho5, hx5, _⟩
   have hm5 := Lib.hid (hm.out.put ho5 hx5)
   clear hm ho5 hx5 cD q0
   go_wp2_with fail
   go_roundw
   case rel => exact ⟨k + 1, by omega, HKK.out, Lib.hid (HIN2.out hxw), Lib.hid (by rw [HS.out]; exact hm5.out)⟩
   case measure => simp [intOf]; omega
  have hxz : (w : Int) ≤ (x : Int) := by omega
  have cD := cellOf hm.out.boxD
  have cC := cellOf hm.out.boxC
  have fC := freeOf hm.out.boxC
  clear hcell hx hin
  go_wp2_with fail
  refine ret_ex rfl ?_
  simp [results, Tryz.results107, go_sem, cC]
  exact ⟨rfl, ext2 hm.out.ext (Nat.le_refl _)⟩
 obtain rfl : k = l.length := by omega
 rw [List.take_length] at hin
 exact absurd hin.out HBAD.out
theorem rdGo_le (most : Nat) : ∀ (f k n : Nat) (st : Option (List Nat)), (rdGo most f k n st).1 ≤ most
 | 0, _, _, _ => Nat.zero_le _
 | _ + 1, _, _, none => Nat.zero_le _
 | _ + 1, _, _, some [] => Nat.zero_le _
 | f + 1, k, n, some (c :: r) => by
  rw [rdGo]
  split
  ·split
   ·exact Nat.zero_le _
   simp only; omega
  exact rdGo_le most f _ _ _
theorem rdNum_le (most : Nat) (st : Option (List Nat)) : (rdNum most st).1 ≤ most := rdGo_le most 5 0 0 st
def rdMems : Nat → Nat → Option (List Nat) → List Nat × Option (List Nat)
 | 0, _, st => ([], st)
 | j + 1, p, st => ((p + (rdNum 256 st).1) :: (rdMems j (p + (rdNum 256 st).1 + 1) (rdNum 256 st).2).1, (rdMems j (p + (rdNum 256 st).1 + 1) (rdNum 256 st).2).2)
def rdSet (st : Option (List Nat)) : (Nat × List Nat) × Option (List Nat) :=
 let a := rdNum 256 st
 let b := rdNum a.1 a.2
 let c := rdMems b.1 0 b.2
 if ∀ x ∈ c.1, x < a.1 then ((a.1, c.1), c.2) else ((0, []), none)
theorem RdM.ext {X : Nat → Prop} {w w' : World} {E : Nat} {sl : Value} {l : List Nat} {st : Option (List Nat)} (h : RdM w E sl l st) (hx : Ext X w w') (hX : ¬ X E) : RdM w' E sl l st := by
 obtain ⟨a, b, h1, h2, h3⟩ := h
 exact ⟨a, b, hx.blk h1 hX, h2, h3⟩
theorem RdM.bad {w : World} {E : Nat} {sl : Value} {l : List Nat} {st : Option (List Nat)} (h : RdM w E sl l st) : RdM (w.setCell ⟨E, 2, none⟩ (.bool true)) E sl l none := by
 obtain ⟨a, b, h1, h2, h3⟩ := h
 exact ⟨a, true, (set_same (j := 2) h1).trans rfl, h2, rfl⟩
def OwnI (w : World) (base : Nat) (sl : Value) (l : List Nat) : Prop := w.ownsRow base 3 1 sl l.length ((natsZ l).map (.int .i64))
theorem OwnI.nil (w : World) (base : Nat) : OwnI w base (.slice none 0 0) [] := ⟨by simp [natsZ], .inl ⟨rfl, rfl⟩⟩
theorem OwnI.lt {w : World} {base : Nat} {sl : Value} {l : List Nat} (h : OwnI w base sl l) (k : Nat) (hk : sl.ownBlock = some k) : base ≤ k ∧ k < w.heap.size := World.ownsRow.lt h k hk
theorem OwnI.ext {M : Nat → Prop} {w w' : World} {base : Nat} {sl : Value} {l : List Nat} (h : OwnI w base sl l) (hx : Ext M w w') (hm : ∀ k, sl.ownBlock = some k → ¬ M k) : OwnI w' base sl l := row_keep2 h hx hm
theorem OwnI.slice {w : World} {base : Nat} {sl : Value} {l : List Nat} (h : OwnI w base sl l) : ∃ a c, sl = .slice a l.length c := (Row.ofOwns (M := No) h (fun _ _ x => x)).slice
theorem infoI36 : (Tryz.prog.info? 3).map (fun i => (i.zero, i.size, i.bytes)) = some (some (.int .i64 0), 1, 8) := by kernel_rfl
theorem zero_row36 {M : Nat → Prop} {w : World} {s : Nat} : Row M w s (.slice none 0 0) 0 [] := ⟨by simp, by omega, none, 0, rfl, by simp, .inl rfl⟩
def RSetPost (M : Nat → Prop) (E : Nat) (sl : Value) (l : List Nat) (r : (Nat × List Nat) × Option (List Nat)) (W : World) (e : Ending) (w' : World) : Prop :=
 ∃ a c, e = .returned (.agg #[.int .i64 (r.1.1 : Int), .slice a (nw r.1.1) c]) ∧ Hid (SetAt M w' (.slice a (nw r.1.1) c) r.1.1 (ofN (natsZ r.1.2))) ∧ Hid (RdM w' E sl l r.2) ∧ Ext (At E) W w'
set_option maxRecDepth 100000 in
set_option maxHeartbeats 4000000 in
theorem rdset_any (M N : Nat → Prop) (E : Nat) (sl : Value) (l : List Nat) (st : Option (List Nat)) (W : World) (h : RdM W E sl l st) (hl : Ints M W .u8 sl (natsZ l)) (hM : M E) (hN : ∀ b, N b → b < W.heap.size) (hb : ∀ x ∈ l, x < 256) (hl2 : l.length ≤ 1099511627776) :
  Calls Tryz.prog 71 #[.pointer (some ⟨E, 0, none⟩)] W (RSetPost N E sl l (rdSet st) W) := by
 obtain ⟨iB, hiB, hB0, hB1, hB2⟩ := info_parts infoI36
 have H := Lib.hid h
 have HL := Lib.hid hl
 have HB := Lib.hid hb
 have HM := Lib.hid hM
 have HN := Lib.hid hN
 have HEW := Lib.hid h.box
 clear h hl hb hM hN
 have hMs : ∀ b, b < W.heap.size → At E b → M b := fun b _ e => by rw [show b = E from e]; exact HM.out
 have HMS := Lib.hid hMs
 clear hMs
 go_enter Tryz.func71, Tryz.ntmps71
 go_wp2_with fail
 have hx0 : Ext (At E) W (W.alloc (.cells #[.int .i64 0, .slice none 0 0] 50)) := (Ext.refl _ _).alloc _
 have HB0 := Lib.hid (alloc_top (w := W) (o := (.cells #[.int .i64 0, .slice none 0 0] 50)) rfl)
 have HR0 := Lib.hid (H.out.ext ((Ext.refl No W).alloc (.cells #[.int .i64 0, .slice none 0 0] 50)) no_no)
 generalize hV : (W.alloc (.cells #[.int .i64 0, .slice none 0 0] 50)) = V at *
 have HX0 := Lib.hid hx0
 clear hx0 hV
 refine (number_any M E 256 sl l st V HR0.out (Row.ext HL.out HX0.out HMS.out) HM.out HB.out hl2 (by omega)).mono ?_
 rintro e1 w1 ⟨rfl, hr1, hx1⟩
 have HW := Lib.hid (rdNum_le 256 st)
 obtain ⟨x, hx⟩ : ∃ x, x = (rdNum 256 st).1 := ⟨_, rfl⟩
 obtain ⟨s1, hs1⟩ : ∃ x, x = (rdNum 256 st).2 := ⟨_, rfl⟩
 rw [← hx] at HW ⊢
 rw [← hs1] at hr1
 have hx256 : x ≤ 256 := HW.out
 have HX1 := Lib.hid (HX0.out.trans2 hx1 (fun _ _ e => e))
 have HB1 := Lib.hid (hx1.blk HB0.out (fun e => by have := HEW.out; unfold At at e; omega))
 have HR1 := Lib.hid hr1
 have HE1 := Lib.hid (show rdSet st = (let b := rdNum x s1
  let c := rdMems b.1 0 b.2
  if ∀ y ∈ c.1, y < x then ((x, c.1), c.2) else ((0, []), none)) from by rw [hx, hs1]; rfl)
 clear hr1 hx1 hx hs1 HX0 HR0 HB0 HW
 go_wp2_with fail
 refine (number_any M E x sl l s1 w1 HR1.out (Row.ext HL.out HX1.out HMS.out) HM.out HB.out hl2 (by omega)).mono ?_
 rintro e2 w2 ⟨rfl, hr2, hx2⟩
 have HW := Lib.hid (rdNum_le x s1)
 obtain ⟨n, hn⟩ : ∃ n, n = (rdNum x s1).1 := ⟨_, rfl⟩
 obtain ⟨s2, hs2⟩ : ∃ n, n = (rdNum x s1).2 := ⟨_, rfl⟩
 rw [← hn] at HW ⊢
 rw [← hs2] at hr2
 have hn256 : n ≤ 256 := Nat.le_trans HW.out hx256
 have HX2 := Lib.hid (HX1.out.trans2 hx2 (fun _ _ e => e))
 have HB2 := Lib.hid (hx2.blk HB1.out (fun e => by have := HEW.out; unfold At at e; omega))
 have HR2 := Lib.hid hr2
 have HE2 := Lib.hid (show rdSet st = (if ∀ y ∈ (rdMems n 0 s2).1, y < x then ((x, (rdMems n 0 s2).1), (rdMems n 0 s2).2) else ((0, []), none)) from by rw [HE1.out, hn, hs2])
 clear hr2 hx2 hn hs2 HX1 HR1 HB1 HW HE1
 have hwW : W.heap.size < w2.heap.size := lt_of_block HB2.out
 go_wp2_with fail
 go_loopw [4, 5, 13] (fun s4 s5 s13 wr => ∃ (k kk p : Nat) (ms : List Nat) (s : Option (List Nat)) (a : Option Addr) (c : Nat), k ≤ n ∧ p ≤ 257 * k ∧ kk = k ∧ s13 = .int .i64 (k : Int) ∧ s4 = .slice a kk c ∧ s5 = .int .i64 ((p : Int) - 1) ∧ Hid (ms.length = kk) ∧ Hid (OwnI wr w2.heap.size (.slice a kk c) ms) ∧ Hid (RdM wr E sl l s) ∧ Hid (Ext (At E) w2 wr) ∧ Hid (rdMems n 0 s2 = (ms ++ (rdMems (n - k) p s).1, (rdMems (n - k) p s).2))) (fun _ _ s13 _ => n - (intOf s13).toNat)
 case atStart => exact ⟨0, 0, 0, [], s2, none, 0, Nat.zero_le _, Nat.zero_le _, rfl, rfl, rfl, rfl, Lib.hid rfl, Lib.hid (OwnI.nil _ _), HR2, Lib.hid (Ext.refl _ _), Lib.hid (by simp)⟩
 obtain ⟨k, kk, p, ms, s, a, c, hk, hp, hkk, rfl, rfl, rfl, hml, hO, hR, hX, hE⟩ := hrel
 rename World => wr
 by_cases hlt : k < n
 ·have hlz : (k : Int) < (n : Int) := by omega
  have HKK : Hid (Value.int .i64 ((k : Int) + 1) = .int .i64 ((k + 1 : Nat) : Int)) := Lib.hid (by rw [show ((k + 1 : Nat) : Int) = (k : Int) + 1 from by omega])
  have HK1 := Lib.hid hkk
  have hkk2 : kk ≤ 256 := by omega
  clear hkk
  go_wp2_with fail
  refine (number_any M E 256 sl l s _ hR.out (Row.ext HL.out (HX2.out.trans2 hX.out (fun _ _ e => e)) HMS.out) HM.out HB.out hl2 (by omega)).mono ?_
  rintro e3 w3 ⟨rfl, hr3, hx3⟩
  have HW := Lib.hid (rdNum_le 256 s)
  have hE9 := hE.out
  rw [show n - k = (n - (k + 1)) + 1 by omega] at hE9
  rw [rdMems] at hE9
  obtain ⟨g, hg⟩ : ∃ g, g = (rdNum 256 s).1 := ⟨_, rfl⟩
  obtain ⟨s3, hs3⟩ : ∃ n, n = (rdNum 256 s).2 := ⟨_, rfl⟩
  rw [← hg] at HW hE9 ⊢
  rw [← hs3] at hr3 hE9
  have hg256 : g ≤ 256 := HW.out
  obtain ⟨q, hq⟩ : ∃ q, q = p + g := ⟨_, rfl⟩
  rw [← hq] at hE9
  have HE9 := Lib.hid (show rdMems n 0 s2 = ((ms ++ [q]) ++ (rdMems (n - (k + 1)) (q + 1) s3).1, (rdMems (n - (k + 1)) (q + 1) s3).2) from by rw [hE9]; simp)
  have HX3 := Lib.hid (hX.out.trans2 hx3 (fun _ _ e => e))
  have HR3 := Lib.hid hr3
  have hO3 := hO.out.ext hx3 (fun b hb e => by have := (hO.out.lt b hb).1; have := HEW.out; unfold At at e; omega)
  unfold OwnI at hO3
  rw [hml.out] at hO3
  have HO3 := Lib.hid hO3
  have hsz := HX3.out.size
  clear hO hR hX hE hr3 hx3 hg hs3 hE9 hO3
  have HST : Hid (∀ (v1 : Value) (w9 : World), w9.ownsRow w2.heap.size 3 1 v1 (kk + 1) ((natsZ ms).map (.int .i64) ++ [.int .i64 ((p : Int) - 1 + (1 + (g : Int)))]) → (w3.alloc (.cells #[.int .i64 ((p : Int) - 1 + (1 + (g : Int)))] 3)).grownBy w9 (Value.ownBlock (.slice a kk c)) → OwnI w9 w2.heap.size v1 (ms ++ [q]) ∧ RdM w9 E sl l s3 ∧ Ext (At E) w2 w9) := Lib.hid (fun v1 w9 h1 h2 => by
   have hx9 : Ext (fun b => Value.ownBlock (.slice a kk c) = some b) w3 w9 := ((Ext.refl (fun k' => Value.ownBlock (.slice a kk c) = some k') w3).alloc _).grown h2 (fun k' hk' _ => hk')
   have hge : ∀ b, Value.ownBlock (.slice a kk c) = some b → w2.heap.size ≤ b := fun b hb => (World.ownsRow.lt HO3.out b hb).1
   refine ⟨?_, HR3.out.ext hx9 (fun e => by have := hge _ e; have := HEW.out; omega), HX3.out.trans2 hx9 (fun i hi e => by have := hge _ e; omega)⟩
   unfold OwnI
   rw [List.length_append, hml.out]
   rw [show natsZ (ms ++ [q]) = natsZ ms ++ [(p : Int) - 1 + (1 + (g : Int))] from by rw [show (p : Int) - 1 + (1 + (g : Int)) = ((q : Nat) : Int) from by omega]; simp [natsZ], List.map_append]
   exact h1)
  go_wp2_with (at_builtin; (refine wpList_app _ rfl (.tmp 20) (.tmp 22) 22 rfl w2.heap.size 3 iB _ 1 8 Tryz.underlying22 hiB hB0 hB1 hB2 rfl (by omega) (.slice a kk c) kk ((natsZ ms).map (.int .i64)) rfl (row_keep HO3.out ((Ext.refl No _).alloc _) (fun _ _ x => x)) No (some ⟨w3.heap.size, 0, none⟩) 1 1 [.int .i64 ((p : Int) - 1 + (1 + (g : Int)))] rfl (Row.block (alloc_top rfl) rfl no_no (by omega)) (by simp [Value.oneCell']) (by omega) (by omega) (by simp; omega) ?_); (intro v1 w9 hown1 hg1 hv1); (have hs := HST.out v1 w9 hown1 hg1); (obtain ⟨a9, c9, hs9⟩ := (Row.ofOwns (M := No) hown1 (fun _ _ x => x)).slice); (subst hs9); (have HS9 := Lib.hid hs); (clear hown1 hg1 hv1 hs))
  go_roundw
  case rel => exact ⟨k + 1, kk + 1, q + 1, ms ++ [q], s3, a9, c9, by omega, by omega, by rw [HK1.out], HKK.out, rfl, by rw [show ((q + 1 : Nat) : Int) - 1 = (p : Int) - 1 + (1 + (g : Int)) from by omega], Lib.hid (by rw [List.length_append, hml.out]; rfl), Lib.hid HS9.out.1, Lib.hid HS9.out.2.1, Lib.hid HS9.out.2.2, HE9⟩
  case measure => simp [intOf]; omega
 have hge : ¬ (k : Int) < (n : Int) := by omega
 obtain rfl : k = n := by omega
 subst hkk
 have hml2 := hml.out
 have HE9 := Lib.hid (show rdSet st = (if ∀ y ∈ ms, y < x then ((x, ms), s) else ((0, []), none)) from by
  rw [HE2.out, hE.out, Nat.sub_self, rdMems]; simp)
 have hrow : Row No wr 1 (.slice a kk c) (natsZ ms).length (ints (natsZ ms)) := by
  have := Row.ofOwns (M := No) hO.out (fun _ _ x => x)
  rw [show (natsZ ms).length = ms.length by simp [natsZ]]
  exact this
 have HRW := Lib.hid hrow
 have HLZ := Lib.hid (show (natsZ ms).length = kk from by rw [← hml2]; simp [natsZ])
 have HX9 := Lib.hid (HX2.out.trans2 hX.out (fun _ _ e => e))
 have hbC := hX.out.blk HB2.out (fun e => by have := HEW.out; unfold At at e; omega)
 have HBC := Lib.hid hbC
 have HRS := hR
 clear hml hml2 hO hR hX hE hrow hbC HX2 HB2 HR2 HE2
 go_wp2_with fail
 by_cases hall : ∀ y ∈ ms, y < x
 ·refine (of_any (fun b => b = W.heap.size ∨ N b) x (natsZ ms) _ _ (fun b hb => by
   have h1 := HX9.out.size
   have h2 := lt_of_block HBC.out
   rcases hb with hb | hb
   ·omega
   ·have := HN.out b hb; omega) hx256 HRW.out (fun y hy => by
   obtain ⟨z, hz, rfl⟩ := List.mem_map.1 hy
   have := hall z hz
   omega)).mono ?_
  rintro e4 w4 ⟨a4, c4, rfl, hs4, hx4⟩
  have HX10 := Lib.hid (HX9.out.transNo hx4)
  have HBC4 := Lib.hid (hx4.blk HBC.out no_no)
  have HRS4 := Lib.hid (HRS.out.ext hx4 no_no)
  have HF := Lib.hid (show rdSet st = ((x, ms), s) from by rw [HE9.out, if_pos hall])
  clear hx4 HX9 HBC HRS HE9 hall HRW
  have cC := cellOf HBC4.out
  have fC := freeOf HBC4.out
  have hC4 := lt_of_block HBC4.out
  go_wp2_with fail
  refine ret_ex rfl ?_
  have hF := alloc_under (o := (.cells #[.int .i64 (x : Int), .slice a4 (nw x) c4] 50)) (fin2p24 HBC4.out (.int .i64 (x : Int)) (.slice a4 (nw x) c4))
  have cF := cellOf hF
  clear cC fC
  simp [results, Tryz.results71, go_sem, cF]
  rw [HF.out]
  have hxf : Ext (At W.heap.size) w4 (((w4.setCell ⟨W.heap.size, 0, none⟩ (.int .i64 (x : Int))).setCell ⟨W.heap.size, 1, none⟩ (.slice a4 (nw x) c4)).alloc (.cells #[.int .i64 (x : Int), .slice a4 (nw x) c4] 50)) := (((Ext.refl (At W.heap.size) w4).setAt _ _).setAt _ _).alloc _
  exact ⟨_, _, rfl, Lib.hid ((hs4.out.ext hxf (fun b _ e => .inl e)).mono (fun _ _ h => .inr h)), Lib.hid (HRS4.out.ext hxf (fun e => by have := HEW.out; unfold At at e; omega)), HX10.out.trans2 hxf (fun i hi e => by unfold At at e; omega)⟩
 refine (of_bad x (natsZ ms) _ _ hx256 HRW.out (fun y hy => by
  obtain ⟨z, hz, rfl⟩ := List.mem_map.1 hy
  omega) (fun h => hall (fun y hy => by
  have := h (y : Int) (List.mem_map.2 ⟨y, hy, rfl⟩)
  omega))).mono ?_
 rintro e4 w4 ⟨rfl, hx4⟩
 have HX10 := Lib.hid (HX9.out.transNo hx4)
 have HBC4 := Lib.hid (hx4.blk HBC.out no_no)
 have HRS4 := Lib.hid (HRS.out.ext hx4 no_no)
 have HF := Lib.hid (show rdSet st = ((0, []), none) from by rw [HE9.out, if_neg hall])
 clear hx4 HX9 HBC HRS HE9 hall HRW
 have cC := cellOf HBC4.out
 have fC := freeOf HBC4.out
 have hC4 := lt_of_block HBC4.out
 obtain ⟨at9, bad9, hb9, hat9, -⟩ := HRS4.out
 have cE := cellOf hb9
 have fE := freeOf hb9
 have hE4 := lt_of_block hb9
 have hEW := HEW.out
 have hne : ¬ E = W.heap.size := by omega
 have hne2 : ¬ W.heap.size = E := by omega
 go_wp2_with fail
 refine ret_ex rfl ?_
 have hbC5 := ((Ext.refl (At E) w4).setAt 2 (.bool true)).blk HBC4.out hne2
 have hF := alloc_under (o := (.cells #[.int .i64 0, .slice none 0 0] 50)) (fin2p24 hbC5 (.int .i64 0) (.slice none 0 0))
 have cF := cellOf hF
 clear cC fC cE fE
 simp [results, Tryz.results71, go_sem, cF]
 rw [HF.out]
 have hx5 : Ext (At E) w4 (w4.setCell ⟨E, 2, none⟩ (.bool true)) := (Ext.refl (At E) w4).setAt _ _
 have hxf : Ext (At W.heap.size) (w4.setCell ⟨E, 2, none⟩ (.bool true)) ((((w4.setCell ⟨E, 2, none⟩ (.bool true)).setCell ⟨W.heap.size, 0, none⟩ (.int .i64 0)).setCell ⟨W.heap.size, 1, none⟩ (.slice none 0 0)).alloc (.cells #[.int .i64 0, .slice none 0 0] 50)) := (((Ext.refl (At W.heap.size) _).setAt _ _).setAt _ _).alloc _
 exact ⟨none, 0, rfl, Lib.hid ⟨⟨zero_row36, by simp [wordsN, nw]⟩, by simp, by simp [natsZ, ofN]⟩, Lib.hid (HRS4.out.bad.ext hxf hne), (HX10.out.trans2 hx5 (fun _ _ e => e)).trans2 hxf (fun i hi e => by unfold At at e; omega)⟩

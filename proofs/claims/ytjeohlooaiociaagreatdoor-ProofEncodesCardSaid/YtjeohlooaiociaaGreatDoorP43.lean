
import Derived.Test.YtjeohlooaiociaaGreatDoorP36
set_option linter.unusedVariables false
set_option linter.unusedSimpArgs false
namespace Go.Proofs.YtjeohlooaiociaaGreatDoor
open Go Go.RowKit
set_option maxRecDepth 100000 in
set_option maxHeartbeats 1000000 in
theorem cloneB_any (sl : Value) (l : List Nat) (W : World) (h : Ints No W .u8 sl (natsZ l)) (hn : l.length ≤ 1099511627776) :
  Calls Tryz.prog 105 #[sl] W (fun e w' => ∃ v, e = .returned v ∧ OwnB w' W.heap.size v l ∧ Ext No W w') := by
 obtain ⟨iB, hiB, hB0, hB1, hB2⟩ := info_parts infoB31
 have hz : (natsZ l).length = l.length := by simp [natsZ]
 have h' := h
 unfold Ints at h'
 rw [hz] at h'
 have H := Lib.hid h'
 obtain ⟨a, cap, rfl⟩ := Row.slice h'
 clear h h' hz
 have ke := fun (w : World) (a : Option Addr) (n c : Nat) => Lib.run_eql_slice_nil (P := Tryz.prog) w 53 5 a n c 0 0 Tryz.underlying53
 cases a with
 | none =>
  have h0 : l.length = 0 := by
   rcases H.out.2.2 with ⟨a, c, h1, _, h2 | ⟨b, off, h2, _⟩⟩
   ·exact h2
   simp only [Value.slice.injEq] at h1; rw [h2] at h1; exact absurd h1.1 (by simp)
  have HL := Lib.hid (List.eq_nil_of_length_eq_zero h0)
  clear h0
  go_enter Tryz.func105, Tryz.ntmps105
  go_wp2
  go_ret
  exact ⟨_, rfl, by rw [HL.out]; exact OwnB.nil _ _, Ext.refl _ _⟩
 | some ad =>
  go_enter Tryz.func105, Tryz.ntmps105
  go_wp2_with (at_builtin; refine wpList_app _ rfl (.tmp 5) (.tmp 6) 53 rfl W.heap.size 5 iB _ 1 1 Tryz.underlying53 hiB hB0 hB1 hB2 rfl (by omega) _ 0 [] rfl (World.ownsRow_made W #[] 0 (Nat.le_refl _) (Nat.zero_le _) rfl) No (some ad) l.length cap ((natsZ l).map (.int .u8)) rfl (Row.extNo H.out ((Ext.refl _ _).alloc _)) (bytes_one l) (by omega) (by omega) (by simp) ?_; intro v1 w1 hown hg hat)
  go_ret
  simp only [Nat.zero_add, List.nil_append] at hown
  exact ⟨_, rfl, hown, ((Ext.refl _ _).alloc _).grown hg (fun k hk hlt => by cases hk; exact absurd hlt (Nat.lt_irrefl _))⟩
set_option maxRecDepth 100000 in
set_option maxHeartbeats 1000000 in
theorem equalB_any (M1 M2 : Nat → Prop) (s1 s2 : Value) (l k : List Nat) (W : World) (h1 : Ints M1 W .u8 s1 (natsZ l)) (h2 : Ints M2 W .u8 s2 (natsZ k)) (hn : l.length ≤ 1099511627776) :
  Calls Tryz.prog 104 #[s1, s2] W (Tells (l = k) W) := by
 have H1 := Lib.hid h1
 have H2 := Lib.hid h2
 obtain ⟨a1, c1, rfl⟩ : ∃ a c, s1 = .slice a l.length c := by
  obtain ⟨_, _, a, c, rfl, _, _⟩ := h1
  exact ⟨a, c, by simp [natsZ]⟩
 obtain ⟨a2, c2, rfl⟩ : ∃ a c, s2 = .slice a k.length c := by
  obtain ⟨_, _, a, c, rfl, _, _⟩ := h2
  exact ⟨a, c, by simp [natsZ]⟩
 clear h1 h2
 by_cases hlk : l.length = k.length
 ·have hlz : (l.length : Int) = (k.length : Int) := by omega
  have hlz' : ((l.length : Int) != (k.length : Int)) = false := by simp [hlz]
  have HLK := Lib.hid hlk
  clear hlk
  go_enter Tryz.func104, Tryz.ntmps104
  go_wp2_with fail
  go_loopw [13] (fun i wr => ∃ j : Nat, j ≤ l.length ∧ i = .int .i64 (j : Int) ∧ Hid (∀ n (h1 : n < l.length) (h2 : n < k.length), n < j → l[n] = k[n]) ∧ Hid (Ext No W wr)) (fun i _ => l.length - (intOf i).toNat)
  case atStart => exact ⟨0, Nat.zero_le _, rfl, Lib.hid (fun n _ _ h => absurd h (Nat.not_lt_zero _)), Lib.hid (Ext.refl _ _)⟩
  obtain ⟨j, hj, rfl, hE, hX⟩ := hrel
  rename World => wr
  by_cases hlt : j < l.length
  ·have hjz : (j : Int) < (l.length : Int) := by omega
   have HKK : Hid (Value.int .i64 ((j : Int) + 1) = .int .i64 ((j + 1 : Nat) : Int)) := Lib.hid (by rw [show ((j + 1 : Nat) : Int) = (j : Int) + 1 from by omega])
   have hlt2 : j < k.length := by rw [← HLK.out]; exact hlt
   obtain ⟨b1, o1, k1, he1, hc1⟩ := ints_u8 (show Ints M1 wr .u8 (.slice a1 l.length c1) (natsZ l) from Row.extNo H1.out hX.out) hlt
   obtain ⟨b2, o2, k2, he2, hc2⟩ := ints_u8 (show Ints M2 wr .u8 (.slice a2 k.length c2) (natsZ k) from Row.extNo H2.out hX.out) hlt2
   simp only [Value.slice.injEq] at he1 he2
   obtain ⟨rfl, -, -⟩ := he1
   obtain ⟨rfl, -, -⟩ := he2
   have q1 := hc1 j hlt
   have q2 := hc2 j hlt2
   have hjz2 : (j : Int) < (k.length : Int) := by omega
   obtain ⟨x, hx⟩ : ∃ x, x = l[j] := ⟨_, rfl⟩
   obtain ⟨y, hy⟩ : ∃ x, x = k[j] := ⟨_, rfl⟩
   rw [← hx] at q1
   rw [← hy] at q2
   have HXE := Lib.hid hx
   have HYE := Lib.hid hy
   clear hc1 hc2 hx hy
   by_cases hxy : x = y
   ·have hxz : (x : Int) = (y : Int) := by omega
    have hxz' : ((x : Int) != (y : Int)) = false := by simp [hxz]
    have HXY := Lib.hid hxy
    clear hxy
    go_wp2_with (go_quiet (fail))
    go_roundw
    case rel => exact ⟨j + 1, by omega, HKK.out, Lib.hid (fun n h1 h2 h3 => by
     by_cases e : n = j
     ·subst e; rw [← HXE.out, ← HYE.out]; exact HXY.out
     exact hE.out n h1 h2 (by omega)), Lib.hid (hX.out.drewN _)⟩
    case measure => simp [intOf]; omega
   have hxz : ¬ (x : Int) = (y : Int) := by omega
   have hxz' : ((x : Int) != (y : Int)) = true := by simp [hxz]
   have HXY := Lib.hid hxy
   clear hxy
   go_wp2_with (go_quiet (fail))
   go_ret
   exact tells_false (fun e => HXY.out (by rw [HXE.out, HYE.out]; simp only [e])) (hX.out.drewN _)
  have hge : ¬ (j : Int) < (l.length : Int) := by omega
  go_wp2_with fail
  go_ret
  exact tells_true (List.ext_getElem HLK.out (fun n h1 h2 => hE.out n h1 h2 (by omega))) hX.out
 have hlz : ¬ (l.length : Int) = (k.length : Int) := by omega
 have hlz' : ((l.length : Int) != (k.length : Int)) = true := by simp [hlz]
 have HN := Lib.hid (show ¬ l = k from fun e => hlk (by rw [e]))
 clear hlk
 go_enter Tryz.func104, Tryz.ntmps104
 go_wp2_with fail
 go_ret
 exact tells_false HN.out (Ext.refl _ _)
theorem done_any (E : Nat) (sl : Value) (l : List Nat) (st : Option (List Nat)) (W : World) (h : RdM W E sl l st) (hl : ∃ a c, sl = .slice a l.length c) :
  Calls Tryz.prog 72 #[.pointer (some ⟨E, 0, none⟩)] W (Tells (st = some []) W) := by
 obtain ⟨a, c, rfl⟩ := hl
 obtain ⟨at1, bad, hbx, hat, hst⟩ := h
 have HST := Lib.hid hst
 have cE := cellOf hbx
 clear hst
 go_enter Tryz.func72, Tryz.ntmps72
 cases hbd : bad with
 | true =>
  subst hbd
  go_wp2_with (go_quiet (fail))
  go_ret
  exact tells_false (p := st = some []) (by rw [HST.out]; simp [rdSt]) ((Ext.refl No W).drewN _)
 | false =>
  subst hbd
  by_cases hae : at1 = l.length
  ·have haz : (at1 : Int) = (l.length : Int) := by omega
   go_wp2_with (go_quiet (fail))
   go_ret
   exact tells_true (p := st = some []) (by rw [HST.out, hae]; simp [rdSt]) ((Ext.refl No W).drewN _)
  have haz : ¬ (at1 : Int) = (l.length : Int) := by omega
  have haz' : ((at1 : Int) == (l.length : Int)) = false := by simp; omega
  go_wp2_with (go_quiet (fail))
  go_ret
  exact tells_false (p := st = some []) (by rw [HST.out]; simp [rdSt]; omega) ((Ext.refl No W).drewN _)
def bodyB (b : List Nat) : List Nat := b.take (b.length - 4)
def OpenPost (b : List Nat) (W : World) (e : Ending) (w' : World) : Prop :=
 (b.length < 4 ∧ e = .returned (.tuple #[.pointer none, .int .i64 12]) ∧ Ext No W w') ∨
 (4 ≤ b.length ∧ sealB (bodyB b) ≠ b ∧ e = .returned (.tuple #[.pointer none, .int .i64 14]) ∧ Ext No W w') ∨
 (4 ≤ b.length ∧ sealB (bodyB b) = b ∧ ∃ (E : Nat) (sl : Value), e = .returned (.tuple #[.pointer (some ⟨E, 0, none⟩), .int .i64 0]) ∧ RdM w' E sl (bodyB b) (some (bodyB b)) ∧ Ints (fun i => W.heap.size ≤ i) w' .u8 sl (natsZ (bodyB b)) ∧ W.heap.size ≤ E ∧ Ext No W w')
set_option maxRecDepth 100000 in
set_option maxHeartbeats 1000000 in
theorem uopen_any (sl : Value) (b : List Nat) (W : World) (h : Ints No W .u8 sl (natsZ b)) (hb : ∀ x ∈ b, x < 256) (hl : b.length ≤ 1099511627776) :
  Calls Tryz.prog 69 #[sl] W (OpenPost b W) := by
 have hz : (natsZ b).length = b.length := by simp [natsZ]
 obtain ⟨a, c, rfl, hbc, hcc⟩ : ∃ a c, sl = .slice a b.length c ∧ b.length ≤ c ∧ c ≤ 9223372036854775807 := by
  obtain ⟨_, _, a, c, rfl, hcp, _⟩ := h
  rw [hz] at hcp
  exact ⟨a, c, by rw [hz], hcp.1, hcp.2⟩
 by_cases h4 : b.length < 4
 ·refine (open_short a b.length c h4 W).mono ?_
  rintro e w' ⟨rfl, hx⟩
  exact .inl ⟨h4, rfl, hx⟩
 obtain ⟨n, hn⟩ : ∃ n, n = b.length - 4 := ⟨_, rfl⟩
 have h' := h
 unfold Ints at h'
 rw [hz] at h'
 have hc0 : Row No W 1 (.slice a n c) n (((natsZ b).map (.int .u8)).take (n * 1)) := Row.cutK h' hcc hbc (by omega)
 have hbl : (bodyB b).length = n := by unfold bodyB; rw [List.length_take]; omega
 have hc1 : Ints No W .u8 (.slice a n c) (natsZ (bodyB b)) := by
  unfold Ints
  rw [show (natsZ (bodyB b)).length = n by simp [natsZ, hbl]]
  rw [show (natsZ (bodyB b)).map (Value.int .u8) = ((natsZ b).map (.int .u8)).take (n * 1) by unfold bodyB natsZ; rw [Nat.mul_one, ← hn, List.map_take, List.map_take]]
  exact hc0
 have HC := Lib.hid hc1
 have HB := Lib.hid h
 have HBY := Lib.hid hb
 have HBL := Lib.hid hbl
 have hbz : ¬ (b.length : Int) < 4 := by omega
 have hsub : (b.length : Int) - 4 = (n : Int) := by omega
 have hn0 : (0 : Int) ≤ (n : Int) := by omega
 have hnc : (n : Int) ≤ (c : Int) := by omega
 have HN := Lib.hid hn
 clear hn hc0 hc1 h h' hb hz hbl
 go_enter Tryz.func69, Tryz.ntmps69
 go_wp2_with fail
 refine (cloneB_any _ (bodyB b) W HC.out (by rw [HBL.out]; omega)).mono ?_
 rintro e1 w1 ⟨v1, rfl, ho1, hx1⟩
 obtain ⟨l, hlb⟩ : ∃ l, l = bodyB b := ⟨_, rfl⟩
 rw [← hlb] at ho1 HC HBL
 have HLB := Lib.hid hlb
 obtain ⟨a1, c1, hs1⟩ := ho1.slice
 subst hs1
 have hll : l.length = n := HBL.out
 have hlby : ∀ x ∈ l, x < 256 := fun x hx => HBY.out x (by rw [HLB.out] at hx; exact List.mem_of_mem_take hx)
 have HLBY := Lib.hid hlby
 have HO1 := Lib.hid ho1
 have HX1 := Lib.hid hx1
 clear hlb ho1 hx1 hlby hll
 go_wp2_with fail
 refine (useal_any W.heap.size _ l w1 HO1.out HX1.out.size (by rw [HBL.out]; omega) HLBY.out).mono ?_
 rintro e2 w2 ⟨v2, rfl, ho2, hx2, hv2⟩
 have HX2 := Lib.hid (HX1.out.trans2 hx2 (fun i hi e => by have := (HO1.out.lt i e).1; omega))
 obtain ⟨l2, hl2⟩ : ∃ l2, l2 = l ++ ckB l := ⟨_, rfl⟩
 have ho3 := ho2.out
 rw [← hl2] at ho3
 have hlen2 : l2.length = n + 4 := by rw [hl2, List.length_append, HBL.out]; rfl
 have hlen3 := Lib.hid hlen2
 obtain ⟨a2, c2, hs2⟩ := ho3.slice
 subst hs2
 have HO3 := Lib.hid ho3
 have HL2 := Lib.hid (show l2 = sealB (bodyB b) from by rw [hl2, ← HLB.out]; rfl)
 clear ho2 hx2 hv2 hl2 ho3 hlen2
 go_wp2_with fail
 refine (equalB_any No No _ _ l2 b w2 (HO3.out.ints (fun _ _ e => e)) (Row.extNo HB.out HX2.out) (by rw [hlen3.out]; omega)).mono ?_
 rintro e3 w3 ⟨t, rfl, ht, hx3⟩
 have HX3 := Lib.hid (HX2.out.transNo hx3)
 have HT := Lib.hid ht
 clear ht hx3
 cases ht : t with
 | false =>
  subst ht
  go_wp2_with fail
  refine ret_ex rfl ?_
  simp [results, Tryz.results69, go_sem]
  exact .inr (.inl ⟨by omega, fun e => tells_no HT.out (by rw [HL2.out]; exact e), rfl, HX3.out⟩)
 | true =>
  subst ht
  go_wp2_with fail
  refine ret_ex rfl ?_
  simp [results, Tryz.results69, go_sem]
  have hE : l2 = b := by simpa using HT.out
  rw [HL2.out] at hE
  have hbox := alloc_top (w := w3) (o := (.cells #[.slice a n c, .int .i64 0, .bool false] 126)) rfl
  rw [HLB.out] at HC
  exact .inr (.inr ⟨by omega, hE, _, _, rfl, ⟨0, false, hbox, Nat.zero_le _, by simp [rdSt]⟩, Row.extNo (Row.extNo (Row.mono HC.out (fun i hi e => by omega)) HX3.out) ((Ext.refl No w3).alloc _), HX3.out.size, HX3.out.alloc _⟩)
end Go.Proofs.YtjeohlooaiociaaGreatDoor

namespace Go.Proofs.YtjeohlooaiociaaGreatDoor
open Go Go.RowKit
theorem rdGo_uv (most : Nat) (r : List Nat) : ∀ (f k n m : Nat), m < 128 ^ (f + 1) → (m = 0 → k = 0) → rdGo most (f + 1) k n (some (uv m ++ r)) = if n + m * 128 ^ k ≤ most then (n + m * 128 ^ k, some r) else (0, none)
 | f, k, n, m, hm, h0 => by
  by_cases h : m < 128
  ·rw [uv_lt h, List.singleton_append, rdGo, if_pos h]
   by_cases h1 : n + m * 128 ^ k ≤ most
   ·rw [if_pos h1, if_neg (by omega)]
   rw [if_neg h1, if_pos (by omega)]
  cases f with
  | zero => omega
  | succ f =>
   rw [uv_ge (by omega), List.cons_append, rdGo, if_neg (by omega), rdGo_uv most r f (k + 1) _ (m / 128) (Nat.div_lt_of_lt_mul (by rw [Nat.pow_succ] at hm; omega)) (by omega)]
   have e : n + (m % 128 + 128 - 128) * 128 ^ k + m / 128 * 128 ^ (k + 1) = n + m * 128 ^ k := by
    rw [Nat.add_sub_cancel, Nat.pow_succ, Nat.add_assoc]
    congr 1
    rw [Nat.mul_comm (128 ^ k) 128, ← Nat.mul_assoc, ← Nat.add_mul]
    congr 1
    omega
   rw [e]
theorem rdNum_uv (most m : Nat) (r : List Nat) (hm : m < 128 ^ 5) : rdNum most (some (uv m ++ r)) = if m ≤ most then (m, some r) else (0, none) := by
 unfold rdNum
 rw [rdGo_uv most r 4 0 0 m hm (fun _ => rfl)]
 simp
end Go.Proofs.YtjeohlooaiociaaGreatDoor

namespace Go.Proofs.YtjeohlooaiociaaGreatDoor
open Go Go.RowKit
theorem rdMems_gaps (r : List Nat) : ∀ (ms : List Nat) (p : Nat), ms.Pairwise (· < ·) → (∀ x ∈ ms, p ≤ x ∧ x ≤ 256) → rdMems ms.length p (some (gaps p ms ++ r)) = (ms, some r)
 | [], _, _, _ => rfl
 | m :: l, p, ha, hm => by
  have h1 := hm m (List.mem_cons_self ..)
  have h2 := List.pairwise_cons.1 ha
  have e := rdNum_uv 256 (m - p) (gaps (m + 1) l ++ r) (by omega)
  rw [if_pos (by omega)] at e
  rw [List.length_cons, rdMems, gaps, List.append_assoc, e]
  simp only
  rw [show p + (m - p) = m by omega, rdMems_gaps r l (m + 1) h2.2 (fun x hx => ⟨h2.1 x hx, (hm x (List.mem_cons_of_mem _ hx)).2⟩)]
end Go.Proofs.YtjeohlooaiociaaGreatDoor

namespace Go.Proofs.YtjeohlooaiociaaGreatDoor
open Go Go.RowKit
theorem ofN_acc : ∀ (ms : List Nat) (m b : Nat), ((natsZ ms).foldl (fun m b => m ||| 2 ^ b.toNat) m).testBit b = (m.testBit b || decide (b ∈ ms))
 | [], m, b => by simp [natsZ]
 | x :: l, m, b => by
  have h := ofN_acc l (m ||| 2 ^ x) b
  have e : (natsZ (x :: l)).foldl (fun m b => m ||| 2 ^ b.toNat) m = (natsZ l).foldl (fun m b => m ||| 2 ^ b.toNat) (m ||| 2 ^ x) := by simp [natsZ]
  rw [e, h, Nat.testBit_or, Nat.testBit_two_pow, Bool.or_assoc]
  congr 1
  by_cases hx : x = b
  ·subst hx; simp
  simp [hx, Ne.symm hx]
theorem ofN_test (ms : List Nat) (b : Nat) : (ofN (natsZ ms)).testBit b = decide (b ∈ ms) := by
 unfold ofN
 rw [ofN_acc]; simp
theorem asc_eq : ∀ {l k : List Nat}, l.Pairwise (· < ·) → k.Pairwise (· < ·) → (∀ x, x ∈ l ↔ x ∈ k) → l = k
 | [], [], _, _, _ => rfl
 | [], y :: k, _, _, h => by have := (h y).2 (List.mem_cons_self ..); cases this
 | x :: l, [], _, _, h => by have := (h x).1 (List.mem_cons_self ..); cases this
 | x :: l, y :: k, hl, hk, h => by
  have h1 := List.pairwise_cons.1 hl
  have h2 := List.pairwise_cons.1 hk
  have e : x = y := by
   rcases List.mem_cons.1 ((h x).1 (List.mem_cons_self ..)) with e | e
   ·exact e
   rcases List.mem_cons.1 ((h y).2 (List.mem_cons_self ..)) with e2 | e2
   ·exact e2.symm
   have := h2.1 x e; have := h1.1 y e2; omega
  subst e
  congr 1
  refine asc_eq h1.2 h2.2 (fun z => ⟨fun hz => ?_, fun hz => ?_⟩)
  ·rcases List.mem_cons.1 ((h z).1 (List.mem_cons_of_mem _ hz)) with e | e
   ·have := h1.1 z hz; omega
   exact e
  rcases List.mem_cons.1 ((h z).2 (List.mem_cons_of_mem _ hz)) with e | e
  ·have := h2.1 z hz; omega
  exact e
theorem mem_memN {w m b : Nat} : b ∈ memN w m ↔ b < w ∧ m.testBit b = true := by
 unfold memN
 rw [List.mem_filter, List.mem_range]
theorem memN_of {w : Nat} {ms : List Nat} (ha : ms.Pairwise (· < ·)) (hw : ∀ x ∈ ms, x < w) : memN w (ofN (natsZ ms)) = ms := by
 refine asc_eq (memN_asc _ _) ha (fun x => ?_)
 rw [mem_memN, ofN_test]
 simp only [decide_eq_true_eq]
 exact ⟨fun h => h.2, fun h => ⟨hw x h, h⟩⟩
theorem ofN_memN {w m : Nat} (hm : m < 2 ^ w) : ofN (natsZ (memN w m)) = m := by
 refine Nat.eq_of_testBit_eq (fun b => ?_)
 rw [ofN_test]
 cases h : m.testBit b with
 | true =>
  have hb : b < w := by
   rcases Nat.lt_or_ge b w with h2 | h2
   ·exact h2
   rw [Nat.testBit_lt_two_pow (Nat.lt_of_lt_of_le hm (Nat.pow_le_pow_right (by decide) h2))] at h; cases h
  simpa using mem_memN.2 ⟨hb, h⟩
 | false =>
  simp only [decide_eq_false_iff_not]
  intro h2
  rw [(mem_memN.1 h2).2] at h; cases h
theorem rdSet_setB {w m : Nat} (hw : w ≤ 256) (r : List Nat) : rdSet (some (setB w (memN w m) ++ r)) = ((w, memN w m), some r) := by
 have h1 := memN_len w m
 have e1 := rdNum_uv 256 w (uv (memN w m).length ++ gaps 0 (memN w m) ++ r) (by omega)
 have e2 := rdNum_uv w (memN w m).length (gaps 0 (memN w m) ++ r) (by omega)
 rw [if_pos hw] at e1
 rw [if_pos h1] at e2
 unfold setB rdSet
 simp only [List.append_assoc] at e1 e2 ⊢
 rw [e1]
 simp only
 rw [e2]
 simp only
 rw [rdMems_gaps r _ 0 (memN_asc w m) (fun x hx => ⟨Nat.zero_le _, by have := memN_lt hx; omega⟩)]
 simp only
 rw [if_pos (fun x hx => memN_lt hx)]
end Go.Proofs.YtjeohlooaiociaaGreatDoor

namespace Go.Proofs.YtjeohlooaiociaaGreatDoor
open Go Go.RowKit
theorem rdMems_asc : ∀ (n p : Nat) (st : Option (List Nat)), (rdMems n p st).1.Pairwise (· < ·) ∧ (∀ x ∈ (rdMems n p st).1, p ≤ x) ∧ (rdMems n p st).1.length = n
 | 0, _, _ => by simp [rdMems]
 | n + 1, p, st => by
  rw [rdMems]
  obtain ⟨h1, h2, h3⟩ := rdMems_asc n (p + (rdNum 256 st).1 + 1) (rdNum 256 st).2
  refine ⟨List.pairwise_cons.2 ⟨fun x hx => by have := h2 x hx; omega, h1⟩, fun x hx => ?_, by rw [List.length_cons, h3]⟩
  rcases List.mem_cons.1 hx with rfl | hx
  ·omega
  have := h2 x hx; omega
theorem rdSet_ok (st : Option (List Nat)) : (rdSet st).1.1 ≤ 256 ∧ (rdSet st).1.2.Pairwise (· < ·) ∧ ∀ x ∈ (rdSet st).1.2, x < (rdSet st).1.1 := by
 unfold rdSet
 simp only
 split
 ·rename_i h
  exact ⟨rdNum_le 256 st, (rdMems_asc _ _ _).1, h⟩
 exact ⟨Nat.zero_le _, List.Pairwise.nil, fun x hx => by cases hx⟩
def rdRanks : Nat → Option (List Nat) → List Nat × Option (List Nat)
 | 0, st => ([], st)
 | j + 1, st => ((rdNum 1073741824 st).1 :: (rdRanks j (rdNum 1073741824 st).2).1, (rdRanks j (rdNum 1073741824 st).2).2)
def rdRows : Nat → Option (List Nat) → List ((Nat × List Nat) × List Nat) × Option (List Nat)
 | 0, st => ([], st)
 | j + 1, st =>
  let s := rdSet st
  let q := rdRanks s.1.2.length s.2
  ((s.1, q.1) :: (rdRows j q.2).1, (rdRows j q.2).2)
def rdProof (b : List Nat) : Option (List ((Nat × List Nat) × List Nat)) :=
 let n := rdNum 256 (some b)
 let q := rdRows n.1 n.2
 if q.2 = some [] then some q.1 else none
theorem rdRanks_uv (r : List Nat) : ∀ (l : List Nat), (∀ x ∈ l, x ≤ 1073741824) → rdRanks l.length (some (l.flatMap uv ++ r)) = (l, some r)
 | [], _ => rfl
 | x :: l, h => by
  have h1 := h x (List.mem_cons_self ..)
  have e := rdNum_uv 1073741824 x (l.flatMap uv ++ r) (by omega)
  rw [if_pos h1] at e
  rw [List.length_cons, rdRanks, List.flatMap_cons, List.append_assoc, e]
  simp only
  rw [rdRanks_uv r l (fun y hy => h y (List.mem_cons_of_mem _ hy))]
end Go.Proofs.YtjeohlooaiociaaGreatDoor

namespace Go.Proofs.YtjeohlooaiociaaGreatDoor
open Go Go.RowKit
def rowE (x : (Nat × List Nat) × List Nat) : List Nat := setB x.1.1 x.1.2 ++ x.2.flatMap uv
def RowOk (x : (Nat × List Nat) × List Nat) : Prop := x.1.1 ≤ 256 ∧ x.1.2.Pairwise (· < ·) ∧ (∀ y ∈ x.1.2, y < x.1.1) ∧ x.2.length = x.1.2.length ∧ ∀ y ∈ x.2, y ≤ 1073741824
def proofE (L : List ((Nat × List Nat) × List Nat)) : List Nat := uv L.length ++ L.flatMap rowE
theorem rdSet_of {w : Nat} {ms : List Nat} (hw : w ≤ 256) (ha : ms.Pairwise (· < ·)) (hl : ∀ x ∈ ms, x < w) (r : List Nat) : rdSet (some (setB w ms ++ r)) = ((w, ms), some r) := by
 have h := rdSet_setB (m := ofN (natsZ ms)) hw r
 rw [memN_of ha hl] at h
 exact h
theorem rdRows_enc (r : List Nat) : ∀ (L : List ((Nat × List Nat) × List Nat)), (∀ x ∈ L, RowOk x) → rdRows L.length (some (L.flatMap rowE ++ r)) = (L, some r)
 | [], _ => rfl
 | x :: L, h => by
  obtain ⟨h1, h2, h3, h4, h5⟩ := h x (List.mem_cons_self ..)
  have e1 := rdSet_of h1 h2 h3 (x.2.flatMap uv ++ (L.flatMap rowE ++ r))
  have e2 := rdRanks_uv (L.flatMap rowE ++ r) x.2 h5
  rw [h4] at e2
  rw [List.length_cons, rdRows, List.flatMap_cons, rowE, List.append_assoc, List.append_assoc, e1]
  simp only
  rw [e2]
  simp only
  rw [rdRows_enc r L (fun y hy => h y (List.mem_cons_of_mem _ hy))]
theorem rdProof_enc {L : List ((Nat × List Nat) × List Nat)} (hl : L.length ≤ 256) (h : ∀ x ∈ L, RowOk x) : rdProof (proofE L) = some L := by
 have e := rdNum_uv 256 L.length (L.flatMap rowE) (by omega)
 rw [if_pos hl] at e
 have e2 := rdRows_enc [] L h
 rw [List.append_nil] at e2
 unfold rdProof proofE
 simp only
 rw [e]
 simp only
 rw [e2]
 simp
end Go.Proofs.YtjeohlooaiociaaGreatDoor

namespace Go.Proofs.YtjeohlooaiociaaGreatDoor
open Go Go.RowKit
def DMask (lo E Q : Nat) (vr : Value) (R : LD) (n : Nat) : Nat → Prop := fun b => b = E ∨ b = Q ∨ RwIn vr R b ∨ n ≤ b ∨ b < lo
structure DecM (W wr : World) (n E Q base : Nat) (sl : Value) (l : List Nat) (st : Option (List Nat)) (vv vr : Value) (Lv : LS) (R : LD) : Prop where
 ext : Ext No W wr
 low : W.heap.size ≤ E
 eq : E < base
 qb : Q < base
 ne : E ≠ Q
 lq : W.heap.size ≤ Q
 nl : base ≤ n
 nh : n ≤ wr.heap.size
 src : Ints (fun b => W.heap.size ≤ b) wr .u8 sl (natsZ l)
 rd : RdM wr E sl l st
 box : wr.heap[Q]? = some (.cells #[vv, vr] 29 (0, 0))
 v : LOwn kS (DMask W.heap.size E Q vr R n) wr base vv Lv
 r : RwM wr base vr R
 vn : ∀ k, vv.ownBlock = some k → ¬ RwIn vr R k
 rn : ∀ k, RwIn vr R k → k < n
section
variable {W wr w' w2 : World} {n n' E Q base : Nat} {sl vv vr v' : Value} {l : List Nat} {st st' : Option (List Nat)} {Lv : LS} {R : LD}
theorem DecM.step (h : DecM W wr n E Q base sl l st vv vr Lv R) (hx : Ext (At E) wr w') (hr : RdM w' E sl l st') : DecM W w' n E Q base sl l st' vv vr Lv R := by
 have h1 := h.low
 have h2 := h.eq
 have h3 := h.ne
 exact ⟨h.ext.trans2 hx (fun i hi e => by unfold At at e; omega), h1, h2, h.qb, h3, h.lq, h.nl, Nat.le_trans h.nh hx.size, Row.ext h.src hx (fun b _ e => by unfold At at e; omega), hr, hx.blk h.box (fun e => h3 (show Q = E from e).symm), h.v.ext2 hx (fun i hi e => by have := (h.v.lt i hi).1; unfold At at e; omega) (fun i _ e => .inl e), h.r.ext hx (fun b hb e => by have := (h.r.lt b hb).1; unfold At at e; omega), h.vn, h.rn⟩
theorem DecM.stepNo (h : DecM W wr n E Q base sl l st vv vr Lv R) (hx : Ext No wr w') : DecM W w' n E Q base sl l st vv vr Lv R := h.step hx.ofNo (h.rd.ext hx no_no)
theorem DecM.lift (h : DecM W wr n E Q base sl l st vv vr Lv R) (h1 : n ≤ n') (h2 : n' ≤ wr.heap.size) : DecM W wr n' E Q base sl l st vv vr Lv R :=
 ⟨h.ext, h.low, h.eq, h.qb, h.ne, h.lq, Nat.le_trans h.nl h1, h2, h.src, h.rd, h.box, h.v.mono (fun i _ e => by
  rcases e with e | e | e | e | e
  ·exact .inl e
  ·exact .inr (.inl e)
  ·exact .inr (.inr (.inl e))
  ·exact .inr (.inr (.inr (.inl (by omega))))
  exact .inr (.inr (.inr (.inr e)))), h.r, h.vn, fun k hk => Nat.lt_of_lt_of_le (h.rn k hk) h1⟩
theorem DecM.addV {o : Obj} {p : RawSet × Value} (h : DecM W wr n E Q base sl l st vv vr Lv R) (hp : WordsAt (fun b => DMask W.heap.size E Q vr R n b ∨ vv.ownBlock = some b) wr p.2 p.1.words)
  (hown : w2.ownsRow base 50 2 v' (Lv.length + 1) (Lv.flatMap kS.cells ++ kS.cells p)) (hg : (wr.alloc o).grownBy w2 vv.ownBlock) (hv : v'.ownBlock = vv.ownBlock ∨ v'.ownBlock = some (wr.alloc o).heap.size) :
  DecM W (w2.setCell ⟨Q, 0, none⟩ v') n E Q base sl l st v' vr (Lv ++ [p]) R ∧ w2.heap[Q]? = some (.cells #[vv, vr] 29 (0, 0)) ∧ ∀ k, v'.ownBlock = some k → vv.ownBlock = some k ∨ wr.heap.size ≤ k := by
 have h1 := h.low
 have h2 := h.eq
 have h3 := h.ne
 have h4 := h.lq
 have h5 := h.qb
 have hsz : (wr.alloc o).heap.size = wr.heap.size + 1 := by simp
 have hE : Ext (fun k => vv.ownBlock = some k) wr w2 := ((Ext.refl _ wr).alloc o).grown hg (fun k hk _ => hk)
 have hE2 : Ext (At Q) w2 (w2.setCell ⟨Q, 0, none⟩ v') := (Ext.refl (At Q) _).setAt _ _
 have hlo : ∀ i, vv.ownBlock = some i → base ≤ i := fun i hi => (h.v.lt i hi).1
 have hbQ := hE.blk h.box (fun e => by have := hlo _ e; omega)
 have hv2 : v'.ownBlock = vv.ownBlock ∨ ∀ k, v'.ownBlock = some k → wr.heap.size ≤ k := hv.imp id (fun hv k hk => by rw [hv] at hk; simp only [Option.some.injEq] at hk; omega)
 have hvk : ∀ k, v'.ownBlock = some k → vv.ownBlock = some k ∨ wr.heap.size ≤ k := fun k hk => by
  rcases hv2 with e | e
  ·exact .inl (by rw [← e]; exact hk)
  exact .inr (e k hk)
 have hl := h.v.app (E := fun k => vv.ownBlock = some k) hp hown hE (fun _ e => e) hv2
 refine ⟨⟨(h.ext.trans2 hE (fun i hi e => by have := hlo i e; omega)).trans2 hE2 (fun i hi e => by unfold At at e; omega), h1, h2, h5, h3, h4, h.nl, Nat.le_trans h.nh (Nat.le_trans hE.size hE2.size), Row.ext (Row.ext h.src hE (fun b _ e => by have := hlo b e; omega)) hE2 (fun b _ e => by unfold At at e; omega), (h.rd.ext hE (fun e => by have := hlo _ e; omega)).ext hE2 (fun e => h3 e), (set_same (j := 0) hbQ).trans rfl, hl.ext2 hE2 (fun i hi e => by have := (hl.lt i hi).1; unfold At at e; omega) (fun i _ e => .inr (.inl e)), (h.r.ext hE (fun b hb e => h.vn b e hb)).ext hE2 (fun b hb e => by have := (h.r.lt b hb).1; unfold At at e; omega), fun k hk e => ?_, h.rn⟩, hbQ, hvk⟩
 rcases hvk k hk with e2 | e2
 ·exact h.vn k e2 e
 have := (h.r.lt k e).2; omega
theorem DecM.addR {o : Obj} {p : List Int × Value} (h : DecM W wr n E Q base sl l st vv vr Lv R) (hp : wr.ownsRow n 3 1 p.2 p.1.length (p.1.map (.int .i64))) (hpv : ∀ k, p.2.ownBlock = some k → vv.ownBlock ≠ some k)
  (hown : w2.ownsRow base 22 1 v' (R.length + 1) (R.flatMap kD.cells ++ [p.2])) (hg : (wr.alloc o).grownBy w2 vr.ownBlock) (hv : v'.ownBlock = vr.ownBlock ∨ v'.ownBlock = some (wr.alloc o).heap.size) :
  DecM W (w2.setCell ⟨Q, 1, none⟩ v') (w2.setCell ⟨Q, 1, none⟩ v').heap.size E Q base sl l st vv v' Lv (R ++ [p]) ∧ w2.heap[Q]? = some (.cells #[vv, vr] 29 (0, 0)) := by
 have h1 := h.low
 have h2 := h.eq
 have h3 := h.ne
 have h4 := h.lq
 have h5 := h.qb
 have h6 := h.nl
 have hsz : (wr.alloc o).heap.size = wr.heap.size + 1 := by simp
 have hE : Ext (fun k => vr.ownBlock = some k) wr w2 := ((Ext.refl _ wr).alloc o).grown hg (fun k hk _ => hk)
 have hE2 : Ext (At Q) w2 (w2.setCell ⟨Q, 1, none⟩ v') := (Ext.refl (At Q) _).setAt _ _
 have hlo : ∀ i, vr.ownBlock = some i → base ≤ i := fun i hi => (h.r.lt i (.inl hi)).1
 have hbQ := hE.blk h.box (fun e => by have := hlo _ e; omega)
 have hv2 : v'.ownBlock = vr.ownBlock ∨ ∀ k, v'.ownBlock = some k → wr.heap.size ≤ k := hv.imp id (fun hv k hk => by rw [hv] at hk; simp only [Option.some.injEq] at hk; omega)
 have hr2 : RwM w2 base v' (R ++ [p]) := h.r.add (row_base hp h6) (fun b hb e => by have h7 := (World.ownsRow.lt hp b hb).1; have h8 := h.rn b e; omega) hown hE hv2
 have hr3 := hr2.ext hE2 (fun b hb e => by have := (hr2.lt b hb).1; unfold At at e; omega)
 have hin : ∀ b, RwIn v' (R ++ [p]) b → RwIn vr R b ∨ (n ≤ b ∧ ((∃ q, q = p.2 ∧ q.ownBlock = some b) ∨ wr.heap.size ≤ b)) := fun b hb => by
  rcases hb with hb | ⟨q, hq, hb⟩
  ·rcases hv2 with e | e
   ·exact .inl (.inl (by rw [← e]; exact hb))
   exact .inr ⟨Nat.le_trans h.nh (e b hb), .inr (e b hb)⟩
  rcases List.mem_append.1 hq with hq | hq
  ·exact .inl (.inr ⟨q, hq, hb⟩)
  rw [List.mem_singleton.1 hq] at hb
  exact .inr ⟨(World.ownsRow.lt hp b hb).1, .inl ⟨_, rfl, hb⟩⟩
 have hsz2 : wr.heap.size ≤ (w2.setCell ⟨Q, 1, none⟩ v').heap.size := Nat.le_trans hE.size hE2.size
 have hnh := h.nh
 have hvb : ∀ i, vv.ownBlock = some i → base ≤ i := fun i hi => (h.v.lt i hi).1
 have hl := (h.v.ext2 hE (fun i hi e => h.vn i hi (.inl e)) (fun i _ e => .inr (.inr (.inl (.inl e))))).ext2 hE2 (fun i hi e => by have := hvb i hi; unfold At at e; omega) (fun i _ e => .inr (.inl e))
 refine ⟨⟨(h.ext.trans2 hE (fun i hi e => by have := hlo i e; omega)).trans2 hE2 (fun i hi e => by unfold At at e; omega), h1, h2, h5, h3, h4, by omega, Nat.le_refl _, Row.ext (Row.ext h.src hE (fun b _ e => by have := hlo b e; omega)) hE2 (fun b _ e => by unfold At at e; omega), (h.rd.ext hE (fun e => by have := hlo _ e; omega)).ext hE2 (fun e => h3 e), (set_same (j := 1) hbQ).trans rfl, hl.mono (fun i hi e => ?_), hr3, fun k hk e => ?_, fun k hk => (hr3.lt k hk).2⟩, hbQ⟩
 ·rcases e with e | e | e | e | e
  ·exact .inl e
  ·exact .inr (.inl e)
  ·rcases hin i e with e | e
   ·exact .inr (.inr (.inl e))
   exact .inr (.inr (.inr (.inl e.1)))
  ·omega
  exact .inr (.inr (.inr (.inr e)))
 rcases hin k e with e | ⟨-, ⟨q, hq, e⟩ | e⟩
 ·exact h.vn k hk e
 ·rw [hq] at e; exact hpv k e hk
 have := (h.v.lt k hk).2; omega
end


import Derived.Test.YtjeohlooaiociaaGreatDoorP36
set_option linter.unusedVariables false
set_option linter.unusedSimpArgs false
namespace Go.Proofs.YtjeohlooaiociaaGreatDoor
open Go Go.RowKit
set_option maxRecDepth 100000 in
set_option maxHeartbeats 1000000 in
theorem cloneB_any (sl : Value) (l : List Nat) (W : World) (h : Ints No W .u8 sl (natsZ l)) (hn : l.length ≤ 1099511627776) :
  Calls Tryz.prog 105 #[sl] W (fun e w' => ∃ v, e = .returned v ∧ OwnB w' W.heap.size v l ∧ Ext No W w') := by
 obtain ⟨iB, hiB, hB0, hB1, hB2⟩ := info_parts infoB31
 have hz : (natsZ l).length = l.length := by simp [natsZ]
 have h' := h
 unfold Ints at h'
 rw [hz] at h'
 have H := Lib.hid h'
 obtain ⟨a, cap, rfl⟩ := Row.slice h'
 clear h h' hz
 have ke := fun (w : World) (a : Option Addr) (n c : Nat) => Lib.run_eql_slice_nil (P := Tryz.prog) w 53 5 a n c 0 0 Tryz.underlying53
 cases a with
 | none =>
  have h0 : l.length = 0 := by
   rcases H.out.2.2 with ⟨a, c, h1, _, h2 | ⟨b, off, h2, _⟩⟩
   ·exact h2
   simp only [Value.slice.injEq] at h1; rw [h2] at h1; exact absurd h1.1 (by simp)
  have HL := Lib.hid (List.eq_nil_of_length_eq_zero h0)
  clear h0
  go_enter Tryz.func105, Tryz.ntmps105
  go_wp2
  go_ret
  exact ⟨_, rfl, by rw [HL.out]; exact OwnB.nil _ _, Ext.refl _ _⟩
 | some ad =>
  go_enter Tryz.func105, Tryz.ntmps105
  go_wp2_with (at_builtin; refine wpList_app _ rfl (.tmp 5) (.tmp 6) 53 rfl W.heap.size 5 iB _ 1 1 Tryz.underlying53 hiB hB0 hB1 hB2 rfl (by omega) _ 0 [] rfl (World.ownsRow_made W #[] 0 (Nat.le_refl _) (Nat.zero_le _) rfl) No (some ad) l.length cap ((natsZ l).map (.int .u8)) rfl (Row.extNo H.out ((Ext.refl _ _).alloc _)) (bytes_one l) (by omega) (by omega) (by simp) ?_; intro v1 w1 hown hg hat)
  go_ret
  simp only [Nat.zero_add, List.nil_append] at hown
  exact ⟨_, rfl, hown, ((Ext.refl _ _).alloc _).grown hg (fun k hk hlt => by cases hk; exact absurd hlt (Nat.lt_irrefl _))⟩
set_option maxRecDepth 100000 in
set_option maxHeartbeats 1000000 in
theorem equalB_any (M1 M2 : Nat → Prop) (s1 s2 : Value) (l k : List Nat) (W : World) (h1 : Ints M1 W .u8 s1 (natsZ l)) (h2 : Ints M2 W .u8 s2 (natsZ k)) (hn : l.length ≤ 1099511627776) :
  Calls Tryz.prog 104 #[s1, s2] W (Tells (l = k) W) := by
 have H1 := Lib.hid h1
 have H2 := Lib.hid h2
 obtain ⟨a1, c1, rfl⟩ : ∃ a c, s1 = .slice a l.length c := by
  obtain ⟨_, _, a, c, rfl, _, _⟩ := h1
  exact ⟨a, c, by simp [natsZ]⟩
 obtain ⟨a2, c2, rfl⟩ : ∃ a c, s2 = .slice a k.length c := by
  obtain ⟨_, _, a, c, rfl, _, _⟩ := h2
  exact ⟨a, c, by simp [natsZ]⟩
 clear h1 h2
 by_cases hlk : l.length = k.length
 ·have hlz : (l.length : Int) = (k.length : Int) := by omega
  have hlz' : ((l.length : Int) != (k.length : Int)) = false := by simp [hlz]
  have HLK := Lib.hid hlk
  clear hlk
  go_enter Tryz.func104, Tryz.ntmps104
  go_wp2_with fail
  go_loopw [13] (fun i wr => ∃ j : Nat, j ≤ l.length ∧ i = .int .i64 (j : Int) ∧ Hid (∀ n (h1 : n < l.length) (h2 : n < k.length), n < j → l[n] = k[n]) ∧ Hid (Ext No W wr)) (fun i _ => l.length - (intOf i).toNat)
  case atStart => exact ⟨0, Nat.zero_le _, rfl, Lib.hid (fun n _ _ h => absurd h (Nat.not_lt_zero _)), Lib.hid (Ext.refl _ _)⟩
  obtain ⟨j, hj, rfl, hE, hX⟩ := hrel
  rename World => wr
  by_cases hlt : j < l.length
  ·have hjz : (j : Int) < (l.length : Int) := by omega
   have HKK : Hid (Value.int .i64 ((j : Int) + 1) = .int .i64 ((j + 1 : Nat) : Int)) := Lib.hid (by rw [show ((j + 1 : Nat) : Int) = (j : Int) + 1 from by omega])
   have hlt2 : j < k.length := by rw [← HLK.out]; exact hlt
   obtain ⟨b1, o1, k1, he1, hc1⟩ := ints_u8 (show Ints M1 wr .u8 (.slice a1 l.length c1) (natsZ l) from Row.extNo H1.out hX.out) hlt
   obtain ⟨b2, o2, k2, he2, hc2⟩ := ints_u8 (show Ints M2 wr .u8 (.slice a2 k.length c2) (natsZ k) from Row.extNo H2.out hX.out) hlt2
   simp only [Value.slice.injEq] at he1 he2
   obtain ⟨rfl, -, -⟩ := he1
   obtain ⟨rfl, -, -⟩ := he2
   have q1 := hc1 j hlt
   have q2 := hc2 j hlt2
   have hjz2 : (j : Int) < (k.length : Int) := by omega
   obtain ⟨x, hx⟩ : ∃ x, x = l[j] := ⟨_, rfl⟩
   obtain ⟨y, hy⟩ : ∃ x, x = k[j] := ⟨_, rfl⟩
   rw [← hx] at q1
   rw [← hy] at q2
   have HXE := Lib.hid hx
   have HYE := Lib.hid hy
   clear hc1 hc2 hx hy
   by_cases hxy : x = y
   ·have hxz : (x : Int) = (y : Int) := by omega
    have hxz' : ((x : Int) != (y : Int)) = false := by simp [hxz]
    have HXY := Lib.hid hxy
    clear hxy
    go_wp2_with (go_quiet (fail))
    go_roundw
    case rel => exact ⟨j + 1, by omega, HKK.out, Lib.hid (fun n h1 h2 h3 => by
     by_cases e : n = j
     ·subst e; rw [← HXE.out, ← HYE.out]; exact HXY.out
     exact hE.out n h1 h2 (by omega)), Lib.hid (hX.out.drewN _)⟩
    case measure => simp [intOf]; omega
   have hxz : ¬ (x : Int) = (y : Int) := by omega
   have hxz' : ((x : Int) != (y : Int)) = true := by simp [hxz]
   have HXY := Lib.hid hxy
   clear hxy
   go_wp2_with (go_quiet (fail))
   go_ret
   exact tells_false (fun e => HXY.out (by rw [HXE.out, HYE.out]; simp only [e])) (hX.out.drewN _)
  have hge : ¬ (j : Int) < (l.length : Int) := by omega
  go_wp2_with fail
  go_ret
  exact tells_true (List.ext_getElem HLK.out (fun n h1 h2 => hE.out n h1 h2 (by omega))) hX.out
 have hlz : ¬ (l.length : Int) = (k.length : Int) := by omega
 have hlz' : ((l.length : Int) != (k.length : Int)) = true := by simp [hlz]
 have HN := Lib.hid (show ¬ l = k from fun e => hlk (by rw [e]))
 clear hlk
 go_enter Tryz.func104, Tryz.ntmps104
 go_wp2_with fail
 go_ret
 exact tells_false HN.out (Ext.refl _ _)
theorem done_any (E : Nat) (sl : Value) (l : List Nat) (st : Option (List Nat)) (W : World) (h : RdM W E sl l st) (hl : ∃ a c, sl = .slice a l.length c) :
  Calls Tryz.prog 72 #[.pointer (some ⟨E, 0, none⟩)] W (Tells (st = some []) W) := by
 obtain ⟨a, c, rfl⟩ := hl
 obtain ⟨at1, bad, hbx, hat, hst⟩ := h
 have HST := Lib.hid hst
 have cE := cellOf hbx
 clear hst
 go_enter Tryz.func72, Tryz.ntmps72
 cases hbd : bad with
 | true =>
  subst hbd
  go_wp2_with (go_quiet (fail))
  go_ret
  exact tells_false (p := st = some []) (by rw [HST.out]; simp [rdSt]) ((Ext.refl No W).drewN _)
 | false =>
  subst hbd
  by_cases hae : at1 = l.length
  ·have haz : (at1 : Int) = (l.length : Int) := by omega
   go_wp2_with (go_quiet (fail))
   go_ret
   exact tells_true (p := st = some []) (by rw [HST.out, hae]; simp [rdSt]) ((Ext.refl No W).drewN _)
  have haz : ¬ (at1 : Int) = (l.length : Int) := by omega
  have haz' : ((at1 : Int) == (l.length : Int)) = false := by simp; omega
  go_wp2_with (go_quiet (fail))
  go_ret
  exact tells_false (p := st = some []) (by rw [HST.out]; simp [rdSt]; omega) ((Ext.refl No W).drewN _)
def bodyB (b : List Nat) : List Nat := b.take (b.length - 4)
def OpenPost (b : List Nat) (W : World) (e : Ending) (w' : World) : Prop :=
 (b.length < 4 ∧ e = .returned (.tuple #[.pointer none, .int .i64 12]) ∧ Ext No W w') ∨
 (4 ≤ b.length ∧ sealB (bodyB b) ≠ b ∧ e = .returned (.tuple #[.pointer none, .int .i64 14]) ∧ Ext No W w') ∨
 (4 ≤ b.length ∧ sealB (bodyB b) = b ∧ ∃ (E : Nat) (sl : Value), e = .returned (.tuple #[.pointer (some ⟨E, 0, none⟩), .int .i64 0]) ∧ RdM w' E sl (bodyB b) (some (bodyB b)) ∧ Ints (fun i => W.heap.size ≤ i) w' .u8 sl (natsZ (bodyB b)) ∧ W.heap.size ≤ E ∧ Ext No W w')
set_option maxRecDepth 100000 in
set_option maxHeartbeats 1000000 in
theorem uopen_any (sl : Value) (b : List Nat) (W : World) (h : Ints No W .u8 sl (natsZ b)) (hb : ∀ x ∈ b, x < 256) (hl : b.length ≤ 1099511627776) :
  Calls Tryz.prog 69 #[sl] W (OpenPost b W) := by
 have hz : (natsZ b).length = b.length := by simp [natsZ]
 obtain ⟨a, c, rfl, hbc, hcc⟩ : ∃ a c, sl = .slice a b.length c ∧ b.length ≤ c ∧ c ≤ 9223372036854775807 := by
  obtain ⟨_, _, a, c, rfl, hcp, _⟩ := h
  rw [hz] at hcp
  exact ⟨a, c, by rw [hz], hcp.1, hcp.2⟩
 by_cases h4 : b.length < 4
 ·refine (open_short a b.length c h4 W).mono ?_
  rintro e w' ⟨rfl, hx⟩
  exact .inl ⟨h4, rfl, hx⟩
 obtain ⟨n, hn⟩ : ∃ n, n = b.length - 4 := ⟨_, rfl⟩
 have h' := h
 unfold Ints at h'
 rw [hz] at h'
 have hc0 : Row No W 1 (.slice a n c) n (((natsZ b).map (.int .u8)).take (n * 1)) := Row.cutK h' hcc hbc (by omega)
 have hbl : (bodyB b).length = n := by unfold bodyB; rw [List.length_take]; omega
 have hc1 : Ints No W .u8 (.slice a n c) (natsZ (bodyB b)) := by
  unfold Ints
  rw [show (natsZ (bodyB b)).length = n by simp [natsZ, hbl]]
  rw [show (natsZ (bodyB b)).map (Value.int .u8) = ((natsZ b).map (.int .u8)).take (n * 1) by unfold bodyB natsZ; rw [Nat.mul_one, ← hn, List.map_take, List.map_take]]
  exact hc0
 have HC := Lib.hid hc1
 have HB := Lib.hid h
 have HBY := Lib.hid hb
 have HBL := Lib.hid hbl
 have hbz : ¬ (b.length : Int) < 4 := by omega
 have hsub : (b.length : Int) - 4 = (n : Int) := by omega
 have hn0 : (0 : Int) ≤ (n : Int) := by omega
 have hnc : (n : Int) ≤ (c : Int) := by omega
 have HN := Lib.hid hn
 clear hn hc0 hc1 h h' hb hz hbl
 go_enter Tryz.func69, Tryz.ntmps69
 go_wp2_with fail
 refine (cloneB_any _ (bodyB b) W HC.out (by rw [HBL.out]; omega)).mono ?_
 rintro e1 w1 ⟨v1, rfl, ho1, hx1⟩
 obtain ⟨l, hlb⟩ : ∃ l, l = bodyB b := ⟨_, rfl⟩
 rw [← hlb] at ho1 HC HBL
 have HLB := Lib.hid hlb
 obtain ⟨a1, c1, hs1⟩ := ho1.slice
 subst hs1
 have hll : l.length = n := HBL.out
 have hlby : ∀ x ∈ l, x < 256 := fun x hx => HBY.out x (by rw [HLB.out] at hx; exact List.mem_of_mem_take hx)
 have HLBY := Lib.hid hlby
 have HO1 := Lib.hid ho1
 have HX1 := Lib.hid hx1
 clear hlb ho1 hx1 hlby hll
 go_wp2_with fail
 refine (useal_any W.heap.size _ l w1 HO1.out HX1.out.size (by rw [HBL.out]; omega) HLBY.out).mono ?_
 rintro e2 w2 ⟨v2, rfl, ho2, hx2, hv2⟩
 have HX2 := Lib.hid (HX1.out.trans2 hx2 (fun i hi e => by have := (HO1.out.lt i e).1; omega))
 obtain ⟨l2, hl2⟩ : ∃ l2, l2 = l ++ ckB l := ⟨_, rfl⟩
 have ho3 := ho2.out
 rw [← hl2] at ho3
 have hlen2 : l2.length = n + 4 := by rw [hl2, List.length_append, HBL.out]; rfl
 have hlen3 := Lib.hid hlen2
 obtain ⟨a2, c2, hs2⟩ := ho3.slice
 subst hs2
 have HO3 := Lib.hid ho3
 have HL2 := Lib.hid (show l2 = sealB (bodyB b) from by rw [hl2, ← HLB.out]; rfl)
 clear ho2 hx2 hv2 hl2 ho3 hlen2
 go_wp2_with fail
 refine (equalB_any No No _ _ l2 b w2 (HO3.out.ints (fun _ _ e => e)) (Row.extNo HB.out HX2.out) (by rw [hlen3.out]; omega)).mono ?_
 rintro e3 w3 ⟨t, rfl, ht, hx3⟩
 have HX3 := Lib.hid (HX2.out.transNo hx3)
 have HT := Lib.hid ht
 clear ht hx3
 cases ht : t with
 | false =>
  subst ht
  go_wp2_with fail
  refine ret_ex rfl ?_
  simp [results, Tryz.results69, go_sem]
  exact .inr (.inl ⟨by omega, fun e => tells_no HT.out (by rw [HL2.out]; exact e), rfl, HX3.out⟩)
 | true =>
  subst ht
  go_wp2_with fail
  refine ret_ex rfl ?_
  simp [results, Tryz.results69, go_sem]
  have hE : l2 = b := by simpa using HT.out
  rw [HL2.out] at hE
  have hbox := alloc_top (w := w3) (o := (.cells #[.slice a n c, .int .i64 0, .bool false] 126)) rfl
  rw [HLB.out] at HC
  exact .inr (.inr ⟨by omega, hE, _, _, rfl, ⟨0, false, hbox, Nat.zero_le _, by simp [rdSt]⟩, Row.extNo (Row.extNo (Row.mono HC.out (fun i hi e => by omega)) HX3.out) ((Ext.refl No w3).alloc _), HX3.out.size, HX3.out.alloc _⟩)

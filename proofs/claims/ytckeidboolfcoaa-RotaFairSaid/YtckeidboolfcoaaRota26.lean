/- The law's comparison of all functions with the reference. -/
import Derived.Test.YtckeidboolfcoaaRota25
import Derived.Test.YtckeidboolfcoaaRota23
namespace Go.Proofs.Ytckeidboolfcoaa
open Go Go.RowKit

def ringW (r : Ring) (a : Option Addr) (n c : Nat) : Value := .agg #[.int .i64 r.base, .int .i64 r.per, .slice a n c, .int .i64 r.cur, .bool r.opn]
def ringC (r : Ring) (a : Option Addr) (n c : Nat) : Obj := .cells #[.int .i64 r.base, .int .i64 r.per, .slice a n c, .int .i64 r.cur, .bool r.opn] 25
theorem keepN {w w' : World} {a : Addr} {v : Value} (hx : Ext No w w') (h : w.cell? a = some v) : w'.cell? a = some v := hx.keep h
theorem blk_next {w w1 : World} {b : Nat} {o o' : Obj} (hx : Ext No w w1) (h : w.heap[b]? = some o) : (w1.alloc o').heap[b]? = some o := alloc_under (hx.blk h (fun x => x.elim))
theorem Turns.extNo {M : Nat → Prop} {w w' : World} {sl : Value} {l : List Turn} (h : Turns M w sl l) (hx : Ext No w w') : Turns M w' sl l := Row.extNo h hx
theorem No.any {w : World} : ∀ b, No b → b < w.heap.size := fun _ h => h.elim

set_option maxRecDepth 100000 in
set_option maxHeartbeats 4000000 in
theorem agrees_any (v : Value) (r : Ring) (id n : Int) (flag : Bool) (w : World) (h : RingV No w v r) :
    Calls Try.prog 12 #[v, .int .i64 id, .int .i64 n, .bool flag] w fun e w' => e = .returned (.bool true) ∧ Ext No w w' := by
  have HV := Lib.hid h
  obtain ⟨a0, n0, c0, rfl, hs0⟩ := h.opens
  clear hs0
  obtain ⟨pA, hA⟩ : ∃ p, ringAdd r id n = p := ⟨_, rfl⟩
  obtain ⟨pR, hR⟩ : ∃ p, ringRemove r id = p := ⟨_, rfl⟩
  obtain ⟨pP, hP⟩ : ∃ p, ringPick r = p := ⟨_, rfl⟩
  obtain ⟨pS, hS⟩ : ∃ p, ringSpend r n flag = p := ⟨_, rfl⟩
  obtain ⟨rA, eA⟩ := pA
  obtain ⟨rR, eR⟩ := pR
  obtain ⟨rP, iP, tP, oP⟩ := pP
  obtain ⟨rS, oS, eS⟩ := pS
  replace hA := Lib.hid hA
  replace hR := Lib.hid hR
  replace hP := Lib.hid hP
  replace hS := Lib.hid hS
  go_enter Try.func12, Try.ntmps12
  have hx0 : Ext No w (w.alloc (.cells #[.int .i64 r.base, .int .i64 r.per, .slice a0 n0 c0, .int .i64 r.cur, .bool r.opn] 25)) := (Ext.refl _ _).alloc _
  have hb0 : (w.alloc (.cells #[.int .i64 r.base, .int .i64 r.per, .slice a0 n0 c0, .int .i64 r.cur, .bool r.opn] 25)).heap[w.heap.size]? = some (.cells #[.int .i64 r.base, .int .i64 r.per, .slice a0 n0 c0, .int .i64 r.cur, .bool r.opn] 25) := alloc_top rfl
  go_wp2_with fail
  refine (ringAdd_any No _ r id n _ No.any (RingV.extNo HV.out hx0)).mono ?_
  rintro e1 w1 ⟨v1, rfl, hv1, hy1⟩
  rw [hA.out] at hv1 ⊢
  obtain ⟨a1, n1, c1, hve1, hs1⟩ := hv1.opens
  obtain rfl : v1 = .agg #[.int .i64 rA.base, .int .i64 rA.per, .slice a1 n1 c1, .int .i64 rA.cur, .bool rA.opn] := hve1
  have hx1 : Ext No w (w1.alloc (.cells #[.int .i64 rA.base, .int .i64 rA.per, .slice a1 n1 c1, .int .i64 rA.cur, .bool rA.opn] 25)) := (hx0.transNo hy1).alloc _
  have hz1 : Ext No w1 (w1.alloc (.cells #[.int .i64 rA.base, .int .i64 rA.per, .slice a1 n1 c1, .int .i64 rA.cur, .bool rA.opn] 25)) := (Ext.refl _ _).alloc _
  replace hb0 := blk_next (o' := .cells #[.int .i64 rA.base, .int .i64 rA.per, .slice a1 n1 c1, .int .i64 rA.cur, .bool rA.opn] 25) hy1 hb0
  have hb1 : (w1.alloc (.cells #[.int .i64 rA.base, .int .i64 rA.per, .slice a1 n1 c1, .int .i64 rA.cur, .bool rA.opn] 25)).heap[w1.heap.size]? = some (.cells #[.int .i64 rA.base, .int .i64 rA.per, .slice a1 n1 c1, .int .i64 rA.cur, .bool rA.opn] 25) := alloc_top rfl
  have HR1 := Lib.hid (hv1.extNo hz1)
  have cB1 := cellOf hb0
  clear hv1 hs1
  go_wp2_with fail
  clear cB1 hy1 hz1
  refine (raddSeat_any No _ r id n _ No.any (RingV.extNo HV.out hx1)).mono ?_
  rintro e2 w2 ⟨v2, rfl, hv2, hy2⟩
  rw [hA.out] at hv2 ⊢
  obtain ⟨a2, n2, c2, hve2, hs2⟩ := hv2.opens
  obtain rfl : v2 = .agg #[.int .i64 rA.base, .int .i64 rA.per, .slice a2 n2 c2, .int .i64 rA.cur, .bool rA.opn] := hve2
  have hx2 : Ext No w (w2.alloc (.cells #[.int .i64 rA.base, .int .i64 rA.per, .slice a2 n2 c2, .int .i64 rA.cur, .bool rA.opn] 25)) := (hx1.transNo hy2).alloc _
  have hz2 : Ext No w2 (w2.alloc (.cells #[.int .i64 rA.base, .int .i64 rA.per, .slice a2 n2 c2, .int .i64 rA.cur, .bool rA.opn] 25)) := (Ext.refl _ _).alloc _
  replace hb0 := blk_next (o' := .cells #[.int .i64 rA.base, .int .i64 rA.per, .slice a2 n2 c2, .int .i64 rA.cur, .bool rA.opn] 25) hy2 hb0
  replace hb1 := blk_next (o' := .cells #[.int .i64 rA.base, .int .i64 rA.per, .slice a2 n2 c2, .int .i64 rA.cur, .bool rA.opn] 25) hy2 hb1
  have hb2 : (w2.alloc (.cells #[.int .i64 rA.base, .int .i64 rA.per, .slice a2 n2 c2, .int .i64 rA.cur, .bool rA.opn] 25)).heap[w2.heap.size]? = some (.cells #[.int .i64 rA.base, .int .i64 rA.per, .slice a2 n2 c2, .int .i64 rA.cur, .bool rA.opn] 25) := alloc_top rfl
  have HR2 := Lib.hid (hv2.extNo hz2)
  replace HR1 := Lib.hid (HR1.out.extNo (hy2.transNo hz2))
  have cB2 := cellOf hb0
  clear hv2 hs2
  go_wp2_with fail
  clear cB2 hy2 hz2
  refine (remove_any No _ r id _ No.any (RingV.extNo HV.out hx2)).mono ?_
  rintro e3 w3 ⟨v3, rfl, hv3, hy3⟩
  rw [hR.out] at hv3 ⊢
  obtain ⟨a3, n3, c3, hve3, hs3⟩ := hv3.opens
  obtain rfl : v3 = .agg #[.int .i64 rR.base, .int .i64 rR.per, .slice a3 n3 c3, .int .i64 rR.cur, .bool rR.opn] := hve3
  have hx3 : Ext No w (w3.alloc (.cells #[.int .i64 rR.base, .int .i64 rR.per, .slice a3 n3 c3, .int .i64 rR.cur, .bool rR.opn] 25)) := (hx2.transNo hy3).alloc _
  have hz3 : Ext No w3 (w3.alloc (.cells #[.int .i64 rR.base, .int .i64 rR.per, .slice a3 n3 c3, .int .i64 rR.cur, .bool rR.opn] 25)) := (Ext.refl _ _).alloc _
  replace hb0 := blk_next (o' := .cells #[.int .i64 rR.base, .int .i64 rR.per, .slice a3 n3 c3, .int .i64 rR.cur, .bool rR.opn] 25) hy3 hb0
  replace hb1 := blk_next (o' := .cells #[.int .i64 rR.base, .int .i64 rR.per, .slice a3 n3 c3, .int .i64 rR.cur, .bool rR.opn] 25) hy3 hb1
  replace hb2 := blk_next (o' := .cells #[.int .i64 rR.base, .int .i64 rR.per, .slice a3 n3 c3, .int .i64 rR.cur, .bool rR.opn] 25) hy3 hb2
  have hb3 : (w3.alloc (.cells #[.int .i64 rR.base, .int .i64 rR.per, .slice a3 n3 c3, .int .i64 rR.cur, .bool rR.opn] 25)).heap[w3.heap.size]? = some (.cells #[.int .i64 rR.base, .int .i64 rR.per, .slice a3 n3 c3, .int .i64 rR.cur, .bool rR.opn] 25) := alloc_top rfl
  have HR3 := Lib.hid (hv3.extNo hz3)
  replace HR1 := Lib.hid (HR1.out.extNo (hy3.transNo hz3))
  replace HR2 := Lib.hid (HR2.out.extNo (hy3.transNo hz3))
  have cB3 := cellOf hb0
  clear hv3 hs3
  go_wp2_with fail
  clear cB3 hy3 hz3
  refine (rremove_any No _ r id _ No.any (RingV.extNo HV.out hx3)).mono ?_
  rintro e4 w4 ⟨v4, rfl, hv4, hy4⟩
  rw [hR.out] at hv4 ⊢
  obtain ⟨a4, n4, c4, hve4, hs4⟩ := hv4.opens
  obtain rfl : v4 = .agg #[.int .i64 rR.base, .int .i64 rR.per, .slice a4 n4 c4, .int .i64 rR.cur, .bool rR.opn] := hve4
  have hx4 : Ext No w (w4.alloc (.cells #[.int .i64 rR.base, .int .i64 rR.per, .slice a4 n4 c4, .int .i64 rR.cur, .bool rR.opn] 25)) := (hx3.transNo hy4).alloc _
  have hz4 : Ext No w4 (w4.alloc (.cells #[.int .i64 rR.base, .int .i64 rR.per, .slice a4 n4 c4, .int .i64 rR.cur, .bool rR.opn] 25)) := (Ext.refl _ _).alloc _
  replace hb0 := blk_next (o' := .cells #[.int .i64 rR.base, .int .i64 rR.per, .slice a4 n4 c4, .int .i64 rR.cur, .bool rR.opn] 25) hy4 hb0
  replace hb1 := blk_next (o' := .cells #[.int .i64 rR.base, .int .i64 rR.per, .slice a4 n4 c4, .int .i64 rR.cur, .bool rR.opn] 25) hy4 hb1
  replace hb2 := blk_next (o' := .cells #[.int .i64 rR.base, .int .i64 rR.per, .slice a4 n4 c4, .int .i64 rR.cur, .bool rR.opn] 25) hy4 hb2
  replace hb3 := blk_next (o' := .cells #[.int .i64 rR.base, .int .i64 rR.per, .slice a4 n4 c4, .int .i64 rR.cur, .bool rR.opn] 25) hy4 hb3
  have hb4 : (w4.alloc (.cells #[.int .i64 rR.base, .int .i64 rR.per, .slice a4 n4 c4, .int .i64 rR.cur, .bool rR.opn] 25)).heap[w4.heap.size]? = some (.cells #[.int .i64 rR.base, .int .i64 rR.per, .slice a4 n4 c4, .int .i64 rR.cur, .bool rR.opn] 25) := alloc_top rfl
  have HR4 := Lib.hid (hv4.extNo hz4)
  replace HR1 := Lib.hid (HR1.out.extNo (hy4.transNo hz4))
  replace HR2 := Lib.hid (HR2.out.extNo (hy4.transNo hz4))
  replace HR3 := Lib.hid (HR3.out.extNo (hy4.transNo hz4))
  have cB4 := cellOf hb0
  clear hv4 hs4
  go_wp2_with fail
  clear cB4 hy4 hz4
  refine (pick_any No _ r _ No.any (RingV.extNo HV.out hx4)).mono ?_
  rintro e5 w5 ⟨v5, t5, rfl, hv5, ht5, hy5⟩
  rw [hP.out] at hv5 ht5 ⊢
  obtain ⟨ta5, tc5, rfl⟩ := Row.slice ht5
  obtain ⟨a5, n5, c5, hve5, hs5⟩ := hv5.opens
  obtain rfl : v5 = .agg #[.int .i64 rP.base, .int .i64 rP.per, .slice a5 n5 c5, .int .i64 rP.cur, .bool rP.opn] := hve5
  have hx5 : Ext No w (w5.alloc (.cells #[.int .i64 rP.base, .int .i64 rP.per, .slice a5 n5 c5, .int .i64 rP.cur, .bool rP.opn] 25)) := (hx4.transNo hy5).alloc _
  have hz5 : Ext No w5 (w5.alloc (.cells #[.int .i64 rP.base, .int .i64 rP.per, .slice a5 n5 c5, .int .i64 rP.cur, .bool rP.opn] 25)) := (Ext.refl _ _).alloc _
  replace hb0 := blk_next (o' := .cells #[.int .i64 rP.base, .int .i64 rP.per, .slice a5 n5 c5, .int .i64 rP.cur, .bool rP.opn] 25) hy5 hb0
  replace hb1 := blk_next (o' := .cells #[.int .i64 rP.base, .int .i64 rP.per, .slice a5 n5 c5, .int .i64 rP.cur, .bool rP.opn] 25) hy5 hb1
  replace hb2 := blk_next (o' := .cells #[.int .i64 rP.base, .int .i64 rP.per, .slice a5 n5 c5, .int .i64 rP.cur, .bool rP.opn] 25) hy5 hb2
  replace hb3 := blk_next (o' := .cells #[.int .i64 rP.base, .int .i64 rP.per, .slice a5 n5 c5, .int .i64 rP.cur, .bool rP.opn] 25) hy5 hb3
  replace hb4 := blk_next (o' := .cells #[.int .i64 rP.base, .int .i64 rP.per, .slice a5 n5 c5, .int .i64 rP.cur, .bool rP.opn] 25) hy5 hb4
  have hb5 : (w5.alloc (.cells #[.int .i64 rP.base, .int .i64 rP.per, .slice a5 n5 c5, .int .i64 rP.cur, .bool rP.opn] 25)).heap[w5.heap.size]? = some (.cells #[.int .i64 rP.base, .int .i64 rP.per, .slice a5 n5 c5, .int .i64 rP.cur, .bool rP.opn] 25) := alloc_top rfl
  have HR5 := Lib.hid (hv5.extNo hz5)
  replace HR1 := Lib.hid (HR1.out.extNo (hy5.transNo hz5))
  replace HR2 := Lib.hid (HR2.out.extNo (hy5.transNo hz5))
  replace HR3 := Lib.hid (HR3.out.extNo (hy5.transNo hz5))
  replace HR4 := Lib.hid (HR4.out.extNo (hy5.transNo hz5))
  have HT5 := Lib.hid (Turns.extNo ht5 hz5)
  have cB5 := cellOf hb0
  clear hv5 hs5 ht5
  go_wp2_with fail
  clear cB5 hy5 hz5
  refine (rpick_any No _ r _ No.any (RingV.extNo HV.out hx5)).mono ?_
  rintro e6 w6 ⟨v6, t6, rfl, hv6, ht6, hy6⟩
  rw [hP.out] at hv6 ht6 ⊢
  obtain ⟨ta6, tc6, rfl⟩ := Row.slice ht6
  obtain ⟨a6, n6, c6, hve6, hs6⟩ := hv6.opens
  obtain rfl : v6 = .agg #[.int .i64 rP.base, .int .i64 rP.per, .slice a6 n6 c6, .int .i64 rP.cur, .bool rP.opn] := hve6
  have hx6 : Ext No w (w6.alloc (.cells #[.int .i64 rP.base, .int .i64 rP.per, .slice a6 n6 c6, .int .i64 rP.cur, .bool rP.opn] 25)) := (hx5.transNo hy6).alloc _
  have hz6 : Ext No w6 (w6.alloc (.cells #[.int .i64 rP.base, .int .i64 rP.per, .slice a6 n6 c6, .int .i64 rP.cur, .bool rP.opn] 25)) := (Ext.refl _ _).alloc _
  replace hb0 := blk_next (o' := .cells #[.int .i64 rP.base, .int .i64 rP.per, .slice a6 n6 c6, .int .i64 rP.cur, .bool rP.opn] 25) hy6 hb0
  replace hb1 := blk_next (o' := .cells #[.int .i64 rP.base, .int .i64 rP.per, .slice a6 n6 c6, .int .i64 rP.cur, .bool rP.opn] 25) hy6 hb1
  replace hb2 := blk_next (o' := .cells #[.int .i64 rP.base, .int .i64 rP.per, .slice a6 n6 c6, .int .i64 rP.cur, .bool rP.opn] 25) hy6 hb2
  replace hb3 := blk_next (o' := .cells #[.int .i64 rP.base, .int .i64 rP.per, .slice a6 n6 c6, .int .i64 rP.cur, .bool rP.opn] 25) hy6 hb3
  replace hb4 := blk_next (o' := .cells #[.int .i64 rP.base, .int .i64 rP.per, .slice a6 n6 c6, .int .i64 rP.cur, .bool rP.opn] 25) hy6 hb4
  replace hb5 := blk_next (o' := .cells #[.int .i64 rP.base, .int .i64 rP.per, .slice a6 n6 c6, .int .i64 rP.cur, .bool rP.opn] 25) hy6 hb5
  have hb6 : (w6.alloc (.cells #[.int .i64 rP.base, .int .i64 rP.per, .slice a6 n6 c6, .int .i64 rP.cur, .bool rP.opn] 25)).heap[w6.heap.size]? = some (.cells #[.int .i64 rP.base, .int .i64 rP.per, .slice a6 n6 c6, .int .i64 rP.cur, .bool rP.opn] 25) := alloc_top rfl
  have HR6 := Lib.hid (hv6.extNo hz6)
  replace HR1 := Lib.hid (HR1.out.extNo (hy6.transNo hz6))
  replace HR2 := Lib.hid (HR2.out.extNo (hy6.transNo hz6))
  replace HR3 := Lib.hid (HR3.out.extNo (hy6.transNo hz6))
  replace HR4 := Lib.hid (HR4.out.extNo (hy6.transNo hz6))
  replace HR5 := Lib.hid (HR5.out.extNo (hy6.transNo hz6))
  have HT6 := Lib.hid (Turns.extNo ht6 hz6)
  replace HT5 := Lib.hid (Turns.extNo HT5.out (hy6.transNo hz6))
  have cB6 := cellOf hb0
  clear hv6 hs6 ht6
  go_wp2_with fail
  clear cB6 hy6 hz6
  refine (spend_any No _ r n flag _ No.any (RingV.extNo HV.out hx6)).mono ?_
  rintro e7 w7 ⟨v7, rfl, hv7, hy7⟩
  rw [hS.out] at hv7 ⊢
  obtain ⟨a7, n7, c7, hve7, hs7⟩ := hv7.opens
  obtain rfl : v7 = .agg #[.int .i64 rS.base, .int .i64 rS.per, .slice a7 n7 c7, .int .i64 rS.cur, .bool rS.opn] := hve7
  have hx7 : Ext No w (w7.alloc (.cells #[.int .i64 rS.base, .int .i64 rS.per, .slice a7 n7 c7, .int .i64 rS.cur, .bool rS.opn] 25)) := (hx6.transNo hy7).alloc _
  have hz7 : Ext No w7 (w7.alloc (.cells #[.int .i64 rS.base, .int .i64 rS.per, .slice a7 n7 c7, .int .i64 rS.cur, .bool rS.opn] 25)) := (Ext.refl _ _).alloc _
  replace hb0 := blk_next (o' := .cells #[.int .i64 rS.base, .int .i64 rS.per, .slice a7 n7 c7, .int .i64 rS.cur, .bool rS.opn] 25) hy7 hb0
  replace hb1 := blk_next (o' := .cells #[.int .i64 rS.base, .int .i64 rS.per, .slice a7 n7 c7, .int .i64 rS.cur, .bool rS.opn] 25) hy7 hb1
  replace hb2 := blk_next (o' := .cells #[.int .i64 rS.base, .int .i64 rS.per, .slice a7 n7 c7, .int .i64 rS.cur, .bool rS.opn] 25) hy7 hb2
  replace hb3 := blk_next (o' := .cells #[.int .i64 rS.base, .int .i64 rS.per, .slice a7 n7 c7, .int .i64 rS.cur, .bool rS.opn] 25) hy7 hb3
  replace hb4 := blk_next (o' := .cells #[.int .i64 rS.base, .int .i64 rS.per, .slice a7 n7 c7, .int .i64 rS.cur, .bool rS.opn] 25) hy7 hb4
  replace hb5 := blk_next (o' := .cells #[.int .i64 rS.base, .int .i64 rS.per, .slice a7 n7 c7, .int .i64 rS.cur, .bool rS.opn] 25) hy7 hb5
  replace hb6 := blk_next (o' := .cells #[.int .i64 rS.base, .int .i64 rS.per, .slice a7 n7 c7, .int .i64 rS.cur, .bool rS.opn] 25) hy7 hb6
  have hb7 : (w7.alloc (.cells #[.int .i64 rS.base, .int .i64 rS.per, .slice a7 n7 c7, .int .i64 rS.cur, .bool rS.opn] 25)).heap[w7.heap.size]? = some (.cells #[.int .i64 rS.base, .int .i64 rS.per, .slice a7 n7 c7, .int .i64 rS.cur, .bool rS.opn] 25) := alloc_top rfl
  have HR7 := Lib.hid (hv7.extNo hz7)
  replace HR1 := Lib.hid (HR1.out.extNo (hy7.transNo hz7))
  replace HR2 := Lib.hid (HR2.out.extNo (hy7.transNo hz7))
  replace HR3 := Lib.hid (HR3.out.extNo (hy7.transNo hz7))
  replace HR4 := Lib.hid (HR4.out.extNo (hy7.transNo hz7))
  replace HR5 := Lib.hid (HR5.out.extNo (hy7.transNo hz7))
  replace HR6 := Lib.hid (HR6.out.extNo (hy7.transNo hz7))
  replace HT5 := Lib.hid (Turns.extNo HT5.out (hy7.transNo hz7))
  replace HT6 := Lib.hid (Turns.extNo HT6.out (hy7.transNo hz7))
  have cB7 := cellOf hb0
  clear hv7 hs7
  go_wp2_with fail
  clear cB7 hy7 hz7
  refine (rspend_any No _ r n flag _ No.any (RingV.extNo HV.out hx7)).mono ?_
  rintro e8 w8 ⟨v8, rfl, hv8, hy8⟩
  rw [hS.out] at hv8 ⊢
  obtain ⟨a8, n8, c8, hve8, hs8⟩ := hv8.opens
  obtain rfl : v8 = .agg #[.int .i64 rS.base, .int .i64 rS.per, .slice a8 n8 c8, .int .i64 rS.cur, .bool rS.opn] := hve8
  have hx8 : Ext No w (w8.alloc (.cells #[.int .i64 rS.base, .int .i64 rS.per, .slice a8 n8 c8, .int .i64 rS.cur, .bool rS.opn] 25)) := (hx7.transNo hy8).alloc _
  have hz8 : Ext No w8 (w8.alloc (.cells #[.int .i64 rS.base, .int .i64 rS.per, .slice a8 n8 c8, .int .i64 rS.cur, .bool rS.opn] 25)) := (Ext.refl _ _).alloc _
  replace hb0 := blk_next (o' := .cells #[.int .i64 rS.base, .int .i64 rS.per, .slice a8 n8 c8, .int .i64 rS.cur, .bool rS.opn] 25) hy8 hb0
  replace hb1 := blk_next (o' := .cells #[.int .i64 rS.base, .int .i64 rS.per, .slice a8 n8 c8, .int .i64 rS.cur, .bool rS.opn] 25) hy8 hb1
  replace hb2 := blk_next (o' := .cells #[.int .i64 rS.base, .int .i64 rS.per, .slice a8 n8 c8, .int .i64 rS.cur, .bool rS.opn] 25) hy8 hb2
  replace hb3 := blk_next (o' := .cells #[.int .i64 rS.base, .int .i64 rS.per, .slice a8 n8 c8, .int .i64 rS.cur, .bool rS.opn] 25) hy8 hb3
  replace hb4 := blk_next (o' := .cells #[.int .i64 rS.base, .int .i64 rS.per, .slice a8 n8 c8, .int .i64 rS.cur, .bool rS.opn] 25) hy8 hb4
  replace hb5 := blk_next (o' := .cells #[.int .i64 rS.base, .int .i64 rS.per, .slice a8 n8 c8, .int .i64 rS.cur, .bool rS.opn] 25) hy8 hb5
  replace hb6 := blk_next (o' := .cells #[.int .i64 rS.base, .int .i64 rS.per, .slice a8 n8 c8, .int .i64 rS.cur, .bool rS.opn] 25) hy8 hb6
  replace hb7 := blk_next (o' := .cells #[.int .i64 rS.base, .int .i64 rS.per, .slice a8 n8 c8, .int .i64 rS.cur, .bool rS.opn] 25) hy8 hb7
  have hb8 : (w8.alloc (.cells #[.int .i64 rS.base, .int .i64 rS.per, .slice a8 n8 c8, .int .i64 rS.cur, .bool rS.opn] 25)).heap[w8.heap.size]? = some (.cells #[.int .i64 rS.base, .int .i64 rS.per, .slice a8 n8 c8, .int .i64 rS.cur, .bool rS.opn] 25) := alloc_top rfl
  have HR8 := Lib.hid (hv8.extNo hz8)
  replace HR1 := Lib.hid (HR1.out.extNo (hy8.transNo hz8))
  replace HR2 := Lib.hid (HR2.out.extNo (hy8.transNo hz8))
  replace HR3 := Lib.hid (HR3.out.extNo (hy8.transNo hz8))
  replace HR4 := Lib.hid (HR4.out.extNo (hy8.transNo hz8))
  replace HR5 := Lib.hid (HR5.out.extNo (hy8.transNo hz8))
  replace HR6 := Lib.hid (HR6.out.extNo (hy8.transNo hz8))
  replace HR7 := Lib.hid (HR7.out.extNo (hy8.transNo hz8))
  replace HT5 := Lib.hid (Turns.extNo HT5.out (hy8.transNo hz8))
  replace HT6 := Lib.hid (Turns.extNo HT6.out (hy8.transNo hz8))
  have cB8 := cellOf hb0
  clear hv8 hs8
  go_wp2_with fail
  clear cB8 hy8 hz8
  generalize w8.alloc (.cells #[.int .i64 rS.base, .int .i64 rS.per, .slice a8 n8 c8, .int .i64 rS.cur, .bool rS.opn] 25) = W at *
  have l0_0 : W.cell? ⟨w.heap.size, 0, none⟩ = some (.int .i64 r.base) := cellOf hb0 0
  have l0_1 : W.cell? ⟨w.heap.size, 1, none⟩ = some (.int .i64 r.per) := cellOf hb0 1
  have l0_2 : W.cell? ⟨w.heap.size, 2, none⟩ = some (.slice a0 n0 c0) := cellOf hb0 2
  have l0_3 : W.cell? ⟨w.heap.size, 3, none⟩ = some (.int .i64 r.cur) := cellOf hb0 3
  have l0_4 : W.cell? ⟨w.heap.size, 4, none⟩ = some (.bool r.opn) := cellOf hb0 4
  have l1_0 : W.cell? ⟨w1.heap.size, 0, none⟩ = some (.int .i64 rA.base) := cellOf hb1 0
  have l1_1 : W.cell? ⟨w1.heap.size, 1, none⟩ = some (.int .i64 rA.per) := cellOf hb1 1
  have l1_2 : W.cell? ⟨w1.heap.size, 2, none⟩ = some (.slice a1 n1 c1) := cellOf hb1 2
  have l1_3 : W.cell? ⟨w1.heap.size, 3, none⟩ = some (.int .i64 rA.cur) := cellOf hb1 3
  have l1_4 : W.cell? ⟨w1.heap.size, 4, none⟩ = some (.bool rA.opn) := cellOf hb1 4
  have l2_0 : W.cell? ⟨w2.heap.size, 0, none⟩ = some (.int .i64 rA.base) := cellOf hb2 0
  have l2_1 : W.cell? ⟨w2.heap.size, 1, none⟩ = some (.int .i64 rA.per) := cellOf hb2 1
  have l2_2 : W.cell? ⟨w2.heap.size, 2, none⟩ = some (.slice a2 n2 c2) := cellOf hb2 2
  have l2_3 : W.cell? ⟨w2.heap.size, 3, none⟩ = some (.int .i64 rA.cur) := cellOf hb2 3
  have l2_4 : W.cell? ⟨w2.heap.size, 4, none⟩ = some (.bool rA.opn) := cellOf hb2 4
  have l3_0 : W.cell? ⟨w3.heap.size, 0, none⟩ = some (.int .i64 rR.base) := cellOf hb3 0
  have l3_1 : W.cell? ⟨w3.heap.size, 1, none⟩ = some (.int .i64 rR.per) := cellOf hb3 1
  have l3_2 : W.cell? ⟨w3.heap.size, 2, none⟩ = some (.slice a3 n3 c3) := cellOf hb3 2
  have l3_3 : W.cell? ⟨w3.heap.size, 3, none⟩ = some (.int .i64 rR.cur) := cellOf hb3 3
  have l3_4 : W.cell? ⟨w3.heap.size, 4, none⟩ = some (.bool rR.opn) := cellOf hb3 4
  have l4_0 : W.cell? ⟨w4.heap.size, 0, none⟩ = some (.int .i64 rR.base) := cellOf hb4 0
  have l4_1 : W.cell? ⟨w4.heap.size, 1, none⟩ = some (.int .i64 rR.per) := cellOf hb4 1
  have l4_2 : W.cell? ⟨w4.heap.size, 2, none⟩ = some (.slice a4 n4 c4) := cellOf hb4 2
  have l4_3 : W.cell? ⟨w4.heap.size, 3, none⟩ = some (.int .i64 rR.cur) := cellOf hb4 3
  have l4_4 : W.cell? ⟨w4.heap.size, 4, none⟩ = some (.bool rR.opn) := cellOf hb4 4
  have l5_0 : W.cell? ⟨w5.heap.size, 0, none⟩ = some (.int .i64 rP.base) := cellOf hb5 0
  have l5_1 : W.cell? ⟨w5.heap.size, 1, none⟩ = some (.int .i64 rP.per) := cellOf hb5 1
  have l5_2 : W.cell? ⟨w5.heap.size, 2, none⟩ = some (.slice a5 n5 c5) := cellOf hb5 2
  have l5_3 : W.cell? ⟨w5.heap.size, 3, none⟩ = some (.int .i64 rP.cur) := cellOf hb5 3
  have l5_4 : W.cell? ⟨w5.heap.size, 4, none⟩ = some (.bool rP.opn) := cellOf hb5 4
  have l6_0 : W.cell? ⟨w6.heap.size, 0, none⟩ = some (.int .i64 rP.base) := cellOf hb6 0
  have l6_1 : W.cell? ⟨w6.heap.size, 1, none⟩ = some (.int .i64 rP.per) := cellOf hb6 1
  have l6_2 : W.cell? ⟨w6.heap.size, 2, none⟩ = some (.slice a6 n6 c6) := cellOf hb6 2
  have l6_3 : W.cell? ⟨w6.heap.size, 3, none⟩ = some (.int .i64 rP.cur) := cellOf hb6 3
  have l6_4 : W.cell? ⟨w6.heap.size, 4, none⟩ = some (.bool rP.opn) := cellOf hb6 4
  have l7_0 : W.cell? ⟨w7.heap.size, 0, none⟩ = some (.int .i64 rS.base) := cellOf hb7 0
  have l7_1 : W.cell? ⟨w7.heap.size, 1, none⟩ = some (.int .i64 rS.per) := cellOf hb7 1
  have l7_2 : W.cell? ⟨w7.heap.size, 2, none⟩ = some (.slice a7 n7 c7) := cellOf hb7 2
  have l7_3 : W.cell? ⟨w7.heap.size, 3, none⟩ = some (.int .i64 rS.cur) := cellOf hb7 3
  have l7_4 : W.cell? ⟨w7.heap.size, 4, none⟩ = some (.bool rS.opn) := cellOf hb7 4
  have l8_0 : W.cell? ⟨w8.heap.size, 0, none⟩ = some (.int .i64 rS.base) := cellOf hb8 0
  have l8_1 : W.cell? ⟨w8.heap.size, 1, none⟩ = some (.int .i64 rS.per) := cellOf hb8 1
  have l8_2 : W.cell? ⟨w8.heap.size, 2, none⟩ = some (.slice a8 n8 c8) := cellOf hb8 2
  have l8_3 : W.cell? ⟨w8.heap.size, 3, none⟩ = some (.int .i64 rS.cur) := cellOf hb8 3
  have l8_4 : W.cell? ⟨w8.heap.size, 4, none⟩ = some (.bool rS.opn) := cellOf hb8 4
  have hE : Ext No W W := Ext.refl _ _
  clear hb0 hb1 hb2 hb3 hb4 hb5 hb6 hb7 hb8 hx0 hx1 hx2 hx3 hx4 hx5 hx6 hx7
  have HX := Lib.hid hx8
  clear hx8
  have HVW := Lib.hid (HV.out.extNo HX.out)
  go_region_held3 (fun w' => w'.cell? ⟨w.heap.size, 0, none⟩ = some (.int .i64 r.base) ∧ w'.cell? ⟨w.heap.size, 1, none⟩ = some (.int .i64 r.per) ∧ w'.cell? ⟨w.heap.size, 2, none⟩ = some (.slice a0 n0 c0) ∧ w'.cell? ⟨w.heap.size, 3, none⟩ = some (.int .i64 r.cur) ∧ w'.cell? ⟨w.heap.size, 4, none⟩ = some (.bool r.opn) ∧ w'.cell? ⟨w1.heap.size, 0, none⟩ = some (.int .i64 rA.base) ∧ w'.cell? ⟨w1.heap.size, 1, none⟩ = some (.int .i64 rA.per) ∧ w'.cell? ⟨w1.heap.size, 2, none⟩ = some (.slice a1 n1 c1) ∧ w'.cell? ⟨w1.heap.size, 3, none⟩ = some (.int .i64 rA.cur) ∧ w'.cell? ⟨w1.heap.size, 4, none⟩ = some (.bool rA.opn) ∧ w'.cell? ⟨w2.heap.size, 0, none⟩ = some (.int .i64 rA.base) ∧ w'.cell? ⟨w2.heap.size, 1, none⟩ = some (.int .i64 rA.per) ∧ w'.cell? ⟨w2.heap.size, 2, none⟩ = some (.slice a2 n2 c2) ∧ w'.cell? ⟨w2.heap.size, 3, none⟩ = some (.int .i64 rA.cur) ∧ w'.cell? ⟨w2.heap.size, 4, none⟩ = some (.bool rA.opn) ∧ w'.cell? ⟨w3.heap.size, 0, none⟩ = some (.int .i64 rR.base) ∧ w'.cell? ⟨w3.heap.size, 1, none⟩ = some (.int .i64 rR.per) ∧ w'.cell? ⟨w3.heap.size, 2, none⟩ = some (.slice a3 n3 c3) ∧ w'.cell? ⟨w3.heap.size, 3, none⟩ = some (.int .i64 rR.cur) ∧ w'.cell? ⟨w3.heap.size, 4, none⟩ = some (.bool rR.opn) ∧ w'.cell? ⟨w4.heap.size, 0, none⟩ = some (.int .i64 rR.base) ∧ w'.cell? ⟨w4.heap.size, 1, none⟩ = some (.int .i64 rR.per) ∧ w'.cell? ⟨w4.heap.size, 2, none⟩ = some (.slice a4 n4 c4) ∧ w'.cell? ⟨w4.heap.size, 3, none⟩ = some (.int .i64 rR.cur) ∧ w'.cell? ⟨w4.heap.size, 4, none⟩ = some (.bool rR.opn) ∧ w'.cell? ⟨w5.heap.size, 0, none⟩ = some (.int .i64 rP.base) ∧ w'.cell? ⟨w5.heap.size, 1, none⟩ = some (.int .i64 rP.per) ∧ w'.cell? ⟨w5.heap.size, 2, none⟩ = some (.slice a5 n5 c5) ∧ w'.cell? ⟨w5.heap.size, 3, none⟩ = some (.int .i64 rP.cur) ∧ w'.cell? ⟨w5.heap.size, 4, none⟩ = some (.bool rP.opn) ∧ w'.cell? ⟨w6.heap.size, 0, none⟩ = some (.int .i64 rP.base) ∧ w'.cell? ⟨w6.heap.size, 1, none⟩ = some (.int .i64 rP.per) ∧ w'.cell? ⟨w6.heap.size, 2, none⟩ = some (.slice a6 n6 c6) ∧ w'.cell? ⟨w6.heap.size, 3, none⟩ = some (.int .i64 rP.cur) ∧ w'.cell? ⟨w6.heap.size, 4, none⟩ = some (.bool rP.opn) ∧ w'.cell? ⟨w7.heap.size, 0, none⟩ = some (.int .i64 rS.base) ∧ w'.cell? ⟨w7.heap.size, 1, none⟩ = some (.int .i64 rS.per) ∧ w'.cell? ⟨w7.heap.size, 2, none⟩ = some (.slice a7 n7 c7) ∧ w'.cell? ⟨w7.heap.size, 3, none⟩ = some (.int .i64 rS.cur) ∧ w'.cell? ⟨w7.heap.size, 4, none⟩ = some (.bool rS.opn) ∧ w'.cell? ⟨w8.heap.size, 0, none⟩ = some (.int .i64 rS.base) ∧ w'.cell? ⟨w8.heap.size, 1, none⟩ = some (.int .i64 rS.per) ∧ w'.cell? ⟨w8.heap.size, 2, none⟩ = some (.slice a8 n8 c8) ∧ w'.cell? ⟨w8.heap.size, 3, none⟩ = some (.int .i64 rS.cur) ∧ w'.cell? ⟨w8.heap.size, 4, none⟩ = some (.bool rS.opn) ∧ Ext No W w')
    (first | (go_split_ands; exact ⟨keepN hx (by assumption), keepN hx (by assumption), keepN hx (by assumption), keepN hx (by assumption), keepN hx (by assumption), keepN hx (by assumption), keepN hx (by assumption), keepN hx (by assumption), keepN hx (by assumption), keepN hx (by assumption), keepN hx (by assumption), keepN hx (by assumption), keepN hx (by assumption), keepN hx (by assumption), keepN hx (by assumption), keepN hx (by assumption), keepN hx (by assumption), keepN hx (by assumption), keepN hx (by assumption), keepN hx (by assumption), keepN hx (by assumption), keepN hx (by assumption), keepN hx (by assumption), keepN hx (by assumption), keepN hx (by assumption), keepN hx (by assumption), keepN hx (by assumption), keepN hx (by assumption), keepN hx (by assumption), keepN hx (by assumption), keepN hx (by assumption), keepN hx (by assumption), keepN hx (by assumption), keepN hx (by assumption), keepN hx (by assumption), keepN hx (by assumption), keepN hx (by assumption), keepN hx (by assumption), keepN hx (by assumption), keepN hx (by assumption), keepN hx (by assumption), keepN hx (by assumption), keepN hx (by assumption), keepN hx (by assumption), keepN hx (by assumption), Ext.transNo (by assumption) hx⟩) | (exact ⟨keepD l0_0, keepD l0_1, keepD l0_2, keepD l0_3, keepD l0_4, keepD l1_0, keepD l1_1, keepD l1_2, keepD l1_3, keepD l1_4, keepD l2_0, keepD l2_1, keepD l2_2, keepD l2_3, keepD l2_4, keepD l3_0, keepD l3_1, keepD l3_2, keepD l3_3, keepD l3_4, keepD l4_0, keepD l4_1, keepD l4_2, keepD l4_3, keepD l4_4, keepD l5_0, keepD l5_1, keepD l5_2, keepD l5_3, keepD l5_4, keepD l6_0, keepD l6_1, keepD l6_2, keepD l6_3, keepD l6_4, keepD l7_0, keepD l7_1, keepD l7_2, keepD l7_3, keepD l7_4, keepD l8_0, keepD l8_1, keepD l8_2, keepD l8_3, keepD l8_4, hE.drew⟩))
    (first | (go_at_call 23; (try go_split_ands); ((with_reducible refine (valid_any _ r _ (RingV.extNo HVW.out ?_)).mono ?_)); (assumption); (rintro e' w1 ⟨rfl, hx⟩)) | (go_at_call 27; (try go_split_ands); ((with_reducible refine (rvalid_any _ r _ (RingV.extNo HVW.out ?_)).mono ?_)); (assumption); (rintro e' w1 ⟨rfl, hx⟩)) | (go_at_call 17; (try go_split_ands); ((with_reducible refine (sameR_any _ _ rA _ (RingV.extNo HR1.out ?_) (RingV.extNo HR2.out ?_)).mono ?_)); (assumption); (try (with_reducible assumption)); (rintro e' w1 ⟨rfl, hx⟩)) | (go_at_call 17; (try go_split_ands); ((with_reducible refine (sameR_any _ _ rR _ (RingV.extNo HR3.out ?_) (RingV.extNo HR4.out ?_)).mono ?_)); (assumption); (try (with_reducible assumption)); (rintro e' w1 ⟨rfl, hx⟩)) | (go_at_call 17; (try go_split_ands); ((with_reducible refine (sameR_any _ _ rP _ (RingV.extNo HR5.out ?_) (RingV.extNo HR6.out ?_)).mono ?_)); (assumption); (try (with_reducible assumption)); (rintro e' w1 ⟨rfl, hx⟩)) | (go_at_call 17; (try go_split_ands); ((with_reducible refine (sameR_any _ _ rS _ (RingV.extNo HR7.out ?_) (RingV.extNo HR8.out ?_)).mono ?_)); (assumption); (try (with_reducible assumption)); (rintro e' w1 ⟨rfl, hx⟩)) | (go_at_call 30; (try go_split_ands); ((with_reducible refine (sameT_any _ _ tP _ (Turns.extNo HT5.out ?_) (Turns.extNo HT6.out ?_)).mono ?_)); (assumption); (try (with_reducible assumption)); (rintro e' w1 ⟨rfl, hx⟩)))
  all_goals
    go_wp2
    go_ret
    refine ⟨rfl, HX.out.transNo ?_⟩
    repeat (first | (with_reducible exact (Ext.refl _ _).drew) | (with_reducible exact hE) | (refine Ext.trans ?_ (by with_reducible assumption)))
end Go.Proofs.Ytckeidboolfcoaa

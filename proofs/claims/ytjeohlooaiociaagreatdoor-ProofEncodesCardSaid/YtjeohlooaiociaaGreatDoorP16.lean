
import Derived.Test.YtjeohlooaiociaaGreatDoorK11
import Derived.Lib.SlBytesConst
set_option linter.unusedVariables false
set_option linter.unusedSimpArgs false
namespace Go.Proofs.YtjeohlooaiociaaGreatDoor
open Go Go.RowKit Tj
set_option maxRecDepth 100000 in
set_option maxHeartbeats 2000000 in
theorem sameProof_any (w : Nat) (us vs : List Nat) (L1 L2 : List (List Nat)) (D1 D2 : LD) (s1 s2 r1 r2 : Value) (W : World) (h1 : SetsV No W s1 w us) (h2 : SetsV No W s2 w vs) (hb : us.length ≤ 1048576)
  (k1 : LAt kD No W r1 D1) (e1 : D1.map Prod.fst = L1.map natsZ) (k2 : LAt kD No W r2 D2) (e2 : D2.map Prod.fst = L2.map natsZ) :
  Calls Tryz.prog 14 #[.agg #[s1, r1], .agg #[s2, r2]] W (BoolPost (decide (us = vs ∧ L1 = L2)) W) := by
 have H1 := Lib.hid h1
 have H2 := Lib.hid h2
 have K1 := Lib.hid k1
 have K2 := Lib.hid k2
 have E1 := Lib.hid e1
 have E2 := Lib.hid e2
 have HB := Lib.hid hb
 obtain ⟨a1, c1, rfl⟩ := h1.slice
 obtain ⟨a2, c2, rfl⟩ := h2.slice
 obtain ⟨b1, d1, rfl⟩ := k1.slice
 obtain ⟨b2, d2, rfl⟩ := k2.slice
 clear h1 h2 k1 k2 e1 e2 hb
 go_enter Tryz.func14, Tryz.ntmps14
 go_wp2_with fail
 have hx0 : Ext No W ((W.alloc (.cells #[.slice a1 us.length c1, .slice b1 D1.length d1] 29)).alloc (.cells #[.slice a2 vs.length c2, .slice b2 D2.length d2] 29)) := ((Ext.refl _ _).alloc _).alloc _
 have HA := Lib.hid (show ((W.alloc (.cells #[.slice a1 us.length c1, .slice b1 D1.length d1] 29)).alloc (.cells #[.slice a2 vs.length c2, .slice b2 D2.length d2] 29)).heap[W.heap.size]? = some (.cells #[.slice a1 us.length c1, .slice b1 D1.length d1] 29 (0, 0)) from alloc_under (alloc_top rfl))
 have HC := Lib.hid (show ((W.alloc (.cells #[.slice a1 us.length c1, .slice b1 D1.length d1] 29)).alloc (.cells #[.slice a2 vs.length c2, .slice b2 D2.length d2] 29)).heap[W.heap.size + 1]? = some (.cells #[.slice a2 vs.length c2, .slice b2 D2.length d2] 29 (0, 0)) from alloc_top (by simp <;> omega))
 generalize ((W.alloc (.cells #[.slice a1 us.length c1, .slice b1 D1.length d1] 29)).alloc (.cells #[.slice a2 vs.length c2, .slice b2 D2.length d2] 29)) = V at *
 generalize W.heap.size = A at *
 have cA := cellOf HA.out
 have cC := cellOf HC.out
 go_wp2_with fail
 clear cA cC
 refine (rsameSets_any w us vs _ _ _ (H1.out.extNo hx0) (H2.out.extNo hx0) HB.out).mono ?_
 rintro e5 w5 ⟨rfl, hx5⟩
 have HX := Lib.hid (hx0.transNo hx5)
 replace HA := Lib.hid (hx5.blk HA.out no_no)
 replace HC := Lib.hid (hx5.blk HC.out no_no)
 clear hx5 hx0
 by_cases he : us = vs
 ·rw [decide_eq_true he]
  have HE := Lib.hid he
  clear he
  have cA := cellOf HA.out
  have cC := cellOf HC.out
  go_wp2_with fail
  clear cA cC
  refine (rsameLists_any _ _ L1 L2 D1 D2 _ (K1.out.extNo HX.out) E1.out (K2.out.extNo HX.out) E2.out).mono ?_
  rintro e6 w6 ⟨rfl, hx6⟩
  go_wp2_with fail
  go_ret
  have hd : decide (us = vs ∧ L1 = L2) = decide (L1 = L2) := by simp [HE.out]
  exact ⟨by rw [hd]; rfl, HX.out.transNo hx6⟩
 rw [decide_eq_false he]
 have HE := Lib.hid he
 clear he
 go_wp2_with fail
 go_ret
 have hd : decide (us = vs ∧ L1 = L2) = false := by simp [HE.out]
 exact ⟨by rw [hd]; rfl, HX.out⟩
def oneP : SysD := ⟨2, [[]], [⟨2, 0, 0, []⟩], [2]⟩
def loopP : SysD := ⟨2, [[0]], [⟨2, 0, 0, []⟩], [0]⟩
theorem idOkP : TrOk ⟨2, 0, 0, []⟩ := ⟨by decide, by decide, by decide, by decide, fun i h => by simp at h, fun i h => by simp at h⟩
theorem oneP_ok : SysOk oneP := ⟨by decide, by decide, by decide, by decide, by decide, fun l hl => by
 simp only [oneP, List.mem_singleton] at hl
 subst hl
 intro i hi
 simp [natsZ] at hi, by decide, fun t ht => by
 simp only [oneP, List.mem_singleton] at ht
 subst ht
 exact ⟨idOkP, rfl⟩, fun m hm => by
 simp only [oneP, List.mem_singleton] at hm
 subst hm
 decide⟩
theorem loopP_ok : SysOk loopP := ⟨by decide, by decide, by decide, by decide, by decide, fun l hl => by
 simp only [loopP, List.mem_singleton] at hl
 subst hl
 intro i hi
 obtain rfl : i = 0 := by simp [natsZ] at hi; omega
 exact ⟨by simp [natsZ], by simp [natsZ, loopP], fun h => absurd h (Nat.lt_irrefl _)⟩, by decide, fun t ht => by
 simp only [loopP, List.mem_singleton] at ht
 subst ht
 exact ⟨idOkP, rfl⟩, fun m hm => by
 simp only [loopP, List.mem_singleton] at hm
 subst hm
 decide⟩
theorem oneP_iter {R : Nat} (hF : FixAt oneP R) : iterD oneP R = [2] := by
 rw [← hF.fix]; rfl
theorem loopP_iter : ∀ R, iterD loopP R = [0]
 | 0 => rfl
 | R + 1 => by
  show nextD loopP (iterD loopP R) = [0]
  rw [loopP_iter R]
  decide
theorem oneP_rank {R : Nat} (hF : FixAt oneP R) {Rk : LD} (hl : Rk.length = 1) (hk : ∀ n, n < oneP.deps.length → rkD Rk n = natsZ ((List.range (memD oneP (iterD oneP R) n).length).map fun i => rkI oneP (iterD oneP R) n i R)) : Rk.map Prod.fst = [[0]].map natsZ := by
 have h0 := hk 0 (by decide)
 rw [oneP_iter hF] at h0
 have h1 : rkI oneP [2] 0 0 R = 0 := by
  have h2 : inI oneP 0 1 R = true := by unfold inI; rw [oneP_iter hF]; decide
  exact rk_uniq (inI_zero _ _ _) (inI_up oneP_ok) h2 (by decide) (by decide)
 have h3 : (memD oneP [2] 0).length = 1 := by decide
 rw [h3, show List.range 1 = [0] from rfl] at h0
 simp only [List.map_cons, List.map_nil, h1] at h0
 match Rk, hl with
 | [p], _ =>
  have : rkD [p] 0 = p.1 := rfl
  rw [this] at h0
  simp [h0]
theorem loopP_no (Lv : LS) (Rk : LD) (hv : Lv.map Prod.fst = [1].map (setN 2)) : ¬ AccP loopP Lv Rk := fun ⟨hr, vs, ha, hd⟩ => by
 obtain ⟨R, hF, -⟩ := fix_ex loopP_ok
 have h := acc_least loopP_ok hF ha hr hd
 rw [loopP_iter] at h
 subst h
 have := map_setN_inj (w := 2) (us := [1]) (vs := [0]) (by decide) (by decide) (hv.symm.trans ha.1)
 cases this
theorem crc_check : crcF [49, 50, 51, 52, 53, 54, 55, 56, 57] = 3421780262 := by kernel_rfl
end Go.Proofs.YtjeohlooaiociaaGreatDoor

namespace Go.Proofs.YtjeohlooaiociaaGreatDoor
open Go Go.RowKit Tj
theorem Row.blockM {w : World} {g n : Nat} {cs : Array Value} {T : TypeId} {p : Nat × Nat} (h : w.heap[g]? = some (.cells cs T p)) (hn : cs.size = n) (hs : n ≤ 9223372036854775807) : Row No w 1 (.slice (some ⟨g, 0, none⟩) n n) n cs.toList := by
 refine ⟨by simpa using hn, hs, _, n, rfl, ⟨Nat.le_refl _, hs⟩, .inr ⟨g, 0, rfl, lt_of_block h, no_no, fun j u hj => ?_⟩⟩
 rw [Nat.zero_add]
 simp only [World.cell?, h]
 simpa using hj
theorem make_one (vd vt vb : Value) (W : World) (hT : TabW W) (h : SysAt No W vd vt vb oneP) :
  Calls Tryz.prog 10 #[.agg #[.int .i64 2, vd, vt, vb]] W (fun e w' => ∃ (a ar : Option Addr) (c cr : Nat) (Lv : LS) (Rk : LD), e = .returned (.tuple #[.agg #[.slice a 1 c, .slice ar 1 cr], .int .i64 0]) ∧ Hid (SetsV No w' (.slice a 1 c) 2 [2]) ∧ Hid (LAt kS No w' (.slice a 1 c) Lv) ∧ Hid (LAt kD No w' (.slice ar 1 cr) Rk) ∧ Hid (Rk.map Prod.fst = [[0]].map natsZ) ∧ Hid (AccP oneP Lv Rk) ∧ Ext No W w') := by
 refine (show Calls _ _ #[.agg #[.int .i64 2, vd, vt, vb]] _ (MakePost oneP _) from pmake_any oneP vd vt vb W hT h).mono ?_
 rintro e w ⟨R, a, ar, c, cr, Rk, hF, rfl, hP, hK, hx⟩
 obtain ⟨L, hL, hm⟩ := hP.out.vals.ex
 refine ⟨a, ar, c, cr, L, Rk, rfl, Lib.hid ?_, Lib.hid ⟨hL.row, hL.ok⟩, Lib.hid hP.out.rk, Lib.hid (oneP_rank hF hP.out.l2 hK.out), Lib.hid (mk_acc oneP_ok hF hP.out.l2 hK.out hm), hx⟩
 have := hP.out.vals
 rw [oneP_iter hF] at this
 exact this
set_option maxRecDepth 100000 in
set_option maxHeartbeats 8000000 in
theorem sane17_any (W : World) (hT : TabW W) : Calls Tryz.prog 18 #[] W (BoolPost true W) := by
 have z0 : (0 : Nat) < 2 ^ 2 := by decide
 have z1 : (1 : Nat) < 2 ^ 2 := by decide
 have z2 : (2 : Nat) < 2 ^ 2 := by decide
 have HT := Lib.hid hT
 clear hT
 go_enter Tryz.func18, Tryz.ntmps18
 go_wp2_with fail
 have hy1 : Ext No W (W.alloc (.cells #[.slice none 0 0] 22)) := (Ext.refl _ _).alloc _
 have D1 := Lib.hid (show (W.alloc (.cells #[.slice none 0 0] 22)).heap[W.heap.size]? = some (.cells #[.slice none 0 0] 22 (0, 0)) from alloc_top rfl)
 replace HT := Lib.hid (HT.out.ext hy1)
 have HX := Lib.hid hy1
 clear hy1
 generalize (W.alloc (.cells #[.slice none 0 0] 22)) = v1 at *
 generalize W.heap.size = Q at *
 refine (rident_any 2 _ (by decide)).mono ?_
 rintro e2 v2 ⟨g1, g2, rfl, hbg1, hbg2, _, _, hy2⟩
 replace HT := Lib.hid (HT.out.ext hy2)
 replace D1 := Lib.hid (hy2.blk D1.out no_no)
 replace HX := Lib.hid (HX.out.transNo hy2)
 clear hy2
 replace hbg1 := Lib.hid (show BlkW v2 g1 2 0 from hbg1.out)
 replace hbg2 := Lib.hid (show BlkW v2 g2 2 0 from hbg2.out)
 go_wp2_with fail
 have hy3 : Ext No v2 (v2.alloc (.cells #[.int .i64 2, .slice (some ⟨g1, 0, none⟩) (nw 2) (nw 2), .int .i64 2, .slice (some ⟨g2, 0, none⟩) (nw 2) (nw 2), .slice none 0 0] 69)) := (Ext.refl _ _).alloc _
 have T1 := Lib.hid (show (v2.alloc (.cells #[.int .i64 2, .slice (some ⟨g1, 0, none⟩) (nw 2) (nw 2), .int .i64 2, .slice (some ⟨g2, 0, none⟩) (nw 2) (nw 2), .slice none 0 0] 69)).heap[v2.heap.size]? = some (.cells #[.int .i64 2, .slice (some ⟨g1, 0, none⟩) (nw 2) (nw 2), .int .i64 2, .slice (some ⟨g2, 0, none⟩) (nw 2) (nw 2), .slice none 0 0] 69 (0, 0)) from alloc_top rfl)
 replace HT := Lib.hid (HT.out.ext hy3)
 replace D1 := Lib.hid (hy3.blk D1.out no_no)
 replace hbg1 := Lib.hid (show BlkW (v2.alloc (.cells #[.int .i64 2, .slice (some ⟨g1, 0, none⟩) (nw 2) (nw 2), .int .i64 2, .slice (some ⟨g2, 0, none⟩) (nw 2) (nw 2), .slice none 0 0] 69)) g1 2 0 from hy3.blk (hbg1.out : v2.heap[g1]? = _) no_no)
 replace hbg2 := Lib.hid (show BlkW (v2.alloc (.cells #[.int .i64 2, .slice (some ⟨g1, 0, none⟩) (nw 2) (nw 2), .int .i64 2, .slice (some ⟨g2, 0, none⟩) (nw 2) (nw 2), .slice none 0 0] 69)) g2 2 0 from hy3.blk (hbg2.out : v2.heap[g2]? = _) no_no)
 replace HX := Lib.hid (HX.out.transNo hy3)
 clear hy3
 generalize (v2.alloc (.cells #[.int .i64 2, .slice (some ⟨g1, 0, none⟩) (nw 2) (nw 2), .int .i64 2, .slice (some ⟨g2, 0, none⟩) (nw 2) (nw 2), .slice none 0 0] 69)) = v3 at *
 generalize v2.heap.size = BT at *
 refine (rempty_any 2 _ (by decide)).mono ?_
 rintro e4 v4 ⟨g3, rfl, hbg3, _, hy4⟩
 replace HT := Lib.hid (HT.out.ext hy4)
 replace D1 := Lib.hid (hy4.blk D1.out no_no)
 replace hbg1 := Lib.hid (show BlkW v4 g1 2 0 from hy4.blk (hbg1.out : v3.heap[g1]? = _) no_no)
 replace hbg2 := Lib.hid (show BlkW v4 g2 2 0 from hy4.blk (hbg2.out : v3.heap[g2]? = _) no_no)
 replace T1 := Lib.hid (hy4.blk T1.out no_no)
 replace HX := Lib.hid (HX.out.transNo hy4)
 clear hy4
 replace hbg3 := Lib.hid (show BlkW v4 g3 2 0 from hbg3.out)
 go_wp2_with fail
 refine (rput_any 2 0 1 _ _ (by decide) (hbg3.out.set (by decide) z0 no_no)).mono ?_
 rintro e5 v5 ⟨g4, rfl, hbg4, _, hy5⟩
 replace HT := Lib.hid (HT.out.ext hy5)
 replace D1 := Lib.hid (hy5.blk D1.out no_no)
 replace hbg1 := Lib.hid (show BlkW v5 g1 2 0 from hy5.blk (hbg1.out : v4.heap[g1]? = _) no_no)
 replace hbg2 := Lib.hid (show BlkW v5 g2 2 0 from hy5.blk (hbg2.out : v4.heap[g2]? = _) no_no)
 replace T1 := Lib.hid (hy5.blk T1.out no_no)
 replace hbg3 := Lib.hid (show BlkW v5 g3 2 0 from hy5.blk (hbg3.out : v4.heap[g3]? = _) no_no)
 replace HX := Lib.hid (HX.out.transNo hy5)
 clear hy5
 replace hbg4 := Lib.hid (show BlkW v5 g4 2 2 from hbg4.out)
 go_upto_region 2 with (fail)
 have hy6 : Ext No v5 ((v5.alloc (.cells #[.int .i64 2, .slice (some ⟨g4, 0, none⟩) (nw 2) (nw 2)] 50)).alloc (.cells #[.int .i64 2, .slice (some ⟨Q, 0, none⟩) 1 1, .slice (some ⟨BT, 0, none⟩) 1 1, .slice (some ⟨v5.heap.size, 0, none⟩) 1 1] 27)) := ((Ext.refl _ _).alloc _).alloc _
 have S1 := Lib.hid (show ((v5.alloc (.cells #[.int .i64 2, .slice (some ⟨g4, 0, none⟩) (nw 2) (nw 2)] 50)).alloc (.cells #[.int .i64 2, .slice (some ⟨Q, 0, none⟩) 1 1, .slice (some ⟨BT, 0, none⟩) 1 1, .slice (some ⟨v5.heap.size, 0, none⟩) 1 1] 27)).heap[v5.heap.size]? = some (.cells #[.int .i64 2, .slice (some ⟨g4, 0, none⟩) (nw 2) (nw 2)] 50 (0, 0)) from alloc_under (alloc_top rfl))
 have X1 := Lib.hid (show ((v5.alloc (.cells #[.int .i64 2, .slice (some ⟨g4, 0, none⟩) (nw 2) (nw 2)] 50)).alloc (.cells #[.int .i64 2, .slice (some ⟨Q, 0, none⟩) 1 1, .slice (some ⟨BT, 0, none⟩) 1 1, .slice (some ⟨v5.heap.size, 0, none⟩) 1 1] 27)).heap[v5.heap.size + 1]? = some (.cells #[.int .i64 2, .slice (some ⟨Q, 0, none⟩) 1 1, .slice (some ⟨BT, 0, none⟩) 1 1, .slice (some ⟨v5.heap.size, 0, none⟩) 1 1] 27 (0, 0)) from alloc_top (by simp <;> omega))
 replace HT := Lib.hid (HT.out.ext hy6)
 replace D1 := Lib.hid (hy6.blk D1.out no_no)
 replace hbg1 := Lib.hid (show BlkW ((v5.alloc (.cells #[.int .i64 2, .slice (some ⟨g4, 0, none⟩) (nw 2) (nw 2)] 50)).alloc (.cells #[.int .i64 2, .slice (some ⟨Q, 0, none⟩) 1 1, .slice (some ⟨BT, 0, none⟩) 1 1, .slice (some ⟨v5.heap.size, 0, none⟩) 1 1] 27)) g1 2 0 from hy6.blk (hbg1.out : v5.heap[g1]? = _) no_no)
 replace hbg2 := Lib.hid (show BlkW ((v5.alloc (.cells #[.int .i64 2, .slice (some ⟨g4, 0, none⟩) (nw 2) (nw 2)] 50)).alloc (.cells #[.int .i64 2, .slice (some ⟨Q, 0, none⟩) 1 1, .slice (some ⟨BT, 0, none⟩) 1 1, .slice (some ⟨v5.heap.size, 0, none⟩) 1 1] 27)) g2 2 0 from hy6.blk (hbg2.out : v5.heap[g2]? = _) no_no)
 replace T1 := Lib.hid (hy6.blk T1.out no_no)
 replace hbg3 := Lib.hid (show BlkW ((v5.alloc (.cells #[.int .i64 2, .slice (some ⟨g4, 0, none⟩) (nw 2) (nw 2)] 50)).alloc (.cells #[.int .i64 2, .slice (some ⟨Q, 0, none⟩) 1 1, .slice (some ⟨BT, 0, none⟩) 1 1, .slice (some ⟨v5.heap.size, 0, none⟩) 1 1] 27)) g3 2 0 from hy6.blk (hbg3.out : v5.heap[g3]? = _) no_no)
 replace hbg4 := Lib.hid (show BlkW ((v5.alloc (.cells #[.int .i64 2, .slice (some ⟨g4, 0, none⟩) (nw 2) (nw 2)] 50)).alloc (.cells #[.int .i64 2, .slice (some ⟨Q, 0, none⟩) 1 1, .slice (some ⟨BT, 0, none⟩) 1 1, .slice (some ⟨v5.heap.size, 0, none⟩) 1 1] 27)) g4 2 2 from hy6.blk (hbg4.out : v5.heap[g4]? = _) no_no)
 replace HX := Lib.hid (HX.out.transNo hy6)
 clear hy6
 generalize ((v5.alloc (.cells #[.int .i64 2, .slice (some ⟨g4, 0, none⟩) (nw 2) (nw 2)] 50)).alloc (.cells #[.int .i64 2, .slice (some ⟨Q, 0, none⟩) 1 1, .slice (some ⟨BT, 0, none⟩) 1 1, .slice (some ⟨v5.heap.size, 0, none⟩) 1 1] 27)) = v6 at *
 generalize v5.heap.size = BS at *
 go_wp2_with fail
 have hy7 : Ext No v6 ((v6.alloc (.cells #[.int .i64 0] 3)).alloc (.cells #[.slice (some ⟨v6.heap.size, 0, none⟩) 1 1] 22)) := ((Ext.refl _ _).alloc _).alloc _
 have D3 := Lib.hid (show ((v6.alloc (.cells #[.int .i64 0] 3)).alloc (.cells #[.slice (some ⟨v6.heap.size, 0, none⟩) 1 1] 22)).heap[v6.heap.size]? = some (.cells #[.int .i64 0] 3 (0, 0)) from alloc_under (alloc_top rfl))
 have D4 := Lib.hid (show ((v6.alloc (.cells #[.int .i64 0] 3)).alloc (.cells #[.slice (some ⟨v6.heap.size, 0, none⟩) 1 1] 22)).heap[v6.heap.size + 1]? = some (.cells #[.slice (some ⟨v6.heap.size, 0, none⟩) 1 1] 22 (0, 0)) from alloc_top (by simp <;> omega))
 replace HT := Lib.hid (HT.out.ext hy7)
 replace D1 := Lib.hid (hy7.blk D1.out no_no)
 replace hbg1 := Lib.hid (show BlkW ((v6.alloc (.cells #[.int .i64 0] 3)).alloc (.cells #[.slice (some ⟨v6.heap.size, 0, none⟩) 1 1] 22)) g1 2 0 from hy7.blk (hbg1.out : v6.heap[g1]? = _) no_no)
 replace hbg2 := Lib.hid (show BlkW ((v6.alloc (.cells #[.int .i64 0] 3)).alloc (.cells #[.slice (some ⟨v6.heap.size, 0, none⟩) 1 1] 22)) g2 2 0 from hy7.blk (hbg2.out : v6.heap[g2]? = _) no_no)
 replace T1 := Lib.hid (hy7.blk T1.out no_no)
 replace hbg3 := Lib.hid (show BlkW ((v6.alloc (.cells #[.int .i64 0] 3)).alloc (.cells #[.slice (some ⟨v6.heap.size, 0, none⟩) 1 1] 22)) g3 2 0 from hy7.blk (hbg3.out : v6.heap[g3]? = _) no_no)
 replace hbg4 := Lib.hid (show BlkW ((v6.alloc (.cells #[.int .i64 0] 3)).alloc (.cells #[.slice (some ⟨v6.heap.size, 0, none⟩) 1 1] 22)) g4 2 2 from hy7.blk (hbg4.out : v6.heap[g4]? = _) no_no)
 replace S1 := Lib.hid (hy7.blk S1.out no_no)
 replace X1 := Lib.hid (hy7.blk X1.out no_no)
 replace HX := Lib.hid (HX.out.transNo hy7)
 clear hy7
 generalize ((v6.alloc (.cells #[.int .i64 0] 3)).alloc (.cells #[.slice (some ⟨v6.heap.size, 0, none⟩) 1 1] 22)) = v7 at *
 generalize v6.heap.size = BD at *
 refine (rident_any 2 _ (by decide)).mono ?_
 rintro e8 v8 ⟨g5, g6, rfl, hbg5, hbg6, _, _, hy8⟩
 replace HT := Lib.hid (HT.out.ext hy8)
 replace D1 := Lib.hid (hy8.blk D1.out no_no)
 replace hbg1 := Lib.hid (show BlkW v8 g1 2 0 from hy8.blk (hbg1.out : v7.heap[g1]? = _) no_no)
 replace hbg2 := Lib.hid (show BlkW v8 g2 2 0 from hy8.blk (hbg2.out : v7.heap[g2]? = _) no_no)
 replace T1 := Lib.hid (hy8.blk T1.out no_no)
 replace hbg3 := Lib.hid (show BlkW v8 g3 2 0 from hy8.blk (hbg3.out : v7.heap[g3]? = _) no_no)
 replace hbg4 := Lib.hid (show BlkW v8 g4 2 2 from hy8.blk (hbg4.out : v7.heap[g4]? = _) no_no)
 replace S1 := Lib.hid (hy8.blk S1.out no_no)
 replace X1 := Lib.hid (hy8.blk X1.out no_no)
 replace D3 := Lib.hid (hy8.blk D3.out no_no)
 replace D4 := Lib.hid (hy8.blk D4.out no_no)
 replace HX := Lib.hid (HX.out.transNo hy8)
 clear hy8
 replace hbg5 := Lib.hid (show BlkW v8 g5 2 0 from hbg5.out)
 replace hbg6 := Lib.hid (show BlkW v8 g6 2 0 from hbg6.out)
 go_wp2_with fail
 have hy9 : Ext No v8 (v8.alloc (.cells #[.int .i64 2, .slice (some ⟨g5, 0, none⟩) (nw 2) (nw 2), .int .i64 2, .slice (some ⟨g6, 0, none⟩) (nw 2) (nw 2), .slice none 0 0] 69)) := (Ext.refl _ _).alloc _
 have T2 := Lib.hid (show (v8.alloc (.cells #[.int .i64 2, .slice (some ⟨g5, 0, none⟩) (nw 2) (nw 2), .int .i64 2, .slice (some ⟨g6, 0, none⟩) (nw 2) (nw 2), .slice none 0 0] 69)).heap[v8.heap.size]? = some (.cells #[.int .i64 2, .slice (some ⟨g5, 0, none⟩) (nw 2) (nw 2), .int .i64 2, .slice (some ⟨g6, 0, none⟩) (nw 2) (nw 2), .slice none 0 0] 69 (0, 0)) from alloc_top rfl)
 replace HT := Lib.hid (HT.out.ext hy9)
 replace D1 := Lib.hid (hy9.blk D1.out no_no)
 replace hbg1 := Lib.hid (show BlkW (v8.alloc (.cells #[.int .i64 2, .slice (some ⟨g5, 0, none⟩) (nw 2) (nw 2), .int .i64 2, .slice (some ⟨g6, 0, none⟩) (nw 2) (nw 2), .slice none 0 0] 69)) g1 2 0 from hy9.blk (hbg1.out : v8.heap[g1]? = _) no_no)
 replace hbg2 := Lib.hid (show BlkW (v8.alloc (.cells #[.int .i64 2, .slice (some ⟨g5, 0, none⟩) (nw 2) (nw 2), .int .i64 2, .slice (some ⟨g6, 0, none⟩) (nw 2) (nw 2), .slice none 0 0] 69)) g2 2 0 from hy9.blk (hbg2.out : v8.heap[g2]? = _) no_no)
 replace T1 := Lib.hid (hy9.blk T1.out no_no)
 replace hbg3 := Lib.hid (show BlkW (v8.alloc (.cells #[.int .i64 2, .slice (some ⟨g5, 0, none⟩) (nw 2) (nw 2), .int .i64 2, .slice (some ⟨g6, 0, none⟩) (nw 2) (nw 2), .slice none 0 0] 69)) g3 2 0 from hy9.blk (hbg3.out : v8.heap[g3]? = _) no_no)
 replace hbg4 := Lib.hid (show BlkW (v8.alloc (.cells #[.int .i64 2, .slice (some ⟨g5, 0, none⟩) (nw 2) (nw 2), .int .i64 2, .slice (some ⟨g6, 0, none⟩) (nw 2) (nw 2), .slice none 0 0] 69)) g4 2 2 from hy9.blk (hbg4.out : v8.heap[g4]? = _) no_no)
 replace S1 := Lib.hid (hy9.blk S1.out no_no)
 replace X1 := Lib.hid (hy9.blk X1.out no_no)
 replace D3 := Lib.hid (hy9.blk D3.out no_no)
 replace D4 := Lib.hid (hy9.blk D4.out no_no)
 replace hbg5 := Lib.hid (show BlkW (v8.alloc (.cells #[.int .i64 2, .slice (some ⟨g5, 0, none⟩) (nw 2) (nw 2), .int .i64 2, .slice (some ⟨g6, 0, none⟩) (nw 2) (nw 2), .slice none 0 0] 69)) g5 2 0 from hy9.blk (hbg5.out : v8.heap[g5]? = _) no_no)
 replace hbg6 := Lib.hid (show BlkW (v8.alloc (.cells #[.int .i64 2, .slice (some ⟨g5, 0, none⟩) (nw 2) (nw 2), .int .i64 2, .slice (some ⟨g6, 0, none⟩) (nw 2) (nw 2), .slice none 0 0] 69)) g6 2 0 from hy9.blk (hbg6.out : v8.heap[g6]? = _) no_no)
 replace HX := Lib.hid (HX.out.transNo hy9)
 clear hy9
 generalize (v8.alloc (.cells #[.int .i64 2, .slice (some ⟨g5, 0, none⟩) (nw 2) (nw 2), .int .i64 2, .slice (some ⟨g6, 0, none⟩) (nw 2) (nw 2), .slice none 0 0] 69)) = v9 at *
 generalize v8.heap.size = BU at *
 refine (rempty_any 2 _ (by decide)).mono ?_
 rintro e10 v10 ⟨g7, rfl, hbg7, _, hy10⟩
 replace HT := Lib.hid (HT.out.ext hy10)
 replace D1 := Lib.hid (hy10.blk D1.out no_no)
 replace hbg1 := Lib.hid (show BlkW v10 g1 2 0 from hy10.blk (hbg1.out : v9.heap[g1]? = _) no_no)
 replace hbg2 := Lib.hid (show BlkW v10 g2 2 0 from hy10.blk (hbg2.out : v9.heap[g2]? = _) no_no)
 replace T1 := Lib.hid (hy10.blk T1.out no_no)
 replace hbg3 := Lib.hid (show BlkW v10 g3 2 0 from hy10.blk (hbg3.out : v9.heap[g3]? = _) no_no)
 replace hbg4 := Lib.hid (show BlkW v10 g4 2 2 from hy10.blk (hbg4.out : v9.heap[g4]? = _) no_no)
 replace S1 := Lib.hid (hy10.blk S1.out no_no)
 replace X1 := Lib.hid (hy10.blk X1.out no_no)
 replace D3 := Lib.hid (hy10.blk D3.out no_no)
 replace D4 := Lib.hid (hy10.blk D4.out no_no)
 replace hbg5 := Lib.hid (show BlkW v10 g5 2 0 from hy10.blk (hbg5.out : v9.heap[g5]? = _) no_no)
 replace hbg6 := Lib.hid (show BlkW v10 g6 2 0 from hy10.blk (hbg6.out : v9.heap[g6]? = _) no_no)
 replace T2 := Lib.hid (hy10.blk T2.out no_no)
 replace HX := Lib.hid (HX.out.transNo hy10)
 clear hy10
 replace hbg7 := Lib.hid (show BlkW v10 g7 2 0 from hbg7.out)
 go_upto_region 3 with (fail)
 have hy11 : Ext No v10 ((v10.alloc (.cells #[.int .i64 2, .slice (some ⟨g7, 0, none⟩) (nw 2) (nw 2)] 50)).alloc (.cells #[.int .i64 2, .slice (some ⟨BD + 1, 0, none⟩) 1 1, .slice (some ⟨BU, 0, none⟩) 1 1, .slice (some ⟨v10.heap.size, 0, none⟩) 1 1] 27)) := ((Ext.refl _ _).alloc _).alloc _
 have S2 := Lib.hid (show ((v10.alloc (.cells #[.int .i64 2, .slice (some ⟨g7, 0, none⟩) (nw 2) (nw 2)] 50)).alloc (.cells #[.int .i64 2, .slice (some ⟨BD + 1, 0, none⟩) 1 1, .slice (some ⟨BU, 0, none⟩) 1 1, .slice (some ⟨v10.heap.size, 0, none⟩) 1 1] 27)).heap[v10.heap.size]? = some (.cells #[.int .i64 2, .slice (some ⟨g7, 0, none⟩) (nw 2) (nw 2)] 50 (0, 0)) from alloc_under (alloc_top rfl))
 have X2 := Lib.hid (show ((v10.alloc (.cells #[.int .i64 2, .slice (some ⟨g7, 0, none⟩) (nw 2) (nw 2)] 50)).alloc (.cells #[.int .i64 2, .slice (some ⟨BD + 1, 0, none⟩) 1 1, .slice (some ⟨BU, 0, none⟩) 1 1, .slice (some ⟨v10.heap.size, 0, none⟩) 1 1] 27)).heap[v10.heap.size + 1]? = some (.cells #[.int .i64 2, .slice (some ⟨BD + 1, 0, none⟩) 1 1, .slice (some ⟨BU, 0, none⟩) 1 1, .slice (some ⟨v10.heap.size, 0, none⟩) 1 1] 27 (0, 0)) from alloc_top (by simp <;> omega))
 replace HT := Lib.hid (HT.out.ext hy11)
 replace D1 := Lib.hid (hy11.blk D1.out no_no)
 replace hbg1 := Lib.hid (show BlkW ((v10.alloc (.cells #[.int .i64 2, .slice (some ⟨g7, 0, none⟩) (nw 2) (nw 2)] 50)).alloc (.cells #[.int .i64 2, .slice (some ⟨BD + 1, 0, none⟩) 1 1, .slice (some ⟨BU, 0, none⟩) 1 1, .slice (some ⟨v10.heap.size, 0, none⟩) 1 1] 27)) g1 2 0 from hy11.blk (hbg1.out : v10.heap[g1]? = _) no_no)
 replace hbg2 := Lib.hid (show BlkW ((v10.alloc (.cells #[.int .i64 2, .slice (some ⟨g7, 0, none⟩) (nw 2) (nw 2)] 50)).alloc (.cells #[.int .i64 2, .slice (some ⟨BD + 1, 0, none⟩) 1 1, .slice (some ⟨BU, 0, none⟩) 1 1, .slice (some ⟨v10.heap.size, 0, none⟩) 1 1] 27)) g2 2 0 from hy11.blk (hbg2.out : v10.heap[g2]? = _) no_no)
 replace T1 := Lib.hid (hy11.blk T1.out no_no)
 replace hbg3 := Lib.hid (show BlkW ((v10.alloc (.cells #[.int .i64 2, .slice (some ⟨g7, 0, none⟩) (nw 2) (nw 2)] 50)).alloc (.cells #[.int .i64 2, .slice (some ⟨BD + 1, 0, none⟩) 1 1, .slice (some ⟨BU, 0, none⟩) 1 1, .slice (some ⟨v10.heap.size, 0, none⟩) 1 1] 27)) g3 2 0 from hy11.blk (hbg3.out : v10.heap[g3]? = _) no_no)
 replace hbg4 := Lib.hid (show BlkW ((v10.alloc (.cells #[.int .i64 2, .slice (some ⟨g7, 0, none⟩) (nw 2) (nw 2)] 50)).alloc (.cells #[.int .i64 2, .slice (some ⟨BD + 1, 0, none⟩) 1 1, .slice (some ⟨BU, 0, none⟩) 1 1, .slice (some ⟨v10.heap.size, 0, none⟩) 1 1] 27)) g4 2 2 from hy11.blk (hbg4.out : v10.heap[g4]? = _) no_no)
 replace S1 := Lib.hid (hy11.blk S1.out no_no)
 replace X1 := Lib.hid (hy11.blk X1.out no_no)
 replace D3 := Lib.hid (hy11.blk D3.out no_no)
 replace D4 := Lib.hid (hy11.blk D4.out no_no)
 replace hbg5 := Lib.hid (show BlkW ((v10.alloc (.cells #[.int .i64 2, .slice (some ⟨g7, 0, none⟩) (nw 2) (nw 2)] 50)).alloc (.cells #[.int .i64 2, .slice (some ⟨BD + 1, 0, none⟩) 1 1, .slice (some ⟨BU, 0, none⟩) 1 1, .slice (some ⟨v10.heap.size, 0, none⟩) 1 1] 27)) g5 2 0 from hy11.blk (hbg5.out : v10.heap[g5]? = _) no_no)
 replace hbg6 := Lib.hid (show BlkW ((v10.alloc (.cells #[.int .i64 2, .slice (some ⟨g7, 0, none⟩) (nw 2) (nw 2)] 50)).alloc (.cells #[.int .i64 2, .slice (some ⟨BD + 1, 0, none⟩) 1 1, .slice (some ⟨BU, 0, none⟩) 1 1, .slice (some ⟨v10.heap.size, 0, none⟩) 1 1] 27)) g6 2 0 from hy11.blk (hbg6.out : v10.heap[g6]? = _) no_no)
 replace T2 := Lib.hid (hy11.blk T2.out no_no)
 replace hbg7 := Lib.hid (show BlkW ((v10.alloc (.cells #[.int .i64 2, .slice (some ⟨g7, 0, none⟩) (nw 2) (nw 2)] 50)).alloc (.cells #[.int .i64 2, .slice (some ⟨BD + 1, 0, none⟩) 1 1, .slice (some ⟨BU, 0, none⟩) 1 1, .slice (some ⟨v10.heap.size, 0, none⟩) 1 1] 27)) g7 2 0 from hy11.blk (hbg7.out : v10.heap[g7]? = _) no_no)
 replace HX := Lib.hid (HX.out.transNo hy11)
 clear hy11
 generalize ((v10.alloc (.cells #[.int .i64 2, .slice (some ⟨g7, 0, none⟩) (nw 2) (nw 2)] 50)).alloc (.cells #[.int .i64 2, .slice (some ⟨BD + 1, 0, none⟩) 1 1, .slice (some ⟨BU, 0, none⟩) 1 1, .slice (some ⟨v10.heap.size, 0, none⟩) 1 1] 27)) = v11 at *
 generalize v10.heap.size = BV at *
 have LD : LAt kD No v11 (.slice (some ⟨Q, 0, none⟩) 1 1) [([], .slice none 0 0)] := one_list D1.out rfl rfl (Row.nil _ _ _ _ _ (by omega))
 have LT : LAt kT No v11 (.slice (some ⟨BT, 0, none⟩) 1 1) [(rawT ⟨2, 0, 0, []⟩, .slice (some ⟨g1, 0, none⟩) (nw 2) (nw 2), .slice (some ⟨g2, 0, none⟩) (nw 2) (nw 2), .slice none 0 0)] := one_list T1.out rfl rfl ⟨(hbg1.out.set (by decide) z0 no_no).words, (hbg2.out.set (by decide) z0 no_no).words, Row.nil _ _ _ _ _ (by omega)⟩
 have LS : LAt kS No v11 (.slice (some ⟨BS, 0, none⟩) 1 1) [(setN 2 2, .slice (some ⟨g4, 0, none⟩) (nw 2) (nw 2))] := one_list S1.out rfl rfl (hbg4.out.set (by decide) z2 no_no).words
 have SY1 := Lib.hid (show SysAt No v11 (.slice (some ⟨Q, 0, none⟩) 1 1) (.slice (some ⟨BT, 0, none⟩) 1 1) (.slice (some ⟨BS, 0, none⟩) 1 1) oneP from ⟨oneP_ok, _, _, _, ⟨LD, LT, LS⟩, rfl, rfl, rfl⟩)
 clear LD LT LS
 have LD : LAt kD No v11 (.slice (some ⟨BD + 1, 0, none⟩) 1 1) [([0], .slice (some ⟨BD, 0, none⟩) 1 1)] := one_list D4.out rfl rfl (Row.block (M := No) (n := 1) (s := 1) D3.out rfl no_no (by decide))
 have LT : LAt kT No v11 (.slice (some ⟨BU, 0, none⟩) 1 1) [(rawT ⟨2, 0, 0, []⟩, .slice (some ⟨g5, 0, none⟩) (nw 2) (nw 2), .slice (some ⟨g6, 0, none⟩) (nw 2) (nw 2), .slice none 0 0)] := one_list T2.out rfl rfl ⟨(hbg5.out.set (by decide) z0 no_no).words, (hbg6.out.set (by decide) z0 no_no).words, Row.nil _ _ _ _ _ (by omega)⟩
 have LS : LAt kS No v11 (.slice (some ⟨BV, 0, none⟩) 1 1) [(setN 2 0, .slice (some ⟨g7, 0, none⟩) (nw 2) (nw 2))] := one_list S2.out rfl rfl (hbg7.out.set (by decide) z0 no_no).words
 have SY2 := Lib.hid (show SysAt No v11 (.slice (some ⟨BD + 1, 0, none⟩) 1 1) (.slice (some ⟨BU, 0, none⟩) 1 1) (.slice (some ⟨BV, 0, none⟩) 1 1) loopP from ⟨loopP_ok, _, _, _, ⟨LD, LT, LS⟩, rfl, rfl, rfl⟩)
 clear LD LT LS
 have VS1 := Lib.hid (show SetsV No v11 (.slice (some ⟨BS, 0, none⟩) 1 1) 2 [2] from LAt.setsV (one_list S1.out rfl rfl (hbg4.out.set (by decide) z2 no_no).words : LAt kS No v11 _ [(setN 2 2, .slice (some ⟨g4, 0, none⟩) (nw 2) (nw 2))]) rfl (by decide) (fun m hm => by rw [List.mem_singleton.1 hm]; exact z2))
 clear D1 D3 D4 T1 T2 S1 S2 hbg1 hbg2 hbg3 hbg4 hbg5 hbg6 hbg7
 have cX := cellOf X1.out
 go_wp2_with fail
 clear cX
 refine (make_one _ _ _ _ HT.out SY1.out).mono ?_
 rintro e12 v12 ⟨a, ar, c, cr, Lv, Rk, rfl, hP1, hP2, hP3, hP4, hP5, hy12⟩
 replace HT := Lib.hid (HT.out.ext hy12)
 replace X1 := Lib.hid (hy12.blk X1.out no_no)
 replace X2 := Lib.hid (hy12.blk X2.out no_no)
 replace SY1 := Lib.hid (SY1.out.extNo hy12)
 replace SY2 := Lib.hid (SY2.out.extNo hy12)
 replace VS1 := Lib.hid (VS1.out.extNo hy12)
 replace HX := Lib.hid (HX.out.transNo hy12)
 clear hy12
 replace hP1 := Lib.hid (show SetsV No v12 _ _ _ from hP1.out)
 go_upto_region 4 with (fail)
 have hy13 : Ext No v12 (v12.alloc (.cells #[.slice a 1 c, .slice ar 1 cr] 29)) := (Ext.refl _ _).alloc _
 have P1 := Lib.hid (show (v12.alloc (.cells #[.slice a 1 c, .slice ar 1 cr] 29)).heap[v12.heap.size]? = some (.cells #[.slice a 1 c, .slice ar 1 cr] 29 (0, 0)) from alloc_top rfl)
 replace HT := Lib.hid (HT.out.ext hy13)
 replace X1 := Lib.hid (hy13.blk X1.out no_no)
 replace X2 := Lib.hid (hy13.blk X2.out no_no)
 replace SY1 := Lib.hid (SY1.out.extNo hy13)
 replace SY2 := Lib.hid (SY2.out.extNo hy13)
 replace VS1 := Lib.hid (VS1.out.extNo hy13)
 replace hP1 := Lib.hid (hP1.out.extNo hy13)
 replace hP2 := Lib.hid (hP2.out.extNo hy13)
 replace hP3 := Lib.hid (hP3.out.extNo hy13)
 replace HX := Lib.hid (HX.out.transNo hy13)
 clear hy13
 generalize (v12.alloc (.cells #[.slice a 1 c, .slice ar 1 cr] 29)) = v13 at *
 generalize v12.heap.size = BP at *
 go_wp2_with fail
 refine (decode_short none 0 0 (by decide) _).mono ?_
 rintro e14 v14 ⟨rfl, hy14⟩
 replace HT := Lib.hid (HT.out.ext hy14)
 replace X1 := Lib.hid (hy14.blk X1.out no_no)
 replace X2 := Lib.hid (hy14.blk X2.out no_no)
 replace SY1 := Lib.hid (SY1.out.extNo hy14)
 replace SY2 := Lib.hid (SY2.out.extNo hy14)
 replace VS1 := Lib.hid (VS1.out.extNo hy14)
 replace hP1 := Lib.hid (hP1.out.extNo hy14)
 replace hP2 := Lib.hid (hP2.out.extNo hy14)
 replace hP3 := Lib.hid (hP3.out.extNo hy14)
 replace P1 := Lib.hid (hy14.blk P1.out no_no)
 replace HX := Lib.hid (HX.out.transNo hy14)
 clear hy14
 go_upto_region 5 with (fail)
 have hy15 : Ext No v14 (v14.alloc (.cells #[.slice none 0 0, .slice none 0 0] 29)) := (Ext.refl _ _).alloc _
 have P2 := Lib.hid (show (v14.alloc (.cells #[.slice none 0 0, .slice none 0 0] 29)).heap[v14.heap.size]? = some (.cells #[.slice none 0 0, .slice none 0 0] 29 (0, 0)) from alloc_top rfl)
 replace HT := Lib.hid (HT.out.ext hy15)
 replace X1 := Lib.hid (hy15.blk X1.out no_no)
 replace X2 := Lib.hid (hy15.blk X2.out no_no)
 replace SY1 := Lib.hid (SY1.out.extNo hy15)
 replace SY2 := Lib.hid (SY2.out.extNo hy15)
 replace VS1 := Lib.hid (VS1.out.extNo hy15)
 replace hP1 := Lib.hid (hP1.out.extNo hy15)
 replace hP2 := Lib.hid (hP2.out.extNo hy15)
 replace hP3 := Lib.hid (hP3.out.extNo hy15)
 replace P1 := Lib.hid (hy15.blk P1.out no_no)
 replace HX := Lib.hid (HX.out.transNo hy15)
 clear hy15
 generalize (v14.alloc (.cells #[.slice none 0 0, .slice none 0 0] 29)) = v15 at *
 generalize v14.heap.size = BQ at *
 go_wp2_with fail
 refine (rempty_any 2 _ (by decide)).mono ?_
 rintro e16 v16 ⟨g8, rfl, hbg8, _, hy16⟩
 replace HT := Lib.hid (HT.out.ext hy16)
 replace X1 := Lib.hid (hy16.blk X1.out no_no)
 replace X2 := Lib.hid (hy16.blk X2.out no_no)
 replace SY1 := Lib.hid (SY1.out.extNo hy16)
 replace SY2 := Lib.hid (SY2.out.extNo hy16)
 replace VS1 := Lib.hid (VS1.out.extNo hy16)
 replace hP1 := Lib.hid (hP1.out.extNo hy16)
 replace hP2 := Lib.hid (hP2.out.extNo hy16)
 replace hP3 := Lib.hid (hP3.out.extNo hy16)
 replace P1 := Lib.hid (hy16.blk P1.out no_no)
 replace P2 := Lib.hid (hy16.blk P2.out no_no)
 replace HX := Lib.hid (HX.out.transNo hy16)
 clear hy16
 replace hbg8 := Lib.hid (show BlkW v16 g8 2 0 from hbg8.out)
 go_wp2_with fail
 refine (rput_any 2 0 0 _ _ (by decide) (hbg8.out.set (by decide) z0 no_no)).mono ?_
 rintro e17 v17 ⟨g9, rfl, hbg9, _, hy17⟩
 replace HT := Lib.hid (HT.out.ext hy17)
 replace X1 := Lib.hid (hy17.blk X1.out no_no)
 replace X2 := Lib.hid (hy17.blk X2.out no_no)
 replace SY1 := Lib.hid (SY1.out.extNo hy17)
 replace SY2 := Lib.hid (SY2.out.extNo hy17)
 replace VS1 := Lib.hid (VS1.out.extNo hy17)
 replace hP1 := Lib.hid (hP1.out.extNo hy17)
 replace hP2 := Lib.hid (hP2.out.extNo hy17)
 replace hP3 := Lib.hid (hP3.out.extNo hy17)
 replace P1 := Lib.hid (hy17.blk P1.out no_no)
 replace P2 := Lib.hid (hy17.blk P2.out no_no)
 replace hbg8 := Lib.hid (show BlkW v17 g8 2 0 from hy17.blk (hbg8.out : v16.heap[g8]? = _) no_no)
 replace HX := Lib.hid (HX.out.transNo hy17)
 clear hy17
 replace hbg9 := Lib.hid (show BlkW v17 g9 2 1 from hbg9.out)
 go_upto_region 6 with (fail)
 have hy18 : Ext No v17 ((((v17.alloc (.cells #[.int .i64 2, .slice (some ⟨g9, 0, none⟩) (nw 2) (nw 2)] 50)).alloc (.cells #[.int .i64 0] 3)).alloc (.cells #[.slice (some ⟨v17.heap.size + 1, 0, none⟩) 1 1] 22)).alloc (.cells #[.slice (some ⟨v17.heap.size, 0, none⟩) 1 1, .slice (some ⟨v17.heap.size + 1 + 1, 0, none⟩) 1 1] 29)) := ((((Ext.refl _ _).alloc _).alloc _).alloc _).alloc _
 have S3 := Lib.hid (show ((((v17.alloc (.cells #[.int .i64 2, .slice (some ⟨g9, 0, none⟩) (nw 2) (nw 2)] 50)).alloc (.cells #[.int .i64 0] 3)).alloc (.cells #[.slice (some ⟨v17.heap.size + 1, 0, none⟩) 1 1] 22)).alloc (.cells #[.slice (some ⟨v17.heap.size, 0, none⟩) 1 1, .slice (some ⟨v17.heap.size + 1 + 1, 0, none⟩) 1 1] 29)).heap[v17.heap.size]? = some (.cells #[.int .i64 2, .slice (some ⟨g9, 0, none⟩) (nw 2) (nw 2)] 50 (0, 0)) from alloc_under (alloc_under (alloc_under (alloc_top rfl))))
 have D5 := Lib.hid (show ((((v17.alloc (.cells #[.int .i64 2, .slice (some ⟨g9, 0, none⟩) (nw 2) (nw 2)] 50)).alloc (.cells #[.int .i64 0] 3)).alloc (.cells #[.slice (some ⟨v17.heap.size + 1, 0, none⟩) 1 1] 22)).alloc (.cells #[.slice (some ⟨v17.heap.size, 0, none⟩) 1 1, .slice (some ⟨v17.heap.size + 1 + 1, 0, none⟩) 1 1] 29)).heap[v17.heap.size + 1]? = some (.cells #[.int .i64 0] 3 (0, 0)) from alloc_under (alloc_under (alloc_top (by simp <;> omega))))
 have D6 := Lib.hid (show ((((v17.alloc (.cells #[.int .i64 2, .slice (some ⟨g9, 0, none⟩) (nw 2) (nw 2)] 50)).alloc (.cells #[.int .i64 0] 3)).alloc (.cells #[.slice (some ⟨v17.heap.size + 1, 0, none⟩) 1 1] 22)).alloc (.cells #[.slice (some ⟨v17.heap.size, 0, none⟩) 1 1, .slice (some ⟨v17.heap.size + 1 + 1, 0, none⟩) 1 1] 29)).heap[v17.heap.size + 1 + 1]? = some (.cells #[.slice (some ⟨v17.heap.size + 1, 0, none⟩) 1 1] 22 (0, 0)) from alloc_under (alloc_top (by simp <;> omega)))
 have P3 := Lib.hid (show ((((v17.alloc (.cells #[.int .i64 2, .slice (some ⟨g9, 0, none⟩) (nw 2) (nw 2)] 50)).alloc (.cells #[.int .i64 0] 3)).alloc (.cells #[.slice (some ⟨v17.heap.size + 1, 0, none⟩) 1 1] 22)).alloc (.cells #[.slice (some ⟨v17.heap.size, 0, none⟩) 1 1, .slice (some ⟨v17.heap.size + 1 + 1, 0, none⟩) 1 1] 29)).heap[v17.heap.size + 1 + 1 + 1]? = some (.cells #[.slice (some ⟨v17.heap.size, 0, none⟩) 1 1, .slice (some ⟨v17.heap.size + 1 + 1, 0, none⟩) 1 1] 29 (0, 0)) from alloc_top (by simp <;> omega))
 replace HT := Lib.hid (HT.out.ext hy18)
 replace X1 := Lib.hid (hy18.blk X1.out no_no)
 replace X2 := Lib.hid (hy18.blk X2.out no_no)
 replace SY1 := Lib.hid (SY1.out.extNo hy18)
 replace SY2 := Lib.hid (SY2.out.extNo hy18)
 replace VS1 := Lib.hid (VS1.out.extNo hy18)
 replace hP1 := Lib.hid (hP1.out.extNo hy18)
 replace hP2 := Lib.hid (hP2.out.extNo hy18)
 replace hP3 := Lib.hid (hP3.out.extNo hy18)
 replace P1 := Lib.hid (hy18.blk P1.out no_no)
 replace P2 := Lib.hid (hy18.blk P2.out no_no)
 replace hbg8 := Lib.hid (show BlkW ((((v17.alloc (.cells #[.int .i64 2, .slice (some ⟨g9, 0, none⟩) (nw 2) (nw 2)] 50)).alloc (.cells #[.int .i64 0] 3)).alloc (.cells #[.slice (some ⟨v17.heap.size + 1, 0, none⟩) 1 1] 22)).alloc (.cells #[.slice (some ⟨v17.heap.size, 0, none⟩) 1 1, .slice (some ⟨v17.heap.size + 1 + 1, 0, none⟩) 1 1] 29)) g8 2 0 from hy18.blk (hbg8.out : v17.heap[g8]? = _) no_no)
 replace hbg9 := Lib.hid (show BlkW ((((v17.alloc (.cells #[.int .i64 2, .slice (some ⟨g9, 0, none⟩) (nw 2) (nw 2)] 50)).alloc (.cells #[.int .i64 0] 3)).alloc (.cells #[.slice (some ⟨v17.heap.size + 1, 0, none⟩) 1 1] 22)).alloc (.cells #[.slice (some ⟨v17.heap.size, 0, none⟩) 1 1, .slice (some ⟨v17.heap.size + 1 + 1, 0, none⟩) 1 1] 29)) g9 2 1 from hy18.blk (hbg9.out : v17.heap[g9]? = _) no_no)
 replace HX := Lib.hid (HX.out.transNo hy18)
 clear hy18
 generalize ((((v17.alloc (.cells #[.int .i64 2, .slice (some ⟨g9, 0, none⟩) (nw 2) (nw 2)] 50)).alloc (.cells #[.int .i64 0] 3)).alloc (.cells #[.slice (some ⟨v17.heap.size + 1, 0, none⟩) 1 1] 22)).alloc (.cells #[.slice (some ⟨v17.heap.size, 0, none⟩) 1 1, .slice (some ⟨v17.heap.size + 1 + 1, 0, none⟩) 1 1] 29)) = v18 at *
 generalize v17.heap.size = BR at *
 have LS3 := Lib.hid (show LAt kS No v18 (.slice (some ⟨BR, 0, none⟩) 1 1) [(setN 2 1, .slice (some ⟨g9, 0, none⟩) (nw 2) (nw 2))] from one_list S3.out rfl rfl (hbg9.out.set (by decide) z1 no_no).words)
 have LD3 := Lib.hid (show LAt kD No v18 (.slice (some ⟨BR + 1 + 1, 0, none⟩) 1 1) [([0], .slice (some ⟨BR + 1, 0, none⟩) 1 1)] from one_list D6.out rfl rfl (Row.block (M := No) (n := 1) (s := 1) D5.out rfl no_no (by decide)))
 clear S3 D5 D6 P2 hbg8 hbg9
 have cX := cellOf X1.out
 have cP := cellOf P1.out
 go_wp2_with fail
 clear cX cP
 have hy19 : Ext No v18 ((v18.alloc (.cells #[.int .i64 0] 3)).alloc (.cells #[.slice (some ⟨v18.heap.size, 0, none⟩) 1 1] 22)) := ((Ext.refl _ _).alloc _).alloc _
 have D7 := Lib.hid (show ((v18.alloc (.cells #[.int .i64 0] 3)).alloc (.cells #[.slice (some ⟨v18.heap.size, 0, none⟩) 1 1] 22)).heap[v18.heap.size]? = some (.cells #[.int .i64 0] 3 (0, 0)) from alloc_under (alloc_top rfl))
 have D8 := Lib.hid (show ((v18.alloc (.cells #[.int .i64 0] 3)).alloc (.cells #[.slice (some ⟨v18.heap.size, 0, none⟩) 1 1] 22)).heap[v18.heap.size + 1]? = some (.cells #[.slice (some ⟨v18.heap.size, 0, none⟩) 1 1] 22 (0, 0)) from alloc_top (by simp <;> omega))
 replace HT := Lib.hid (HT.out.ext hy19)
 replace X1 := Lib.hid (hy19.blk X1.out no_no)
 replace X2 := Lib.hid (hy19.blk X2.out no_no)
 replace SY1 := Lib.hid (SY1.out.extNo hy19)
 replace SY2 := Lib.hid (SY2.out.extNo hy19)
 replace VS1 := Lib.hid (VS1.out.extNo hy19)
 replace hP1 := Lib.hid (hP1.out.extNo hy19)
 replace hP2 := Lib.hid (hP2.out.extNo hy19)
 replace hP3 := Lib.hid (hP3.out.extNo hy19)
 replace P1 := Lib.hid (hy19.blk P1.out no_no)
 replace P3 := Lib.hid (hy19.blk P3.out no_no)
 replace LS3 := Lib.hid (LS3.out.extNo hy19)
 replace LD3 := Lib.hid (LD3.out.extNo hy19)
 replace HX := Lib.hid (HX.out.transNo hy19)
 clear hy19
 generalize ((v18.alloc (.cells #[.int .i64 0] 3)).alloc (.cells #[.slice (some ⟨v18.heap.size, 0, none⟩) 1 1] 22)) = v19 at *
 generalize v18.heap.size = BE at *
 have LD8 := Lib.hid (show LAt kD No v19 (.slice (some ⟨BE + 1, 0, none⟩) 1 1) [([0], .slice (some ⟨BE, 0, none⟩) 1 1)] from one_list D8.out rfl rfl (Row.block (M := No) (n := 1) (s := 1) D7.out rfl no_no (by decide)))
 clear D7 D8
 refine (sameProof_any 2 [2] [2] [[0]] [[0]] Rk [([0], .slice (some ⟨BE, 0, none⟩) 1 1)] _ _ _ _ _ hP1.out VS1.out (by decide) hP3.out hP4.out LD8.out rfl).mono ?_
 rintro e20 v20 ⟨rfl, hy20⟩
 replace HT := Lib.hid (HT.out.ext hy20)
 replace X1 := Lib.hid (hy20.blk X1.out no_no)
 replace X2 := Lib.hid (hy20.blk X2.out no_no)
 replace SY1 := Lib.hid (SY1.out.extNo hy20)
 replace SY2 := Lib.hid (SY2.out.extNo hy20)
 replace VS1 := Lib.hid (VS1.out.extNo hy20)
 replace hP1 := Lib.hid (hP1.out.extNo hy20)
 replace hP2 := Lib.hid (hP2.out.extNo hy20)
 replace hP3 := Lib.hid (hP3.out.extNo hy20)
 replace P1 := Lib.hid (hy20.blk P1.out no_no)
 replace P3 := Lib.hid (hy20.blk P3.out no_no)
 replace LS3 := Lib.hid (LS3.out.extNo hy20)
 replace LD3 := Lib.hid (LD3.out.extNo hy20)
 replace HX := Lib.hid (HX.out.transNo hy20)
 clear hy20
 rw [decide_eq_true ⟨rfl, rfl⟩]
 have cX := cellOf X1.out
 have cP := cellOf P1.out
 go_wp2_with fail
 clear cX cP
 refine (show Calls _ _ #[.agg #[.int .i64 2, .slice (some ⟨Q, 0, none⟩) 1 1, .slice (some ⟨BT, 0, none⟩) 1 1, .slice (some ⟨BS, 0, none⟩) 1 1], .agg #[.slice a 1 c, .slice ar 1 cr]] _ (ChkPost (AccP oneP Lv Rk) _) from check_any oneP _ _ _ _ _ Lv Rk _ HT.out SY1.out hP2.out hP3.out).mono ?_
 rintro e21 v21 ⟨z, rfl, hz, hy21⟩
 replace HT := Lib.hid (HT.out.ext hy21)
 replace X1 := Lib.hid (hy21.blk X1.out no_no)
 replace X2 := Lib.hid (hy21.blk X2.out no_no)
 replace SY1 := Lib.hid (SY1.out.extNo hy21)
 replace SY2 := Lib.hid (SY2.out.extNo hy21)
 replace VS1 := Lib.hid (VS1.out.extNo hy21)
 replace hP1 := Lib.hid (hP1.out.extNo hy21)
 replace hP2 := Lib.hid (hP2.out.extNo hy21)
 replace hP3 := Lib.hid (hP3.out.extNo hy21)
 replace P1 := Lib.hid (hy21.blk P1.out no_no)
 replace P3 := Lib.hid (hy21.blk P3.out no_no)
 replace LS3 := Lib.hid (LS3.out.extNo hy21)
 replace LD3 := Lib.hid (LD3.out.extNo hy21)
 replace HX := Lib.hid (HX.out.transNo hy21)
 clear hy21
 obtain rfl : z = 0 := hz.elim And.right (fun h => absurd hP5.out h.1)
 clear hz
 have cX := cellOf X2.out
 have cP := cellOf P3.out
 go_wp2_with fail
 clear cX cP
 refine (show Calls _ _ #[.agg #[.int .i64 2, .slice (some ⟨BD + 1, 0, none⟩) 1 1, .slice (some ⟨BU, 0, none⟩) 1 1, .slice (some ⟨BV, 0, none⟩) 1 1], .agg #[.slice (some ⟨BR, 0, none⟩) 1 1, .slice (some ⟨BR + 1 + 1, 0, none⟩) 1 1]] _ (ChkPost (AccP loopP _ _) _) from check_any loopP _ _ _ _ _ _ _ _ HT.out SY2.out LS3.out LD3.out).mono ?_
 rintro e22 v22 ⟨z, rfl, hz, hy22⟩
 replace HT := Lib.hid (HT.out.ext hy22)
 replace X1 := Lib.hid (hy22.blk X1.out no_no)
 replace X2 := Lib.hid (hy22.blk X2.out no_no)
 replace SY1 := Lib.hid (SY1.out.extNo hy22)
 replace SY2 := Lib.hid (SY2.out.extNo hy22)
 replace VS1 := Lib.hid (VS1.out.extNo hy22)
 replace hP1 := Lib.hid (hP1.out.extNo hy22)
 replace hP2 := Lib.hid (hP2.out.extNo hy22)
 replace hP3 := Lib.hid (hP3.out.extNo hy22)
 replace P1 := Lib.hid (hy22.blk P1.out no_no)
 replace P3 := Lib.hid (hy22.blk P3.out no_no)
 replace LS3 := Lib.hid (LS3.out.extNo hy22)
 replace LD3 := Lib.hid (LD3.out.extNo hy22)
 replace HX := Lib.hid (HX.out.transNo hy22)
 clear hy22
 obtain rfl : z = 15 := hz.elim (fun h => absurd h.1 (loopP_no _ _ rfl)) And.right
 clear hz
 have kc := fun (w : World) (C : Array Value) (n c : Nat) => Lib.run_convert_bytes_const (P := Tryz.prog) w 53 5 C n c Tryz.underlying53 Tryz.underlying5
 go_wp2_with fail
 have hy23 : Ext No v22 (v22.alloc (.cells #[.int .u8 49, .int .u8 50, .int .u8 51, .int .u8 52, .int .u8 53, .int .u8 54, .int .u8 55, .int .u8 56, .int .u8 57] 5 (9, 10))) := (Ext.refl _ _).alloc _
 have B9 := Lib.hid (show (v22.alloc (.cells #[.int .u8 49, .int .u8 50, .int .u8 51, .int .u8 52, .int .u8 53, .int .u8 54, .int .u8 55, .int .u8 56, .int .u8 57] 5 (9, 10))).heap[v22.heap.size]? = some (.cells #[.int .u8 49, .int .u8 50, .int .u8 51, .int .u8 52, .int .u8 53, .int .u8 54, .int .u8 55, .int .u8 56, .int .u8 57] 5 (9, 10)) from alloc_top rfl)
 replace HX := Lib.hid (HX.out.transNo hy23)
 clear hy23 kc
 generalize (v22.alloc (.cells #[.int .u8 49, .int .u8 50, .int .u8 51, .int .u8 52, .int .u8 53, .int .u8 54, .int .u8 55, .int .u8 56, .int .u8 57] 5 (9, 10))) = v23 at *
 generalize v22.heap.size = BB at *
 refine (pchecksum_any [49, 50, 51, 52, 53, 54, 55, 56, 57] (.slice (some ⟨BB, 0, none⟩) 9 9) _ (Row.blockM (n := 9) B9.out rfl (by decide)) (by decide)).mono ?_
 rintro e24 v24 ⟨rfl, hy24⟩
 replace HX := Lib.hid (HX.out.transNo hy24)
 clear hy24
 rw [crc_check]
 go_wp2_with fail
 go_ret
 exact ⟨rfl, HX.out⟩

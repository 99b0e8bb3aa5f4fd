
import Derived.Test.YtmddchceacmopaaGreatDoorE25
set_option linter.unusedVariables false
set_option linter.unusedSimpArgs false
namespace Go.Proofs.YtmddchceacmopaaGreatDoor
open Go Go.RowKit
theorem Row.off {M : Nat → Prop} {w : World} {s n D : Nat} {sl : Value} {vs : List Value} (h : Row M w s sl n vs) (hn : ∀ off, (∀ j u, vs[j]? = some u → w.cell? ⟨D, off + j, none⟩ = some u) → n = 0) : Row (fun b => M b ∨ b = D) w s sl n vs := by
 obtain ⟨h1, h2, a, cap, h3, hcp, h4⟩ := h
 refine ⟨h1, h2, a, cap, h3, hcp, ?_⟩
 rcases h4 with h4 | ⟨b, off, h5, h6, h7, h8⟩
 ·exact .inl h4
 by_cases e : b = D
 ·subst e; exact .inl (hn off h8)
 exact .inr ⟨b, off, h5, h6, fun e2 => e2.elim h7 e, h8⟩
theorem WordsAt.off {M : Nat → Prop} {w : World} {D : Nat} {T : TypeId} {x : Int} {a1 a2 : Option Addr} {n1 n2 c1 c2 : Nat} {sl : Value} {ws : List Nat} (h : WordsAt M w sl ws) (hD : w.heap[D]? = some (.cells #[.int .i64 x, .slice a1 n1 c1, .slice a2 n2 c2] T (0, 0))) : WordsAt (fun b => M b ∨ b = D) w sl ws := by
 refine ⟨Row.off h.row (fun off h8 => ?_), h.lt⟩
 rcases ws with _ | ⟨y, ws⟩
 ·rfl
 have h9 := h8 0 (.int .u64 (y : Int)) rfl
 rw [cellOf hD] at h9
 rcases off with _ | _ | _ | off <;> simp at h9
theorem CopiesAt.off {M : Nat → Prop} {w : World} {D : Nat} {T : TypeId} {x : Int} {a1 a2 : Option Addr} {n1 n2 c1 c2 : Nat} {sl : Value} {l : List (Int × Int)} (h : CopiesAt M w sl l) (hD : w.heap[D]? = some (.cells #[.int .i64 x, .slice a1 n1 c1, .slice a2 n2 c2] T (0, 0))) : CopiesAt (fun b => M b ∨ b = D) w sl l := by
 refine Row.off h (fun off h8 => ?_)
 rcases l with _ | ⟨y, l⟩
 ·rfl
 have h9 := h8 1 (.int .i64 y.2) rfl
 rw [cellOf hD] at h9
 rcases off with _ | _ | _ | off <;> simp at h9
theorem MWx.stepWeb {w w' : World} {base lim D : Nat} {vb vi : Value} {LB : LS} {RL : RLs} {T : TypeId} {x : Int} {a1 a2 : Option Addr} {n1 n2 c1 c2 : Nat} (h : MWx w base lim vb vi LB RL) (hD : w.heap[D]? = some (.cells #[.int .i64 x, .slice a1 n1 c1, .slice a2 n2 c2] T (0, 0))) (hn : ¬ OwnB13 vb vi RL D) (hx : Ext (At D) w w') : MWx w' base lim vb vi LB RL := by
 have hb : ∀ i, vb.ownBlock = some i → ¬ At D i := fun i hi e => hn (.inl (by rw [← show i = D from e]; exact hi))
 have hi : ∀ i, vi.ownBlock = some i → ¬ At D i := fun i hi e => hn (.inr (.inl (by rw [← show i = D from e]; exact hi)))
 have hr : ∀ p ∈ RL, ∀ i, p.2.ownBlock = some i → ¬ At D i := fun p hp i hi e => hn (.inr (.inr ⟨p, hp, by rw [← show i = D from e]; exact hi⟩))
 refine ⟨h.bl, Nat.le_trans h.lh hx.size, ⟨row_keep2 h.b.own hx hb, fun p hp => ?_⟩, row_keep2 h.i hx hi, fun q hq => ⟨row_keep2 (h.r q hq).own hx (hr q hq), fun p hp => ?_⟩, h.bi, h.br, h.dis, h.lb, h.li, h.lr⟩
 ·have h1 : WordsAt _ w p.2 p.1.words := h.b.ok p hp
  exact (h1.off hD).ext hx (fun i _ e => .inr e) |>.mono (fun i _ e => .inl e)
 have h1 : RawTAt _ w p.2.2.1 p.2.2.2.1 p.2.2.2.2 p.2.1 := (h.r q hq).ok p hp
 have h2 : RawTAt _ w p.2.2.1 p.2.2.2.1 p.2.2.2.2 p.2.1 := ⟨h1.gen.off hD, h1.kill.off hD, h1.copies.off hD⟩
 exact (h2.ext hx (fun i _ e => .inr e)).mono (fun i _ e => .inl e)
theorem MW.stepWeb {w w' : World} {base lim D : Nat} {vb vi : Value} {LB : LS} {RL : RLs} {S : WebD} {T : TypeId} {x : Int} {a1 a2 : Option Addr} {n1 n2 c1 c2 : Nat} (h : MW w base lim vb vi LB RL S) (hD : w.heap[D]? = some (.cells #[.int .i64 x, .slice a1 n1 c1, .slice a2 n2 c2] T (0, 0))) (hn : ¬ OwnB13 vb vi RL D) (hx : Ext (At D) w w') : MW w' base lim vb vi LB RL S :=
 ⟨h.x.stepWeb hD hn hx, h.ok, h.bnd, h.len, h.rows⟩
theorem eliminate_w (x : Nat) (S : WebD) (n base lim0 gB cB gI cI N : Nat) (LB : LS) (RL : RLs) (W : World) (hx : x = S.w) (hN : N = S.ins.length) (h : MW W base lim0 (.slice (some ⟨gB, 0, none⟩) N cB) (.slice (some ⟨gI, 0, none⟩) N cI) LB RL S) (hT : TabW W) (hlow : 0 < base) (hn : n < N) :
  Calls Tryz.prog 49 #[.agg #[.int .i64 (x : Int), (.slice (some ⟨gB, 0, none⟩) N cB), (.slice (some ⟨gI, 0, none⟩) N cI)], .int .i64 (n : Int)] W (ResPostW (elimW S n) base (.slice (some ⟨gB, 0, none⟩) N cB) (.slice (some ⟨gI, 0, none⟩) N cI) RL W) := by
 subst hx
 exact eliminate_any S n base lim0 gB cB gI cI N LB RL W hN h hT hlow hn
theorem wvalid_w (S : WebD) (vb vi : Value) (hs : True) (W : World) (h : WbAt No W vb vi S) :
  Calls Tryz.prog 10 #[.agg #[.int .i64 (S.w : Int), vb, vi]] W (BoolPost true W) := wvalid_yes S vb vi W h
theorem elclone_n (S : WebD) (N : Nat) (vb vi : Value) (W : World) (hN : N = S.ins.length) (h8 : WebOk8 S) (h : WbAt No W vb vi S) :
  Calls Tryz.prog 46 #[.agg #[.int .i64 (S.w : Int), vb, vi]] W (fun e w' => ∃ (gB cB gI cI lim : Nat) (LB : LS) (RL : RLs), e = .returned (.agg #[.int .i64 (S.w : Int), .slice (some ⟨gB, 0, none⟩) N cB, .slice (some ⟨gI, 0, none⟩) N cI]) ∧ Hid (MW w' W.heap.size lim (.slice (some ⟨gB, 0, none⟩) N cB) (.slice (some ⟨gI, 0, none⟩) N cI) LB RL S) ∧ Ext No W w') := by
 subst hN
 exact elclone_any S vb vi W h8 h
theorem KeepMid {W w4 wr : World} {base bO : Nat} {sl : Value} {ks : List Int} (_ : Ints No w4 .i64 sl ks) (hx : Ext No W w4) (hm : Ext (fun k => base ≤ k ∧ k ≠ bO) w4 wr) (hk : Ints No W .i64 sl ks) (hb : W.heap.size ≤ base) : Ints No wr .i64 sl ks :=
 hk.extNo (hx.trans2 hm (fun i hi e => by omega))
set_option maxRecDepth 100000 in
set_option maxHeartbeats 8000000 in
theorem reduceW_any (S : WebD) (ks : List Int) (vb vi sl : Value) (W : World) (h8 : WebOk8 S) (h : WbAt No W vb vi S) (hT : TabW W) (hk : Ints No W .i64 sl ks) (hn : ∀ n ∈ ks, UnkP n S.ins.length) :
  Calls Tryz.prog 13 #[.agg #[.int .i64 (S.w : Int), vb, vi], sl] W (EWPost (reduceW S (fun t : Nat => decide ((t : Int) ∈ ks)) S.ins.length) W) := by
 have H := Lib.hid h
 have HK := Lib.hid hk
 have HSL := Lib.hid trivial
 have HN := Lib.hid (show ¬ ∃ n ∈ ks, ¬ UnkP n S.ins.length from fun ⟨n, h1, h2⟩ => h2 (hn n h1))
 have HT := Lib.hid hT
 have H8 := Lib.hid h8
 obtain ⟨ab, cb, ai, ci, rfl, rfl⟩ := h.slices
 obtain ⟨ak, ck, rfl⟩ := Ints.slice hk
 have hn32 := h8.n8
 clear h hk hn hT h8
 obtain ⟨N, hN⟩ : ∃ N, N = S.ins.length := ⟨_, rfl⟩
 have HNN := Lib.hid hN
 rw [← hN] at H HN hn32 ⊢
 clear hN
 obtain ⟨kp, hkp⟩ : ∃ kp : Nat → Bool, kp = (fun t : Nat => decide ((t : Int) ∈ ks)) := ⟨_, rfl⟩
 have HKP := Lib.hid hkp
 rw [← hkp]
 clear hkp
 go_enter Tryz.func13, Tryz.ntmps13
 go_upto_region 1 with (fail)
 have hx0 : Ext No W ((W.alloc (.cells #[.int .i64 (S.w : Int), .slice ab N cb, .slice ai N ci] 26)).alloc (.cells #[.int .i64 0, .slice none 0 0, .slice none 0 0] 26)) := ((Ext.refl _ _).alloc _).alloc _
 have HA := Lib.hid (show ((W.alloc (.cells #[.int .i64 (S.w : Int), .slice ab N cb, .slice ai N ci] 26)).alloc (.cells #[.int .i64 0, .slice none 0 0, .slice none 0 0] 26)).heap[W.heap.size]? = some (.cells #[.int .i64 (S.w : Int), .slice ab N cb, .slice ai N ci] 26 (0, 0)) from alloc_under (alloc_top rfl))
 have HC := Lib.hid (show ((W.alloc (.cells #[.int .i64 (S.w : Int), .slice ab N cb, .slice ai N ci] 26)).alloc (.cells #[.int .i64 0, .slice none 0 0, .slice none 0 0] 26)).heap[W.heap.size + 1]? = some (.cells #[.int .i64 0, .slice none 0 0, .slice none 0 0] 26 (0, 0)) from alloc_top (by simp))
 have HX := Lib.hid hx0
 have HVW := Lib.hid (show ((W.alloc (.cells #[.int .i64 (S.w : Int), .slice ab N cb, .slice ai N ci] 26)).alloc (.cells #[.int .i64 0, .slice none 0 0, .slice none 0 0] 26)).heap.size = W.heap.size + 2 from by simp)
 clear hx0
 generalize ((W.alloc (.cells #[.int .i64 (S.w : Int), .slice ab N cb, .slice ai N ci] 26)).alloc (.cells #[.int .i64 0, .slice none 0 0, .slice none 0 0] 26)) = V at *
 have cA := cellOf HA.out
 go_wp2_with fail
 refine (wvalid_w S _ _ HSL.out _ (H.out.extNo HX.out)).mono ?_
 rintro e1 w1 ⟨rfl, hx1⟩
 clear cA
 have HX1 := Lib.hid hx1
 clear hx1
 have cA := cellOf (HX1.out.blk HA.out no_no)
 go_wp2_with fail
 clear cA
 go_at_call 43
 refine (containsR13_any (S.w : Int) _ ai N ci W.heap.size _ ks _ (HK.out.extNo (HX.out.transNo HX1.out)) (HX1.out.blk HA.out no_no)).mono ?_
 rintro e2 w2 ⟨b2, rfl, hb2, hx2⟩
 obtain rfl := tells_f hb2 HN.out
 clear hb2
 have HX2 := Lib.hid (HX1.out.transNo hx2)
 clear hx2 HX1
 have cA := cellOf (HX2.out.blk HA.out no_no)
 go_wp2_with fail
 clear cA
 refine (elclone_n S N _ _ _ HNN.out H8.out (H.out.extNo (HX.out.transNo HX2.out))).mono ?_
 rintro e3 w3 ⟨gB, cB, gI, cI, lim0, LB, RL, rfl, hMW, hx3⟩
 have HX3 := Lib.hid (HX2.out.transNo hx3)
 go_upto_region 6 with (fail)
 have HO := Lib.hid (alloc_top (w := w3) (o := .cells #[.int .i64 (S.w : Int), .slice (some ⟨gB, 0, none⟩) N cB, .slice (some ⟨gI, 0, none⟩) N cI] 26) rfl)
 have hx4 : Ext No w3 (w3.alloc (.cells #[.int .i64 (S.w : Int), .slice (some ⟨gB, 0, none⟩) N cB, .slice (some ⟨gI, 0, none⟩) N cI] 26)) := (Ext.refl _ _).alloc _
 have HMW := Lib.hid (hMW.out.stepNo hx4)
 have HX4 := Lib.hid (HX3.out.transNo hx4)
 have hlm := hMW.out.x.lh
 have HnO := Lib.hid (show ¬ (OwnB13 (.slice (some ⟨gB, 0, none⟩) N cB) (.slice (some ⟨gI, 0, none⟩) N cI) RL) w3.heap.size from fun e => by have := (hMW.out.x.own e).2; omega)
 have HTL := Lib.hid ((HT.out.ext (HX.out.transNo HX2.out)).pos)
 have HT4 := Lib.hid (HT.out.ext (HX.out.transNo HX4.out))
 have HC4 := Lib.hid (HX4.out.blk HC.out no_no)
 have hC2 := lt_of_block (HX2.out.blk HC.out no_no)
 have HXX := Lib.hid (HX.out.transNo HX4.out)
 have hO3 : w2.heap.size ≤ w3.heap.size := hx3.size
 have hBW := (HX.out.transNo HX2.out).size
 clear HX3 hx3 hx4 hMW hlm HX4 HX2 HA HC HT HX HVW H
 generalize (w3.alloc (.cells #[.int .i64 (S.w : Int), .slice (some ⟨gB, 0, none⟩) N cB, .slice (some ⟨gI, 0, none⟩) N cI] 26)) = w4 at *
 generalize w3.heap.size = bO at *
 generalize w2.heap.size = base at *
 have HK4 := Lib.hid (HK.out.extNo HXX.out)
 have cO := cellOf HO.out
 go_wp2_with fail
 clear cO
 go_loopw [7, 8, 9, 25] (fun _ _ _ s25 wr => ∃ (t lim : Nat) (LBt : LS) (RLt : RLs), s25 = .int .i64 t ∧ t ≤ N ∧ Hid (MW wr base lim (.slice (some ⟨gB, 0, none⟩) N cB) (.slice (some ⟨gI, 0, none⟩) N cI) LBt RLt (reduceW S kp t)) ∧ Hid (¬ (OwnB13 (.slice (some ⟨gB, 0, none⟩) N cB) (.slice (some ⟨gI, 0, none⟩) N cI) RLt) bO) ∧ Hid (Ext (fun k => base ≤ k ∧ k ≠ bO) w4 wr)) (fun _ _ _ s25 _ => N - (intOf s25).toNat)
 case atStart => exact ⟨0, lim0, LB, RL, rfl, Nat.zero_le _, HMW, HnO, Lib.hid (Ext.refl _ _)⟩
 clear HMW HnO
 obtain ⟨t, lim, LBt, RLt, rfl, ht, HMW, HnO, HXt⟩ := hrel
 rename World => wr
 have HO4 := HO
 replace HO := Lib.hid (HXt.out.blk HO.out (fun e => e.2 rfl))
 by_cases hlt : t < N
 ·have hlz : (t : Int) < (N : Int) := by omega
  have HKK : Hid (Value.int .i64 ((t : Int) + 1) = .int .i64 ((t + 1 : Nat) : Int)) := Lib.hid (by rw [show ((t + 1 : Nat) : Int) = (t : Int) + 1 from by omega])
  obtain ⟨hRk, hRw0, hRn0⟩ := reduce_ok (keep := kp) H8.out t (by rw [← HNN.out]; omega)
  have HRW := Lib.hid (show S.w = (reduceW S kp t).w from hRw0.symm)
  have HRN := Lib.hid (show N = (reduceW S kp t).ins.length from by rw [hRn0]; exact HNN.out)
  clear hRw0 hRn0 hRk
  go_wp2_with fail
  refine (containsZ_any (t : Int) _ ks _ (KeepMid HK4.out HXX.out HXt.out HK.out hBW)).mono ?_
  rintro e5 w5 ⟨b5, rfl, hb5, hx5⟩
  have HXt5 := Lib.hid (HXt.out.transNo hx5)
  have HMW5 := Lib.hid (HMW.out.stepNo hx5)
  have HO5 := Lib.hid (hx5.blk HO.out no_no)
  clear HXt HMW HO
  have HMW := HMW5
  have HO := HO5
  have HXt := HXt5
  clear HMW5 HO5 HXt5 hx5 wr
  rename World => wr
  cases b5 with
  | true =>
   have HKF := Lib.hid (show kp t = true from by rw [HKP.out]; exact decide_eq_true (tells_yes hb5))
   clear hb5
   go_wp2_with fail
   go_roundw
   case rel => exact ⟨t + 1, lim, LBt, RLt, HKK.out, by omega, Lib.hid (by rw [show reduceW S kp (t + 1) = (reduceW S kp t) from by rw [reduceW, if_pos HKF.out]]; exact HMW.out), HnO, HXt⟩
   case measure => simp [intOf]; omega
  | false =>
   have HKF := Lib.hid (show ¬ kp t = true from by rw [HKP.out]; exact fun e => tells_no hb5 (of_decide_eq_true e))
   clear hb5
   have HTw := Lib.hid (HT4.out.extM HXt.out (fun e => by have := HTL.out; omega))
   have HnT := Lib.hid (show ¬ (OwnB13 (.slice (some ⟨gB, 0, none⟩) N cB) (.slice (some ⟨gI, 0, none⟩) N cI) RLt) 0 from fun e => by have := (HMW.out.x.own e).1; have := HTL.out; omega)
   have HLR := Lib.hid (show ∀ k, (OwnB13 (.slice (some ⟨gB, 0, none⟩) N cB) (.slice (some ⟨gI, 0, none⟩) N cI) RLt) k → base ≤ k from fun k e => (HMW.out.x.own e).1)
   have HMS := Lib.hid (show base ≤ wr.heap.size from Nat.le_trans HMW.out.x.bl HMW.out.x.lh)
   go_upto_region 10 with (fail)
   refine wp_region_heldL [9] (fun w' => Ext (OwnB13 (.slice (some ⟨gB, 0, none⟩) N cB) (.slice (some ⟨gI, 0, none⟩) N cI) RLt) wr w') (by kernel_rfl) ?_ (fun hHeld => ?_)
   ·exact (Ext.refl _ _).drew
   have HE := Lib.hid ((show Ext No wr wr.drew from (Ext.refl _ _).drew).ofNo (M := (OwnB13 (.slice (some ⟨gB, 0, none⟩) N cB) (.slice (some ⟨gI, 0, none⟩) N cI) RLt)))
   replace HMW := Lib.hid (HMW.out.stepNo (show Ext No wr wr.drew from (Ext.refl _ _).drew))
   generalize wr.drew = v0 at *
   refine hHs [0, 1] (hHl hHeld ?_)
   clear hHeld
   iterate 2
    refine hHn ?_ (fun w hSw => ?_) ?_
    rotate_left
    ·(have q0 := cellOf ((show Ext (OwnB13 (.slice (some ⟨gB, 0, none⟩) N cB) (.slice (some ⟨gI, 0, none⟩) N cI) RLt) wr _ from hSw).blk HO.out HnO.out)); go_simp; (try with_reducible rfl)
    simp only [Act.put, nzA, nzB, nzC]
   refine hHe fun hHeld => ?_
   refine hHs [2] (hHl hHeld ?_)
   clear hHeld
   refine hFn ?_ (fun w => ?_) ?_
   rotate_left
   ·go_simp; (try with_reducible rfl)
   simp only [Act.put, nzA, nzB, nzC]
   refine hHe fun hHeld => ?_
   refine heldL_next2 (i := 3) (j := 8) (by kernel_rfl) (NextL.mk rfl rfl (fun K hK => ?_)) (NextL.mk rfl rfl (fun K hK => ?_))
   ·((go_simp); (go_at_call 49); (refine (eliminate_w S.w (reduceW S kp t) t base lim gB cB gI cI N LBt RLt v0 HRW.out HRN.out HMW.out (HTw.out.extM HE.out HnT.out) HTL.out hlt).mono ?_); (rintro e1 v1 ⟨rfl, lim1, LB1, RL1, hMW1, hx5, hown1⟩); (go_simp))
    refine hK.out _ _ ?_ ?_
    ·intro _; exact HE.out.trans hx5.out
    clear hK K hHeld
    intro hHeld
    have HnO1 := Lib.hid (show ¬ (OwnB13 (.slice (some ⟨gB, 0, none⟩) N cB) (.slice (some ⟨gI, 0, none⟩) N cI) RL1) bO from fun e => (hown1.out bO e).elim HnO.out (fun h => absurd (lt_of_block HO.out) (by have := HE.out.size; omega)))
    replace HE := Lib.hid (HE.out.trans hx5.out)
    have HM1 := hMW1
    clear hMW1 hx5 hown1 HMW
    try simp only [Act.put, nzA, nzB, nzC]
    refine heldL_next2 (i := 4) (j := 8) (by kernel_rfl) (NextL.mk rfl rfl (fun K hK => ?_)) (NextL.mk rfl rfl (fun K hK => ?_))
    ·((go_simp); (go_at_call 48); (refine (checked_any S.w (elimW (reduceW S kp t) t) _ _ v1 HM1.out.at.no).mono ?_); (rintro e2 v2 ⟨rfl, hx6⟩); (go_simp))
     refine hK.out _ _ ?_ ?_
     ·intro _; exact HE.out.transNo hx6
     clear hK K hHeld
     intro hHeld
     replace HM1 := Lib.hid (HM1.out.stepNo hx6)
     replace HE := Lib.hid (HE.out.transNo hx6)
     clear hx6
     try simp only [Act.put, nzA, nzB, nzC]
     refine hHs [5, 6, 7] (hHl hHeld ?_)
     clear hHeld
     iterate 3
      refine hFn ?_ (fun w => ?_) ?_
      rotate_left
      ·go_simp; (try with_reducible rfl)
      simp only [Act.put, nzA, nzB, nzC]
     refine hHe fun hHeld => ?_
     refine heldL_next1 (i := 8) (by kernel_rfl) (NextL.mk rfl rfl (fun K hK => ?_))
     go_simp
     refine hK.out _ _ ?_ ?_
     ·intro _; exact HE.out.transNo ((Ext.refl _ _).alloc _)
     clear hK K hHeld
     intro hHeld
     have HD := Lib.hid (alloc_top (w := v2) (o := (.cells #[.int .i64 0, .slice none 0 0, .slice none 0 0] 26)) rfl)
     have hx8 : Ext No v2 (v2.alloc (.cells #[.int .i64 0, .slice none 0 0, .slice none 0 0] 26)) := (Ext.refl _ _).alloc _
     have HnD1 := Lib.hid (show ¬ (OwnB13 (.slice (some ⟨gB, 0, none⟩) N cB) (.slice (some ⟨gI, 0, none⟩) N cI) RL1) v2.heap.size from fun e => by have := (HM1.out.x.own e).2; have := HM1.out.x.lh; omega)
     have HDg := Lib.hid (show wr.heap.size ≤ v2.heap.size from HE.out.size)
     replace HE := Lib.hid (HE.out.transNo hx8)
     replace HM1 := Lib.hid (HM1.out.stepNo hx8)
     clear hx8
     generalize (v2.alloc (.cells #[.int .i64 0, .slice none 0 0, .slice none 0 0] 26)) = v3 at *
     generalize v2.heap.size = D at *
     try simp only [Act.put, nzA, nzB, nzC]
     refine heldL_next1 (i := 9) (by kernel_rfl) (NextL.mk rfl rfl (fun K hK => ?_))
     ((have cS := cellOf HD.out); (have fS := freeOf HD.out); go_simp; (clear cS fS))
     refine hK.out _ _ ?_ ?_
     ·exact fun h => absurd h (by decide)
     clear hK K hHeld
     intro hHeld
     have hE3 : Ext (At D) v3 (((v3.setCell ⟨D, 0, none⟩ (.int .i64 (S.w : Int))).setCell ⟨D, 1, none⟩ (.slice (some ⟨gB, 0, none⟩) N cB)).setCell ⟨D, 2, none⟩ (.slice (some ⟨gI, 0, none⟩) N cI)) := ext3E _ _ _ _ _
     replace HM1 := Lib.hid (HM1.out.stepWeb HD.out HnD1.out hE3)
     have hDb := HDg.out
     have hbs := HMS.out
     have hob := lt_of_block HO.out
     have HXN := Lib.hid (show Ext (fun k => base ≤ k ∧ k ≠ bO) w4 (((v3.setCell ⟨D, 0, none⟩ (.int .i64 (S.w : Int))).setCell ⟨D, 1, none⟩ (.slice (some ⟨gB, 0, none⟩) N cB)).setCell ⟨D, 2, none⟩ (.slice (some ⟨gI, 0, none⟩) N cI)) from (HXt.out.trans (HE.out.mono (fun k _ e => ⟨HLR.out k e, fun h => HnO.out (h ▸ e)⟩))).trans (hE3.mono (fun k _ e => by unfold At at e; subst e; exact ⟨by omega, by omega⟩)))
     clear HE hE3 HD HnD1 HDg HXt hDb hbs hob
     generalize (((v3.setCell ⟨D, 0, none⟩ (.int .i64 (S.w : Int))).setCell ⟨D, 1, none⟩ (.slice (some ⟨gB, 0, none⟩) N cB)).setCell ⟨D, 2, none⟩ (.slice (some ⟨gI, 0, none⟩) N cI)) = WF at *
     try simp only [Act.put, nzA, nzB, nzC]
     refine hHs [10] (hHl hHeld ?_)
     clear hHeld
     refine hFn ?_ (fun w => ?_) ?_
     rotate_left
     ·go_simp; (try with_reducible rfl)
     simp only [Act.put, nzA, nzB, nzC]
     refine hHe fun hHeld => ?_
     refine heldL_done (by kernel_rfl) ?_ _
     go_wp2_with fail
     go_roundw
     case rel => exact ⟨t + 1, lim1, LB1, RL1, HKK.out, by omega, Lib.hid (by rw [show reduceW S kp (t + 1) = elimW (reduceW S kp t) t from by rw [reduceW, if_neg HKF.out]]; exact HM1.out), HnO1, HXN⟩
     case measure => simp [intOf]; omega
    go_simp
    refine hK.out _ _ ?_ ?_
    ·intro _; exact HE.out.transNo ((Ext.refl _ _).alloc _)
    clear hK K hHeld
    intro hHeld
    have HD := Lib.hid (alloc_top (w := v1) (o := (.cells #[.int .i64 0, .slice none 0 0, .slice none 0 0] 26)) rfl)
    have hx8 : Ext No v1 (v1.alloc (.cells #[.int .i64 0, .slice none 0 0, .slice none 0 0] 26)) := (Ext.refl _ _).alloc _
    have HnD1 := Lib.hid (show ¬ (OwnB13 (.slice (some ⟨gB, 0, none⟩) N cB) (.slice (some ⟨gI, 0, none⟩) N cI) RL1) v1.heap.size from fun e => by have := (HM1.out.x.own e).2; have := HM1.out.x.lh; omega)
    have HDg := Lib.hid (show wr.heap.size ≤ v1.heap.size from HE.out.size)
    replace HE := Lib.hid (HE.out.transNo hx8)
    replace HM1 := Lib.hid (HM1.out.stepNo hx8)
    clear hx8
    generalize (v1.alloc (.cells #[.int .i64 0, .slice none 0 0, .slice none 0 0] 26)) = v2 at *
    generalize v1.heap.size = D at *
    try simp only [Act.put, nzA, nzB, nzC]
    refine heldL_next1 (i := 4) (by kernel_rfl) (NextL.mk rfl rfl (fun K hK => ?_))
    ((go_simp); (go_at_call 48); (refine (checked_any S.w (elimW (reduceW S kp t) t) _ _ v2 HM1.out.at.no).mono ?_); (rintro e2 v3 ⟨rfl, hx6⟩); (go_simp))
    refine hK.out _ _ ?_ ?_
    ·intro _; exact HE.out.transNo hx6
    clear hK K hHeld
    intro hHeld
    replace HM1 := Lib.hid (HM1.out.stepNo hx6)
    replace HE := Lib.hid (HE.out.transNo hx6)
    replace HD := Lib.hid (hx6.blk HD.out no_no)
    clear hx6
    try simp only [Act.put, nzA, nzB, nzC]
    refine hHs [5, 6, 7] (hHl hHeld ?_)
    clear hHeld
    iterate 3
     refine hFn ?_ (fun w => ?_) ?_
     rotate_left
     ·go_simp; (try with_reducible rfl)
     simp only [Act.put, nzA, nzB, nzC]
    refine hHe fun hHeld => ?_
    refine heldL_next1 (i := 9) (by kernel_rfl) (NextL.mk rfl rfl (fun K hK => ?_))
    ((have cS := cellOf HD.out); (have fS := freeOf HD.out); go_simp; (clear cS fS))
    refine hK.out _ _ ?_ ?_
    ·exact fun h => absurd h (by decide)
    clear hK K hHeld
    intro hHeld
    have hE3 : Ext (At D) v3 (((v3.setCell ⟨D, 0, none⟩ (.int .i64 (S.w : Int))).setCell ⟨D, 1, none⟩ (.slice (some ⟨gB, 0, none⟩) N cB)).setCell ⟨D, 2, none⟩ (.slice (some ⟨gI, 0, none⟩) N cI)) := ext3E _ _ _ _ _
    replace HM1 := Lib.hid (HM1.out.stepWeb HD.out HnD1.out hE3)
    have hDb := HDg.out
    have hbs := HMS.out
    have hob := lt_of_block HO.out
    have HXN := Lib.hid (show Ext (fun k => base ≤ k ∧ k ≠ bO) w4 (((v3.setCell ⟨D, 0, none⟩ (.int .i64 (S.w : Int))).setCell ⟨D, 1, none⟩ (.slice (some ⟨gB, 0, none⟩) N cB)).setCell ⟨D, 2, none⟩ (.slice (some ⟨gI, 0, none⟩) N cI)) from (HXt.out.trans (HE.out.mono (fun k _ e => ⟨HLR.out k e, fun h => HnO.out (h ▸ e)⟩))).trans (hE3.mono (fun k _ e => by unfold At at e; subst e; exact ⟨by omega, by omega⟩)))
    clear HE hE3 HD HnD1 HDg HXt hDb hbs hob
    generalize (((v3.setCell ⟨D, 0, none⟩ (.int .i64 (S.w : Int))).setCell ⟨D, 1, none⟩ (.slice (some ⟨gB, 0, none⟩) N cB)).setCell ⟨D, 2, none⟩ (.slice (some ⟨gI, 0, none⟩) N cI)) = WF at *
    try simp only [Act.put, nzA, nzB, nzC]
    refine hHs [10] (hHl hHeld ?_)
    clear hHeld
    refine hFn ?_ (fun w => ?_) ?_
    rotate_left
    ·go_simp; (try with_reducible rfl)
    simp only [Act.put, nzA, nzB, nzC]
    refine hHe fun hHeld => ?_
    refine heldL_done (by kernel_rfl) ?_ _
    go_wp2_with fail
    go_roundw
    case rel => exact ⟨t + 1, lim1, LB1, RL1, HKK.out, by omega, Lib.hid (by rw [show reduceW S kp (t + 1) = elimW (reduceW S kp t) t from by rw [reduceW, if_neg HKF.out]]; exact HM1.out), HnO1, HXN⟩
    case measure => simp [intOf]; omega
   go_simp
   refine hK.out _ _ ?_ ?_
   ·intro _; exact HE.out.transNo ((Ext.refl _ _).alloc _)
   clear hK K hHeld
   intro hHeld
   have HD := Lib.hid (alloc_top (w := v0) (o := (.cells #[.int .i64 0, .slice none 0 0, .slice none 0 0] 26)) rfl)
   have hx8 : Ext No v0 (v0.alloc (.cells #[.int .i64 0, .slice none 0 0, .slice none 0 0] 26)) := (Ext.refl _ _).alloc _
   have HnD := Lib.hid (show ¬ (OwnB13 (.slice (some ⟨gB, 0, none⟩) N cB) (.slice (some ⟨gI, 0, none⟩) N cI) RLt) v0.heap.size from fun e => by have := (HMW.out.x.own e).2; have := HMW.out.x.lh; omega)
   have HDg := Lib.hid (show wr.heap.size ≤ v0.heap.size from HE.out.size)
   replace HE := Lib.hid (HE.out.transNo hx8)
   replace HMW := Lib.hid (HMW.out.stepNo hx8)
   clear hx8
   generalize (v0.alloc (.cells #[.int .i64 0, .slice none 0 0, .slice none 0 0] 26)) = v1 at *
   generalize v0.heap.size = D at *
   try simp only [Act.put, nzA, nzB, nzC]
   refine heldL_next1 (i := 3) (by kernel_rfl) (NextL.mk rfl rfl (fun K hK => ?_))
   ((go_simp); (go_at_call 49); (refine (eliminate_w S.w (reduceW S kp t) t base lim gB cB gI cI N LBt RLt v1 HRW.out HRN.out HMW.out (HTw.out.extM HE.out HnT.out) HTL.out hlt).mono ?_); (rintro e1 v2 ⟨rfl, lim1, LB1, RL1, hMW1, hx5, hown1⟩); (go_simp))
   refine hK.out _ _ ?_ ?_
   ·intro _; exact HE.out.trans hx5.out
   clear hK K hHeld
   intro hHeld
   have HnD1 := Lib.hid (show ¬ (OwnB13 (.slice (some ⟨gB, 0, none⟩) N cB) (.slice (some ⟨gI, 0, none⟩) N cI) RL1) D from fun e => (hown1.out D e).elim HnD.out (fun h => absurd (lt_of_block HD.out) (by omega)))
   replace HD := Lib.hid (hx5.out.blk HD.out HnD.out)
   have HnO1 := Lib.hid (show ¬ (OwnB13 (.slice (some ⟨gB, 0, none⟩) N cB) (.slice (some ⟨gI, 0, none⟩) N cI) RL1) bO from fun e => (hown1.out bO e).elim HnO.out (fun h => absurd (lt_of_block HO.out) (by have := HE.out.size; omega)))
   replace HE := Lib.hid (HE.out.trans hx5.out)
   have HM1 := hMW1
   clear hMW1 hx5 hown1 HMW
   try simp only [Act.put, nzA, nzB, nzC]
   refine heldL_next1 (i := 4) (by kernel_rfl) (NextL.mk rfl rfl (fun K hK => ?_))
   ((go_simp); (go_at_call 48); (refine (checked_any S.w (elimW (reduceW S kp t) t) _ _ v2 HM1.out.at.no).mono ?_); (rintro e2 v3 ⟨rfl, hx6⟩); (go_simp))
   refine hK.out _ _ ?_ ?_
   ·intro _; exact HE.out.transNo hx6
   clear hK K hHeld
   intro hHeld
   replace HM1 := Lib.hid (HM1.out.stepNo hx6)
   replace HE := Lib.hid (HE.out.transNo hx6)
   replace HD := Lib.hid (hx6.blk HD.out no_no)
   clear hx6
   try simp only [Act.put, nzA, nzB, nzC]
   refine hHs [5, 6, 7] (hHl hHeld ?_)
   clear hHeld
   iterate 3
    refine hFn ?_ (fun w => ?_) ?_
    rotate_left
    ·go_simp; (try with_reducible rfl)
    simp only [Act.put, nzA, nzB, nzC]
   refine hHe fun hHeld => ?_
   refine heldL_next1 (i := 9) (by kernel_rfl) (NextL.mk rfl rfl (fun K hK => ?_))
   ((have cS := cellOf HD.out); (have fS := freeOf HD.out); go_simp; (clear cS fS))
   refine hK.out _ _ ?_ ?_
   ·exact fun h => absurd h (by decide)
   clear hK K hHeld
   intro hHeld
   have hE3 : Ext (At D) v3 (((v3.setCell ⟨D, 0, none⟩ (.int .i64 (S.w : Int))).setCell ⟨D, 1, none⟩ (.slice (some ⟨gB, 0, none⟩) N cB)).setCell ⟨D, 2, none⟩ (.slice (some ⟨gI, 0, none⟩) N cI)) := ext3E _ _ _ _ _
   replace HM1 := Lib.hid (HM1.out.stepWeb HD.out HnD1.out hE3)
   have hDb := HDg.out
   have hbs := HMS.out
   have hob := lt_of_block HO.out
   have HXN := Lib.hid (show Ext (fun k => base ≤ k ∧ k ≠ bO) w4 (((v3.setCell ⟨D, 0, none⟩ (.int .i64 (S.w : Int))).setCell ⟨D, 1, none⟩ (.slice (some ⟨gB, 0, none⟩) N cB)).setCell ⟨D, 2, none⟩ (.slice (some ⟨gI, 0, none⟩) N cI)) from (HXt.out.trans (HE.out.mono (fun k _ e => ⟨HLR.out k e, fun h => HnO.out (h ▸ e)⟩))).trans (hE3.mono (fun k _ e => by unfold At at e; subst e; exact ⟨by omega, by omega⟩)))
   clear HE hE3 HD HnD1 HDg HXt hDb hbs hob
   generalize (((v3.setCell ⟨D, 0, none⟩ (.int .i64 (S.w : Int))).setCell ⟨D, 1, none⟩ (.slice (some ⟨gB, 0, none⟩) N cB)).setCell ⟨D, 2, none⟩ (.slice (some ⟨gI, 0, none⟩) N cI)) = WF at *
   try simp only [Act.put, nzA, nzB, nzC]
   refine hHs [10] (hHl hHeld ?_)
   clear hHeld
   refine hFn ?_ (fun w => ?_) ?_
   rotate_left
   ·go_simp; (try with_reducible rfl)
   simp only [Act.put, nzA, nzB, nzC]
   refine hHe fun hHeld => ?_
   refine heldL_done (by kernel_rfl) ?_ _
   go_wp2_with fail
   go_roundw
   case rel => exact ⟨t + 1, lim1, LB1, RL1, HKK.out, by omega, Lib.hid (by rw [show reduceW S kp (t + 1) = elimW (reduceW S kp t) t from by rw [reduceW, if_neg HKF.out]]; exact HM1.out), HnO1, HXN⟩
   case measure => simp [intOf]; omega
 have hge : ¬ (t : Int) < (N : Int) := by omega
 have htN : t = N := by omega
 subst htN
 have hC := HXt.out.blk HC4.out (fun e => by omega)
 have cC := cellOf hC
 have fC := freeOf hC
 have cO := cellOf HO.out
 have hE3 : Ext (At (W.heap.size + 1)) wr (((wr.setCell ⟨W.heap.size + 1, 0, none⟩ (.int .i64 (S.w : Int))).setCell ⟨W.heap.size + 1, 1, none⟩ (.slice (some ⟨gB, 0, none⟩) t cB)).setCell ⟨W.heap.size + 1, 2, none⟩ (.slice (some ⟨gI, 0, none⟩) t cI)) := ext3E _ _ _ _ _
 have hbF := (set_same (j := 2) (u := .slice (some ⟨gI, 0, none⟩) t cI) (set_same (j := 1) (u := .slice (some ⟨gB, 0, none⟩) t cB) (set_same (j := 0) (u := .int .i64 (S.w : Int)) hC))).trans rfl
 go_wp2_with fail
 generalize (((wr.setCell ⟨W.heap.size + 1, 0, none⟩ (.int .i64 (S.w : Int))).setCell ⟨W.heap.size + 1, 1, none⟩ (.slice (some ⟨gB, 0, none⟩) t cB)).setCell ⟨W.heap.size + 1, 2, none⟩ (.slice (some ⟨gI, 0, none⟩) t cI)) = WF at *
 have cF := cellOf hbF
 refine ret_ex rfl ?_
 simp [results, Tryz.results13, go_sem, cF]
 have hok := reduce_ok (keep := kp) H8.out t (by rw [← HNN.out]; omega)
 exact ⟨_, _, by rw [hok.2.1], Lib.hid ((HMW.out.at.ext hE3 (fun i _ e => by unfold At at e; show i < _; omega)).no), ((HXX.out.trans2 HXt.out (fun i hi e => by omega)).trans2 hE3 (fun i hi e => by unfold At at e; omega))⟩

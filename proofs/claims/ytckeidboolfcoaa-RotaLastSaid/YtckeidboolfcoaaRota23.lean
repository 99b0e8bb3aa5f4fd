/- The reference: Spend, the ways that pay. -/
import Derived.Test.YtckeidboolfcoaaRota22
import Derived.Test.YtckeidboolfcoaaRota18
namespace Go.Proofs.Ytckeidboolfcoaa
open Go Go.RowKit

set_option maxRecDepth 100000 in
set_option maxHeartbeats 2000000 in
theorem rspend_go (M : Nat → Prop) (base per : Int) (seats : List Seat) (b off cap c : Nat) (cost : Int) (w : World) (hM : ∀ b, M b → b < w.heap.size) (hs : Seats M w (.slice (some ⟨b, off, none⟩) seats.length cap) seats)
    (h1 : ringOk ⟨base, per, seats, (c : Int), true⟩ = true) (hc : c < seats.length) (h2 : betB cost 1 8 = true) :
    Calls Try.prog 26 #[.agg #[.int .i64 base, .int .i64 per, .slice (some ⟨b, off, none⟩) seats.length cap, .int .i64 (c : Int), .bool true], .int .i64 cost, .bool false] w (SpendPost M ⟨base, per, seats, (c : Int), true⟩ cost false w) := by
  have HA := Lib.hid ((spendG (by simp [h1]) h2 : ringSpend ⟨base, per, seats, c, true⟩ cost false = _))
  have HS := Lib.hid hs
  have HV : Hid (RingV No w (.agg #[.int .i64 base, .int .i64 per, .slice (some ⟨b, off, none⟩) seats.length cap, .int .i64 (c : Int), .bool true]) ⟨base, per, seats, (c : Int), true⟩) := Lib.hid (RingV.toNo ⟨_, rfl, hs⟩)
  have HP := ringP h1
  have hl16 : seats.length ≤ 16 := HP.len
  obtain ⟨d1, d2⟩ : 1 ≤ seats[c].dfc ∧ seats[c].dfc ≤ 64 := HP.on c hc rfl rfl
  obtain ⟨b1, b2⟩ := betB_true h2
  have H1 := Lib.hid h1
  have HM := Lib.hid hM
  have hne : seats.length ≠ 0 := by omega
  have HN := Lib.hid hne
  have c0 : (0 : Int) ≤ (c : Int) := by omega
  have c1 : (c : Int) < (seats.length : Int) := by omega
  have HON := fun h => spent_on (r := ⟨base, per, seats, c, true⟩) (cost := cost) rfl hc h
  have HOFF := fun h => spent_off (r := ⟨base, per, seats, c, true⟩) (cost := cost) rfl hc h
  replace HON := Lib.hid HON
  replace HOFF := Lib.hid HOFF
  clear hs h1 hM HP hne
  by_cases hz : 0 < seats[c].dfc - cost
  all_goals
    go_enter Try.func26, Try.ntmps26
    go_wp2_with fail
    refine (rvalid_any _ _ _ (HV.out.extNo (((Ext.refl _ _).alloc _).alloc _))).mono ?_
    rintro e1 w1 ⟨rfl, hx1⟩
    rw [H1.out]
    have hB := hx1.blk (alloc_under (alloc_top (w := w) rfl)) (fun x => x.elim)
    have hC := hx1.blk (n := w.heap.size + 1) (alloc_top (by simp)) (fun x => x.elim)
    have hx := (((Ext.refl No w).alloc _).alloc _).transNo hx1
    have hsz : w.heap.size + 2 ≤ w1.heap.size := by have := hx1.size; simp at this; omega
    have cB := cellOf hB
    clear hx1
    have hlB := lt_of_block hB
    obtain ⟨ix, hix, hy0, hy1, hy2⟩ := info_parts infoSeat
    go_wp2_with (first | (at_builtin; (refine wpList_app _ rfl (.tmp 41) (.tmp 43) 23 rfl w1.heap.size 53 ix _ 4 32 Try.underlying23 hix hy0 hy1 hy2 rfl (by omega) (.slice (some ⟨w1.heap.size, 0, none⟩) 0 0) 0 [] rfl (ownsNew rfl) No (some ⟨b, off, none⟩) seats.length cap (flatS seats) rfl (Row.extNo (Row.extNo (Row.mono HS.out (fun _ _ x => x.elim)) hx) ((Ext.refl _ _).alloc _)) (flatS_one seats) (by omega) (by omega) (by simp) ?_); intro v2 w2 hown hg2 _; (simp only [Nat.zero_add, List.nil_append] at hown); (have hx2 : Ext No w1 w2 := ((Ext.refl _ _).alloc _).grown hg2 (fun k hk hlt => by cases hk; exact absurd hlt (Nat.lt_irrefl _))); (have hown2 : OwnSeats w2 w1.heap.size v2 seats := hown); (have hh := own_shape hown2 HN.out); (obtain ⟨g, gcap, rfl, hbg, hgw⟩ := hh); (have hm0 := Lib.hid (PickMem.begin (hx.transNo hx2) (hx2.blk hB (fun x => x.elim)) (hx2.blk hC (fun x => x.elim)) hown2 hsz rfl)); (replace hB := hx2.blk hB (fun x => x.elim)); (have cB := cellOf hB); (have fB := freeOf hB); (have hgB : ¬ g = w.heap.size := by omega); (have hBg : ¬ w.heap.size = g := by omega); (have hm1 := Lib.hid (hm0.out.store hc (seats[c].dfc - cost))); (obtain ⟨q0, q1, q2, q3⟩ := hown2.at hc); (have fg := fun j => World.ownsRow.frozenAt hown2 j); (have hC2 := cellOf (hm1.out.hC)); (have fC2 := freeOf (hm1.out.hC)); (clear hx hx2 hown hown2 hB hC hg2 hlB)) | (go_at_call 29; (refine (over_at hm1.out (by rw [List.length_set]; exact hc) hl16).mono ?_); (rintro e4 w4 ⟨rfl, hS4, hx4⟩); (have hC4 := hx4.blk hm1.out.hC (by have := hm1.out.bg; unfold At; omega)); (have cC4 := cellOf hC4); (have fC4 := freeOf hC4); (have HS4 := Lib.hid hS4); (have HX4 := Lib.hid hx4); (clear hS4 hx4 hC4)))
    refine ret_ex rfl ?_
  · simp [results, Try.results26, go_sem, hC2]
    refine hm1.out.paid (by omega) HM.out (HA.out.trans (HON.out hz)) rfl ?_
    repeat (first | (with_reducible exact Ext.refl _ _) | (with_reducible refine Ext.setAt ?_ _ _))
  · simp [results, Try.results26, go_sem, cC4]
    have hS5 := HS4.out
    rw [set_older seats c hc, List.length_set] at hS5
    have hx5 := hm1.out.ext.trans2 HX4.out (fun i hi e => by cases e; exact absurd hi (by omega))
    refine SpendPost.mk (HA.out.trans (HOFF.out (by omega))) rfl ⟨_, rfl, ?_⟩ ?_
    · show Row M _ 4 _ (seats.set c _).length (flatS (seats.set c _))
      unfold OwnSeats at hS5
      refine Row.fin (base := w.heap.size + 2) hS5 (by omega) HM.out ?_
      repeat (first | (with_reducible exact Ext.refl _ _) | ((with_reducible refine Ext.setCell ?_ ?_ _); rotate_left; (intro _; unfold Lo; simp)))
    · repeat (first | (with_reducible exact hx5) | ((with_reducible refine Ext.own ?_ ?_ _); rotate_left; first | exact Nat.le_refl _ | exact Nat.le_succ _))
theorem rspend_any (M : Nat → Prop) (v : Value) (r : Ring) (cost : Int) (fin : Bool) (w : World) (hM : ∀ b, M b → b < w.heap.size) (h : RingV M w v r) :
    Calls Try.prog 26 #[v, .int .i64 cost, .bool fin] w (SpendPost M r cost fin w) := by
  by_cases hf : ringOk r = false ∨ r.opn = false ∨ betB cost 1 8 = false
  · exact rspend_no M v r cost fin w h hf
  · have h1 : ringOk r = true := by simpa using (not_or.1 hf).1
    have h2 : r.opn = true := by simpa using (not_or.1 (not_or.1 hf).2).1
    have h3 : betB cost 1 8 = true := by simpa using (not_or.1 (not_or.1 hf).2).2
    obtain ⟨base, per, seats, cur, opn⟩ := r
    simp only at h2
    subst h2
    have hp := ringP h1
    have hc0 : 0 ≤ cur := hp.cur0
    have hc1 : cur < seats.length := by
      rcases hp.cur1 with h | ⟨_, _, h⟩
      · exact h
      · cases h
    obtain ⟨c, rfl⟩ : ∃ c : Nat, cur = c := ⟨cur.toNat, by omega⟩
    obtain ⟨sl, rfl, hs⟩ := h
    obtain ⟨b, off, cap, rfl, _, _, _⟩ := Row.shape hs (show 0 < seats.length by omega)
    cases fin with
    | true => exact rspend_fin M base per seats b off cap c cost w hM hs h1 (by omega) h3
    | false => exact rspend_go M base per seats b off cap c cost w hM hs h1 (by omega) h3
end Go.Proofs.Ytckeidboolfcoaa

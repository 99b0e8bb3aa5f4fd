/- rota: Spend. -/
import Derived.Test.YtckeidboolfcoaaRota19
import Derived.StillTailTactics
namespace Go.Proofs.Ytckeidboolfcoaa
open Go Go.RowKit

def Also (M : Nat → Prop) (b : Nat) : Nat → Prop := fun k => M k ∨ k = b ∨ k = b + 1
theorem PickMem.paid {M : Nat → Prop} {r : Ring} {cost : Int} {w0 wr w' : World} {B g cap base1 n : Nat} {base per : Int} {l : List Seat} {c : Nat} {ts : List Turn} {opn b : Bool} {o : Value} {e : Ending}
    (h : PickMem w0 wr B g cap base1 n base per l c ts opn o) (hb : B + 1 < base1) (hM : ∀ b, M b → b < w0.heap.size) (hr : ringSpend r cost false = (⟨base, per, l, c, opn⟩, b, 0))
    (he : e = .returned (.tuple #[.agg #[.int .i64 base, .int .i64 per, .slice (some ⟨g, 0, none⟩) n cap, .int .i64 c, .bool opn], .bool b, .int .i64 0])) (hx : Ext (At (B + 1)) wr w') : SpendPost M r cost false w0 e w' := by
  have ht := h.top
  refine SpendPost.mk hr he ⟨_, rfl, ?_⟩ (h.ext.trans2 hx (fun i hi e => by cases e; exact absurd hi (by omega)))
  show Row M w' 4 _ l.length (flatS l)
  rw [← h.len]
  exact Row.fin h.own (by omega) hM (hx.mono (fun i _ e => by cases e; exact Nat.lt_succ_self _))
theorem Row.also {M : Nat → Prop} {w : World} {s n : Nat} {sl : Value} {vs : List Value} (h : Row M w s sl n vs) : Row (Also M w.heap.size) w s sl n vs :=
  h.mono (fun i hi hm => by rcases hm with hm | rfl | rfl <;> first | exact hm | omega)
theorem Row.alsoBack {M : Nat → Prop} {w w' : World} {s n b : Nat} {sl : Value} {vs : List Value} (h : Row (Also M b) w s sl n vs) (hx : Ext (fun k => k = b ∨ k = b + 1) w w') : Row M w' s sl n vs :=
  (h.ext hx (fun _ _ hm => .inr hm)).mono (fun _ _ hm => .inl hm)
theorem Ext.setB {b : Nat} {a w : World} (h : Ext (fun k => k = b ∨ k = b + 1) a w) (o : Nat) (u : Value) : Ext (fun k => k = b ∨ k = b + 1) a (w.setCell ⟨b, o, none⟩ u) := h.setCell (p := ⟨b, o, none⟩) (fun _ => .inl rfl) u
theorem Ext.setC {b : Nat} {a w : World} (h : Ext (fun k => k = b ∨ k = b + 1) a w) (o : Nat) (u : Value) : Ext (fun k => k = b ∨ k = b + 1) a (w.setCell ⟨b + 1, o, none⟩ u) := h.setCell (p := ⟨b + 1, o, none⟩) (fun _ => .inr rfl) u

set_option maxRecDepth 100000 in
set_option maxHeartbeats 2000000 in
theorem spend_fin (M : Nat → Prop) (base per : Int) (seats : List Seat) (b off cap c : Nat) (cost : Int) (w : World) (hM : ∀ b, M b → b < w.heap.size) (hs : Seats M w (.slice (some ⟨b, off, none⟩) seats.length cap) seats)
    (h1 : ringOk ⟨base, per, seats, (c : Int), true⟩ = true) (hc : c < seats.length) (h2 : betB cost 1 8 = true) :
    Calls Try.prog 22 #[.agg #[.int .i64 base, .int .i64 per, .slice (some ⟨b, off, none⟩) seats.length cap, .int .i64 (c : Int), .bool true], .int .i64 cost, .bool true] w (SpendPost M ⟨base, per, seats, (c : Int), true⟩ cost true w) := by
  have HA := Lib.hid ((spendF (by simp [h1]) h2 : ringSpend ⟨base, per, seats, c, true⟩ cost true = _))
  have HS := Lib.hid hs
  have HV : Hid (RingV No w (.agg #[.int .i64 base, .int .i64 per, .slice (some ⟨b, off, none⟩) seats.length cap, .int .i64 (c : Int), .bool true]) ⟨base, per, seats, (c : Int), true⟩) := Lib.hid (RingV.toNo ⟨_, rfl, hs⟩)
  have HR := Lib.hid (rem_here (c := c) h1 rfl hc)
  have H1 := Lib.hid h1
  have HM := Lib.hid hM
  obtain ⟨b', off', cap', hsl, hbw, _, q0, q1, q2, q3⟩ := Seats.lt hs hc
  simp only [Value.slice.injEq] at hsl
  obtain ⟨hsl, _, rfl⟩ := hsl
  cases hsl
  have c0 : (0 : Int) ≤ (c : Int) := by omega
  have c1 : (c : Int) < (seats.length : Int) := by omega
  clear hs h1 hM
  go_enter Try.func22, Try.ntmps22
  go_wp2_with fail
  refine (valid_any _ _ _ (HV.out.extNo (((Ext.refl _ _).alloc _).alloc _))).mono ?_
  rintro e1 w1 ⟨rfl, hx1⟩
  rw [H1.out]
  have hB : w1.drew.heap[w.heap.size]? = _ := hx1.blk (alloc_under (alloc_top (w := w) rfl)) (fun x => x.elim)
  have hC : w1.drew.heap[w.heap.size + 1]? = _ := hx1.blk (n := w.heap.size + 1) (alloc_top (by simp)) (fun x => x.elim)
  have hx : Ext No w w1.drew := ((((Ext.refl No w).alloc _).alloc _).transNo hx1).drew
  have hsz : w.heap.size + 2 ≤ w1.drew.heap.size := by have := hx1.size; simp at this ⊢; omega
  have q0' : w1.cell? _ = _ := hx.keep q0
  have cB : ∀ j, w1.cell? _ = _ := cellOf hB
  clear q0 q1 q2 q3 hx1
  go_wp2_with (go_at_call 31; refine (between_any _ _ _ _).mono ?_; rintro e' w1 ⟨rfl, rfl⟩)
  have HX := Lib.hid hx
  have HB := Lib.hid hB
  have HC := Lib.hid hC
  have HM2 : Hid (∀ k, Also M w.heap.size k → k < w1.drew.heap.size) := Lib.hid (fun k hk => by rcases hk with hk | hk | hk; (exact Nat.lt_of_lt_of_le (HM.out _ hk) hx.size); omega; omega)
  clear hx hB hC
  go_region_law ((go_simp; go_at_call 20; go_loud (refine (remove_any (Also M w.heap.size) _ ⟨base, per, seats, (c : Int), true⟩ _ _ HM2.out ⟨_, rfl, Row.extNo (Row.also HS.out) HX.out⟩).mono ?_); rintro e3 w3 ⟨v3, rfl, hv3, hx3⟩; rw [HR.out] at hv3 ⊢; obtain ⟨sl3, rfl, hs3⟩ := hv3; obtain ⟨a3, c3, rfl⟩ := hs3.slice; have HS3 := Lib.hid hs3; clear hs3; have HX3 := Lib.hid (HX.out.transNo hx3); have hB3 := hx3.blk HB.out (fun x => x.elim); have hC3 := hx3.blk HC.out (fun x => x.elim); have cB3 := cellOf hB3; have fB3 := freeOf hB3; have cC3 := cellOf hC3; have fC3 := freeOf hC3; clear hB3 hC3 hx3))
  all_goals go_wp2
  all_goals refine ret_ex rfl ?_
  all_goals
    simp [results, Try.results22, go_sem, cC3]
    refine SpendPost.mk HA.out rfl ⟨_, rfl, Row.alsoBack HS3.out ?_⟩ ?_
    · repeat (first | (with_reducible exact Ext.refl _ _) | (with_reducible refine Ext.drew ?_) | (with_reducible refine Ext.setB ?_ _ _) | (with_reducible refine Ext.setC ?_ _ _))
    · repeat (first | (with_reducible exact HX3.out) | (with_reducible refine Ext.drew ?_) | ((with_reducible refine Ext.own ?_ ?_ _); rotate_left; first | exact Nat.le_refl _ | exact Nat.le_succ _))

set_option maxRecDepth 100000 in
set_option maxHeartbeats 2000000 in
theorem spend_go (M : Nat → Prop) (base per : Int) (seats : List Seat) (b off cap c : Nat) (cost : Int) (w : World) (hM : ∀ b, M b → b < w.heap.size) (hs : Seats M w (.slice (some ⟨b, off, none⟩) seats.length cap) seats)
    (h1 : ringOk ⟨base, per, seats, (c : Int), true⟩ = true) (hc : c < seats.length) (h2 : betB cost 1 8 = true) :
    Calls Try.prog 22 #[.agg #[.int .i64 base, .int .i64 per, .slice (some ⟨b, off, none⟩) seats.length cap, .int .i64 (c : Int), .bool true], .int .i64 cost, .bool false] w (SpendPost M ⟨base, per, seats, (c : Int), true⟩ cost false w) := by
  have HA := Lib.hid ((spendG (by simp [h1]) h2 : ringSpend ⟨base, per, seats, c, true⟩ cost false = _))
  have HS := Lib.hid hs
  have HV : Hid (RingV No w (.agg #[.int .i64 base, .int .i64 per, .slice (some ⟨b, off, none⟩) seats.length cap, .int .i64 (c : Int), .bool true]) ⟨base, per, seats, (c : Int), true⟩) := Lib.hid (RingV.toNo ⟨_, rfl, hs⟩)
  have HP := ringP h1
  have hl16 : seats.length ≤ 16 := HP.len
  obtain ⟨d1, d2⟩ : 1 ≤ seats[c].dfc ∧ seats[c].dfc ≤ 64 := HP.on c hc rfl rfl
  obtain ⟨b1, b2⟩ := betB_true h2
  have H1 := Lib.hid h1
  have HM := Lib.hid hM
  have hne : seats.length ≠ 0 := by omega
  have HN := Lib.hid hne
  have c0 : (0 : Int) ≤ (c : Int) := by omega
  have c1 : (c : Int) < (seats.length : Int) := by omega
  have HON := fun h => spent_on (r := ⟨base, per, seats, c, true⟩) (cost := cost) rfl hc h
  have HOFF := fun h => spent_off (r := ⟨base, per, seats, c, true⟩) (cost := cost) rfl hc h
  replace HON := Lib.hid HON
  replace HOFF := Lib.hid HOFF
  clear hs h1 hM HP hne
  by_cases hz : 0 < seats[c].dfc - cost
  all_goals
    go_enter Try.func22, Try.ntmps22
    go_wp2_with fail
    refine (valid_any _ _ _ (HV.out.extNo (((Ext.refl _ _).alloc _).alloc _))).mono ?_
    rintro e1 w1 ⟨rfl, hx1⟩
    rw [H1.out]
    have hB := hx1.blk (alloc_under (alloc_top (w := w) rfl)) (fun x => x.elim)
    have hC := hx1.blk (n := w.heap.size + 1) (alloc_top (by simp)) (fun x => x.elim)
    have hx := (((Ext.refl No w).alloc _).alloc _).transNo hx1
    have hsz : w.heap.size + 2 ≤ w1.heap.size := by have := hx1.size; simp at this; omega
    have cB := cellOf hB
    clear hx1
    go_wp2_with (first | (go_at_call 31; refine (between_any _ _ _ _).mono ?_; rintro e' w1 ⟨rfl, rfl⟩) | (go_at_call 33; go_loud (refine (clone_any _ seats _ (Row.extNo (Row.mono HS.out (fun _ _ x => x.elim)) hx) (by omega)).mono ?_); rintro e2 w2 ⟨v2, rfl, hown, hx2⟩; go_loud (obtain ⟨g, gcap, rfl, hbg, hgw⟩ := own_shape hown HN.out); go_loud (have hm0 := Lib.hid (PickMem.begin (hx.transNo hx2) (hx2.blk hB (fun x => x.elim)) (hx2.blk hC (fun x => x.elim)) hown hsz rfl)); go_loud (replace hB := hx2.blk hB (fun x => x.elim)); go_loud (have cB := cellOf hB); go_loud (have fB := freeOf hB); go_loud (have hgB : ¬ g = w.heap.size := by omega); go_loud (have hBg : ¬ w.heap.size = g := by omega); go_loud (have hm1 := Lib.hid (hm0.out.store hc (seats[c].dfc - cost))); go_loud (obtain ⟨q0, q1, q2, q3⟩ := hown.at hc); go_loud (have fg := fun j => World.ownsRow.frozenAt hown j); go_loud (have hC2 := cellOf (hm1.out.hC)); go_loud (have fC2 := freeOf (hm1.out.hC)); go_loud (clear hx hx2 hown hB hC)) | (go_at_call 35; go_loud (refine (end_at hm1.out (by rw [List.length_set]; exact hc) hl16).mono ?_; rintro e4 w4 ⟨rfl, hm4⟩; have cB4 := cellOf hm4.hB; have cC4 := cellOf hm4.hC; have fC4 := freeOf hm4.hC; replace hm4 := Lib.hid hm4)))
    refine ret_ex rfl ?_
  · simp [results, Try.results22, go_sem, hC2]
    refine hm1.out.paid (by omega) HM.out (HA.out.trans (HON.out hz)) rfl ?_
    repeat (first | (with_reducible exact Ext.refl _ _) | (with_reducible refine Ext.setAt ?_ _ _))
  · simp [results, Try.results22, go_sem, cC4]
    have hm5 := hm4.out
    rw [set_older seats c hc, List.length_set] at hm5
    refine hm5.paid (by omega) HM.out (HA.out.trans (HOFF.out (by omega))) rfl ?_
    repeat (first | (with_reducible exact Ext.refl _ _) | (with_reducible refine Ext.setAt ?_ _ _))

theorem spend_any (M : Nat → Prop) (v : Value) (r : Ring) (cost : Int) (fin : Bool) (w : World) (hM : ∀ b, M b → b < w.heap.size) (h : RingV M w v r) :
    Calls Try.prog 22 #[v, .int .i64 cost, .bool fin] w (SpendPost M r cost fin w) := by
  by_cases hf : ringOk r = false ∨ r.opn = false ∨ betB cost 1 8 = false
  · exact spend_no M v r cost fin w h hf
  · have h1 : ringOk r = true := by simpa using (not_or.1 hf).1
    have h2 : r.opn = true := by simpa using (not_or.1 (not_or.1 hf).2).1
    have h3 : betB cost 1 8 = true := by simpa using (not_or.1 (not_or.1 hf).2).2
    obtain ⟨base, per, seats, cur, opn⟩ := r
    simp only at h2
    subst h2
    have hp := ringP h1
    have hc0 : 0 ≤ cur := hp.cur0
    have hc1 : cur < seats.length := by
      rcases hp.cur1 with h | ⟨_, _, h⟩
      · exact h
      · cases h
    obtain ⟨c, rfl⟩ : ∃ c : Nat, cur = c := ⟨cur.toNat, by omega⟩
    obtain ⟨sl, rfl, hs⟩ := h
    obtain ⟨b, off, cap, rfl, _, _, _⟩ := Row.shape hs (show 0 < seats.length by omega)
    cases fin with
    | true => exact spend_fin M base per seats b off cap c cost w hM hs h1 (by omega) h3
    | false => exact spend_go M base per seats b off cap c cost w hM hs h1 (by omega) h3
end Go.Proofs.Ytckeidboolfcoaa

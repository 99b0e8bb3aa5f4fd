/- The reference: Spend. -/
import Derived.Test.YtckeidboolfcoaaRota21
import Derived.Test.YtckeidboolfcoaaRota18
import Derived.Test.YtckeidboolfcoaaRota8
import Derived.Deep.DeepCutAuto
import Derived.Deep.RegionHeld3
namespace Go.Proofs.Ytckeidboolfcoaa
open Go Go.RowKit

set_option maxRecDepth 100000 in
set_option maxHeartbeats 2000000 in
theorem rspend_no (M : Nat → Prop) (v : Value) (r : Ring) (cost : Int) (fin : Bool) (w : World) (h : RingV M w v r) (hf : ringOk r = false ∨ r.opn = false ∨ betB cost 1 8 = false) :
    Calls Try.prog 26 #[v, .int .i64 cost, .bool fin] w (SpendPost M r cost fin w) := by
  have HV := Lib.hid h.toNo
  obtain ⟨sl, rfl, hs⟩ := h
  obtain ⟨a, cap, rfl⟩ := hs.slice
  clear hs
  obtain ⟨base, per, seats, cur, opn⟩ := r
  simp only at hf HV ⊢
  have hp : ringOk ⟨base, per, seats, cur, opn⟩ = false ∨ (ringOk ⟨base, per, seats, cur, opn⟩ = true ∧ opn = false) ∨ (ringOk ⟨base, per, seats, cur, opn⟩ = true ∧ opn = true ∧ betB cost 1 8 = false) := by
    cases h1 : ringOk ⟨base, per, seats, cur, opn⟩ with
    | false => exact .inl rfl
    | true =>
      cases opn with
      | false => exact .inr (.inl ⟨rfl, rfl⟩)
      | true => exact .inr (.inr ⟨rfl, rfl, (hf.resolve_left (by simp [h1])).resolve_left (by simp)⟩)
  clear hf
  have hp2 : ringOk ⟨base, per, seats, cur, opn⟩ = false ∨ (ringOk ⟨base, per, seats, cur, opn⟩ = true ∧ opn = false) ∨ (ringOk ⟨base, per, seats, cur, opn⟩ = true ∧ opn = true ∧ betB cost 1 8 = false ∧ cost < 1) ∨ (ringOk ⟨base, per, seats, cur, opn⟩ = true ∧ opn = true ∧ betB cost 1 8 = false ∧ 1 ≤ cost ∧ 8 < cost) := by
    rcases hp with h | h | ⟨h1, h2, h3⟩
    · exact .inl h
    · exact .inr (.inl h)
    · rcases betB_false h3 with h | ⟨h, h'⟩
      · exact .inr (.inr (.inl ⟨h1, h2, h3, h⟩))
      · exact .inr (.inr (.inr ⟨h1, h2, h3, h, h'⟩))
  clear hp
  rcases hp2 with gk | ⟨gk, rfl⟩ | ⟨gk, rfl, gb, gc⟩ | ⟨gk, rfl, gb, gc, gd⟩
  all_goals
    first
    | have HA := Lib.hid (spendE1 (cost := cost) (fin := fin) (.inl gk))
    | have HA := Lib.hid (spendE3 (r := ⟨base, per, seats, cur, true⟩) (cost := cost) (fin := fin) (by simp [gk]) gb)
    | have HA := Lib.hid (spendE1 (r := ⟨base, per, seats, cur, false⟩) (cost := cost) (fin := fin) (.inr rfl))
    go_enter Try.func26, Try.ntmps26
    go_wp2_with fail
    refine (rvalid_any _ _ _ (HV.out.extNo (((Ext.refl _ _).alloc _).alloc _))).mono ?_
    rintro e1 w1 ⟨rfl, hx1⟩
    rw [gk]
    have hB := hx1.blk (alloc_under (alloc_top (w := w) rfl)) (fun x => x.elim)
    have hC := hx1.blk (n := w.heap.size + 1) (alloc_top (by simp)) (fun x => x.elim)
    have hx := (((Ext.refl No w).alloc _).alloc _).transNo hx1
    have cB := cellOf hB
    have cC := cellOf hC
    have fC := freeOf hC
    clear hx1
    go_wp2
    refine ret_ex rfl ?_
    simp [results, Try.results26, go_sem, cC]
    refine SpendPost.mk HA.out rfl (ring0_v M _) ?_
    repeat (first | (with_reducible assumption) | ((with_reducible refine Ext.own ?_ ?_ _); rotate_left; first | exact Nat.le_refl _ | exact Nat.le_succ _))

theorem keepA {w : World} {a : Addr} {v : Value} {o : Obj} (h : w.cell? a = some v) : (w.alloc o).cell? a = some v := ((Ext.refl No w).alloc o).keep h
theorem keepD {w : World} {a : Addr} {v : Value} (h : w.cell? a = some v) : w.drew.cell? a = some v := h
theorem keepS {w : World} {a b : Addr} {v u : Value} (hne : a.block ≠ b.block) (h : w.cell? a = some v) : (w.setCell b u).cell? a = some v := ((Ext.refl (At b.block) w).setCell (fun _ => rfl) u).keepM h hne
/-- what the removal of the seat whose query is finished leaves -/
def FinMem (M : Nat → Prop) (w : World) (r : Ring) (s9 : Value) (wx : World) : Prop :=
  ∃ D a c, s9 = .pointer (some ⟨D, 0, none⟩) ∧ D ≠ w.heap.size + 1 ∧ wx.heap[D]? = some (.cells #[.int .i64 r.base, .int .i64 r.per, .slice a r.seats.length c, .int .i64 r.cur, .bool r.opn] 25 (0, 0)) ∧
    wx.heap[w.heap.size + 1]? = some (.cells #[.int .i64 0, .int .i64 0, .slice none 0 0, .int .i64 0, .bool false] 25 (0, 0)) ∧
    Row (Also M w.heap.size) wx 4 (.slice a r.seats.length c) r.seats.length (flatS r.seats) ∧ Ext No w wx
theorem FinMem.drew {M : Nat → Prop} {w : World} {r : Ring} {s9 : Value} {wx : World} (h : FinMem M w r s9 wx) : FinMem M w r s9 wx.drew := by
  obtain ⟨D, a, c, h1, h2, h3, h4, h5, h6⟩ := h
  exact ⟨D, a, c, h1, h2, h3, h4, h5.extNo (Ext.refl _ _).drew, h6.drew⟩
theorem FinMem.late {M : Nat → Prop} {w w3 : World} {r : Ring} {a : Option Addr} {c : Nat} (hC : w3.heap[w.heap.size + 1]? = some (.cells #[.int .i64 0, .int .i64 0, .slice none 0 0, .int .i64 0, .bool false] 25 (0, 0)))
    (hs : Seats (Also M w.heap.size) w3 (.slice a r.seats.length c) r.seats) (hx : Ext No w w3) :
    FinMem M w r (.pointer (some ⟨w3.heap.size, 0, none⟩)) (w3.alloc (.cells #[.int .i64 r.base, .int .i64 r.per, .slice a r.seats.length c, .int .i64 r.cur, .bool r.opn] 25)) :=
  ⟨_, a, c, rfl, by have := lt_of_block hC; omega, alloc_top rfl, alloc_under hC, Row.extNo hs ((Ext.refl _ _).alloc _), hx.alloc _⟩
theorem FinMem.early {M : Nat → Prop} {w w3 : World} {r : Ring} {a : Option Addr} {c D : Nat} (hC : w3.heap[w.heap.size + 1]? = some (.cells #[.int .i64 0, .int .i64 0, .slice none 0 0, .int .i64 0, .bool false] 25 (0, 0)))
    (hs : Seats (fun k => k = D ∨ Also M w.heap.size k) w3 (.slice a r.seats.length c) r.seats) (hx : Ext No w w3) (hD : w.heap.size + 1 < D)
    (hz : w3.heap[D]? = some (.cells #[.int .i64 0, .int .i64 0, .slice none 0 0, .int .i64 0, .bool false] 25 (0, 0))) :
    FinMem M w r (.pointer (some ⟨D, 0, none⟩)) (((((w3.setCell ⟨D, 0, none⟩ (.int .i64 r.base)).setCell ⟨D, 1, none⟩ (.int .i64 r.per)).setCell ⟨D, 2, none⟩ (.slice a r.seats.length c)).setCell ⟨D, 3, none⟩ (.int .i64 r.cur)).setCell ⟨D, 4, none⟩ (.bool r.opn)) := by
  have hx2 : Ext (At D) w3 (((((w3.setCell ⟨D, 0, none⟩ (.int .i64 r.base)).setCell ⟨D, 1, none⟩ (.int .i64 r.per)).setCell ⟨D, 2, none⟩ (.slice a r.seats.length c)).setCell ⟨D, 3, none⟩ (.int .i64 r.cur)).setCell ⟨D, 4, none⟩ (.bool r.opn)) :=
    (((((Ext.refl _ _).setAt _ _).setAt _ _).setAt _ _).setAt _ _).setAt _ _
  exact ⟨D, a, c, rfl, by omega, set_all5 _ _ _ _ _ hz, set_none5 _ _ _ _ _ hC (by omega), (Row.ext hs hx2 (fun _ _ h => .inl h)).mono (fun _ _ h => .inr h), hx.trans2 hx2 (fun i hi e => by cases e; exact absurd hi (by omega))⟩

set_option maxRecDepth 100000 in
set_option maxHeartbeats 400000 in
theorem rspend_fin (M : Nat → Prop) (base per : Int) (seats : List Seat) (b off cap c : Nat) (cost : Int) (w : World) (hM : ∀ b, M b → b < w.heap.size) (hs : Seats M w (.slice (some ⟨b, off, none⟩) seats.length cap) seats)
    (h1 : ringOk ⟨base, per, seats, (c : Int), true⟩ = true) (hc : c < seats.length) (h2 : betB cost 1 8 = true) :
    Calls Try.prog 26 #[.agg #[.int .i64 base, .int .i64 per, .slice (some ⟨b, off, none⟩) seats.length cap, .int .i64 (c : Int), .bool true], .int .i64 cost, .bool true] w (SpendPost M ⟨base, per, seats, (c : Int), true⟩ cost true w) := by
  have HA : Hid (ringSpend ⟨base, per, seats, (c : Int), true⟩ cost true = (removed ⟨base, per, seats, (c : Int), true⟩ c, true, 0)) := Lib.hid (spendF (by simp [h1]) h2)
  have HR : Hid (ringRemove ⟨base, per, seats, (c : Int), true⟩ seats[c].id = (removed ⟨base, per, seats, (c : Int), true⟩ c, true)) := Lib.hid (rem_here (c := c) h1 rfl hc)
  generalize removed ⟨base, per, seats, (c : Int), true⟩ c = R at HA HR
  have HS := Lib.hid hs
  have HV : Hid (RingV No w (.agg #[.int .i64 base, .int .i64 per, .slice (some ⟨b, off, none⟩) seats.length cap, .int .i64 (c : Int), .bool true]) ⟨base, per, seats, (c : Int), true⟩) := Lib.hid (RingV.toNo ⟨_, rfl, hs⟩)
  have H1 := Lib.hid h1
  have HM := Lib.hid hM
  obtain ⟨b', off', cap', hsl, hbw, _, q0, q1, q2, q3⟩ := Seats.lt hs hc
  simp only [Value.slice.injEq] at hsl
  obtain ⟨hsl, _, rfl⟩ := hsl
  cases hsl
  have c0 : (0 : Int) ≤ (c : Int) := by omega
  obtain ⟨b1, b2⟩ := betB_true h2
  have c1 : (c : Int) < (seats.length : Int) := by omega
  clear hs h1 hM
  go_enter Try.func26, Try.ntmps26
  go_wp2_with fail
  refine (rvalid_any _ _ _ (HV.out.extNo (((Ext.refl _ _).alloc _).alloc _))).mono ?_
  rintro e1 w1 ⟨rfl, hx1⟩
  rw [H1.out]
  have hB : w1.drew.heap[w.heap.size]? = _ := hx1.blk (alloc_under (alloc_top (w := w) rfl)) (fun x => x.elim)
  have hC : w1.drew.heap[w.heap.size + 1]? = _ := hx1.blk (n := w.heap.size + 1) (alloc_top (by simp)) (fun x => x.elim)
  have hx : Ext No w w1.drew := ((((Ext.refl No w).alloc _).alloc _).transNo hx1).drew
  have hsz : w.heap.size + 2 ≤ w1.drew.heap.size := by have := hx1.size; simp at this ⊢; omega
  have q0' : w1.cell? _ = _ := hx.keep q0
  have cB : ∀ j, w1.cell? _ = _ := cellOf hB
  clear q0 q1 q2 q3 hx1
  go_wp2
  have HX := Lib.hid hx
  have HB := Lib.hid hB
  have HC := Lib.hid hC
  have HM2 : Hid (∀ k, Also M w.heap.size k → k < w1.drew.heap.size) := Lib.hid (fun k hk => by rcases hk with hk | hk | hk; (exact Nat.lt_of_lt_of_le (HM.out _ hk) hx.size); omega; omega)
  have hl1 : w.heap.size < w1.heap.size := by have : w.heap.size + 2 ≤ w1.heap.size := hsz; omega
  have hl2 : b < w1.heap.size := by omega
  have hl3 : w.heap.size + 1 < w1.heap.size := by have : w.heap.size + 2 ≤ w1.heap.size := hsz; omega
  clear hx hB hC
  have hln : w.heap.size + 1 < w1.heap.size := hl3
  have k0 : w1.cell? ⟨w.heap.size, 0, none⟩ = some (.int .i64 base) := cB 0
  have k1 : w1.cell? ⟨w.heap.size, 1, none⟩ = some (.int .i64 per) := cB 1
  have k2 : w1.cell? ⟨w.heap.size, 2, none⟩ = some (.slice (some ⟨b, off, none⟩) seats.length cap) := cB 2
  have k3 : w1.cell? ⟨w.heap.size, 3, none⟩ = some (.int .i64 (c : Int)) := cB 3
  have k4 : w1.cell? ⟨w.heap.size, 4, none⟩ = some (.bool true) := cB 4
  clear cB
  go_upto_region 6 with fail
  go_cut [9] (fun s9 wx => FinMem M w R s9 wx)
  case first =>
    go_region_held3 (fun w' => w'.cell? ⟨w.heap.size, 0, none⟩ = some (.int .i64 base) ∧ w'.cell? ⟨w.heap.size, 1, none⟩ = some (.int .i64 per) ∧ w'.cell? ⟨w.heap.size, 2, none⟩ = some (.slice (some ⟨b, off, none⟩) seats.length cap) ∧ w'.cell? ⟨w.heap.size, 3, none⟩ = some (.int .i64 (c : Int)) ∧ w'.cell? ⟨w.heap.size, 4, none⟩ = some (.bool true) ∧ w'.cell? ⟨b, off + c * 4, none⟩ = some (.int .i64 seats[c].id))
      ((go_split_ands; refine ⟨?_, ?_, ?_, ?_, ?_, ?_⟩ <;> (repeat (first | (with_reducible assumption) | (with_reducible refine keepA ?_) | (with_reducible refine keepD ?_) | ((with_reducible refine keepS ?_ ?_); (simp; omega))))))
      (first | (go_at_call 25; refine (rremove_any (Also M w.heap.size) _ ⟨base, per, seats, (c : Int), true⟩ _ (w1.drew) (fun k hk => HM2.out k hk) ⟨_, rfl, Row.extNo (Row.also HS.out) (HX.out)⟩).mono ?_; rintro e3 w3 ⟨v3, rfl, hv3, hx3⟩; rw [HR.out] at hv3 ⊢; obtain ⟨sl3, rfl, hs3⟩ := hv3; obtain ⟨a3, c3, rfl⟩ := hs3.slice; have HS3 := Lib.hid hs3; clear hs3; have HX3 := Lib.hid ((HX.out).transNo hx3); have hB3 := hx3.blk (HB.out) (fun x => x.elim); have hC3 := hx3.blk (HC.out) (fun x => x.elim); have cB3 := cellOf hB3; have fB3 := freeOf hB3; have HC3 := Lib.hid hC3; have hlB3 := lt_of_block hB3; have hlC3 := lt_of_block hC3; clear hB3 hC3; have t0 : w3.cell? ⟨w.heap.size, 0, none⟩ = some (.int .i64 base) := cB3 0; have t1 : w3.cell? ⟨w.heap.size, 1, none⟩ = some (.int .i64 per) := cB3 1; have t2 : w3.cell? ⟨w.heap.size, 2, none⟩ = some (.slice (some ⟨b, off, none⟩) seats.length cap) := cB3 2; have t3 : w3.cell? ⟨w.heap.size, 3, none⟩ = some (.int .i64 (c : Int)) := cB3 3; have t4 : w3.cell? ⟨w.heap.size, 4, none⟩ = some (.bool true) := cB3 4; have t5 : w3.cell? ⟨b, off + c * 4, none⟩ = some (.int .i64 seats[c].id) := hx3.keep (w := w1.drew) q0'; clear cB3 hx3) | (go_at_call 25; refine (rremove_any (fun k => k = w1.heap.size ∨ Also M w.heap.size k) _ ⟨base, per, seats, (c : Int), true⟩ _ (w1.drew.alloc (.cells #[.int .i64 0, .int .i64 0, .slice none 0 0, .int .i64 0, .bool false] 25)) (fun k hk => by rcases hk with rfl | hk; (simp); exact Nat.lt_of_lt_of_le (HM2.out k hk) (by simp)) ⟨_, rfl, Row.extNo ((Row.also HS.out).mono (fun i hi h => h.resolve_left (fun e => by omega))) (HX.out.alloc _)⟩).mono ?_; rintro e3 w3 ⟨v3, rfl, hv3, hx3⟩; rw [HR.out] at hv3 ⊢; obtain ⟨sl3, rfl, hs3⟩ := hv3; obtain ⟨a3, c3, rfl⟩ := hs3.slice; have HS3 := Lib.hid hs3; clear hs3; have HX3 := Lib.hid ((HX.out.alloc _).transNo hx3); have hB3 := hx3.blk (alloc_under HB.out) (fun x => x.elim); have hC3 := hx3.blk (alloc_under HC.out) (fun x => x.elim); have hD3 := hx3.blk (n := w1.heap.size) (alloc_top (by simp)) (fun x => x.elim); have HD3 := Lib.hid hD3; have cD3 := cellOf hD3; have fD3 := freeOf hD3; clear hD3; have cB3 := cellOf hB3; have fB3 := freeOf hB3; have HC3 := Lib.hid hC3; have hlB3 := lt_of_block hB3; have hlC3 := lt_of_block hC3; clear hB3 hC3; have t0 : w3.cell? ⟨w.heap.size, 0, none⟩ = some (.int .i64 base) := cB3 0; have t1 : w3.cell? ⟨w.heap.size, 1, none⟩ = some (.int .i64 per) := cB3 1; have t2 : w3.cell? ⟨w.heap.size, 2, none⟩ = some (.slice (some ⟨b, off, none⟩) seats.length cap) := cB3 2; have t3 : w3.cell? ⟨w.heap.size, 3, none⟩ = some (.int .i64 (c : Int)) := cB3 3; have t4 : w3.cell? ⟨w.heap.size, 4, none⟩ = some (.bool true) := cB3 4; have t5 : w3.cell? ⟨b, off + c * 4, none⟩ = some (.int .i64 seats[c].id) := hx3.keep (((Ext.refl No w1.drew).alloc (.cells #[.int .i64 0, .int .i64 0, .slice none 0 0, .int .i64 0, .bool false] 25)).keep q0'); clear cB3 hx3))
    all_goals
      go_wp2_with fail
      go_meet
      first
      | (with_reducible exact FinMem.late HC3.out HS3.out HX3.out)
      | (with_reducible exact FinMem.early HC3.out HS3.out HX3.out hln HD3.out)
  case rest =>
    obtain ⟨D, a3, c3, rfl, hDC, hD, hC, hs3, hx3⟩ := hcut
    have cD := cellOf hD
    have cC := cellOf hC
    have fC := freeOf hC
    have HS3 := Lib.hid hs3
    have HX3 := Lib.hid hx3
    clear hD hC hs3 hx3
    go_wp2
    refine ret_ex rfl ?_
    simp [results, Try.results26, go_sem, cC]
    refine SpendPost.mk HA.out rfl ⟨_, rfl, Row.alsoBack HS3.out ?_⟩ ?_
    · repeat (first | (with_reducible exact Ext.refl _ _) | (with_reducible refine Ext.drew ?_) | (with_reducible refine Ext.setB ?_ _ _) | (with_reducible refine Ext.setC ?_ _ _))
    · repeat (first | (with_reducible exact HX3.out) | (with_reducible refine Ext.drew ?_) | ((with_reducible refine Ext.own ?_ ?_ _); rotate_left; first | exact Nat.le_refl _ | exact Nat.le_succ _))

end Go.Proofs.Ytckeidboolfcoaa

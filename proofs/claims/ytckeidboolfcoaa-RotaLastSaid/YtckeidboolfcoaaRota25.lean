/- The laws' sanity check: the walk. -/
import Derived.Test.YtckeidboolfcoaaRota24
namespace Go.Proofs.Ytckeidboolfcoaa
open Go Go.RowKit

theorem wr5_def (w : World) (B : Nat) (u0 u1 u2 u3 u4 : Value) : ((((w.setCell ⟨B, 0, none⟩ u0).setCell ⟨B, 1, none⟩ u1).setCell ⟨B, 2, none⟩ u2).setCell ⟨B, 3, none⟩ u3).setCell ⟨B, 4, none⟩ u4 = wr5 w B u0 u1 u2 u3 u4 := rfl
theorem Seats.lit {M : Nat → Prop} {w : World} {sl : Value} {r : Ring} {l : List Seat} (h : Seats M w sl r.seats) (e : r.seats = l) : Seats M w sl l := e ▸ h
theorem wr5_row {w : World} {B s n : Nat} {sl : Value} {vs : List Value} {u0 u1 u2 u3 u4 : Value} (h : Row (Lo (B + 1)) w s sl n vs) : Row (Lo (B + 1)) (wr5 w B u0 u1 u2 u3 u4) s sl n vs := h.ext wr5_ext (fun i _ e => by cases e; exact Nat.lt_succ_self _)
theorem wr5_up {w0 w : World} {B : Nat} {u0 u1 u2 u3 u4 : Value} (h : Ext No w0 w) (hB : w0.heap.size ≤ B) : Ext No w0 (wr5 w B u0 u1 u2 u3 u4) := h.trans2 wr5_ext (fun i hi e => by cases e; exact absurd hi (Nat.not_lt.2 hB))
theorem lo_of {w : World} {B : Nat} {o : Obj} (h : w.heap[B]? = some o) : ∀ b, Lo (B + 1) b → b < w.heap.size := fun b hb => Nat.lt_of_lt_of_le hb (lt_of_block h)
theorem wr5_blk {w : World} {b T : Nat} {a0 a1 a2 a3 a4 u0 u1 u2 u3 u4 : Value} (h : w.heap[b]? = some (.cells #[a0, a1, a2, a3, a4] T (0, 0))) : (wr5 w b u0 u1 u2 u3 u4).heap[b]? = some (.cells #[u0, u1, u2, u3, u4] T (0, 0)) := set_all5 u0 u1 u2 u3 u4 h

set_option maxRecDepth 100000 in
set_option maxHeartbeats 4000000 in
theorem sane_any (w : World) : Calls Try.prog 14 #[] w fun e w' => e = .returned (.bool true) ∧ Ext No w w' := by
  go_enter Try.func14, Try.ntmps14
  go_wp2_with fail
  refine (newR_any 2 1000 _).mono ?_
  rintro e1 w1 ⟨v1, rfl, hv1, hx1⟩
  rw [sane_0] at hv1 ⊢
  obtain ⟨a1, n1, c1, rfl, hs1⟩ := (hv1 (Lo (w1.heap.size + 1))).opens
  have HX1 := Lib.hid (hx1.alloc (.cells #[.int .i64 2, .int .i64 1000, (.slice a1 n1 c1), .int .i64 0, .bool false] 25))
  have hle := hx1.size
  have HS1 := Lib.hid (Row.extNo hs1 ((Ext.refl No w1).alloc (.cells #[.int .i64 2, .int .i64 1000, (.slice a1 n1 c1), .int .i64 0, .bool false] 25)))
  have HB1 := Lib.hid (alloc_top (w := w1) (o := .cells #[.int .i64 2, .int .i64 1000, (.slice a1 n1 c1), .int .i64 0, .bool false] 25) rfl)
  clear hv1 hs1 hx1
  go_wp2_with fail
  generalize w1.alloc (.cells #[.int .i64 2, .int .i64 1000, (.slice a1 n1 c1), .int .i64 0, .bool false] 25) = W1 at *
  generalize w1.heap.size = B at *
  have key1 : RingV (Lo (B + 1)) W1 (.agg #[.int .i64 2, .int .i64 1000, .slice a1 n1 c1, .int .i64 0, .bool false]) ⟨2, 1000, [], 0, false⟩ := ⟨_, rfl, HS1.out⟩
  refine (ringAdd_any (Lo (B + 1)) _ ⟨2, 1000, [], 0, false⟩ 5 0 _ (lo_of HB1.out) key1).mono ?_
  rintro e2 w2 ⟨v2, rfl, hv2, hx2⟩
  rw [sane_1] at hv2 ⊢
  obtain ⟨a2, n2, c2, hve2, hs2⟩ := hv2.opens
  obtain rfl : v2 = .agg #[.int .i64 2, .int .i64 1000, .slice a2 n2 c2, .int .i64 0, .bool false] := hve2
  clear hv2
  have hb2 := hx2.blk HB1.out (fun x => x.elim)
  have HB2 : Hid ((wr5 w2 B (.int .i64 2) (.int .i64 1000) (.slice a2 n2 c2) (.int .i64 0) (.bool false)).heap[B]? = some (.cells #[.int .i64 2, .int .i64 1000, .slice a2 n2 c2, .int .i64 0, .bool false] 25 (0, 0))) := Lib.hid (wr5_blk hb2)
  have HS2 : Hid (Seats (Lo (B + 1)) (wr5 w2 B (.int .i64 2) (.int .i64 1000) (.slice a2 n2 c2) (.int .i64 0) (.bool false)) (.slice a2 n2 c2) sane1.seats) := Lib.hid (wr5_row hs2)
  have HX2 : Hid (Ext No w (wr5 w2 B (.int .i64 2) (.int .i64 1000) (.slice a2 n2 c2) (.int .i64 0) (.bool false))) := Lib.hid (wr5_up (HX1.out.transNo hx2) hle)
  have HZ2 : Hid (w2.heap.size = (wr5 w2 B (.int .i64 2) (.int .i64 1000) (.slice a2 n2 c2) (.int .i64 0) (.bool false)).heap.size) := Lib.hid (by simp [wr5, World.setCell])
  have cB2 := cellOf hb2
  have fB2 := freeOf hb2
  clear HB1 HS1 HX1 hb2 hs2 hx2 key1
  go_wp2_with fail
  rw [wr5_def]
  generalize wr5 w2 B (.int .i64 2) (.int .i64 1000) (.slice a2 n2 c2) (.int .i64 0) (.bool false) = W2 at *
  clear cB2 fB2
  have key2 : RingV (Lo (B + 1)) W2 (.agg #[.int .i64 2, .int .i64 1000, .slice a2 n2 c2, .int .i64 0, .bool false]) sane1 := ⟨_, rfl, HS2.out⟩
  refine (ringAdd_any (Lo (B + 1)) _ sane1 6 0 _ (lo_of HB2.out) key2).mono ?_
  rintro e3 w3 ⟨v3, rfl, hv3, hx3⟩
  rw [sane_2] at hv3 ⊢
  obtain ⟨a3, n3, c3, hve3, hs3⟩ := hv3.opens
  obtain rfl : v3 = .agg #[.int .i64 2, .int .i64 1000, .slice a3 n3 c3, .int .i64 0, .bool false] := hve3
  clear hv3
  have hb3 := hx3.blk HB2.out (fun x => x.elim)
  have HB3 : Hid ((wr5 w3 B (.int .i64 2) (.int .i64 1000) (.slice a3 n3 c3) (.int .i64 0) (.bool false)).heap[B]? = some (.cells #[.int .i64 2, .int .i64 1000, .slice a3 n3 c3, .int .i64 0, .bool false] 25 (0, 0))) := Lib.hid (wr5_blk hb3)
  have HS3 : Hid (Seats (Lo (B + 1)) (wr5 w3 B (.int .i64 2) (.int .i64 1000) (.slice a3 n3 c3) (.int .i64 0) (.bool false)) (.slice a3 n3 c3) sane2.seats) := Lib.hid (wr5_row hs3)
  have HX3 : Hid (Ext No w (wr5 w3 B (.int .i64 2) (.int .i64 1000) (.slice a3 n3 c3) (.int .i64 0) (.bool false))) := Lib.hid (wr5_up (HX2.out.transNo hx3) hle)
  have HZ3 : Hid (w3.heap.size = (wr5 w3 B (.int .i64 2) (.int .i64 1000) (.slice a3 n3 c3) (.int .i64 0) (.bool false)).heap.size) := Lib.hid (by simp [wr5, World.setCell])
  have cB3 := cellOf hb3
  have fB3 := freeOf hb3
  clear HB2 HS2 HX2 hb3 hs3 hx3 key2
  go_wp2_with fail
  rw [wr5_def]
  generalize wr5 w3 B (.int .i64 2) (.int .i64 1000) (.slice a3 n3 c3) (.int .i64 0) (.bool false) = W3 at *
  clear cB3 fB3
  have key3 : RingV (Lo (B + 1)) W3 (.agg #[.int .i64 2, .int .i64 1000, .slice a3 n3 c3, .int .i64 0, .bool false]) sane2 := ⟨_, rfl, HS3.out⟩
  refine (pick_any (Lo (B + 1)) _ sane2 _ (lo_of HB3.out) key3).mono ?_
  rintro e4 w4 ⟨v4, t4, rfl, hv4, ht4, hx4⟩
  rw [sane_3] at hv4 ht4 ⊢
  obtain ⟨a4, n4, c4, hve4, hs4⟩ := hv4.opens
  obtain rfl : v4 = .agg #[.int .i64 2, .int .i64 1000, .slice a4 n4 c4, .int .i64 0, .bool true] := hve4
  clear hv4
  have hb4 := hx4.blk HB3.out (fun x => x.elim)
  have HB4 : Hid ((wr5 w4 B (.int .i64 2) (.int .i64 1000) (.slice a4 n4 c4) (.int .i64 0) (.bool true)).heap[B]? = some (.cells #[.int .i64 2, .int .i64 1000, .slice a4 n4 c4, .int .i64 0, .bool true] 25 (0, 0))) := Lib.hid (wr5_blk hb4)
  have HS4 : Hid (Seats (Lo (B + 1)) (wr5 w4 B (.int .i64 2) (.int .i64 1000) (.slice a4 n4 c4) (.int .i64 0) (.bool true)) (.slice a4 n4 c4) sane3.seats) := Lib.hid (wr5_row hs4)
  have HX4 : Hid (Ext No w (wr5 w4 B (.int .i64 2) (.int .i64 1000) (.slice a4 n4 c4) (.int .i64 0) (.bool true))) := Lib.hid (wr5_up (HX3.out.transNo hx4) hle)
  have HZ4 : Hid (w4.heap.size = (wr5 w4 B (.int .i64 2) (.int .i64 1000) (.slice a4 n4 c4) (.int .i64 0) (.bool true)).heap.size) := Lib.hid (by simp [wr5, World.setCell])
  have cB4 := cellOf hb4
  have fB4 := freeOf hb4
  obtain ⟨ta4, tc4, rfl⟩ := Row.slice ht4
  have HT4 := Lib.hid (wr5_row (B := B) (u0 := .int .i64 2) (u1 := .int .i64 1000) (u2 := .slice a4 n4 c4) (u3 := .int .i64 0) (u4 := .bool true) ht4)
  clear ht4
  clear HB3 HS3 HX3 hb4 hs4 hx4 key3
  go_wp2_with fail
  rw [wr5_def]
  generalize wr5 w4 B (.int .i64 2) (.int .i64 1000) (.slice a4 n4 c4) (.int .i64 0) (.bool true) = W4 at *
  clear cB4 fB4
  have hT : Turns No (W4.alloc (.cells #[.int .i64 5, .int .i64 2, .int .i64 0, .int .i64 0, .bool false] 51)) (.slice (some ⟨w4.heap.size, 0, none⟩) 1 1) [⟨5, 2⟩] := Row.block (alloc_top HZ4.out) rfl (fun x => x.elim) (by omega)
  have hx0 : Ext No W4 (W4.alloc (.cells #[.int .i64 5, .int .i64 2, .int .i64 0, .int .i64 0, .bool false] 51)) := (Ext.refl _ _).alloc _
  refine (sameT_any _ _ [⟨5, 2⟩] _ (Row.extNo (Row.mono HT4.out (fun _ _ x => x.elim)) hx0) hT).mono ?_
  rintro e4' w4' ⟨rfl, hx4'⟩
  have HB4' := Lib.hid ((hx0.transNo hx4').blk HB4.out (fun x => x.elim))
  have HS4' := Lib.hid (Row.extNo HS4.out (hx0.transNo hx4'))
  have HX4' := Lib.hid (HX4.out.transNo (hx0.transNo hx4'))
  have cB4 := cellOf HB4'.out
  clear HB4 HS4 HX4 HT4 hT hx0 hx4' HZ4
  go_wp2_with fail
  clear cB4
  have HB4 := HB4'
  have HS4 := HS4'
  have HX4 := HX4'
  clear HB4' HS4' HX4' 
  have key4 : RingV (Lo (B + 1)) w4' (.agg #[.int .i64 2, .int .i64 1000, .slice a4 n4 c4, .int .i64 0, .bool true]) sane3 := ⟨_, rfl, HS4.out⟩
  refine (spend_any (Lo (B + 1)) _ sane3 1 false _ (lo_of HB4.out) key4).mono ?_
  rintro e5 w5 ⟨v5, rfl, hv5, hx5⟩
  rw [sane_4] at hv5 ⊢
  obtain ⟨a5, n5, c5, hve5, hs5⟩ := hv5.opens
  obtain rfl : v5 = .agg #[.int .i64 2, .int .i64 1000, .slice a5 n5 c5, .int .i64 0, .bool true] := hve5
  clear hv5
  have hb5 := hx5.blk HB4.out (fun x => x.elim)
  have HB5 : Hid ((wr5 w5 B (.int .i64 2) (.int .i64 1000) (.slice a5 n5 c5) (.int .i64 0) (.bool true)).heap[B]? = some (.cells #[.int .i64 2, .int .i64 1000, .slice a5 n5 c5, .int .i64 0, .bool true] 25 (0, 0))) := Lib.hid (wr5_blk hb5)
  have HS5 : Hid (Seats (Lo (B + 1)) (wr5 w5 B (.int .i64 2) (.int .i64 1000) (.slice a5 n5 c5) (.int .i64 0) (.bool true)) (.slice a5 n5 c5) sane4.seats) := Lib.hid (wr5_row hs5)
  have HX5 : Hid (Ext No w (wr5 w5 B (.int .i64 2) (.int .i64 1000) (.slice a5 n5 c5) (.int .i64 0) (.bool true))) := Lib.hid (wr5_up (HX4.out.transNo hx5) hle)
  have HZ5 : Hid (w5.heap.size = (wr5 w5 B (.int .i64 2) (.int .i64 1000) (.slice a5 n5 c5) (.int .i64 0) (.bool true)).heap.size) := Lib.hid (by simp [wr5, World.setCell])
  have cB5 := cellOf hb5
  have fB5 := freeOf hb5
  clear HB4 HS4 HX4 hb5 hs5 hx5 key4
  go_wp2_with fail
  rw [wr5_def]
  generalize wr5 w5 B (.int .i64 2) (.int .i64 1000) (.slice a5 n5 c5) (.int .i64 0) (.bool true) = W5 at *
  clear cB5 fB5
  have key5 : RingV (Lo (B + 1)) W5 (.agg #[.int .i64 2, .int .i64 1000, .slice a5 n5 c5, .int .i64 0, .bool true]) sane4 := ⟨_, rfl, HS5.out⟩
  refine (spend_any (Lo (B + 1)) _ sane4 3 false _ (lo_of HB5.out) key5).mono ?_
  rintro e6 w6 ⟨v6, rfl, hv6, hx6⟩
  rw [sane_5] at hv6 ⊢
  obtain ⟨a6, n6, c6, hve6, hs6⟩ := hv6.opens
  obtain rfl : v6 = .agg #[.int .i64 2, .int .i64 1000, .slice a6 n6 c6, .int .i64 1, .bool false] := hve6
  clear hv6
  have hb6 := hx6.blk HB5.out (fun x => x.elim)
  have HB6 : Hid ((wr5 w6 B (.int .i64 2) (.int .i64 1000) (.slice a6 n6 c6) (.int .i64 1) (.bool false)).heap[B]? = some (.cells #[.int .i64 2, .int .i64 1000, .slice a6 n6 c6, .int .i64 1, .bool false] 25 (0, 0))) := Lib.hid (wr5_blk hb6)
  have HS6 : Hid (Seats (Lo (B + 1)) (wr5 w6 B (.int .i64 2) (.int .i64 1000) (.slice a6 n6 c6) (.int .i64 1) (.bool false)) (.slice a6 n6 c6) sane5.seats) := Lib.hid (wr5_row hs6)
  have HX6 : Hid (Ext No w (wr5 w6 B (.int .i64 2) (.int .i64 1000) (.slice a6 n6 c6) (.int .i64 1) (.bool false))) := Lib.hid (wr5_up (HX5.out.transNo hx6) hle)
  have HZ6 : Hid (w6.heap.size = (wr5 w6 B (.int .i64 2) (.int .i64 1000) (.slice a6 n6 c6) (.int .i64 1) (.bool false)).heap.size) := Lib.hid (by simp [wr5, World.setCell])
  have cB6 := cellOf hb6
  have fB6 := freeOf hb6
  clear HB5 HS5 HX5 hb6 hs6 hx6 key5
  go_wp2_with fail
  rw [wr5_def]
  generalize wr5 w6 B (.int .i64 2) (.int .i64 1000) (.slice a6 n6 c6) (.int .i64 1) (.bool false) = W6 at *
  clear cB6 fB6
  have key6 : RingV (Lo (B + 1)) W6 (.agg #[.int .i64 2, .int .i64 1000, .slice a6 n6 c6, .int .i64 1, .bool false]) sane5 := ⟨_, rfl, HS6.out⟩
  refine (pick_any (Lo (B + 1)) _ sane5 _ (lo_of HB6.out) key6).mono ?_
  rintro e7 w7 ⟨v7, t7, rfl, hv7, ht7, hx7⟩
  rw [sane_6] at hv7 ht7 ⊢
  obtain ⟨a7, n7, c7, hve7, hs7⟩ := hv7.opens
  obtain rfl : v7 = .agg #[.int .i64 2, .int .i64 1000, .slice a7 n7 c7, .int .i64 1, .bool true] := hve7
  clear hv7
  have hb7 := hx7.blk HB6.out (fun x => x.elim)
  have HB7 : Hid ((wr5 w7 B (.int .i64 2) (.int .i64 1000) (.slice a7 n7 c7) (.int .i64 1) (.bool true)).heap[B]? = some (.cells #[.int .i64 2, .int .i64 1000, .slice a7 n7 c7, .int .i64 1, .bool true] 25 (0, 0))) := Lib.hid (wr5_blk hb7)
  have HS7 : Hid (Seats (Lo (B + 1)) (wr5 w7 B (.int .i64 2) (.int .i64 1000) (.slice a7 n7 c7) (.int .i64 1) (.bool true)) (.slice a7 n7 c7) sane6.seats) := Lib.hid (wr5_row hs7)
  have HX7 : Hid (Ext No w (wr5 w7 B (.int .i64 2) (.int .i64 1000) (.slice a7 n7 c7) (.int .i64 1) (.bool true))) := Lib.hid (wr5_up (HX6.out.transNo hx7) hle)
  have HZ7 : Hid (w7.heap.size = (wr5 w7 B (.int .i64 2) (.int .i64 1000) (.slice a7 n7 c7) (.int .i64 1) (.bool true)).heap.size) := Lib.hid (by simp [wr5, World.setCell])
  have cB7 := cellOf hb7
  have fB7 := freeOf hb7
  obtain ⟨ta7, tc7, rfl⟩ := Row.slice ht7
  have HT7 := Lib.hid (wr5_row (B := B) (u0 := .int .i64 2) (u1 := .int .i64 1000) (u2 := .slice a7 n7 c7) (u3 := .int .i64 1) (u4 := .bool true) ht7)
  clear ht7
  clear HB6 HS6 HX6 hb7 hs7 hx7 key6
  go_wp2_with fail
  rw [wr5_def]
  generalize wr5 w7 B (.int .i64 2) (.int .i64 1000) (.slice a7 n7 c7) (.int .i64 1) (.bool true) = W7 at *
  clear cB7 fB7
  have key7 : RingV (Lo (B + 1)) W7 (.agg #[.int .i64 2, .int .i64 1000, .slice a7 n7 c7, .int .i64 1, .bool true]) sane6 := ⟨_, rfl, HS7.out⟩
  refine (spend_any (Lo (B + 1)) _ sane6 2 false _ (lo_of HB7.out) key7).mono ?_
  rintro e8 w8 ⟨v8, rfl, hv8, hx8⟩
  rw [sane_7] at hv8 ⊢
  obtain ⟨a8, n8, c8, hve8, hs8⟩ := hv8.opens
  obtain rfl : v8 = .agg #[.int .i64 2, .int .i64 1000, .slice a8 n8 c8, .int .i64 0, .bool false] := hve8
  clear hv8
  have hb8 := hx8.blk HB7.out (fun x => x.elim)
  have HB8 : Hid ((wr5 w8 B (.int .i64 2) (.int .i64 1000) (.slice a8 n8 c8) (.int .i64 0) (.bool false)).heap[B]? = some (.cells #[.int .i64 2, .int .i64 1000, .slice a8 n8 c8, .int .i64 0, .bool false] 25 (0, 0))) := Lib.hid (wr5_blk hb8)
  have HS8 : Hid (Seats (Lo (B + 1)) (wr5 w8 B (.int .i64 2) (.int .i64 1000) (.slice a8 n8 c8) (.int .i64 0) (.bool false)) (.slice a8 n8 c8) sane7.seats) := Lib.hid (wr5_row hs8)
  have HX8 : Hid (Ext No w (wr5 w8 B (.int .i64 2) (.int .i64 1000) (.slice a8 n8 c8) (.int .i64 0) (.bool false))) := Lib.hid (wr5_up (HX7.out.transNo hx8) hle)
  have HZ8 : Hid (w8.heap.size = (wr5 w8 B (.int .i64 2) (.int .i64 1000) (.slice a8 n8 c8) (.int .i64 0) (.bool false)).heap.size) := Lib.hid (by simp [wr5, World.setCell])
  have cB8 := cellOf hb8
  have fB8 := freeOf hb8
  clear HB7 HS7 HX7 hb8 hs8 hx8 key7
  go_wp2_with fail
  rw [wr5_def]
  generalize wr5 w8 B (.int .i64 2) (.int .i64 1000) (.slice a8 n8 c8) (.int .i64 0) (.bool false) = W8 at *
  clear cB8 fB8
  have key8 : RingV (Lo (B + 1)) W8 (.agg #[.int .i64 2, .int .i64 1000, .slice a8 n8 c8, .int .i64 0, .bool false]) sane7 := ⟨_, rfl, HS8.out⟩
  refine (pick_any (Lo (B + 1)) _ sane7 _ (lo_of HB8.out) key8).mono ?_
  rintro e9 w9 ⟨v9, t9, rfl, hv9, ht9, hx9⟩
  rw [sane_8] at hv9 ht9 ⊢
  obtain ⟨a9, n9, c9, hve9, hs9⟩ := hv9.opens
  obtain rfl : v9 = .agg #[.int .i64 2, .int .i64 1000, .slice a9 n9 c9, .int .i64 1, .bool true] := hve9
  obtain ⟨ta9, tc9, rfl⟩ := Row.slice ht9
  have HX9 := Lib.hid (HX8.out.transNo hx9)
  have HT9 := Lib.hid ht9
  clear hv9 hs9 ht9 hx9 key8 HB8 HS8
  go_wp2_with fail
  have hx0 : Ext No w9 ((w9.alloc (.cells #[.int .i64 2, .int .i64 1000, .slice a9 n9 c9, .int .i64 1, .bool true] 25)).alloc (.cells #[.int .i64 5, .int .i64 2, .int .i64 0, .int .i64 0, .bool false, .int .i64 6, .int .i64 2, .int .i64 0, .int .i64 0, .bool false] 51)) := ((Ext.refl _ _).alloc _).alloc _
  have hT : Turns No ((w9.alloc (.cells #[.int .i64 2, .int .i64 1000, .slice a9 n9 c9, .int .i64 1, .bool true] 25)).alloc (.cells #[.int .i64 5, .int .i64 2, .int .i64 0, .int .i64 0, .bool false, .int .i64 6, .int .i64 2, .int .i64 0, .int .i64 0, .bool false] 51)) (.slice (some ⟨w9.heap.size + 1, 0, none⟩) 2 2) [⟨5, 2⟩, ⟨6, 2⟩] := Row.block (n := 2) (alloc_top (by simp)) rfl (fun x => x.elim) (by omega)
  refine (sameT_any _ _ [⟨5, 2⟩, ⟨6, 2⟩] _ (Row.extNo (Row.mono HT9.out (fun _ _ x => x.elim)) hx0) hT).mono ?_
  rintro e9' w9' ⟨rfl, hx9'⟩
  go_wp2
  go_ret
  exact ⟨rfl, HX9.out.transNo (hx0.transNo hx9')⟩
end Go.Proofs.Ytckeidboolfcoaa

/- rota: Add, behind all others. -/
import Derived.Test.YtckeidboolfcoaaRota3b
namespace Go.Proofs.Ytckeidboolfcoaa
open Go Go.RowKit

set_option maxRecDepth 100000 in
set_option maxHeartbeats 2000000 in
theorem add_l1 (M : Nat → Prop) (base per : Int) (seats : List Seat) (a : Option Addr) (cap : Nat) (id p : Int) (w : World) (hM : ∀ b, M b → b < w.heap.size)
    (HS : Hid (Seats M w (.slice a seats.length cap) seats))
    (h1 : ringOk ⟨base, per, seats, 0, false⟩ = true) (h2 : betB id 0 1073741824 = true) (h3 : betB p 0 3 = true) (h4 : findZ seats id < 0) (h5 : seats.length < 16) (h7 : 0 < seats.length) (h8 : cap = seats.length) :
    Calls Try.prog 19 #[.agg #[.int .i64 base, .int .i64 per, .slice a seats.length cap, .int .i64 0, .bool false], .int .i64 id, .int .i64 p] w (AddPost M ⟨base, per, seats, 0, false⟩ id p w) := by
  obtain ⟨i0, hi, hz0, hz1, hz2⟩ := info_parts infoSeat
  have HV : Hid (RingV No w (.agg #[.int .i64 base, .int .i64 per, .slice a seats.length cap, .int .i64 0, .bool false]) ⟨base, per, seats, 0, false⟩) := Lib.hid (RingV.toNo ⟨_, rfl, HS.out⟩)
  have hcap := Row.caps HS.out
  have g5 : ((seats.length : Int) == 16) = false := beq_eq_false_iff_ne.2 (by omega)
  have gc : (0 : Int) ≤ (seats.length : Int) := by omega
  have gd : (seats.length : Int) ≤ (cap : Int) := by omega
  obtain ⟨b, off, cap', hsl, hb, hMb, _⟩ := Row.shape HS.out (show 0 < seats.length by omega)
  simp only [Value.slice.injEq] at hsl
  obtain ⟨rfl, _, rfl⟩ := hsl
  have H8 := Lib.hid h8
  clear h8
  obtain rfl := H8.out
  have H1 := Lib.hid h1
  have HA := Lib.hid ((addE0 h1 (by rw [h2, h3]; rfl) (by simp only; omega) (by simp only; omega) : ringAdd ⟨base, per, seats, 0, false⟩ id p = _).trans (congrArg (fun x => (x, (0 : Int))) (added_lo (by simp))))
  clear h1
  go_enter Try.func19, Try.ntmps19
  go_wp2_with fail
  refine (valid_any _ _ _ (HV.out.extNo (((Ext.refl _ _).alloc _).alloc _))).mono ?_
  rintro e1 w1 ⟨rfl, hx1⟩
  rw [H1.out]
  have hB := hx1.blk (alloc_under (alloc_top (w := w) rfl)) (fun x => x.elim)
  have hC := hx1.blk (n := w.heap.size + 1) (alloc_top (by simp)) (fun x => x.elim)
  have hx := (((Ext.refl No w).alloc _).alloc _).transNo hx1
  have cB := cellOf hB
  clear hx1
  go_wp2_with (first | (go_at_call 31; refine (between_any _ _ _ _).mono ?_; rintro e' w1 ⟨rfl, rfl⟩) | (go_at_call 32; refine (find_any _ _ _ _ (HV.out.extNo hx)).mono ?_; rintro e2 w2 ⟨rfl, hx2⟩; replace hB := hx2.blk hB (fun x => x.elim); replace hC := hx2.blk hC (fun x => x.elim); replace hx := hx.transNo hx2; have cB := cellOf hB; have cC := cellOf hC; have fB := freeOf hB; have fC := freeOf hC; clear hx2))
  go_quiet (fail)
  have hB5 := alloc_under (w := w2.drewN nq) (o := .cells #[.int .i64 id, .int .i64 p, .int .i64 0, .int .i64 0] 53) hB
  have hC5 := alloc_under (w := w2.drewN nq) (o := .cells #[.int .i64 id, .int .i64 p, .int .i64 0, .int .i64 0] 53) hC
  have hx5 := ((hx.drewN nq).alloc (.cells #[.int .i64 id, .int .i64 p, .int .i64 0, .int .i64 0] 53))
  have hsz5 := lt_of_block hC
  clear cB cC fB fC
  go_wp2_with (first | (at_builtin; refine wpList_app_full _ rfl (.tmp 63) (.tmp 67) 23 rfl 53 i0 _ 4 32 Try.underlying23 hi hz0 hz1 hz2 rfl (by omega) M (some ⟨b, off, none⟩) seats.length (flatS seats) rfl (by have := (Row.take HS.out (Nat.le_refl _)).extNo hx5; rwa [List.take_of_length_le (by rw [flatS_len]; omega)] at this) No (some ⟨w2.heap.size, 0, none⟩) 1 1 (Seat.cells ⟨id, p, 0, 0⟩) rfl (Row.block (alloc_top (by simp)) rfl (fun x => x.elim) (by omega)) (by simp [Seat.cells, Value.oneCell']) (by omega) (by omega) (by omega) ?_; intro v3 w3 hown3 hg3; have hB6 := blk_grown hB5 hg3 (fun k hk => by cases hk); have hC6 := blk_grown hC5 hg3 (fun k hk => by cases hk); have hx6 := hx5.grown hg3 (fun k hk => by cases hk); have hs3 := hg3.size; clear hg3) | (at_builtin; refine wpList_app _ rfl (.tmp 68) (.tmp 69) 23 rfl _ 53 i0 _ 4 32 Try.underlying23 hi hz0 hz1 hz2 rfl (by omega) v3 (seats.length + 1) _ rfl hown3 M (some ⟨b, off, none⟩) 0 0 [] rfl (Row.nil _ _ _ _ _ (by omega)) (by simp) (by omega) (by omega) (by exact hs3) ?_; intro v4 w4 hown4 hg4 hat4; have hlt4 := hown3.lt; have hB7 := blk_grown hB6 hg4 (fun k hk => Nat.lt_of_lt_of_le (by simp; omega) (hlt4 k hk).1); have hC7 := blk_grown hC6 hg4 (fun k hk => Nat.lt_of_lt_of_le (by simp; omega) (hlt4 k hk).1); have hx7 := hx6.grown hg4 (fun k hk hlt => absurd hlt (Nat.not_lt.2 (Nat.le_trans (by simp; omega) (hlt4 k hk).1))); have cB7 := cellOf hB7; have cC7 := cellOf hC7; have fB7 := freeOf hB7; have fC7 := freeOf hC7; obtain ⟨a4, c4, rfl⟩ := (Row.ofOwns (M := No) hown4 (fun _ _ x => x)).slice; clear hg4 hat4 hlt4 hown3))
  refine ret_ex rfl ?_
  simp [results, Try.results19, go_sem, cC7]
  have hf : flatS (seats ++ [⟨id, p, 0, 0⟩]) = flatS seats ++ Seat.cells ⟨id, p, 0, 0⟩ ++ [] := by
    rw [flatS_app, List.append_nil]; rfl
  have hl : (seats ++ [(⟨id, p, 0, 0⟩ : Seat)]).length = seats.length + 1 + 0 := by
    simp only [List.length_append, List.length_cons, List.length_nil]
  refine AddPost.mk HA.out rfl ⟨_, rfl, ?_⟩ ?_
  · show Row M _ 4 _ (seats ++ [(⟨id, p, 0, 0⟩ : Seat)]).length (flatS (seats ++ [⟨id, p, 0, 0⟩]))
    rw [hf, hl]
    refine Row.fin (w := w) hown4 (by simp; omega) hM ?_
    repeat (first | (with_reducible exact Ext.refl _ _) | ((with_reducible refine Ext.setCell ?_ ?_ _); rotate_left; (intro _; unfold Lo; simp; omega)))
  · repeat (first | (with_reducible assumption) | ((with_reducible refine Ext.own ?_ ?_ _); rotate_left; first | exact Nat.le_refl _ | exact Nat.le_succ _))

set_option maxRecDepth 100000 in
set_option maxHeartbeats 2000000 in
theorem add_l2 (M : Nat → Prop) (base per : Int) (seats : List Seat) (a : Option Addr) (cap : Nat) (id p : Int) (w : World) (hM : ∀ b, M b → b < w.heap.size)
    (HS : Hid (Seats M w (.slice a seats.length cap) seats))
    (h1 : ringOk ⟨base, per, seats, 0, false⟩ = true) (h2 : betB id 0 1073741824 = true) (h3 : betB p 0 3 = true) (h4 : findZ seats id < 0) (h5 : seats.length < 16) (h7 : 0 < seats.length) (h8 : ¬ cap = seats.length) :
    Calls Try.prog 19 #[.agg #[.int .i64 base, .int .i64 per, .slice a seats.length cap, .int .i64 0, .bool false], .int .i64 id, .int .i64 p] w (AddPost M ⟨base, per, seats, 0, false⟩ id p w) := by
  obtain ⟨i0, hi, hz0, hz1, hz2⟩ := info_parts infoSeat
  have HV : Hid (RingV No w (.agg #[.int .i64 base, .int .i64 per, .slice a seats.length cap, .int .i64 0, .bool false]) ⟨base, per, seats, 0, false⟩) := Lib.hid (RingV.toNo ⟨_, rfl, HS.out⟩)
  have hcap := Row.caps HS.out
  have g5 : ((seats.length : Int) == 16) = false := beq_eq_false_iff_ne.2 (by omega)
  have gc : (0 : Int) ≤ (seats.length : Int) := by omega
  have gd : (seats.length : Int) ≤ (cap : Int) := by omega
  obtain ⟨b, off, cap', hsl, hb, hMb, _⟩ := Row.shape HS.out (show 0 < seats.length by omega)
  simp only [Value.slice.injEq] at hsl
  obtain ⟨rfl, _, rfl⟩ := hsl
  have h8' : ¬ seats.length = cap := fun h => h8 h.symm
  have H1 := Lib.hid h1
  have HA := Lib.hid ((addE0 h1 (by rw [h2, h3]; rfl) (by simp only; omega) (by simp only; omega) : ringAdd ⟨base, per, seats, 0, false⟩ id p = _).trans (congrArg (fun x => (x, (0 : Int))) (added_lo (by simp))))
  clear h1
  go_enter Try.func19, Try.ntmps19
  go_wp2_with fail
  refine (valid_any _ _ _ (HV.out.extNo (((Ext.refl _ _).alloc _).alloc _))).mono ?_
  rintro e1 w1 ⟨rfl, hx1⟩
  rw [H1.out]
  have hB := hx1.blk (alloc_under (alloc_top (w := w) rfl)) (fun x => x.elim)
  have hC := hx1.blk (n := w.heap.size + 1) (alloc_top (by simp)) (fun x => x.elim)
  have hx := (((Ext.refl No w).alloc _).alloc _).transNo hx1
  have cB := cellOf hB
  clear hx1
  go_wp2_with (first | (go_at_call 31; refine (between_any _ _ _ _).mono ?_; rintro e' w1 ⟨rfl, rfl⟩) | (go_at_call 32; refine (find_any _ _ _ _ (HV.out.extNo hx)).mono ?_; rintro e2 w2 ⟨rfl, hx2⟩; replace hB := hx2.blk hB (fun x => x.elim); replace hC := hx2.blk hC (fun x => x.elim); replace hx := hx.transNo hx2; have cB := cellOf hB; have cC := cellOf hC; have fB := freeOf hB; have fC := freeOf hC; clear hx2))
  go_quiet (fail)
  have hB5 := alloc_under (w := w2.drewN nq) (o := .cells #[.int .i64 id, .int .i64 p, .int .i64 0, .int .i64 0] 53) hB
  have hC5 := alloc_under (w := w2.drewN nq) (o := .cells #[.int .i64 id, .int .i64 p, .int .i64 0, .int .i64 0] 53) hC
  have hx5 := ((hx.drewN nq).alloc (.cells #[.int .i64 id, .int .i64 p, .int .i64 0, .int .i64 0] 53))
  have hsz5 := lt_of_block hC
  clear cB cC fB fC
  go_wp2_with (first | (at_builtin; refine wpList_app_full _ rfl (.tmp 63) (.tmp 67) 23 rfl 53 i0 _ 4 32 Try.underlying23 hi hz0 hz1 hz2 rfl (by omega) M (some ⟨b, off, none⟩) seats.length (flatS seats) rfl (by have := (Row.take HS.out (Nat.le_refl _)).extNo hx5; rwa [List.take_of_length_le (by rw [flatS_len]; omega)] at this) No (some ⟨w2.heap.size, 0, none⟩) 1 1 (Seat.cells ⟨id, p, 0, 0⟩) rfl (Row.block (alloc_top (by simp)) rfl (fun x => x.elim) (by omega)) (by simp [Seat.cells, Value.oneCell']) (by omega) (by omega) (by omega) ?_; intro v3 w3 hown3 hg3; have hB6 := blk_grown hB5 hg3 (fun k hk => by cases hk); have hC6 := blk_grown hC5 hg3 (fun k hk => by cases hk); have hx6 := hx5.grown hg3 (fun k hk => by cases hk); have hs3 := hg3.size; clear hg3) | (at_builtin; refine wpList_app _ rfl (.tmp 68) (.tmp 69) 23 rfl _ 53 i0 _ 4 32 Try.underlying23 hi hz0 hz1 hz2 rfl (by omega) v3 (seats.length + 1) _ rfl hown3 M (some ⟨b, off + seats.length * 4, none⟩) 0 (cap - seats.length) [] rfl (Row.nil _ _ _ _ _ (by omega)) (by simp) (by omega) (by omega) (by exact hs3) ?_; intro v4 w4 hown4 hg4 hat4; have hlt4 := hown3.lt; have hB7 := blk_grown hB6 hg4 (fun k hk => Nat.lt_of_lt_of_le (by simp; omega) (hlt4 k hk).1); have hC7 := blk_grown hC6 hg4 (fun k hk => Nat.lt_of_lt_of_le (by simp; omega) (hlt4 k hk).1); have hx7 := hx6.grown hg4 (fun k hk hlt => absurd hlt (Nat.not_lt.2 (Nat.le_trans (by simp; omega) (hlt4 k hk).1))); have cB7 := cellOf hB7; have cC7 := cellOf hC7; have fB7 := freeOf hB7; have fC7 := freeOf hC7; obtain ⟨a4, c4, rfl⟩ := (Row.ofOwns (M := No) hown4 (fun _ _ x => x)).slice; clear hg4 hat4 hlt4 hown3))
  refine ret_ex rfl ?_
  simp [results, Try.results19, go_sem, cC7]
  have hf : flatS (seats ++ [⟨id, p, 0, 0⟩]) = flatS seats ++ Seat.cells ⟨id, p, 0, 0⟩ ++ [] := by
    rw [flatS_app, List.append_nil]; rfl
  have hl : (seats ++ [(⟨id, p, 0, 0⟩ : Seat)]).length = seats.length + 1 + 0 := by
    simp only [List.length_append, List.length_cons, List.length_nil]
  refine AddPost.mk HA.out rfl ⟨_, rfl, ?_⟩ ?_
  · show Row M _ 4 _ (seats ++ [(⟨id, p, 0, 0⟩ : Seat)]).length (flatS (seats ++ [⟨id, p, 0, 0⟩]))
    rw [hf, hl]
    refine Row.fin (w := w) hown4 (by simp; omega) hM ?_
    repeat (first | (with_reducible exact Ext.refl _ _) | ((with_reducible refine Ext.setCell ?_ ?_ _); rotate_left; (intro _; unfold Lo; simp; omega)))
  · repeat (first | (with_reducible assumption) | ((with_reducible refine Ext.own ?_ ?_ _); rotate_left; first | exact Nat.le_refl _ | exact Nat.le_succ _))

set_option maxRecDepth 100000 in
set_option maxHeartbeats 2000000 in
theorem add_l3 (M : Nat → Prop) (base per : Int) (cap : Nat) (id p : Int) (w : World) (hM : ∀ b, M b → b < w.heap.size)
    (HS : Hid (Seats M w (.slice none 0 cap) []))
    (h1 : ringOk ⟨base, per, [], 0, false⟩ = true) (h2 : betB id 0 1073741824 = true) (h3 : betB p 0 3 = true) (h4 : findZ [] id < 0)  :
    Calls Try.prog 19 #[.agg #[.int .i64 base, .int .i64 per, .slice none 0 cap, .int .i64 0, .bool false], .int .i64 id, .int .i64 p] w (AddPost M ⟨base, per, [], 0, false⟩ id p w) := by
  obtain ⟨i0, hi, hz0, hz1, hz2⟩ := info_parts infoSeat
  have HV : Hid (RingV No w (.agg #[.int .i64 base, .int .i64 per, .slice none 0 cap, .int .i64 0, .bool false]) ⟨base, per, [], 0, false⟩) := Lib.hid (RingV.toNo ⟨_, rfl, HS.out⟩)
  have hcap := Row.caps HS.out
  have g5 : ((0 : Int) == 16) = false := beq_eq_false_iff_ne.2 (by omega)
  have gc : (0 : Int) ≤ (0 : Int) := by omega
  have gd : (0 : Int) ≤ (cap : Int) := by omega
  have H1 := Lib.hid h1
  have HA := Lib.hid ((addE0 h1 (by rw [h2, h3]; rfl) (by simp only; omega) (by simp) : ringAdd ⟨base, per, [], 0, false⟩ id p = _).trans (congrArg (fun x => (x, (0 : Int))) (added_lo (by simp))))
  clear h1
  go_enter Try.func19, Try.ntmps19
  go_wp2_with fail
  refine (valid_any _ _ _ (HV.out.extNo (((Ext.refl _ _).alloc _).alloc _))).mono ?_
  rintro e1 w1 ⟨rfl, hx1⟩
  rw [H1.out]
  have hB := hx1.blk (alloc_under (alloc_top (w := w) rfl)) (fun x => x.elim)
  have hC := hx1.blk (n := w.heap.size + 1) (alloc_top (by simp)) (fun x => x.elim)
  have hx := (((Ext.refl No w).alloc _).alloc _).transNo hx1
  have cB := cellOf hB
  clear hx1
  go_wp2_with (first | (go_at_call 31; refine (between_any _ _ _ _).mono ?_; rintro e' w1 ⟨rfl, rfl⟩) | (go_at_call 32; refine (find_any _ _ _ _ (HV.out.extNo hx)).mono ?_; rintro e2 w2 ⟨rfl, hx2⟩; replace hB := hx2.blk hB (fun x => x.elim); replace hC := hx2.blk hC (fun x => x.elim); replace hx := hx.transNo hx2; have cB := cellOf hB; have cC := cellOf hC; have fB := freeOf hB; have fC := freeOf hC; clear hx2))
  go_quiet (fail)
  have hB5 := alloc_under (w := w2.drewN nq) (o := .cells #[.int .i64 id, .int .i64 p, .int .i64 0, .int .i64 0] 53) hB
  have hC5 := alloc_under (w := w2.drewN nq) (o := .cells #[.int .i64 id, .int .i64 p, .int .i64 0, .int .i64 0] 53) hC
  have hx5 := ((hx.drewN nq).alloc (.cells #[.int .i64 id, .int .i64 p, .int .i64 0, .int .i64 0] 53))
  have hsz5 := lt_of_block hC
  clear cB cC fB fC
  go_wp2_with (first | (at_builtin; refine wpList_app_full _ rfl (.tmp 63) (.tmp 67) 23 rfl 53 i0 _ 4 32 Try.underlying23 hi hz0 hz1 hz2 rfl (by omega) M none 0 (flatS []) rfl (Row.nil M _ 4 _ 0 (by omega)) No (some ⟨w2.heap.size, 0, none⟩) 1 1 (Seat.cells ⟨id, p, 0, 0⟩) rfl (Row.block (alloc_top (by simp)) rfl (fun x => x.elim) (by omega)) (by simp [Seat.cells, Value.oneCell']) (by omega) (by omega) (by omega) ?_; intro v3 w3 hown3 hg3; have hB6 := blk_grown hB5 hg3 (fun k hk => by cases hk); have hC6 := blk_grown hC5 hg3 (fun k hk => by cases hk); have hx6 := hx5.grown hg3 (fun k hk => by cases hk); have hs3 := hg3.size; clear hg3) | (at_builtin; refine wpList_app _ rfl (.tmp 68) (.tmp 69) 23 rfl _ 53 i0 _ 4 32 Try.underlying23 hi hz0 hz1 hz2 rfl (by omega) v3 (0 + 1) _ rfl hown3 M none 0 cap [] rfl (Row.nil _ _ _ _ _ (by omega)) (by simp) (by omega) (by omega) (by exact hs3) ?_; intro v4 w4 hown4 hg4 hat4; have hlt4 := hown3.lt; have hB7 := blk_grown hB6 hg4 (fun k hk => Nat.lt_of_lt_of_le (by simp; omega) (hlt4 k hk).1); have hC7 := blk_grown hC6 hg4 (fun k hk => Nat.lt_of_lt_of_le (by simp; omega) (hlt4 k hk).1); have hx7 := hx6.grown hg4 (fun k hk hlt => absurd hlt (Nat.not_lt.2 (Nat.le_trans (by simp; omega) (hlt4 k hk).1))); have cB7 := cellOf hB7; have cC7 := cellOf hC7; have fB7 := freeOf hB7; have fC7 := freeOf hC7; obtain ⟨a4, c4, rfl⟩ := (Row.ofOwns (M := No) hown4 (fun _ _ x => x)).slice; clear hg4 hat4 hlt4 hown3))
  refine ret_ex rfl ?_
  simp [results, Try.results19, go_sem, cC7]
  have hf : flatS (([] : List Seat) ++ [⟨id, p, 0, 0⟩]) = flatS [] ++ Seat.cells ⟨id, p, 0, 0⟩ ++ [] := by
    rw [flatS_app, List.append_nil]; rfl
  have hl : (([] : List Seat) ++ [(⟨id, p, 0, 0⟩ : Seat)]).length = 0 + 1 + 0 := by
    simp only [List.length_append, List.length_cons, List.length_nil]
  refine AddPost.mk HA.out rfl ⟨_, rfl, ?_⟩ ?_
  · show Row M _ 4 _ (([] : List Seat) ++ [(⟨id, p, 0, 0⟩ : Seat)]).length (flatS (([] : List Seat) ++ [⟨id, p, 0, 0⟩]))
    rw [hf, hl]
    refine Row.fin (w := w) hown4 (by simp; omega) hM ?_
    repeat (first | (with_reducible exact Ext.refl _ _) | ((with_reducible refine Ext.setCell ?_ ?_ _); rotate_left; (intro _; unfold Lo; simp; omega)))
  · repeat (first | (with_reducible assumption) | ((with_reducible refine Ext.own ?_ ?_ _); rotate_left; first | exact Nat.le_refl _ | exact Nat.le_succ _))

set_option maxRecDepth 100000 in
set_option maxHeartbeats 2000000 in
theorem add_l4 (M : Nat → Prop) (base per : Int) (ad : Addr) (cap : Nat) (id p : Int) (w : World) (hM : ∀ b, M b → b < w.heap.size)
    (HS : Hid (Seats M w (.slice (some ad) 0 cap) []))
    (h1 : ringOk ⟨base, per, [], 0, false⟩ = true) (h2 : betB id 0 1073741824 = true) (h3 : betB p 0 3 = true) (h4 : findZ [] id < 0)  :
    Calls Try.prog 19 #[.agg #[.int .i64 base, .int .i64 per, .slice (some ad) 0 cap, .int .i64 0, .bool false], .int .i64 id, .int .i64 p] w (AddPost M ⟨base, per, [], 0, false⟩ id p w) := by
  obtain ⟨i0, hi, hz0, hz1, hz2⟩ := info_parts infoSeat
  have HV : Hid (RingV No w (.agg #[.int .i64 base, .int .i64 per, .slice (some ad) 0 cap, .int .i64 0, .bool false]) ⟨base, per, [], 0, false⟩) := Lib.hid (RingV.toNo ⟨_, rfl, HS.out⟩)
  have hcap := Row.caps HS.out
  have g5 : ((0 : Int) == 16) = false := beq_eq_false_iff_ne.2 (by omega)
  have gc : (0 : Int) ≤ (0 : Int) := by omega
  have gd : (0 : Int) ≤ (cap : Int) := by omega
  have H1 := Lib.hid h1
  have HA := Lib.hid ((addE0 h1 (by rw [h2, h3]; rfl) (by simp only; omega) (by simp) : ringAdd ⟨base, per, [], 0, false⟩ id p = _).trans (congrArg (fun x => (x, (0 : Int))) (added_lo (by simp))))
  clear h1
  go_enter Try.func19, Try.ntmps19
  go_wp2_with fail
  refine (valid_any _ _ _ (HV.out.extNo (((Ext.refl _ _).alloc _).alloc _))).mono ?_
  rintro e1 w1 ⟨rfl, hx1⟩
  rw [H1.out]
  have hB := hx1.blk (alloc_under (alloc_top (w := w) rfl)) (fun x => x.elim)
  have hC := hx1.blk (n := w.heap.size + 1) (alloc_top (by simp)) (fun x => x.elim)
  have hx := (((Ext.refl No w).alloc _).alloc _).transNo hx1
  have cB := cellOf hB
  clear hx1
  go_wp2_with (first | (go_at_call 31; refine (between_any _ _ _ _).mono ?_; rintro e' w1 ⟨rfl, rfl⟩) | (go_at_call 32; refine (find_any _ _ _ _ (HV.out.extNo hx)).mono ?_; rintro e2 w2 ⟨rfl, hx2⟩; replace hB := hx2.blk hB (fun x => x.elim); replace hC := hx2.blk hC (fun x => x.elim); replace hx := hx.transNo hx2; have cB := cellOf hB; have cC := cellOf hC; have fB := freeOf hB; have fC := freeOf hC; clear hx2))
  go_quiet (fail)
  have hB5 := alloc_under (w := w2.drewN nq) (o := .cells #[.int .i64 id, .int .i64 p, .int .i64 0, .int .i64 0] 53) hB
  have hC5 := alloc_under (w := w2.drewN nq) (o := .cells #[.int .i64 id, .int .i64 p, .int .i64 0, .int .i64 0] 53) hC
  have hx5 := ((hx.drewN nq).alloc (.cells #[.int .i64 id, .int .i64 p, .int .i64 0, .int .i64 0] 53))
  have hsz5 := lt_of_block hC
  clear cB cC fB fC
  go_wp2_with (first | (at_builtin; refine wpList_app_full _ rfl (.tmp 63) (.tmp 67) 23 rfl 53 i0 _ 4 32 Try.underlying23 hi hz0 hz1 hz2 rfl (by omega) M (some ad) 0 (flatS []) rfl (Row.nil M _ 4 _ 0 (by omega)) No (some ⟨w2.heap.size, 0, none⟩) 1 1 (Seat.cells ⟨id, p, 0, 0⟩) rfl (Row.block (alloc_top (by simp)) rfl (fun x => x.elim) (by omega)) (by simp [Seat.cells, Value.oneCell']) (by omega) (by omega) (by omega) ?_; intro v3 w3 hown3 hg3; have hB6 := blk_grown hB5 hg3 (fun k hk => by cases hk); have hC6 := blk_grown hC5 hg3 (fun k hk => by cases hk); have hx6 := hx5.grown hg3 (fun k hk => by cases hk); have hs3 := hg3.size; clear hg3) | (at_builtin; refine wpList_app _ rfl (.tmp 68) (.tmp 69) 23 rfl _ 53 i0 _ 4 32 Try.underlying23 hi hz0 hz1 hz2 rfl (by omega) v3 (0 + 1) _ rfl hown3 M (some ad) 0 cap [] rfl (Row.nil _ _ _ _ _ (by omega)) (by simp) (by omega) (by omega) (by exact hs3) ?_; intro v4 w4 hown4 hg4 hat4; have hlt4 := hown3.lt; have hB7 := blk_grown hB6 hg4 (fun k hk => Nat.lt_of_lt_of_le (by simp; omega) (hlt4 k hk).1); have hC7 := blk_grown hC6 hg4 (fun k hk => Nat.lt_of_lt_of_le (by simp; omega) (hlt4 k hk).1); have hx7 := hx6.grown hg4 (fun k hk hlt => absurd hlt (Nat.not_lt.2 (Nat.le_trans (by simp; omega) (hlt4 k hk).1))); have cB7 := cellOf hB7; have cC7 := cellOf hC7; have fB7 := freeOf hB7; have fC7 := freeOf hC7; obtain ⟨a4, c4, rfl⟩ := (Row.ofOwns (M := No) hown4 (fun _ _ x => x)).slice; clear hg4 hat4 hlt4 hown3))
  refine ret_ex rfl ?_
  simp [results, Try.results19, go_sem, cC7]
  have hf : flatS (([] : List Seat) ++ [⟨id, p, 0, 0⟩]) = flatS [] ++ Seat.cells ⟨id, p, 0, 0⟩ ++ [] := by
    rw [flatS_app, List.append_nil]; rfl
  have hl : (([] : List Seat) ++ [(⟨id, p, 0, 0⟩ : Seat)]).length = 0 + 1 + 0 := by
    simp only [List.length_append, List.length_cons, List.length_nil]
  refine AddPost.mk HA.out rfl ⟨_, rfl, ?_⟩ ?_
  · show Row M _ 4 _ (([] : List Seat) ++ [(⟨id, p, 0, 0⟩ : Seat)]).length (flatS (([] : List Seat) ++ [⟨id, p, 0, 0⟩]))
    rw [hf, hl]
    refine Row.fin (w := w) hown4 (by simp; omega) hM ?_
    repeat (first | (with_reducible exact Ext.refl _ _) | ((with_reducible refine Ext.setCell ?_ ?_ _); rotate_left; (intro _; unfold Lo; simp; omega)))
  · repeat (first | (with_reducible assumption) | ((with_reducible refine Ext.own ?_ ?_ _); rotate_left; first | exact Nat.le_refl _ | exact Nat.le_succ _))

theorem ringAdd_any (M : Nat → Prop) (v : Value) (r : Ring) (id p : Int) (w : World) (hM : ∀ b, M b → b < w.heap.size) (h : RingV M w v r) :
    Calls Try.prog 19 #[v, .int .i64 id, .int .i64 p] w (AddPost M r id p w) := by
  by_cases h1 : ringOk r = true
  · by_cases h2 : (betB id 0 1073741824 && betB p 0 3) = true
    · by_cases h4 : 0 ≤ findZ r.seats id
      · exact add_no M v r id p w h (.inr (.inr (.inl h4)))
      · by_cases h5 : r.seats.length = 16
        · exact add_no M v r id p w h (.inr (.inr (.inr h5)))
        · obtain ⟨h6, h7, h8⟩ := ok_len h1
          obtain ⟨g2, g3⟩ : betB id 0 1073741824 = true ∧ betB p 0 3 = true := by simpa using h2
          obtain ⟨base, per, seats, cur, opn⟩ := r
          simp only at h4 h5 h6 h7 h8
          obtain ⟨c, rfl⟩ := Int.eq_ofNat_of_zero_le h7
          rcases Nat.eq_zero_or_pos c with hc | hc
          · subst hc
            cases opn with
            | true => exact add_z M v base per seats id p w hM h h1 g2 g3 (by omega) (by omega) (by rcases h8 with h8 | ⟨_, _, h8⟩; omega; exact absurd h8 (by simp))
            | false =>
              obtain ⟨sl, rfl, hs⟩ := h
              obtain ⟨a, cap, rfl⟩ := Row.slice hs
              rcases Nat.eq_zero_or_pos seats.length with h0 | h0
              · obtain rfl := List.eq_nil_of_length_eq_zero h0
                cases a with
                | none => exact add_l3 M base per cap id p w hM hs h1 g2 g3 (by omega)
                | some ad => exact add_l4 M base per ad cap id p w hM hs h1 g2 g3 (by omega)
              · by_cases hcap : cap = seats.length
                · exact add_l1 M base per seats a cap id p w hM hs h1 g2 g3 (by omega) (by omega) h0 hcap
                · exact add_l2 M base per seats a cap id p w hM hs h1 g2 g3 (by omega) (by omega) h0 hcap
          · exact add_hi M v base per seats c opn id p w hM h h1 g2 g3 (by omega) (by omega) hc (by omega)
    · exact add_no M v r id p w h (.inr (.inl (by simpa using h2)))
  · exact add_no M v r id p w h (.inl (by simpa using h1))
end Go.Proofs.Ytckeidboolfcoaa

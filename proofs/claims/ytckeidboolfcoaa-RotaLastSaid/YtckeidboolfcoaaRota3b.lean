/- rota: Add, the ways that add. -/
import Derived.Test.YtckeidboolfcoaaRota3
namespace Go.Proofs.Ytckeidboolfcoaa
open Go Go.RowKit

set_option maxRecDepth 100000 in
set_option maxHeartbeats 2000000 in
theorem add_hi (M : Nat → Prop) (v : Value) (base per : Int) (seats : List Seat) (c : Nat) (opn : Bool) (id p : Int) (w : World) (hM : ∀ b, M b → b < w.heap.size) (h : RingV M w v ⟨base, per, seats, c, opn⟩)
    (h1 : ringOk ⟨base, per, seats, c, opn⟩ = true) (h2 : betB id 0 1073741824 = true) (h3 : betB p 0 3 = true) (h4 : findZ seats id < 0) (h5 : seats.length < 16) (h6 : 0 < c) (h7 : c < seats.length) :
    Calls Try.prog 19 #[v, .int .i64 id, .int .i64 p] w (AddPost M ⟨base, per, seats, c, opn⟩ id p w) := by
  obtain ⟨i0, hi, hz0, hz1, hz2⟩ := info_parts infoSeat
  have HV := Lib.hid h.toNo
  obtain ⟨sl, rfl, hs⟩ := h
  have HS := Lib.hid hs
  obtain ⟨b, off, cap, rfl, hb, hMb, _⟩ := Row.shape hs (show 0 < seats.length by omega)
  have hcap := Row.caps hs
  simp only at hcap
  clear hs
  have g5 : ((seats.length : Int) == 16) = false := beq_eq_false_iff_ne.2 (by omega)
  have gc : (0 : Int) ≤ (c : Int) := by omega
  have gd : (c : Int) ≤ (cap : Int) := by omega
  have ge : c ≤ cap := by omega
  have gn : ¬ cap = c := by omega
  have h6' : 0 < (c : Int) := by omega
  have H1 := Lib.hid h1
  have HA := Lib.hid ((addE0 h1 (by rw [h2, h3]; rfl) (by simp only; omega) (by simp only; omega) : ringAdd ⟨base, per, seats, c, opn⟩ id p = _).trans (congrArg (fun x => (x, (0 : Int))) (added_hi (by simp only; exact .inl (by omega)))))
  clear h1
  go_enter Try.func19, Try.ntmps19
  go_wp2_with fail
  refine (valid_any _ _ _ (HV.out.extNo (((Ext.refl _ _).alloc _).alloc _))).mono ?_
  rintro e1 w1 ⟨rfl, hx1⟩
  rw [H1.out]
  have hB := hx1.blk (alloc_under (alloc_top (w := w) rfl)) (fun x => x.elim)
  have hC := hx1.blk (n := w.heap.size + 1) (alloc_top (by simp)) (fun x => x.elim)
  have hx := (((Ext.refl No w).alloc _).alloc _).transNo hx1
  have cB := cellOf hB
  clear hx1
  go_wp2_with (first | (go_at_call 31; refine (between_any _ _ _ _).mono ?_; rintro e' w1 ⟨rfl, rfl⟩) | (go_at_call 32; refine (find_any _ _ _ _ (HV.out.extNo hx)).mono ?_; rintro e2 w2 ⟨rfl, hx2⟩; replace hB := hx2.blk hB (fun x => x.elim); replace hC := hx2.blk hC (fun x => x.elim); replace hx := hx.transNo hx2; have cB := cellOf hB; have cC := cellOf hC; have fB := freeOf hB; have fC := freeOf hC; clear hx2))
  go_quiet (fail)
  have hB5 := alloc_under (w := (w2.setCell ⟨w.heap.size, 3, none⟩ (.int .i64 ((c : Int) + 1))).drewN nq) (o := .cells #[.int .i64 id, .int .i64 p, .int .i64 0, .int .i64 0] 53) (set_same (j := 3) (u := .int .i64 ((c : Int) + 1)) hB)
  have hC5 := alloc_under (w := (w2.setCell ⟨w.heap.size, 3, none⟩ (.int .i64 ((c : Int) + 1))).drewN nq) (o := .cells #[.int .i64 id, .int .i64 p, .int .i64 0, .int .i64 0] 53) (set_other (a := ⟨w.heap.size, 3, none⟩) (u := .int .i64 ((c : Int) + 1)) hC (by simp))
  have hx5 := (((hx.own (p := ⟨w.heap.size, 3, none⟩) (Nat.le_refl _) (.int .i64 ((c : Int) + 1))).drewN nq).alloc (.cells #[.int .i64 id, .int .i64 p, .int .i64 0, .int .i64 0] 53))
  have hsz5 := lt_of_block hC
  clear cB cC fB fC
  go_wp2_with (first | (at_builtin; refine wpList_app_full _ rfl (.tmp 63) (.tmp 67) 23 rfl 53 i0 _ 4 32 Try.underlying23 hi hz0 hz1 hz2 rfl (by omega) M (some ⟨b, off, none⟩) c ((flatS seats).take (c * 4)) rfl ((HS.out.take (Nat.le_of_lt h7)).extNo hx5) No (some ⟨w2.heap.size, 0, none⟩) 1 1 (Seat.cells ⟨id, p, 0, 0⟩) rfl (Row.block (alloc_top (by simp)) rfl (fun x => x.elim) (by omega)) (by simp [Seat.cells, Value.oneCell']) (by omega) (by omega) (by omega) ?_; intro v3 w3 hown3 hg3; have hB6 := blk_grown hB5 hg3 (fun k hk => by cases hk); have hC6 := blk_grown hC5 hg3 (fun k hk => by cases hk); have hx6 := hx5.grown hg3 (fun k hk => by cases hk); have hs3 := hg3.size; clear hg3) | (at_builtin; refine wpList_app _ rfl (.tmp 68) (.tmp 69) 23 rfl _ 53 i0 _ 4 32 Try.underlying23 hi hz0 hz1 hz2 rfl (by omega) v3 (c + 1) _ rfl hown3 M (some ⟨b, off + c * 4, none⟩) (seats.length - c) (cap - c) ((flatS seats).drop (c * 4)) rfl ((HS.out.drop (Nat.le_of_lt h7)).extNo hx6) (fun u hu => flatS_one seats u (List.mem_of_mem_drop hu)) (by omega) (by omega) (by exact hs3) ?_; intro v4 w4 hown4 hg4 hat4; go_loud (have hlt4 := hown3.lt; have hB7 := blk_grown hB6 hg4 (fun k hk => Nat.lt_of_lt_of_le (by simp; omega) (hlt4 k hk).1); have hC7 := blk_grown hC6 hg4 (fun k hk => Nat.lt_of_lt_of_le (by simp; omega) (hlt4 k hk).1); have hx7 := hx6.grown hg4 (fun k hk hlt => absurd hlt (Nat.not_lt.2 (Nat.le_trans (by simp; omega) (hlt4 k hk).1))); have cB7 := cellOf hB7; have cC7 := cellOf hC7; have fB7 := freeOf hB7; have fC7 := freeOf hC7; obtain ⟨a4, c4, rfl⟩ := (Row.ofOwns (M := No) hown4 (fun _ _ x => x)).slice; clear hg4 hat4 hlt4 hown3)))
  refine ret_ex rfl ?_
  simp [results, Try.results19, go_sem, cC7]
  have hf : flatS (seats.take c ++ [⟨id, p, 0, 0⟩] ++ seats.drop c) = ((flatS seats).take (c * 4)) ++ Seat.cells ⟨id, p, 0, 0⟩ ++ ((flatS seats).drop (c * 4)) := by
    rw [flatS_app, flatS_app, flatS_take, flatS_drop]; rfl
  have hl : (seats.take c ++ [(⟨id, p, 0, 0⟩ : Seat)] ++ seats.drop c).length = (c + 1) + (seats.length - c) := by
    simp only [List.length_append, List.length_take, List.length_drop, List.length_cons, List.length_nil]
    omega
  refine AddPost.mk HA.out rfl ⟨_, rfl, ?_⟩ ?_
  · show Row M _ 4 _ (seats.take c ++ [(⟨id, p, 0, 0⟩ : Seat)] ++ seats.drop c).length (flatS (seats.take c ++ [⟨id, p, 0, 0⟩] ++ seats.drop c))
    rw [hf, hl]
    refine Row.fin (w := w) hown4 (by simp; omega) hM ?_
    repeat (first | (with_reducible exact Ext.refl _ _) | ((with_reducible refine Ext.setCell ?_ ?_ _); rotate_left; (intro _; unfold Lo; simp; omega)))
  · repeat (first | (with_reducible assumption) | ((with_reducible refine Ext.own ?_ ?_ _); rotate_left; first | exact Nat.le_refl _ | exact Nat.le_succ _))

set_option maxRecDepth 100000 in
set_option maxHeartbeats 2000000 in
theorem add_z (M : Nat → Prop) (v : Value) (base per : Int) (seats : List Seat) (id p : Int) (w : World) (hM : ∀ b, M b → b < w.heap.size) (h : RingV M w v ⟨base, per, seats, 0, true⟩)
    (h1 : ringOk ⟨base, per, seats, 0, true⟩ = true) (h2 : betB id 0 1073741824 = true) (h3 : betB p 0 3 = true) (h4 : findZ seats id < 0) (h5 : seats.length < 16) (h7 : 0 < seats.length) :
    Calls Try.prog 19 #[v, .int .i64 id, .int .i64 p] w (AddPost M ⟨base, per, seats, 0, true⟩ id p w) := by
  obtain ⟨i0, hi, hz0, hz1, hz2⟩ := info_parts infoSeat
  have HV := Lib.hid h.toNo
  obtain ⟨sl, rfl, hs⟩ := h
  have HS := Lib.hid hs
  obtain ⟨b, off, cap, rfl, hb, hMb, _⟩ := Row.shape hs (show 0 < seats.length by omega)
  have hcap := Row.caps hs
  simp only at hcap
  clear hs
  have g5 : ((seats.length : Int) == 16) = false := beq_eq_false_iff_ne.2 (by omega)
  have gd : (0 : Int) ≤ (cap : Int) := by omega
  have gn : ¬ cap = 0 := by omega
  have H1 := Lib.hid h1
  have HA := Lib.hid ((addE0 h1 (by rw [h2, h3]; rfl) (by simp only; omega) (by simp only; omega) : ringAdd ⟨base, per, seats, 0, true⟩ id p = _).trans (congrArg (fun x => (x, (0 : Int))) (added_hi (.inr rfl))))
  clear h1
  go_enter Try.func19, Try.ntmps19
  go_wp2_with fail
  refine (valid_any _ _ _ (HV.out.extNo (((Ext.refl _ _).alloc _).alloc _))).mono ?_
  rintro e1 w1 ⟨rfl, hx1⟩
  rw [H1.out]
  have hB := hx1.blk (alloc_under (alloc_top (w := w) rfl)) (fun x => x.elim)
  have hC := hx1.blk (n := w.heap.size + 1) (alloc_top (by simp)) (fun x => x.elim)
  have hx := (((Ext.refl No w).alloc _).alloc _).transNo hx1
  have cB := cellOf hB
  clear hx1
  go_wp2_with (first | (go_at_call 31; refine (between_any _ _ _ _).mono ?_; rintro e' w1 ⟨rfl, rfl⟩) | (go_at_call 32; refine (find_any _ _ _ _ (HV.out.extNo hx)).mono ?_; rintro e2 w2 ⟨rfl, hx2⟩; replace hB := hx2.blk hB (fun x => x.elim); replace hC := hx2.blk hC (fun x => x.elim); replace hx := hx.transNo hx2; have cB := cellOf hB; have cC := cellOf hC; have fB := freeOf hB; have fC := freeOf hC; clear hx2))
  go_quiet (fail)
  have hB5 := alloc_under (w := (w2.setCell ⟨w.heap.size, 3, none⟩ (.int .i64 1)).drewN nq) (o := .cells #[.int .i64 id, .int .i64 p, .int .i64 0, .int .i64 0] 53) (set_same (j := 3) (u := .int .i64 1) hB)
  have hC5 := alloc_under (w := (w2.setCell ⟨w.heap.size, 3, none⟩ (.int .i64 1)).drewN nq) (o := .cells #[.int .i64 id, .int .i64 p, .int .i64 0, .int .i64 0] 53) (set_other (a := ⟨w.heap.size, 3, none⟩) (u := .int .i64 1) hC (by simp))
  have hx5 := (((hx.own (p := ⟨w.heap.size, 3, none⟩) (Nat.le_refl _) (.int .i64 1)).drewN nq).alloc (.cells #[.int .i64 id, .int .i64 p, .int .i64 0, .int .i64 0] 53))
  have hsz5 := lt_of_block hC
  clear cB cC fB fC
  go_wp2_with (first | (at_builtin; refine wpList_app_full _ rfl (.tmp 63) (.tmp 67) 23 rfl 53 i0 _ 4 32 Try.underlying23 hi hz0 hz1 hz2 rfl (by omega) M (some ⟨b, off, none⟩) 0 ([] : List Value) rfl (Row.nil M _ 4 (some ⟨b, off, none⟩) 0 (by omega)) No (some ⟨w2.heap.size, 0, none⟩) 1 1 (Seat.cells ⟨id, p, 0, 0⟩) rfl (Row.block (alloc_top (by simp)) rfl (fun x => x.elim) (by omega)) (by simp [Seat.cells, Value.oneCell']) (by omega) (by omega) (by omega) ?_; intro v3 w3 hown3 hg3; have hB6 := blk_grown hB5 hg3 (fun k hk => by cases hk); have hC6 := blk_grown hC5 hg3 (fun k hk => by cases hk); have hx6 := hx5.grown hg3 (fun k hk => by cases hk); have hs3 := hg3.size; clear hg3) | (at_builtin; refine wpList_app _ rfl (.tmp 68) (.tmp 69) 23 rfl _ 53 i0 _ 4 32 Try.underlying23 hi hz0 hz1 hz2 rfl (by omega) v3 (0 + 1) _ rfl hown3 M (some ⟨b, off, none⟩) seats.length cap (flatS seats) rfl (Row.extNo HS.out hx6) (flatS_one seats) (by omega) (by omega) (by exact hs3) ?_; intro v4 w4 hown4 hg4 hat4; go_loud (have hlt4 := hown3.lt; have hB7 := blk_grown hB6 hg4 (fun k hk => Nat.lt_of_lt_of_le (by simp; omega) (hlt4 k hk).1); have hC7 := blk_grown hC6 hg4 (fun k hk => Nat.lt_of_lt_of_le (by simp; omega) (hlt4 k hk).1); have hx7 := hx6.grown hg4 (fun k hk hlt => absurd hlt (Nat.not_lt.2 (Nat.le_trans (by simp; omega) (hlt4 k hk).1))); have cB7 := cellOf hB7; have cC7 := cellOf hC7; have fB7 := freeOf hB7; have fC7 := freeOf hC7; obtain ⟨a4, c4, rfl⟩ := (Row.ofOwns (M := No) hown4 (fun _ _ x => x)).slice; clear hg4 hat4 hlt4 hown3)))
  refine ret_ex rfl ?_
  simp [results, Try.results19, go_sem, cC7]
  have hf : flatS (seats.take 0 ++ [⟨id, p, 0, 0⟩] ++ seats.drop 0) = ([] : List Value) ++ Seat.cells ⟨id, p, 0, 0⟩ ++ (flatS seats) := by
    rw [flatS_app, flatS_app]; rfl
  have hl : (seats.take 0 ++ [(⟨id, p, 0, 0⟩ : Seat)] ++ seats.drop 0).length = (0 + 1) + seats.length := by
    simp only [List.length_append, List.length_take, List.length_drop, List.length_cons, List.length_nil]
    omega
  refine AddPost.mk HA.out rfl ⟨_, rfl, ?_⟩ ?_
  · show Row M _ 4 _ (seats.take 0 ++ [(⟨id, p, 0, 0⟩ : Seat)] ++ seats.drop 0).length (flatS (seats.take 0 ++ [⟨id, p, 0, 0⟩] ++ seats.drop 0))
    rw [hf, hl]
    refine Row.fin (w := w) hown4 (by simp; omega) hM ?_
    repeat (first | (with_reducible exact Ext.refl _ _) | ((with_reducible refine Ext.setCell ?_ ?_ _); rotate_left; (intro _; unfold Lo; simp; omega)))
  · repeat (first | (with_reducible assumption) | ((with_reducible refine Ext.own ?_ ?_ _); rotate_left; first | exact Nat.le_refl _ | exact Nat.le_succ _))
end Go.Proofs.Ytckeidboolfcoaa

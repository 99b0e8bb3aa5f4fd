/- The reference's AddSeat: the ways that add. -/
import Derived.Test.YtckeidboolfcoaaRota9
import Derived.Test.YtckeidboolfcoaaRota3c
import Derived.Test.YtckeidboolfcoaaApp2
namespace Go.Proofs.Ytckeidboolfcoaa
open Go Go.RowKit

theorem ownsNew {w : World} {n size : Nat} {e : TypeId} (h : n = w.heap.size) : (w.alloc (.cells #[] e)).ownsRow n e size (.slice (some ⟨n, 0, none⟩) 0 0) 0 [] := by
  subst h; exact World.ownsRow_made w #[] 0 (Nat.le_refl _) (Nat.zero_le _) (by simp)

set_option maxRecDepth 100000 in
set_option maxHeartbeats 4000000 in
theorem radd_hi (M : Nat → Prop) (base per : Int) (seats : List Seat) (b off c : Nat) (opn : Bool) (cap : Nat) (id p : Int) (w : World) (hM : ∀ b, M b → b < w.heap.size)
    (HS : Hid (Seats M w (.slice (some ⟨b, off, none⟩) seats.length cap) seats))
    (h1 : ringOk ⟨base, per, seats, (c : Int), opn⟩ = true) (h2 : betB id 0 1073741824 = true) (h3 : betB p 0 3 = true) (h4 : findZ seats id < 0) (h5 : seats.length < 16) (h6 : 0 < c) (h7 : c < seats.length) :
    Calls Try.prog 24 #[.agg #[.int .i64 base, .int .i64 per, .slice (some ⟨b, off, none⟩) seats.length cap, .int .i64 (c : Int), .bool opn], .int .i64 id, .int .i64 p] w (AddPost M ⟨base, per, seats, (c : Int), opn⟩ id p w) := by
  obtain ⟨i0, hi0, hz0, hz1, hz2⟩ := info_parts infoSeat
  have HV : Hid (RingV No w (.agg #[.int .i64 base, .int .i64 per, .slice (some ⟨b, off, none⟩) seats.length cap, .int .i64 (c : Int), .bool opn]) ⟨base, per, seats, (c : Int), opn⟩) := Lib.hid (RingV.toNo ⟨_, rfl, HS.out⟩)
  have hcap := Row.caps HS.out
  have HT : Hid (Row M w 4 (.slice (some ⟨b, off, none⟩) c cap) c (((flatS seats)).take (c * 4))) := Row.takeC HS.out (by first | exact Nat.le_refl _ | (simp; done) | (simp; omega) | omega)
  obtain ⟨p1, p2⟩ := betB_true h3
  have g5 : ((seats.length : Int) == 16) = false := beq_eq_false_iff_ne.2 (by omega)
  have gc : (0 : Int) ≤ (c : Int) := by omega
  have gd : (c : Int) ≤ (cap : Int) := by omega
  have gl : (c : Int) ≤ (seats.length : Int) := by omega
  have ge : c ≤ cap := by omega
  have h6' : ((c : Int) != 0) = true := bne_iff_ne.2 (by omega)
  have gf : c ≤ seats.length := by omega
  have gn : ¬ cap = c := by omega
  have HD : Hid (Row M w 4 (.slice (some ⟨b, off + c * 4, none⟩) (seats.length - c) (cap - c)) (seats.length - c) ((flatS seats).drop (c * 4))) := Row.drop HS.out (by omega)
  have H1 := Lib.hid h1
  have HA := Lib.hid ((addE0 h1 (by rw [h2, h3]; rfl) (by simp only; omega) (by simp only; omega) : ringAdd ⟨base, per, seats, c, opn⟩ id p = _).trans (congrArg (fun x => (x, (0 : Int))) (added_hi (by simp only; exact .inl (by omega)))))
  clear h1
  go_enter Try.func24, Try.ntmps24
  go_wp2_with fail
  refine (rvalid_any _ _ _ (HV.out.extNo (((Ext.refl _ _).alloc _).alloc _))).mono ?_
  rintro e1 w1 ⟨rfl, hx1⟩
  simp only [H1.out]
  have hB := hx1.blk (alloc_under (alloc_top (w := w) rfl)) (fun x => x.elim)
  have hC := hx1.blk (n := w.heap.size + 1) (alloc_top (by simp)) (fun x => x.elim)
  have hx := (((Ext.refl No w).alloc _).alloc _).transNo hx1
  have cB := cellOf hB
  clear hx1
  go_wp2_with (go_at_call 36; refine (counter_any _ _).mono ?_; rintro e' w1 ⟨rfl, rfl⟩)
  refine (seat_any _ _ _ _ (HV.out.extNo hx)).mono ?_
  rintro e2 w2 ⟨rfl, hx2⟩
  replace hB := hx2.blk hB (fun x => x.elim)
  replace hC := hx2.blk hC (fun x => x.elim)
  replace hx := hx.transNo hx2
  have cB := cellOf hB
  have fB := freeOf hB
  have hlB := lt_of_block hB
  have hlC := lt_of_block hC
  clear hx2
  go_wp2_with (first | (at_builtin; refine wpList_app _ rfl (.tmp 52) (.tmp 56) 23 rfl w2.heap.size 53 i0 _ 4 32 Try.underlying23 hi0 hz0 hz1 hz2 rfl (by omega) (.slice (some ⟨w2.heap.size, 0, none⟩) 0 0) 0 [] rfl (ownsNew (by simp)) M (some ⟨b, off, none⟩) c cap (((flatS seats)).take (c * 4)) rfl (Row.extNo HT.out ((hx.own (p := ⟨w.heap.size, 3, none⟩) (Nat.le_refl _) (.int .i64 ((c : Int) + 1))).alloc _)) (fun u hu => flatS_one seats u (List.mem_of_mem_take hu)) (by omega) (by omega) (by simp) ?_; intro v3 w3 hown3 hg3 hat3; simp only [Nat.zero_add, List.nil_append] at hown3; have hB3 := blk_grown (alloc_under (w := (w2.setCell ⟨w.heap.size, 3, none⟩ (.int .i64 ((c : Int) + 1)))) (o := .cells #[] 53) (set_same (j := 3) (u := .int .i64 ((c : Int) + 1)) hB)) hg3 (fun k hk => by cases hk; exact hlB); have hC3 := blk_grown (alloc_under (w := (w2.setCell ⟨w.heap.size, 3, none⟩ (.int .i64 ((c : Int) + 1)))) (o := .cells #[] 53) (set_other (a := ⟨w.heap.size, 3, none⟩) (u := .int .i64 ((c : Int) + 1)) hC (by simp))) hg3 (fun k hk => by cases hk; exact hlC); have hx3 := ((hx.own (p := ⟨w.heap.size, 3, none⟩) (Nat.le_refl _) (.int .i64 ((c : Int) + 1))).alloc (.cells #[] 53)).grown hg3 (fun k hk hlt => by cases hk; exact absurd hlt (Nat.not_lt.2 hx.size)); have hs3 : w2.heap.size ≤ w3.heap.size := Nat.le_trans (by simp) hg3.size; clear hat3 hg3; obtain ⟨a3, c3, rfl⟩ := (Row.ofOwns (M := No) hown3 (fun _ _ x => x)).slice; have cB3 := cellOf hB3) | (at_builtin; refine wpList_app _ rfl (.tmp 58) (.tmp 62) 23 rfl w2.heap.size 53 i0 _ 4 32 Try.underlying23 hi0 hz0 hz1 hz2 rfl (by omega) (.slice a3 c c3) c _ rfl (hown3.alloc _) No (some ⟨w3.heap.size, 0, none⟩) 1 1 (Seat.cells ⟨id, p, 0, 0⟩) rfl (Row.block (alloc_top (by simp)) rfl (fun x => x.elim) (by omega)) (by simp [Seat.cells, Value.oneCell']) (by omega) (by omega) (by simp; omega) ?_; intro v4 w4 hown4 hg4 hat4; have hlt3 := hown3.lt; have hB4 := blk_grown (alloc_under (o := .cells #[.int .i64 id, .int .i64 p, .int .i64 0, .int .i64 0] 53) hB3) hg4 (fun k hk => Nat.lt_of_lt_of_le (by omega) (hlt3 k hk).1); have hC4 := blk_grown (alloc_under (o := .cells #[.int .i64 id, .int .i64 p, .int .i64 0, .int .i64 0] 53) hC3) hg4 (fun k hk => Nat.lt_of_lt_of_le (by omega) (hlt3 k hk).1); have hx4 := (hx3.alloc (.cells #[.int .i64 id, .int .i64 p, .int .i64 0, .int .i64 0] 53)).grown hg4 (fun k hk hlt => absurd hlt (Nat.not_lt.2 (Nat.le_trans hx.size (hlt3 k hk).1))); have hs4 : w2.heap.size ≤ w4.heap.size := Nat.le_trans hs3 (Nat.le_trans (by simp) hg4.size); clear hat4 hg4 hlt3 hown3 hx3 hB3 hC3 cB3; obtain ⟨a4, c4, rfl⟩ := (Row.ofOwns (M := No) hown4 (fun _ _ x => x)).slice; have cB4 := cellOf hB4) | (at_builtin; go_loud (refine wpList_app _ rfl (.tmp 64) (.tmp 68) 23 rfl w2.heap.size 53 i0 _ 4 32 Try.underlying23 hi0 hz0 hz1 hz2 rfl (by omega) (.slice a4 (c + 1) c4) (c + 1) _ rfl hown4 M (some ⟨b, off + c * 4, none⟩) (seats.length - c) (cap - c) (((flatS seats)).drop (c * 4)) rfl (Row.extNo HD.out hx4) (fun u hu => flatS_one seats u (List.mem_of_mem_drop hu)) (by omega) (by omega) hs4 ?_); intro v5 w5 hown5 hg5 hat5; go_loud (have hlt4 := hown4.lt; have hB5 := blk_grown hB4 hg5 (fun k hk => Nat.lt_of_lt_of_le (by omega) (hlt4 k hk).1); have hC5 := blk_grown hC4 hg5 (fun k hk => Nat.lt_of_lt_of_le (by omega) (hlt4 k hk).1); have hx5 := (hx4).grown hg5 (fun k hk hlt => absurd hlt (Nat.not_lt.2 (Nat.le_trans hx.size (hlt4 k hk).1))); have hs5 : w2.heap.size ≤ w5.heap.size := Nat.le_trans hs4 hg5.size; clear hat5 hg5 hlt4 hown4 hx4 hB4 hC4; obtain ⟨a5, c5, rfl⟩ := (Row.ofOwns (M := No) hown5 (fun _ _ x => x)).slice; have cB5 := cellOf hB5; have cC5 := cellOf hC5; have fB5 := freeOf hB5; have fC5 := freeOf hC5)))
  refine ret_ex rfl ?_
  simp [results, Try.results24, go_sem, cC5]
  have hf : flatS (seats.take c ++ [⟨id, p, 0, 0⟩] ++ seats.drop c) = ((flatS seats)).take (c * 4) ++ Seat.cells ⟨id, p, 0, 0⟩ ++ ((flatS seats)).drop (c * 4) := by
    rw [flatS_app, flatS_app, flatS_take, flatS_drop]; rfl
  have hl : (seats.take c ++ [(⟨id, p, 0, 0⟩ : Seat)] ++ seats.drop c).length = c + 1 + (seats.length - c) := by
    simp only [List.length_append, List.length_take, List.length_drop, List.length_cons, List.length_nil]
    omega
  refine AddPost.mk HA.out rfl ⟨_, rfl, ?_⟩ ?_
  · show Row M _ 4 _ (seats.take c ++ [(⟨id, p, 0, 0⟩ : Seat)] ++ seats.drop c).length (flatS (seats.take c ++ [⟨id, p, 0, 0⟩] ++ seats.drop c))
    rw [hf, hl]
    refine Row.fin (w := w) hown5 hx.size hM ?_
    repeat (first | (with_reducible exact Ext.refl _ _) | ((with_reducible refine Ext.setCell ?_ ?_ _); rotate_left; (intro _; unfold Lo; simp; omega)))
  · repeat (first | (with_reducible assumption) | ((with_reducible refine Ext.own ?_ ?_ _); rotate_left; first | exact Nat.le_refl _ | exact Nat.le_succ _))

set_option maxRecDepth 100000 in
set_option maxHeartbeats 4000000 in
theorem radd_l1 (M : Nat → Prop) (base per : Int) (seats : List Seat) (b off : Nat) (cap : Nat) (id p : Int) (w : World) (hM : ∀ b, M b → b < w.heap.size)
    (HS : Hid (Seats M w (.slice (some ⟨b, off, none⟩) seats.length cap) seats))
    (h1 : ringOk ⟨base, per, seats, 0, false⟩ = true) (h2 : betB id 0 1073741824 = true) (h3 : betB p 0 3 = true) (h4 : findZ seats id < 0) (h5 : seats.length < 16) (h7 : 0 < seats.length) (h8 : ¬ cap = seats.length) :
    Calls Try.prog 24 #[.agg #[.int .i64 base, .int .i64 per, .slice (some ⟨b, off, none⟩) seats.length cap, .int .i64 0, .bool false], .int .i64 id, .int .i64 p] w (AddPost M ⟨base, per, seats, 0, false⟩ id p w) := by
  obtain ⟨i0, hi0, hz0, hz1, hz2⟩ := info_parts infoSeat
  have HV : Hid (RingV No w (.agg #[.int .i64 base, .int .i64 per, .slice (some ⟨b, off, none⟩) seats.length cap, .int .i64 0, .bool false]) ⟨base, per, seats, 0, false⟩) := Lib.hid (RingV.toNo ⟨_, rfl, HS.out⟩)
  have hcap := Row.caps HS.out
  have HT : Hid (Row M w 4 (.slice (some ⟨b, off, none⟩) seats.length cap) seats.length (((flatS seats)).take (seats.length * 4))) := Row.takeC HS.out (by first | exact Nat.le_refl _ | (simp; done) | (simp; omega) | omega)
  obtain ⟨p1, p2⟩ := betB_true h3
  have g5 : ((seats.length : Int) == 16) = false := beq_eq_false_iff_ne.2 (by omega)
  have gc : (0 : Int) ≤ (seats.length : Int) := by omega
  have gd : (seats.length : Int) ≤ (cap : Int) := by omega
  have gn : ¬ seats.length = cap := fun h => h8 h.symm
  have H1 := Lib.hid h1
  have HA := Lib.hid ((addE0 h1 (by rw [h2, h3]; rfl) (by simp only; omega) (by simp only; omega) : ringAdd ⟨base, per, seats, 0, false⟩ id p = _).trans (congrArg (fun x => (x, (0 : Int))) (by rw [added_lo (by simp), List.take_length, List.drop_length, List.append_nil] : added ⟨base, per, seats, 0, false⟩ id p = ⟨base, per, seats.take seats.length ++ [⟨id, p, 0, 0⟩] ++ seats.drop seats.length, 0, false⟩)))
  clear h1
  go_enter Try.func24, Try.ntmps24
  go_wp2_with fail
  refine (rvalid_any _ _ _ (HV.out.extNo (((Ext.refl _ _).alloc _).alloc _))).mono ?_
  rintro e1 w1 ⟨rfl, hx1⟩
  simp only [H1.out]
  have hB := hx1.blk (alloc_under (alloc_top (w := w) rfl)) (fun x => x.elim)
  have hC := hx1.blk (n := w.heap.size + 1) (alloc_top (by simp)) (fun x => x.elim)
  have hx := (((Ext.refl No w).alloc _).alloc _).transNo hx1
  have cB := cellOf hB
  clear hx1
  go_wp2_with (go_at_call 36; refine (counter_any _ _).mono ?_; rintro e' w1 ⟨rfl, rfl⟩)
  refine (seat_any _ _ _ _ (HV.out.extNo hx)).mono ?_
  rintro e2 w2 ⟨rfl, hx2⟩
  replace hB := hx2.blk hB (fun x => x.elim)
  replace hC := hx2.blk hC (fun x => x.elim)
  replace hx := hx.transNo hx2
  have cB := cellOf hB
  have fB := freeOf hB
  have hlB := lt_of_block hB
  have hlC := lt_of_block hC
  clear hx2
  go_wp2_with (first | (at_builtin; refine wpList_app _ rfl (.tmp 52) (.tmp 56) 23 rfl w2.heap.size 53 i0 _ 4 32 Try.underlying23 hi0 hz0 hz1 hz2 rfl (by omega) (.slice (some ⟨w2.heap.size, 0, none⟩) 0 0) 0 [] rfl (ownsNew (by simp)) M (some ⟨b, off, none⟩) seats.length cap (((flatS seats)).take (seats.length * 4)) rfl (Row.extNo HT.out (hx.alloc _)) (fun u hu => flatS_one seats u (List.mem_of_mem_take hu)) (by omega) (by omega) (by simp) ?_; intro v3 w3 hown3 hg3 hat3; simp only [Nat.zero_add, List.nil_append] at hown3; have hB3 := blk_grown (alloc_under (w := w2) (o := .cells #[] 53) hB) hg3 (fun k hk => by cases hk; exact hlB); have hC3 := blk_grown (alloc_under (w := w2) (o := .cells #[] 53) hC) hg3 (fun k hk => by cases hk; exact hlC); have hx3 := (hx.alloc (.cells #[] 53)).grown hg3 (fun k hk hlt => by cases hk; exact absurd hlt (Nat.not_lt.2 hx.size)); have hs3 : w2.heap.size ≤ w3.heap.size := Nat.le_trans (by simp) hg3.size; clear hat3 hg3; obtain ⟨a3, c3, rfl⟩ := (Row.ofOwns (M := No) hown3 (fun _ _ x => x)).slice; have cB3 := cellOf hB3) | (at_builtin; refine wpList_app _ rfl (.tmp 58) (.tmp 62) 23 rfl w2.heap.size 53 i0 _ 4 32 Try.underlying23 hi0 hz0 hz1 hz2 rfl (by omega) (.slice a3 seats.length c3) seats.length _ rfl (hown3.alloc _) No (some ⟨w3.heap.size, 0, none⟩) 1 1 (Seat.cells ⟨id, p, 0, 0⟩) rfl (Row.block (alloc_top (by simp)) rfl (fun x => x.elim) (by omega)) (by simp [Seat.cells, Value.oneCell']) (by omega) (by omega) (by simp; omega) ?_; intro v4 w4 hown4 hg4 hat4; have hlt3 := hown3.lt; have hB4 := blk_grown (alloc_under (o := .cells #[.int .i64 id, .int .i64 p, .int .i64 0, .int .i64 0] 53) hB3) hg4 (fun k hk => Nat.lt_of_lt_of_le (by omega) (hlt3 k hk).1); have hC4 := blk_grown (alloc_under (o := .cells #[.int .i64 id, .int .i64 p, .int .i64 0, .int .i64 0] 53) hC3) hg4 (fun k hk => Nat.lt_of_lt_of_le (by omega) (hlt3 k hk).1); have hx4 := (hx3.alloc (.cells #[.int .i64 id, .int .i64 p, .int .i64 0, .int .i64 0] 53)).grown hg4 (fun k hk hlt => absurd hlt (Nat.not_lt.2 (Nat.le_trans hx.size (hlt3 k hk).1))); have hs4 : w2.heap.size ≤ w4.heap.size := Nat.le_trans hs3 (Nat.le_trans (by simp) hg4.size); clear hat4 hg4 hlt3 hown3 hx3 hB3 hC3 cB3; obtain ⟨a4, c4, rfl⟩ := (Row.ofOwns (M := No) hown4 (fun _ _ x => x)).slice; have cB4 := cellOf hB4) | (at_builtin; go_loud (refine wpList_app _ rfl (.tmp 64) (.tmp 68) 23 rfl w2.heap.size 53 i0 _ 4 32 Try.underlying23 hi0 hz0 hz1 hz2 rfl (by omega) (.slice a4 (seats.length + 1) c4) (seats.length + 1) _ rfl hown4 M (some ⟨b, off + seats.length * 4, none⟩) 0 (cap - seats.length) [] rfl (Row.nil _ _ _ _ _ (by omega)) (by simp) (by omega) (by omega) hs4 ?_); intro v5 w5 hown5 hg5 hat5; go_loud (have hlt4 := hown4.lt; have hB5 := blk_grown hB4 hg5 (fun k hk => Nat.lt_of_lt_of_le (by omega) (hlt4 k hk).1); have hC5 := blk_grown hC4 hg5 (fun k hk => Nat.lt_of_lt_of_le (by omega) (hlt4 k hk).1); have hx5 := (hx4).grown hg5 (fun k hk hlt => absurd hlt (Nat.not_lt.2 (Nat.le_trans hx.size (hlt4 k hk).1))); have hs5 : w2.heap.size ≤ w5.heap.size := Nat.le_trans hs4 hg5.size; clear hat5 hg5 hlt4 hown4 hx4 hB4 hC4; obtain ⟨a5, c5, rfl⟩ := (Row.ofOwns (M := No) hown5 (fun _ _ x => x)).slice; have cB5 := cellOf hB5; have cC5 := cellOf hC5; have fB5 := freeOf hB5; have fC5 := freeOf hC5)))
  refine ret_ex rfl ?_
  simp [results, Try.results24, go_sem, cC5]
  have hf : flatS (seats.take seats.length ++ [⟨id, p, 0, 0⟩] ++ seats.drop seats.length) = ((flatS seats)).take (seats.length * 4) ++ Seat.cells ⟨id, p, 0, 0⟩ ++ [] := by
    rw [List.drop_length, List.append_nil, flatS_app, flatS_take, List.append_nil]; rfl
  have hl : (seats.take seats.length ++ [(⟨id, p, 0, 0⟩ : Seat)] ++ seats.drop seats.length).length = seats.length + 1 + 0 := by
    simp only [List.length_append, List.length_take, List.length_drop, List.length_cons, List.length_nil]
    omega
  refine AddPost.mk HA.out rfl ⟨_, rfl, ?_⟩ ?_
  · show Row M _ 4 _ (seats.take seats.length ++ [(⟨id, p, 0, 0⟩ : Seat)] ++ seats.drop seats.length).length (flatS (seats.take seats.length ++ [⟨id, p, 0, 0⟩] ++ seats.drop seats.length))
    rw [hf, hl]
    refine Row.fin (w := w) hown5 hx.size hM ?_
    repeat (first | (with_reducible exact Ext.refl _ _) | ((with_reducible refine Ext.setCell ?_ ?_ _); rotate_left; (intro _; unfold Lo; simp; omega)))
  · repeat (first | (with_reducible assumption) | ((with_reducible refine Ext.own ?_ ?_ _); rotate_left; first | exact Nat.le_refl _ | exact Nat.le_succ _))

set_option maxRecDepth 100000 in
set_option maxHeartbeats 4000000 in
theorem radd_l2 (M : Nat → Prop) (base per : Int) (seats : List Seat) (b off : Nat) (cap : Nat) (id p : Int) (w : World) (hM : ∀ b, M b → b < w.heap.size)
    (HS : Hid (Seats M w (.slice (some ⟨b, off, none⟩) seats.length cap) seats))
    (h1 : ringOk ⟨base, per, seats, 0, false⟩ = true) (h2 : betB id 0 1073741824 = true) (h3 : betB p 0 3 = true) (h4 : findZ seats id < 0) (h5 : seats.length < 16) (h7 : 0 < seats.length) (h8 : cap = seats.length) :
    Calls Try.prog 24 #[.agg #[.int .i64 base, .int .i64 per, .slice (some ⟨b, off, none⟩) seats.length cap, .int .i64 0, .bool false], .int .i64 id, .int .i64 p] w (AddPost M ⟨base, per, seats, 0, false⟩ id p w) := by
  obtain ⟨i0, hi0, hz0, hz1, hz2⟩ := info_parts infoSeat
  have HV : Hid (RingV No w (.agg #[.int .i64 base, .int .i64 per, .slice (some ⟨b, off, none⟩) seats.length cap, .int .i64 0, .bool false]) ⟨base, per, seats, 0, false⟩) := Lib.hid (RingV.toNo ⟨_, rfl, HS.out⟩)
  have hcap := Row.caps HS.out
  have HT : Hid (Row M w 4 (.slice (some ⟨b, off, none⟩) seats.length cap) seats.length (((flatS seats)).take (seats.length * 4))) := Row.takeC HS.out (by first | exact Nat.le_refl _ | (simp; done) | (simp; omega) | omega)
  obtain ⟨p1, p2⟩ := betB_true h3
  have g5 : ((seats.length : Int) == 16) = false := beq_eq_false_iff_ne.2 (by omega)
  have gc : (0 : Int) ≤ (seats.length : Int) := by omega
  have H8 := Lib.hid h8
  clear h8
  obtain rfl := H8.out
  have H1 := Lib.hid h1
  have HA := Lib.hid ((addE0 h1 (by rw [h2, h3]; rfl) (by simp only; omega) (by simp only; omega) : ringAdd ⟨base, per, seats, 0, false⟩ id p = _).trans (congrArg (fun x => (x, (0 : Int))) (by rw [added_lo (by simp), List.take_length, List.drop_length, List.append_nil] : added ⟨base, per, seats, 0, false⟩ id p = ⟨base, per, seats.take seats.length ++ [⟨id, p, 0, 0⟩] ++ seats.drop seats.length, 0, false⟩)))
  clear h1
  go_enter Try.func24, Try.ntmps24
  go_wp2_with fail
  refine (rvalid_any _ _ _ (HV.out.extNo (((Ext.refl _ _).alloc _).alloc _))).mono ?_
  rintro e1 w1 ⟨rfl, hx1⟩
  simp only [H1.out]
  have hB := hx1.blk (alloc_under (alloc_top (w := w) rfl)) (fun x => x.elim)
  have hC := hx1.blk (n := w.heap.size + 1) (alloc_top (by simp)) (fun x => x.elim)
  have hx := (((Ext.refl No w).alloc _).alloc _).transNo hx1
  have cB := cellOf hB
  clear hx1
  go_wp2_with (go_at_call 36; refine (counter_any _ _).mono ?_; rintro e' w1 ⟨rfl, rfl⟩)
  refine (seat_any _ _ _ _ (HV.out.extNo hx)).mono ?_
  rintro e2 w2 ⟨rfl, hx2⟩
  replace hB := hx2.blk hB (fun x => x.elim)
  replace hC := hx2.blk hC (fun x => x.elim)
  replace hx := hx.transNo hx2
  have cB := cellOf hB
  have fB := freeOf hB
  have hlB := lt_of_block hB
  have hlC := lt_of_block hC
  clear hx2
  go_wp2_with (first | (at_builtin; refine wpList_app _ rfl (.tmp 52) (.tmp 56) 23 rfl w2.heap.size 53 i0 _ 4 32 Try.underlying23 hi0 hz0 hz1 hz2 rfl (by omega) (.slice (some ⟨w2.heap.size, 0, none⟩) 0 0) 0 [] rfl (ownsNew (by simp)) M (some ⟨b, off, none⟩) seats.length seats.length (((flatS seats)).take (seats.length * 4)) rfl (Row.extNo HT.out (hx.alloc _)) (fun u hu => flatS_one seats u (List.mem_of_mem_take hu)) (by omega) (by omega) (by simp) ?_; intro v3 w3 hown3 hg3 hat3; simp only [Nat.zero_add, List.nil_append] at hown3; have hB3 := blk_grown (alloc_under (w := w2) (o := .cells #[] 53) hB) hg3 (fun k hk => by cases hk; exact hlB); have hC3 := blk_grown (alloc_under (w := w2) (o := .cells #[] 53) hC) hg3 (fun k hk => by cases hk; exact hlC); have hx3 := (hx.alloc (.cells #[] 53)).grown hg3 (fun k hk hlt => by cases hk; exact absurd hlt (Nat.not_lt.2 hx.size)); have hs3 : w2.heap.size ≤ w3.heap.size := Nat.le_trans (by simp) hg3.size; clear hat3 hg3; obtain ⟨a3, c3, rfl⟩ := (Row.ofOwns (M := No) hown3 (fun _ _ x => x)).slice; have cB3 := cellOf hB3) | (at_builtin; refine wpList_app _ rfl (.tmp 58) (.tmp 62) 23 rfl w2.heap.size 53 i0 _ 4 32 Try.underlying23 hi0 hz0 hz1 hz2 rfl (by omega) (.slice a3 seats.length c3) seats.length _ rfl (hown3.alloc _) No (some ⟨w3.heap.size, 0, none⟩) 1 1 (Seat.cells ⟨id, p, 0, 0⟩) rfl (Row.block (alloc_top (by simp)) rfl (fun x => x.elim) (by omega)) (by simp [Seat.cells, Value.oneCell']) (by omega) (by omega) (by simp; omega) ?_; intro v4 w4 hown4 hg4 hat4; have hlt3 := hown3.lt; have hB4 := blk_grown (alloc_under (o := .cells #[.int .i64 id, .int .i64 p, .int .i64 0, .int .i64 0] 53) hB3) hg4 (fun k hk => Nat.lt_of_lt_of_le (by omega) (hlt3 k hk).1); have hC4 := blk_grown (alloc_under (o := .cells #[.int .i64 id, .int .i64 p, .int .i64 0, .int .i64 0] 53) hC3) hg4 (fun k hk => Nat.lt_of_lt_of_le (by omega) (hlt3 k hk).1); have hx4 := (hx3.alloc (.cells #[.int .i64 id, .int .i64 p, .int .i64 0, .int .i64 0] 53)).grown hg4 (fun k hk hlt => absurd hlt (Nat.not_lt.2 (Nat.le_trans hx.size (hlt3 k hk).1))); have hs4 : w2.heap.size ≤ w4.heap.size := Nat.le_trans hs3 (Nat.le_trans (by simp) hg4.size); clear hat4 hg4 hlt3 hown3 hx3 hB3 hC3 cB3; obtain ⟨a4, c4, rfl⟩ := (Row.ofOwns (M := No) hown4 (fun _ _ x => x)).slice; have cB4 := cellOf hB4) | (at_builtin; go_loud (refine wpList_app _ rfl (.tmp 64) (.tmp 68) 23 rfl w2.heap.size 53 i0 _ 4 32 Try.underlying23 hi0 hz0 hz1 hz2 rfl (by omega) (.slice a4 (seats.length + 1) c4) (seats.length + 1) _ rfl hown4 M (some ⟨b, off, none⟩) 0 0 [] rfl (Row.nil _ _ _ _ _ (by omega)) (by simp) (by omega) (by omega) hs4 ?_); intro v5 w5 hown5 hg5 hat5; go_loud (have hlt4 := hown4.lt; have hB5 := blk_grown hB4 hg5 (fun k hk => Nat.lt_of_lt_of_le (by omega) (hlt4 k hk).1); have hC5 := blk_grown hC4 hg5 (fun k hk => Nat.lt_of_lt_of_le (by omega) (hlt4 k hk).1); have hx5 := (hx4).grown hg5 (fun k hk hlt => absurd hlt (Nat.not_lt.2 (Nat.le_trans hx.size (hlt4 k hk).1))); have hs5 : w2.heap.size ≤ w5.heap.size := Nat.le_trans hs4 hg5.size; clear hat5 hg5 hlt4 hown4 hx4 hB4 hC4; obtain ⟨a5, c5, rfl⟩ := (Row.ofOwns (M := No) hown5 (fun _ _ x => x)).slice; have cB5 := cellOf hB5; have cC5 := cellOf hC5; have fB5 := freeOf hB5; have fC5 := freeOf hC5)))
  refine ret_ex rfl ?_
  simp [results, Try.results24, go_sem, cC5]
  have hf : flatS (seats.take seats.length ++ [⟨id, p, 0, 0⟩] ++ seats.drop seats.length) = ((flatS seats)).take (seats.length * 4) ++ Seat.cells ⟨id, p, 0, 0⟩ ++ [] := by
    rw [List.drop_length, List.append_nil, flatS_app, flatS_take, List.append_nil]; rfl
  have hl : (seats.take seats.length ++ [(⟨id, p, 0, 0⟩ : Seat)] ++ seats.drop seats.length).length = seats.length + 1 + 0 := by
    simp only [List.length_append, List.length_take, List.length_drop, List.length_cons, List.length_nil]
    omega
  refine AddPost.mk HA.out rfl ⟨_, rfl, ?_⟩ ?_
  · show Row M _ 4 _ (seats.take seats.length ++ [(⟨id, p, 0, 0⟩ : Seat)] ++ seats.drop seats.length).length (flatS (seats.take seats.length ++ [⟨id, p, 0, 0⟩] ++ seats.drop seats.length))
    rw [hf, hl]
    refine Row.fin (w := w) hown5 hx.size hM ?_
    repeat (first | (with_reducible exact Ext.refl _ _) | ((with_reducible refine Ext.setCell ?_ ?_ _); rotate_left; (intro _; unfold Lo; simp; omega)))
  · repeat (first | (with_reducible assumption) | ((with_reducible refine Ext.own ?_ ?_ _); rotate_left; first | exact Nat.le_refl _ | exact Nat.le_succ _))

set_option maxRecDepth 100000 in
set_option maxHeartbeats 4000000 in
theorem radd_z (M : Nat → Prop) (base per : Int) (seats : List Seat) (b off : Nat) (cap : Nat) (id p : Int) (w : World) (hM : ∀ b, M b → b < w.heap.size)
    (HS : Hid (Seats M w (.slice (some ⟨b, off, none⟩) seats.length cap) seats))
    (h1 : ringOk ⟨base, per, seats, 0, true⟩ = true) (h2 : betB id 0 1073741824 = true) (h3 : betB p 0 3 = true) (h4 : findZ seats id < 0) (h5 : seats.length < 16) (h7 : 0 < seats.length) :
    Calls Try.prog 24 #[.agg #[.int .i64 base, .int .i64 per, .slice (some ⟨b, off, none⟩) seats.length cap, .int .i64 0, .bool true], .int .i64 id, .int .i64 p] w (AddPost M ⟨base, per, seats, 0, true⟩ id p w) := by
  obtain ⟨i0, hi0, hz0, hz1, hz2⟩ := info_parts infoSeat
  have HV : Hid (RingV No w (.agg #[.int .i64 base, .int .i64 per, .slice (some ⟨b, off, none⟩) seats.length cap, .int .i64 0, .bool true]) ⟨base, per, seats, 0, true⟩) := Lib.hid (RingV.toNo ⟨_, rfl, HS.out⟩)
  have hcap := Row.caps HS.out
  have HT : Hid (Row M w 4 (.slice (some ⟨b, off, none⟩) 0 cap) 0 (((flatS seats)).take (0 * 4))) := Row.takeC HS.out (by first | exact Nat.le_refl _ | (simp; done) | (simp; omega) | omega)
  obtain ⟨p1, p2⟩ := betB_true h3
  have g5 : ((seats.length : Int) == 16) = false := beq_eq_false_iff_ne.2 (by omega)
  have gd : (0 : Int) ≤ (cap : Int) := by omega
  have gn : ¬ cap = 0 := by omega
  have H1 := Lib.hid h1
  have HA := Lib.hid ((addE0 h1 (by rw [h2, h3]; rfl) (by simp only; omega) (by simp only; omega) : ringAdd ⟨base, per, seats, 0, true⟩ id p = _).trans (congrArg (fun x => (x, (0 : Int))) (added_hi (.inr rfl))))
  clear h1
  go_enter Try.func24, Try.ntmps24
  go_wp2_with fail
  refine (rvalid_any _ _ _ (HV.out.extNo (((Ext.refl _ _).alloc _).alloc _))).mono ?_
  rintro e1 w1 ⟨rfl, hx1⟩
  simp only [H1.out]
  have hB := hx1.blk (alloc_under (alloc_top (w := w) rfl)) (fun x => x.elim)
  have hC := hx1.blk (n := w.heap.size + 1) (alloc_top (by simp)) (fun x => x.elim)
  have hx := (((Ext.refl No w).alloc _).alloc _).transNo hx1
  have cB := cellOf hB
  clear hx1
  go_wp2_with (go_at_call 36; refine (counter_any _ _).mono ?_; rintro e' w1 ⟨rfl, rfl⟩)
  refine (seat_any _ _ _ _ (HV.out.extNo hx)).mono ?_
  rintro e2 w2 ⟨rfl, hx2⟩
  replace hB := hx2.blk hB (fun x => x.elim)
  replace hC := hx2.blk hC (fun x => x.elim)
  replace hx := hx.transNo hx2
  have cB := cellOf hB
  have fB := freeOf hB
  have hlB := lt_of_block hB
  have hlC := lt_of_block hC
  clear hx2
  go_wp2_with (first | (at_builtin; refine wpList_app _ rfl (.tmp 52) (.tmp 56) 23 rfl w2.heap.size 53 i0 _ 4 32 Try.underlying23 hi0 hz0 hz1 hz2 rfl (by omega) (.slice (some ⟨w2.heap.size, 0, none⟩) 0 0) 0 [] rfl (ownsNew (by simp)) M (some ⟨b, off, none⟩) 0 cap (((flatS seats)).take (0 * 4)) rfl (Row.extNo HT.out ((hx.own (p := ⟨w.heap.size, 3, none⟩) (Nat.le_refl _) (.int .i64 1)).alloc _)) (fun u hu => flatS_one seats u (List.mem_of_mem_take hu)) (by omega) (by omega) (by simp) ?_; intro v3 w3 hown3 hg3 hat3; simp only [Nat.zero_add, List.nil_append] at hown3; have hB3 := blk_grown (alloc_under (w := (w2.setCell ⟨w.heap.size, 3, none⟩ (.int .i64 1))) (o := .cells #[] 53) (set_same (j := 3) (u := .int .i64 1) hB)) hg3 (fun k hk => by cases hk; exact hlB); have hC3 := blk_grown (alloc_under (w := (w2.setCell ⟨w.heap.size, 3, none⟩ (.int .i64 1))) (o := .cells #[] 53) (set_other (a := ⟨w.heap.size, 3, none⟩) (u := .int .i64 1) hC (by simp))) hg3 (fun k hk => by cases hk; exact hlC); have hx3 := ((hx.own (p := ⟨w.heap.size, 3, none⟩) (Nat.le_refl _) (.int .i64 1)).alloc (.cells #[] 53)).grown hg3 (fun k hk hlt => by cases hk; exact absurd hlt (Nat.not_lt.2 hx.size)); have hs3 : w2.heap.size ≤ w3.heap.size := Nat.le_trans (by simp) hg3.size; clear hat3 hg3; obtain ⟨a3, c3, rfl⟩ := (Row.ofOwns (M := No) hown3 (fun _ _ x => x)).slice; have cB3 := cellOf hB3) | (at_builtin; refine wpList_app _ rfl (.tmp 58) (.tmp 62) 23 rfl w2.heap.size 53 i0 _ 4 32 Try.underlying23 hi0 hz0 hz1 hz2 rfl (by omega) (.slice a3 0 c3) 0 _ rfl (hown3.alloc _) No (some ⟨w3.heap.size, 0, none⟩) 1 1 (Seat.cells ⟨id, p, 0, 0⟩) rfl (Row.block (alloc_top (by simp)) rfl (fun x => x.elim) (by omega)) (by simp [Seat.cells, Value.oneCell']) (by omega) (by omega) (by simp; omega) ?_; intro v4 w4 hown4 hg4 hat4; have hlt3 := hown3.lt; have hB4 := blk_grown (alloc_under (o := .cells #[.int .i64 id, .int .i64 p, .int .i64 0, .int .i64 0] 53) hB3) hg4 (fun k hk => Nat.lt_of_lt_of_le (by omega) (hlt3 k hk).1); have hC4 := blk_grown (alloc_under (o := .cells #[.int .i64 id, .int .i64 p, .int .i64 0, .int .i64 0] 53) hC3) hg4 (fun k hk => Nat.lt_of_lt_of_le (by omega) (hlt3 k hk).1); have hx4 := (hx3.alloc (.cells #[.int .i64 id, .int .i64 p, .int .i64 0, .int .i64 0] 53)).grown hg4 (fun k hk hlt => absurd hlt (Nat.not_lt.2 (Nat.le_trans hx.size (hlt3 k hk).1))); have hs4 : w2.heap.size ≤ w4.heap.size := Nat.le_trans hs3 (Nat.le_trans (by simp) hg4.size); clear hat4 hg4 hlt3 hown3 hx3 hB3 hC3 cB3; obtain ⟨a4, c4, rfl⟩ := (Row.ofOwns (M := No) hown4 (fun _ _ x => x)).slice; have cB4 := cellOf hB4) | (at_builtin; go_loud (refine wpList_app _ rfl (.tmp 64) (.tmp 68) 23 rfl w2.heap.size 53 i0 _ 4 32 Try.underlying23 hi0 hz0 hz1 hz2 rfl (by omega) (.slice a4 (0 + 1) c4) (0 + 1) _ rfl hown4 M (some ⟨b, off, none⟩) seats.length cap (flatS seats) rfl (Row.extNo HS.out hx4) (flatS_one seats) (by omega) (by omega) hs4 ?_); intro v5 w5 hown5 hg5 hat5; go_loud (have hlt4 := hown4.lt; have hB5 := blk_grown hB4 hg5 (fun k hk => Nat.lt_of_lt_of_le (by omega) (hlt4 k hk).1); have hC5 := blk_grown hC4 hg5 (fun k hk => Nat.lt_of_lt_of_le (by omega) (hlt4 k hk).1); have hx5 := (hx4).grown hg5 (fun k hk hlt => absurd hlt (Nat.not_lt.2 (Nat.le_trans hx.size (hlt4 k hk).1))); have hs5 : w2.heap.size ≤ w5.heap.size := Nat.le_trans hs4 hg5.size; clear hat5 hg5 hlt4 hown4 hx4 hB4 hC4; obtain ⟨a5, c5, rfl⟩ := (Row.ofOwns (M := No) hown5 (fun _ _ x => x)).slice; have cB5 := cellOf hB5; have cC5 := cellOf hC5; have fB5 := freeOf hB5; have fC5 := freeOf hC5)))
  refine ret_ex rfl ?_
  simp [results, Try.results24, go_sem, cC5]
  have hf : flatS (seats.take 0 ++ [⟨id, p, 0, 0⟩] ++ seats.drop 0) = ((flatS seats)).take (0 * 4) ++ Seat.cells ⟨id, p, 0, 0⟩ ++ flatS seats := by
    rw [flatS_app, flatS_app]; rfl
  have hl : (seats.take 0 ++ [(⟨id, p, 0, 0⟩ : Seat)] ++ seats.drop 0).length = 0 + 1 + seats.length := by
    simp only [List.length_append, List.length_take, List.length_drop, List.length_cons, List.length_nil]
    omega
  refine AddPost.mk HA.out rfl ⟨_, rfl, ?_⟩ ?_
  · show Row M _ 4 _ (seats.take 0 ++ [(⟨id, p, 0, 0⟩ : Seat)] ++ seats.drop 0).length (flatS (seats.take 0 ++ [⟨id, p, 0, 0⟩] ++ seats.drop 0))
    rw [hf, hl]
    refine Row.fin (w := w) hown5 hx.size hM ?_
    repeat (first | (with_reducible exact Ext.refl _ _) | ((with_reducible refine Ext.setCell ?_ ?_ _); rotate_left; (intro _; unfold Lo; simp; omega)))
  · repeat (first | (with_reducible assumption) | ((with_reducible refine Ext.own ?_ ?_ _); rotate_left; first | exact Nat.le_refl _ | exact Nat.le_succ _))

set_option maxRecDepth 100000 in
set_option maxHeartbeats 4000000 in
theorem radd_e3 (M : Nat → Prop) (base per : Int) (cap : Nat) (id p : Int) (w : World) (hM : ∀ b, M b → b < w.heap.size)
    (HS : Hid (Seats M w (.slice none 0 cap) []))
    (h1 : ringOk ⟨base, per, [], 0, false⟩ = true) (h2 : betB id 0 1073741824 = true) (h3 : betB p 0 3 = true) (h4 : findZ [] id < 0) :
    Calls Try.prog 24 #[.agg #[.int .i64 base, .int .i64 per, .slice none 0 cap, .int .i64 0, .bool false], .int .i64 id, .int .i64 p] w (AddPost M ⟨base, per, [], 0, false⟩ id p w) := by
  obtain ⟨i0, hi0, hz0, hz1, hz2⟩ := info_parts infoSeat
  have HV : Hid (RingV No w (.agg #[.int .i64 base, .int .i64 per, .slice none 0 cap, .int .i64 0, .bool false]) ⟨base, per, [], 0, false⟩) := Lib.hid (RingV.toNo ⟨_, rfl, HS.out⟩)
  have hcap := Row.caps HS.out
  have HT : Hid (Row M w 4 (.slice none 0 cap) 0 (((flatS [])).take (0 * 4))) := Row.takeC HS.out (by first | exact Nat.le_refl _ | (simp; done) | (simp; omega) | omega)
  obtain ⟨p1, p2⟩ := betB_true h3
  have g5 : ((0 : Int) == 16) = false := beq_eq_false_iff_ne.2 (by omega)
  have gd : (0 : Int) ≤ (cap : Int) := by omega
  have H1 := Lib.hid h1
  have HA := Lib.hid ((addE0 h1 (by rw [h2, h3]; rfl) (by simp only; omega) (by simp) : ringAdd ⟨base, per, [], 0, false⟩ id p = _).trans (congrArg (fun x => (x, (0 : Int))) (added_lo (by simp))))
  clear h1
  go_enter Try.func24, Try.ntmps24
  go_wp2_with fail
  refine (rvalid_any _ _ _ (HV.out.extNo (((Ext.refl _ _).alloc _).alloc _))).mono ?_
  rintro e1 w1 ⟨rfl, hx1⟩
  simp only [H1.out]
  have hB := hx1.blk (alloc_under (alloc_top (w := w) rfl)) (fun x => x.elim)
  have hC := hx1.blk (n := w.heap.size + 1) (alloc_top (by simp)) (fun x => x.elim)
  have hx := (((Ext.refl No w).alloc _).alloc _).transNo hx1
  have cB := cellOf hB
  clear hx1
  go_wp2_with (go_at_call 36; refine (counter_any _ _).mono ?_; rintro e' w1 ⟨rfl, rfl⟩)
  refine (seat_any _ _ _ _ (HV.out.extNo hx)).mono ?_
  rintro e2 w2 ⟨rfl, hx2⟩
  replace hB := hx2.blk hB (fun x => x.elim)
  replace hC := hx2.blk hC (fun x => x.elim)
  replace hx := hx.transNo hx2
  have cB := cellOf hB
  have fB := freeOf hB
  have hlB := lt_of_block hB
  have hlC := lt_of_block hC
  clear hx2
  go_wp2_with (first | (at_builtin; refine wpList_app _ rfl (.tmp 52) (.tmp 56) 23 rfl w2.heap.size 53 i0 _ 4 32 Try.underlying23 hi0 hz0 hz1 hz2 rfl (by omega) (.slice (some ⟨w2.heap.size, 0, none⟩) 0 0) 0 [] rfl (ownsNew (by simp)) M none 0 cap (((flatS [])).take (0 * 4)) rfl (Row.extNo HT.out (hx.alloc _)) (fun u hu => flatS_one [] u (List.mem_of_mem_take hu)) (by omega) (by omega) (by simp) ?_; intro v3 w3 hown3 hg3 hat3; simp only [Nat.zero_add, List.nil_append] at hown3; have hB3 := blk_grown (alloc_under (w := w2) (o := .cells #[] 53) hB) hg3 (fun k hk => by cases hk; exact hlB); have hC3 := blk_grown (alloc_under (w := w2) (o := .cells #[] 53) hC) hg3 (fun k hk => by cases hk; exact hlC); have hx3 := (hx.alloc (.cells #[] 53)).grown hg3 (fun k hk hlt => by cases hk; exact absurd hlt (Nat.not_lt.2 hx.size)); have hs3 : w2.heap.size ≤ w3.heap.size := Nat.le_trans (by simp) hg3.size; clear hat3 hg3; obtain ⟨a3, c3, rfl⟩ := (Row.ofOwns (M := No) hown3 (fun _ _ x => x)).slice; have cB3 := cellOf hB3) | (at_builtin; refine wpList_app _ rfl (.tmp 58) (.tmp 62) 23 rfl w2.heap.size 53 i0 _ 4 32 Try.underlying23 hi0 hz0 hz1 hz2 rfl (by omega) (.slice a3 0 c3) 0 _ rfl (hown3.alloc _) No (some ⟨w3.heap.size, 0, none⟩) 1 1 (Seat.cells ⟨id, p, 0, 0⟩) rfl (Row.block (alloc_top (by simp)) rfl (fun x => x.elim) (by omega)) (by simp [Seat.cells, Value.oneCell']) (by omega) (by omega) (by simp; omega) ?_; intro v4 w4 hown4 hg4 hat4; have hlt3 := hown3.lt; have hB4 := blk_grown (alloc_under (o := .cells #[.int .i64 id, .int .i64 p, .int .i64 0, .int .i64 0] 53) hB3) hg4 (fun k hk => Nat.lt_of_lt_of_le (by omega) (hlt3 k hk).1); have hC4 := blk_grown (alloc_under (o := .cells #[.int .i64 id, .int .i64 p, .int .i64 0, .int .i64 0] 53) hC3) hg4 (fun k hk => Nat.lt_of_lt_of_le (by omega) (hlt3 k hk).1); have hx4 := (hx3.alloc (.cells #[.int .i64 id, .int .i64 p, .int .i64 0, .int .i64 0] 53)).grown hg4 (fun k hk hlt => absurd hlt (Nat.not_lt.2 (Nat.le_trans hx.size (hlt3 k hk).1))); have hs4 : w2.heap.size ≤ w4.heap.size := Nat.le_trans hs3 (Nat.le_trans (by simp) hg4.size); clear hat4 hg4 hlt3 hown3 hx3 hB3 hC3 cB3; obtain ⟨a4, c4, rfl⟩ := (Row.ofOwns (M := No) hown4 (fun _ _ x => x)).slice; have cB4 := cellOf hB4) | (at_builtin; go_loud (refine wpList_app _ rfl (.tmp 64) (.tmp 68) 23 rfl w2.heap.size 53 i0 _ 4 32 Try.underlying23 hi0 hz0 hz1 hz2 rfl (by omega) (.slice a4 (0 + 1) c4) (0 + 1) _ rfl hown4 M none 0 cap [] rfl (Row.nil _ _ _ _ _ (by omega)) (by simp) (by omega) (by omega) hs4 ?_); intro v5 w5 hown5 hg5 hat5; go_loud (have hlt4 := hown4.lt; have hB5 := blk_grown hB4 hg5 (fun k hk => Nat.lt_of_lt_of_le (by omega) (hlt4 k hk).1); have hC5 := blk_grown hC4 hg5 (fun k hk => Nat.lt_of_lt_of_le (by omega) (hlt4 k hk).1); have hx5 := (hx4).grown hg5 (fun k hk hlt => absurd hlt (Nat.not_lt.2 (Nat.le_trans hx.size (hlt4 k hk).1))); have hs5 : w2.heap.size ≤ w5.heap.size := Nat.le_trans hs4 hg5.size; clear hat5 hg5 hlt4 hown4 hx4 hB4 hC4; obtain ⟨a5, c5, rfl⟩ := (Row.ofOwns (M := No) hown5 (fun _ _ x => x)).slice; have cB5 := cellOf hB5; have cC5 := cellOf hC5; have fB5 := freeOf hB5; have fC5 := freeOf hC5)))
  refine ret_ex rfl ?_
  simp [results, Try.results24, go_sem, cC5]
  have hf : flatS (([] : List Seat).take 0 ++ [⟨id, p, 0, 0⟩] ++ ([] : List Seat).drop 0) = ((flatS [])).take (0 * 4) ++ Seat.cells ⟨id, p, 0, 0⟩ ++ [] := by
    rfl
  have hl : (([] : List Seat).take 0 ++ [(⟨id, p, 0, 0⟩ : Seat)] ++ ([] : List Seat).drop 0).length = 0 + 1 + 0 := by
    simp only [List.length_append, List.length_take, List.length_drop, List.length_cons, List.length_nil]
    omega
  refine AddPost.mk HA.out rfl ⟨_, rfl, ?_⟩ ?_
  · show Row M _ 4 _ (([] : List Seat).take 0 ++ [(⟨id, p, 0, 0⟩ : Seat)] ++ ([] : List Seat).drop 0).length (flatS (([] : List Seat).take 0 ++ [⟨id, p, 0, 0⟩] ++ ([] : List Seat).drop 0))
    rw [hf, hl]
    refine Row.fin (w := w) hown5 hx.size hM ?_
    repeat (first | (with_reducible exact Ext.refl _ _) | ((with_reducible refine Ext.setCell ?_ ?_ _); rotate_left; (intro _; unfold Lo; simp; omega)))
  · repeat (first | (with_reducible assumption) | ((with_reducible refine Ext.own ?_ ?_ _); rotate_left; first | exact Nat.le_refl _ | exact Nat.le_succ _))

set_option maxRecDepth 100000 in
set_option maxHeartbeats 4000000 in
theorem radd_e4 (M : Nat → Prop) (base per : Int) (ad : Addr) (cap : Nat) (id p : Int) (w : World) (hM : ∀ b, M b → b < w.heap.size)
    (HS : Hid (Seats M w (.slice (some ad) 0 cap) []))
    (h1 : ringOk ⟨base, per, [], 0, false⟩ = true) (h2 : betB id 0 1073741824 = true) (h3 : betB p 0 3 = true) (h4 : findZ [] id < 0) :
    Calls Try.prog 24 #[.agg #[.int .i64 base, .int .i64 per, .slice (some ad) 0 cap, .int .i64 0, .bool false], .int .i64 id, .int .i64 p] w (AddPost M ⟨base, per, [], 0, false⟩ id p w) := by
  obtain ⟨i0, hi0, hz0, hz1, hz2⟩ := info_parts infoSeat
  have HV : Hid (RingV No w (.agg #[.int .i64 base, .int .i64 per, .slice (some ad) 0 cap, .int .i64 0, .bool false]) ⟨base, per, [], 0, false⟩) := Lib.hid (RingV.toNo ⟨_, rfl, HS.out⟩)
  have hcap := Row.caps HS.out
  have HT : Hid (Row M w 4 (.slice (some ad) 0 cap) 0 (((flatS [])).take (0 * 4))) := Row.takeC HS.out (by first | exact Nat.le_refl _ | (simp; done) | (simp; omega) | omega)
  obtain ⟨p1, p2⟩ := betB_true h3
  have g5 : ((0 : Int) == 16) = false := beq_eq_false_iff_ne.2 (by omega)
  have gd : (0 : Int) ≤ (cap : Int) := by omega
  have H1 := Lib.hid h1
  have HA := Lib.hid ((addE0 h1 (by rw [h2, h3]; rfl) (by simp only; omega) (by simp) : ringAdd ⟨base, per, [], 0, false⟩ id p = _).trans (congrArg (fun x => (x, (0 : Int))) (added_lo (by simp))))
  clear h1
  go_enter Try.func24, Try.ntmps24
  go_wp2_with fail
  refine (rvalid_any _ _ _ (HV.out.extNo (((Ext.refl _ _).alloc _).alloc _))).mono ?_
  rintro e1 w1 ⟨rfl, hx1⟩
  simp only [H1.out]
  have hB := hx1.blk (alloc_under (alloc_top (w := w) rfl)) (fun x => x.elim)
  have hC := hx1.blk (n := w.heap.size + 1) (alloc_top (by simp)) (fun x => x.elim)
  have hx := (((Ext.refl No w).alloc _).alloc _).transNo hx1
  have cB := cellOf hB
  clear hx1
  go_wp2_with (go_at_call 36; refine (counter_any _ _).mono ?_; rintro e' w1 ⟨rfl, rfl⟩)
  refine (seat_any _ _ _ _ (HV.out.extNo hx)).mono ?_
  rintro e2 w2 ⟨rfl, hx2⟩
  replace hB := hx2.blk hB (fun x => x.elim)
  replace hC := hx2.blk hC (fun x => x.elim)
  replace hx := hx.transNo hx2
  have cB := cellOf hB
  have fB := freeOf hB
  have hlB := lt_of_block hB
  have hlC := lt_of_block hC
  clear hx2
  go_wp2_with (first | (at_builtin; refine wpList_app _ rfl (.tmp 52) (.tmp 56) 23 rfl w2.heap.size 53 i0 _ 4 32 Try.underlying23 hi0 hz0 hz1 hz2 rfl (by omega) (.slice (some ⟨w2.heap.size, 0, none⟩) 0 0) 0 [] rfl (ownsNew (by simp)) M (some ad) 0 cap (((flatS [])).take (0 * 4)) rfl (Row.extNo HT.out (hx.alloc _)) (fun u hu => flatS_one [] u (List.mem_of_mem_take hu)) (by omega) (by omega) (by simp) ?_; intro v3 w3 hown3 hg3 hat3; simp only [Nat.zero_add, List.nil_append] at hown3; have hB3 := blk_grown (alloc_under (w := w2) (o := .cells #[] 53) hB) hg3 (fun k hk => by cases hk; exact hlB); have hC3 := blk_grown (alloc_under (w := w2) (o := .cells #[] 53) hC) hg3 (fun k hk => by cases hk; exact hlC); have hx3 := (hx.alloc (.cells #[] 53)).grown hg3 (fun k hk hlt => by cases hk; exact absurd hlt (Nat.not_lt.2 hx.size)); have hs3 : w2.heap.size ≤ w3.heap.size := Nat.le_trans (by simp) hg3.size; clear hat3 hg3; obtain ⟨a3, c3, rfl⟩ := (Row.ofOwns (M := No) hown3 (fun _ _ x => x)).slice; have cB3 := cellOf hB3) | (at_builtin; refine wpList_app _ rfl (.tmp 58) (.tmp 62) 23 rfl w2.heap.size 53 i0 _ 4 32 Try.underlying23 hi0 hz0 hz1 hz2 rfl (by omega) (.slice a3 0 c3) 0 _ rfl (hown3.alloc _) No (some ⟨w3.heap.size, 0, none⟩) 1 1 (Seat.cells ⟨id, p, 0, 0⟩) rfl (Row.block (alloc_top (by simp)) rfl (fun x => x.elim) (by omega)) (by simp [Seat.cells, Value.oneCell']) (by omega) (by omega) (by simp; omega) ?_; intro v4 w4 hown4 hg4 hat4; have hlt3 := hown3.lt; have hB4 := blk_grown (alloc_under (o := .cells #[.int .i64 id, .int .i64 p, .int .i64 0, .int .i64 0] 53) hB3) hg4 (fun k hk => Nat.lt_of_lt_of_le (by omega) (hlt3 k hk).1); have hC4 := blk_grown (alloc_under (o := .cells #[.int .i64 id, .int .i64 p, .int .i64 0, .int .i64 0] 53) hC3) hg4 (fun k hk => Nat.lt_of_lt_of_le (by omega) (hlt3 k hk).1); have hx4 := (hx3.alloc (.cells #[.int .i64 id, .int .i64 p, .int .i64 0, .int .i64 0] 53)).grown hg4 (fun k hk hlt => absurd hlt (Nat.not_lt.2 (Nat.le_trans hx.size (hlt3 k hk).1))); have hs4 : w2.heap.size ≤ w4.heap.size := Nat.le_trans hs3 (Nat.le_trans (by simp) hg4.size); clear hat4 hg4 hlt3 hown3 hx3 hB3 hC3 cB3; obtain ⟨a4, c4, rfl⟩ := (Row.ofOwns (M := No) hown4 (fun _ _ x => x)).slice; have cB4 := cellOf hB4) | (at_builtin; go_loud (refine wpList_app _ rfl (.tmp 64) (.tmp 68) 23 rfl w2.heap.size 53 i0 _ 4 32 Try.underlying23 hi0 hz0 hz1 hz2 rfl (by omega) (.slice a4 (0 + 1) c4) (0 + 1) _ rfl hown4 M (some ad) 0 cap [] rfl (Row.nil _ _ _ _ _ (by omega)) (by simp) (by omega) (by omega) hs4 ?_); intro v5 w5 hown5 hg5 hat5; go_loud (have hlt4 := hown4.lt; have hB5 := blk_grown hB4 hg5 (fun k hk => Nat.lt_of_lt_of_le (by omega) (hlt4 k hk).1); have hC5 := blk_grown hC4 hg5 (fun k hk => Nat.lt_of_lt_of_le (by omega) (hlt4 k hk).1); have hx5 := (hx4).grown hg5 (fun k hk hlt => absurd hlt (Nat.not_lt.2 (Nat.le_trans hx.size (hlt4 k hk).1))); have hs5 : w2.heap.size ≤ w5.heap.size := Nat.le_trans hs4 hg5.size; clear hat5 hg5 hlt4 hown4 hx4 hB4 hC4; obtain ⟨a5, c5, rfl⟩ := (Row.ofOwns (M := No) hown5 (fun _ _ x => x)).slice; have cB5 := cellOf hB5; have cC5 := cellOf hC5; have fB5 := freeOf hB5; have fC5 := freeOf hC5)))
  refine ret_ex rfl ?_
  simp [results, Try.results24, go_sem, cC5]
  have hf : flatS (([] : List Seat).take 0 ++ [⟨id, p, 0, 0⟩] ++ ([] : List Seat).drop 0) = ((flatS [])).take (0 * 4) ++ Seat.cells ⟨id, p, 0, 0⟩ ++ [] := by
    rfl
  have hl : (([] : List Seat).take 0 ++ [(⟨id, p, 0, 0⟩ : Seat)] ++ ([] : List Seat).drop 0).length = 0 + 1 + 0 := by
    simp only [List.length_append, List.length_take, List.length_drop, List.length_cons, List.length_nil]
    omega
  refine AddPost.mk HA.out rfl ⟨_, rfl, ?_⟩ ?_
  · show Row M _ 4 _ (([] : List Seat).take 0 ++ [(⟨id, p, 0, 0⟩ : Seat)] ++ ([] : List Seat).drop 0).length (flatS (([] : List Seat).take 0 ++ [⟨id, p, 0, 0⟩] ++ ([] : List Seat).drop 0))
    rw [hf, hl]
    refine Row.fin (w := w) hown5 hx.size hM ?_
    repeat (first | (with_reducible exact Ext.refl _ _) | ((with_reducible refine Ext.setCell ?_ ?_ _); rotate_left; (intro _; unfold Lo; simp; omega)))
  · repeat (first | (with_reducible assumption) | ((with_reducible refine Ext.own ?_ ?_ _); rotate_left; first | exact Nat.le_refl _ | exact Nat.le_succ _))

theorem raddSeat_any (M : Nat → Prop) (v : Value) (r : Ring) (id p : Int) (w : World) (hM : ∀ b, M b → b < w.heap.size) (h : RingV M w v r) :
    Calls Try.prog 24 #[v, .int .i64 id, .int .i64 p] w (AddPost M r id p w) := by
  by_cases h1 : ringOk r = true
  · by_cases h2 : (betB id 0 1073741824 && betB p 0 3) = true
    · by_cases h4 : 0 ≤ findZ r.seats id
      · exact radd_no M v r id p w h (.inr (.inr (.inl h4)))
      · by_cases h5 : r.seats.length = 16
        · exact radd_no M v r id p w h (.inr (.inr (.inr h5)))
        · obtain ⟨h6, h7, h8⟩ := ok_len h1
          obtain ⟨g2, g3⟩ : betB id 0 1073741824 = true ∧ betB p 0 3 = true := by simpa using h2
          obtain ⟨base, per, seats, cur, opn⟩ := r
          simp only at h4 h5 h6 h7 h8
          obtain ⟨c, rfl⟩ := Int.eq_ofNat_of_zero_le h7
          obtain ⟨sl, rfl, hs⟩ := h
          rcases Nat.eq_zero_or_pos c with hc | hc
          · subst hc
            cases opn with
            | true =>
              have hn : 0 < seats.length := by rcases h8 with h8 | ⟨_, _, h8⟩; omega; exact absurd h8 (by simp)
              obtain ⟨b, off, cap, rfl, _, _, _⟩ := Row.shape hs hn
              exact radd_z M base per seats b off cap id p w hM hs h1 g2 g3 (by omega) (by omega) hn
            | false =>
              rcases Nat.eq_zero_or_pos seats.length with h0 | h0
              · obtain ⟨a, cap, rfl⟩ := Row.slice hs
                obtain rfl := List.eq_nil_of_length_eq_zero h0
                cases a with
                | none => exact radd_e3 M base per cap id p w hM hs h1 g2 g3 (by omega)
                | some ad => exact radd_e4 M base per ad cap id p w hM hs h1 g2 g3 (by omega)
              · obtain ⟨b, off, cap, rfl, _, _, _⟩ := Row.shape hs h0
                by_cases hcap : cap = seats.length
                · exact radd_l2 M base per seats b off cap id p w hM hs h1 g2 g3 (by omega) (by omega) h0 hcap
                · exact radd_l1 M base per seats b off cap id p w hM hs h1 g2 g3 (by omega) (by omega) h0 hcap
          · obtain ⟨b, off, cap, rfl, _, _, _⟩ := Row.shape hs (show 0 < seats.length by omega)
            exact radd_hi M base per seats b off c opn cap id p w hM hs h1 g2 g3 (by omega) (by omega) hc (by omega)
    · exact radd_no M v r id p w h (.inr (.inl (by simpa using h2)))
  · exact radd_no M v r id p w h (.inl (by simpa using h1))
end Go.Proofs.Ytckeidboolfcoaa

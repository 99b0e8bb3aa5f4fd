/- The reference's Remove. -/
import Derived.Test.YtckeidboolfcoaaRota7b
import Derived.Test.YtckeidboolfcoaaRota5
namespace Go.Proofs.Ytckeidboolfcoaa
open Go Go.RowKit

set_option maxRecDepth 100000 in
set_option maxHeartbeats 2000000 in
theorem rrem_no (M : Nat → Prop) (v : Value) (r : Ring) (id : Int) (w : World) (h : RingV M w v r) (hf : findZ r.seats id < 0 ∨ ringOk r = false) :
    Calls Try.prog 25 #[v, .int .i64 id] w (RemPost M r id w) := by
  have HW := Lib.hid h
  have HV := Lib.hid h.toNo
  have HA := Lib.hid (remNo hf)
  obtain ⟨sl, rfl, hs⟩ := h
  obtain ⟨a, cap, rfl⟩ := hs.slice
  have hlen := hs.2.1
  clear hs
  have hp : (0 ≤ findZ r.seats id ∧ ringOk r = false) ∨ (findZ r.seats id < 0 ∧ ringOk r = false) ∨ (findZ r.seats id < 0 ∧ ringOk r = true) := by
    cases h1 : ringOk r with
    | false =>
      by_cases h0 : findZ r.seats id < 0
      · exact .inr (.inl ⟨h0, rfl⟩)
      · exact .inl ⟨by omega, rfl⟩
    | true => exact .inr (.inr ⟨hf.resolve_right (by rw [h1]; simp), rfl⟩)
  clear hf
  rcases hp with ⟨g, gk⟩ | ⟨g, gk⟩ | ⟨g, gk⟩
  all_goals
    go_enter Try.func25, Try.ntmps25
    go_wp2_with fail
    have hx0 : Ext No w ((w.alloc (.cells #[.int .i64 r.base, .int .i64 r.per, .slice a r.seats.length cap, .int .i64 r.cur, .bool r.opn] 25)).alloc (.cells #[.int .i64 0, .int .i64 0, .slice none 0 0, .int .i64 0, .bool false] 25)) := ((Ext.refl _ _).alloc _).alloc _
    refine (seat_any _ r _ _ (HV.out.extNo hx0)).mono ?_
    rintro e1 w1 ⟨rfl, hx1⟩
    have hB := hx1.blk (alloc_under (alloc_top (w := w) rfl)) (fun x => x.elim)
    have hC := hx1.blk (n := w.heap.size + 1) (alloc_top (by simp)) (fun x => x.elim)
    have hx := hx0.transNo hx1
    have cB := cellOf hB
    have cC := cellOf hC
    have fC := freeOf hC
    clear hx0 hx1
    go_wp2_with (go_at_call 27; refine (rvalid_any _ r _ (HV.out.extNo hx)).mono ?_; rintro e2 w2 ⟨rfl, hx2⟩; replace hB := hx2.blk hB (fun x => x.elim); replace hC := hx2.blk hC (fun x => x.elim); replace hx := hx.transNo hx2; have cB := cellOf hB; have cC := cellOf hC; have fC := freeOf hC; clear hx2)
    refine ret_ex rfl ?_
    simp [results, Try.results25, go_sem, cC]
    have hxe : Ext No w _ := hx
    refine RemPost.mk HA.out rfl (HW.out.extNo (w' := _) ?_) ?_
    all_goals repeat (first | (with_reducible assumption) | ((with_reducible refine Ext.own ?_ ?_ _); rotate_left; first | exact Nat.le_refl _ | exact Nat.le_succ _))

set_option maxRecDepth 100000 in
set_option maxHeartbeats 16000000 in
theorem rrem_yes (M : Nat → Prop) (base per cur : Int) (opn : Bool) (seats : List Seat) (b off cap i : Nat) (id : Int) (w : World) (hM : ∀ b, M b → b < w.heap.size)
    (HS : Hid (Seats M w (.slice (some ⟨b, off, none⟩) seats.length cap) seats)) (h1 : ringOk ⟨base, per, seats, cur, opn⟩ = true) (hfi : findZ seats id = i) (hi : i < seats.length) :
    Calls Try.prog 25 #[.agg #[.int .i64 base, .int .i64 per, .slice (some ⟨b, off, none⟩) seats.length cap, .int .i64 cur, .bool opn], .int .i64 id] w (RemPost M ⟨base, per, seats, cur, opn⟩ id w) := by
  obtain ⟨i0, hi0, hz0, hz1, hz2⟩ := info_parts infoSeat
  have HV : Hid (RingV No w (.agg #[.int .i64 base, .int .i64 per, .slice (some ⟨b, off, none⟩) seats.length cap, .int .i64 cur, .bool opn]) ⟨base, per, seats, cur, opn⟩) := Lib.hid (RingV.toNo ⟨_, rfl, HS.out⟩)
  have hcap := Row.caps HS.out
  obtain ⟨hl16, hc0, hc1⟩ := ok_len h1
  simp only at hl16 hc0 hc1
  have hcn : cur < seats.length := by omega
  clear hc1
  have HF := Lib.hid hfi
  have H1 := Lib.hid h1
  have HA := Lib.hid (remYes (r := ⟨base, per, seats, cur, opn⟩) (id := id) (by simp only; rw [hfi, h1]; simp) |>.trans (by simp only [hfi, Int.toNat_natCast] : _ = (removed ⟨base, per, seats, cur, opn⟩ i, true)))
  clear h1 hfi
  have e1 : IntKind.i64.wrap ((i : Int) + 1) = (i : Int) + 1 := IntWalk.i64_in _ (by omega)
  have e2 : (0 : Int) ≤ (i : Int) + 1 := by omega
  have e3 : (i : Int) ≤ (cap : Int) := by omega
  have e4 : (i : Int) + 1 ≤ (seats.length : Int) := by omega
  have e5 : ((i : Int) + 1).toNat = i + 1 := by omega
  have e7 : i ≤ cap := by omega
  have e8 : i + 1 ≤ cap := by omega
  have e9 : i + 1 ≤ seats.length := by omega
  obtain ⟨A, hA⟩ : ∃ A : Option Addr, (if cap = i + 1 then some (⟨b, off, none⟩ : Addr) else some ⟨b, off + (i + 1) * 4, none⟩) = A := ⟨_, rfl⟩
  have HRow : Hid (Row M w 4 (.slice A (seats.length - (i + 1)) (cap - (i + 1))) (seats.length - (i + 1)) ((flatS seats).drop ((i + 1) * 4))) := by
    by_cases hce : cap = i + 1
    · have : seats.length - (i + 1) = 0 := by omega
      rw [this, List.drop_eq_nil_of_le (by rw [flatS_len]; omega)]
      exact Row.nil _ _ _ _ _ (by omega)
    · rw [if_neg hce] at hA
      subst hA
      exact HS.out.drop (by omega)
  go_enter Try.func25, Try.ntmps25
  go_wp2_with fail
  have hx0 : Ext No w ((w.alloc (.cells #[.int .i64 base, .int .i64 per, .slice (some ⟨b, off, none⟩) seats.length cap, .int .i64 cur, .bool opn] 25)).alloc (.cells #[.int .i64 0, .int .i64 0, .slice none 0 0, .int .i64 0, .bool false] 25)) := ((Ext.refl _ _).alloc _).alloc _
  refine (seat_any _ _ _ _ (HV.out.extNo hx0)).mono ?_
  rintro e1 w1 ⟨rfl, hx1⟩
  simp only [HF.out]
  have hB := hx1.blk (alloc_under (alloc_top (w := w) rfl)) (fun x => x.elim)
  have hC := hx1.blk (n := w.heap.size + 1) (alloc_top (by simp)) (fun x => x.elim)
  have hx := hx0.transNo hx1
  have cB := cellOf hB
  clear hx0 hx1
  go_wp2_with fail
  refine (rvalid_any _ _ _ (HV.out.extNo hx)).mono ?_
  rintro e2 w2 ⟨rfl, hx2⟩
  simp only [H1.out]
  replace hB := hx2.blk hB (fun x => x.elim)
  replace hC := hx2.blk hC (fun x => x.elim)
  replace hx := hx.transNo hx2
  have hlB := lt_of_block hB
  have k2 : w2.cell? ⟨w.heap.size, 2, none⟩ = some (.slice (some ⟨b, off, none⟩) seats.length cap) := (cellOf hB 2).trans rfl
  have f2 : w2.frozen? ⟨w.heap.size, 2, none⟩ = false := freeOf hB 2
  clear hx2 cB
  go_wp2_with fail
  go_region_law
    (first | (refine step_of _ (by rfl) (wp_app _ (.tmp 18) (.tmp 22) 23 (by rfl) w2.heap.size 53 i0 _ 4 32 Try.underlying23 hi0 hz0 hz1 hz2 rfl (by omega) (.slice (some ⟨w2.heap.size, 0, none⟩) 0 0) 0 [] (by rfl) (World.ownsRow_made w2.drew #[] 0 (Nat.le_refl _) (Nat.zero_le _) rfl) M (some ⟨b, off, none⟩) i cap ((flatS seats).take (i * 4)) (by rfl) (Row.extNo (Row.takeC HS.out (by omega)) ((hx.drew).alloc _)) (fun u hu => flatS_one seats u (List.mem_of_mem_take hu)) (by omega) (by omega) (by simp) ?_); intro v3 w3 hown3 hg3 hat3; simp only [Nat.zero_add, List.nil_append] at hown3; clear hat3; obtain ⟨a3, c3, rfl⟩ := (Row.ofOwns (M := No) hown3 (fun _ _ x => x)).slice; have hB3 := blk_grown (w := (w2.drew).alloc (.cells #[] 53)) (alloc_under (w := w2.drew) hB) hg3 (fun k hk => by cases hk; exact hlB); have hC3 := blk_grown (w := (w2.drew).alloc (.cells #[] 53)) (alloc_under (w := w2.drew) hC) hg3 (fun k hk => by cases hk; exact lt_of_block hC); have hx3 := ((hx.drew).alloc (.cells #[] 53)).grown hg3 (fun k hk hlt => by cases hk; exact absurd hlt (Nat.not_lt.2 hx.size)); have hs3 : w2.heap.size ≤ w3.heap.size := Nat.le_trans (by simp) hg3.size; have cB3 := cellOf hB3; have cC3 := cellOf hC3; have fB3 := freeOf hB3; have fC3 := freeOf hC3; clear hg3) | (refine step_of _ (by rfl) (wp_app _ (.tmp 23) (.tmp 28) 23 (by rfl) w2.heap.size 53 i0 _ 4 32 Try.underlying23 hi0 hz0 hz1 hz2 rfl (by omega) (.slice a3 i c3) i _ (by rfl) hown3 M A (seats.length - (i + 1)) (cap - (i + 1)) ((flatS seats).drop ((i + 1) * 4)) (by rfl) (Row.extNo HRow.out hx3) (fun u hu => flatS_one seats u (List.mem_of_mem_drop hu)) (by omega) (by omega) hs3 ?_); intro v4 w4 hown4 hg4 hat4; have hlt4 := hown3.lt; obtain ⟨a4, c4, rfl⟩ := (Row.ofOwns (M := No) hown4 (fun _ _ x => x)).slice; have hB4 := blk_grown hB3 hg4 (fun k hk => Nat.lt_of_lt_of_le hlB (hlt4 k hk).1); have hC4 := blk_grown hC3 hg4 (fun k hk => Nat.lt_of_lt_of_le (lt_of_block hC) (hlt4 k hk).1); have hx4 := (hx3).grown hg4 (fun k hk hlt => absurd hlt (Nat.not_lt.2 (Nat.le_trans hx.size (hlt4 k hk).1))); have hs4 : w2.heap.size ≤ w4.heap.size := Nat.le_trans hs3 hg4.size; have cB4 := cellOf hB4; have cC4 := cellOf hC4; have fB4 := freeOf hB4; have fC4 := freeOf hC4; clear hg4; clear hat4 hlt4 hown3))
  all_goals
    clear e1 e2 e3 e4 e5 e7 e8 e9 hA cB3 cC3 fB3 fC3 hB3 hC3 hx3
    have hlC := lt_of_block hC
    rcases Int.lt_trichotomy (i : Int) cur with hc | hc | hc
    · have HR := Lib.hid (rem_lt (base := base) (per := per) (opn := opn) (seats := seats) hc)
      go_wp2
      refine ret_ex rfl ?_
      simp [results, Try.results25, go_sem, cC4]
      have hf : flatS (seats.take i ++ seats.drop (i + 1)) = (flatS seats).take (i * 4) ++ (flatS seats).drop ((i + 1) * 4) := by
        rw [flatS_app, flatS_take, flatS_drop]
      have hl : (seats.take i ++ seats.drop (i + 1)).length = i + (seats.length - (i + 1)) := by
        simp only [List.length_append, List.length_take, List.length_drop]
        omega
      refine RemPost.mk (HA.out.trans (congrArg (fun x => (x, true)) HR.out)) rfl ⟨_, rfl, ?_⟩ ?_
      · show Row M _ 4 _ (seats.take i ++ seats.drop (i + 1)).length (flatS (seats.take i ++ seats.drop (i + 1)))
        rw [hf, hl]
        refine Row.fin (w := w) hown4 hx.size hM ?_
        repeat (first | (with_reducible exact (Ext.refl _ _)) | (with_reducible refine Ext.drew ?_) | ((with_reducible refine Ext.setCell ?_ ?_ _); rotate_left; (intro _; unfold Lo; simp; omega)))
      · repeat (first | (with_reducible assumption) | (with_reducible refine Ext.drew ?_) | ((with_reducible refine Ext.own ?_ ?_ _); rotate_left; first | exact Nat.le_refl _ | exact Nat.le_succ _))
    · obtain rfl := hc
      rcases Nat.lt_or_ge (i + 1) seats.length with h3 | h3
      · have HR := Lib.hid (rem_eq (base := base) (per := per) (opn := opn) (seats := seats) h3)
        go_wp2
        refine ret_ex rfl ?_
        simp [results, Try.results25, go_sem, cC4]
        have hf : flatS (seats.take i ++ seats.drop (i + 1)) = (flatS seats).take (i * 4) ++ (flatS seats).drop ((i + 1) * 4) := by
          rw [flatS_app, flatS_take, flatS_drop]
        have hl : (seats.take i ++ seats.drop (i + 1)).length = i + (seats.length - (i + 1)) := by
          simp only [List.length_append, List.length_take, List.length_drop]
          omega
        refine RemPost.mk (HA.out.trans (congrArg (fun x => (x, true)) HR.out)) rfl ⟨_, rfl, ?_⟩ ?_
        · show Row M _ 4 _ (seats.take i ++ seats.drop (i + 1)).length (flatS (seats.take i ++ seats.drop (i + 1)))
          rw [hf, hl]
          refine Row.fin (w := w) hown4 hx.size hM ?_
          repeat (first | (with_reducible exact (Ext.refl _ _)) | (with_reducible refine Ext.drew ?_) | ((with_reducible refine Ext.setCell ?_ ?_ _); rotate_left; (intro _; unfold Lo; simp; omega)))
        · repeat (first | (with_reducible assumption) | (with_reducible refine Ext.drew ?_) | ((with_reducible refine Ext.own ?_ ?_ _); rotate_left; first | exact Nat.le_refl _ | exact Nat.le_succ _))
      · have HR := Lib.hid (rem_last (base := base) (per := per) (opn := opn) (seats := seats) (show i + 1 = seats.length by omega))
        have hz : seats.length - (i + 1) = 0 := by omega
        rw [hz, Nat.add_zero] at hown4
        clear hz
        go_wp2
        refine ret_ex rfl ?_
        simp [results, Try.results25, go_sem, cC4]
        have hf : flatS (seats.take i ++ seats.drop (i + 1)) = (flatS seats).take (i * 4) ++ (flatS seats).drop ((i + 1) * 4) := by
          rw [flatS_app, flatS_take, flatS_drop]
        have hl : (seats.take i ++ seats.drop (i + 1)).length = i := by
          simp only [List.length_append, List.length_take, List.length_drop]
          omega
        refine RemPost.mk (HA.out.trans (congrArg (fun x => (x, true)) HR.out)) rfl ⟨_, rfl, ?_⟩ ?_
        · show Row M _ 4 _ (seats.take i ++ seats.drop (i + 1)).length (flatS (seats.take i ++ seats.drop (i + 1)))
          rw [hf, hl]
          refine Row.fin (w := w) hown4 hx.size hM ?_
          repeat (first | (with_reducible exact (Ext.refl _ _)) | (with_reducible refine Ext.drew ?_) | ((with_reducible refine Ext.setCell ?_ ?_ _); rotate_left; (intro _; unfold Lo; simp; omega)))
        · repeat (first | (with_reducible assumption) | (with_reducible refine Ext.drew ?_) | ((with_reducible refine Ext.own ?_ ?_ _); rotate_left; first | exact Nat.le_refl _ | exact Nat.le_succ _))
    · have HR := Lib.hid (rem_gt (base := base) (per := per) (opn := opn) (seats := seats) hc)
      go_wp2
      refine ret_ex rfl ?_
      simp [results, Try.results25, go_sem, cC4]
      have hf : flatS (seats.take i ++ seats.drop (i + 1)) = (flatS seats).take (i * 4) ++ (flatS seats).drop ((i + 1) * 4) := by
        rw [flatS_app, flatS_take, flatS_drop]
      have hl : (seats.take i ++ seats.drop (i + 1)).length = i + (seats.length - (i + 1)) := by
        simp only [List.length_append, List.length_take, List.length_drop]
        omega
      refine RemPost.mk (HA.out.trans (congrArg (fun x => (x, true)) HR.out)) rfl ⟨_, rfl, ?_⟩ ?_
      · show Row M _ 4 _ (seats.take i ++ seats.drop (i + 1)).length (flatS (seats.take i ++ seats.drop (i + 1)))
        rw [hf, hl]
        refine Row.fin (w := w) hown4 hx.size hM ?_
        repeat (first | (with_reducible exact (Ext.refl _ _)) | (with_reducible refine Ext.drew ?_) | ((with_reducible refine Ext.setCell ?_ ?_ _); rotate_left; (intro _; unfold Lo; simp; omega)))
      · repeat (first | (with_reducible assumption) | (with_reducible refine Ext.drew ?_) | ((with_reducible refine Ext.own ?_ ?_ _); rotate_left; first | exact Nat.le_refl _ | exact Nat.le_succ _))

theorem rremove_any (M : Nat → Prop) (v : Value) (r : Ring) (id : Int) (w : World) (hM : ∀ b, M b → b < w.heap.size) (h : RingV M w v r) :
    Calls Try.prog 25 #[v, .int .i64 id] w (RemPost M r id w) := by
  by_cases hf : findZ r.seats id < 0 ∨ ringOk r = false
  · exact rrem_no M v r id w h hf
  · have h1 : ringOk r = true := by
      cases h1 : ringOk r with
      | true => rfl
      | false => exact absurd (.inr h1) hf
    obtain ⟨i, hi, hi2⟩ := findZ_ge (fun x => hf (.inl x))
    obtain ⟨base, per, seats, cur, opn⟩ := r
    obtain ⟨sl, rfl, hs⟩ := h
    obtain ⟨b, off, cap, rfl, _, _, _⟩ := Row.shape hs (show 0 < seats.length from Nat.lt_of_le_of_lt (Nat.zero_le _) hi2)
    exact rrem_yes M base per cur opn seats b off cap i id w hM hs h1 hi hi2
end Go.Proofs.Ytckeidboolfcoaa

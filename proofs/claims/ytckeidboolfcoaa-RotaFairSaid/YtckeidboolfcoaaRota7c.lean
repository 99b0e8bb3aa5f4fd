/- rota: Remove: the last seat; all ways. -/
import Derived.Test.YtckeidboolfcoaaRota7b
namespace Go.Proofs.Ytckeidboolfcoaa
open Go Go.RowKit

set_option maxRecDepth 100000 in
set_option maxHeartbeats 4000000 in
theorem rem_end (M : Nat → Prop) (base per cur : Int) (opn : Bool) (seats : List Seat) (b off cap i : Nat) (id : Int) (w : World) (hM : ∀ b, M b → b < w.heap.size)
    (HS : Hid (Seats M w (.slice (some ⟨b, off, none⟩) seats.length cap) seats)) (h1 : ringOk ⟨base, per, seats, cur, opn⟩ = true) (hfi : findZ seats id = i) (hi : i + 1 = seats.length) :
    Calls Try.prog 20 #[.agg #[.int .i64 base, .int .i64 per, .slice (some ⟨b, off, none⟩) seats.length cap, .int .i64 cur, .bool opn], .int .i64 id] w (RemPost M ⟨base, per, seats, cur, opn⟩ id w) := by
  obtain ⟨i0, hi0, hz0, hz1, hz2⟩ := info_parts infoSeat
  have HV : Hid (RingV No w (.agg #[.int .i64 base, .int .i64 per, .slice (some ⟨b, off, none⟩) seats.length cap, .int .i64 cur, .bool opn]) ⟨base, per, seats, cur, opn⟩) := Lib.hid (RingV.toNo ⟨_, rfl, HS.out⟩)
  have hcap := Row.caps HS.out
  obtain ⟨hl16, hc0, hc1⟩ := ok_len h1
  simp only at hl16 hc0 hc1
  have hcn : cur < seats.length := by omega
  clear hc1
  have HF := Lib.hid hfi
  have H1 := Lib.hid h1
  have HA := Lib.hid (remYes (r := ⟨base, per, seats, cur, opn⟩) (id := id) (by simp only; rw [hfi, h1]; simp) |>.trans (by simp only [hfi, Int.toNat_natCast] : _ = (removed ⟨base, per, seats, cur, opn⟩ i, true)))
  clear h1 hfi
  have e1 : IntKind.i64.wrap ((i : Int) + 1) = (i : Int) + 1 := IntWalk.i64_in _ (by omega)
  have e2 : (0 : Int) ≤ (i : Int) + 1 := by omega
  have e3 : (i : Int) ≤ (cap : Int) := by omega
  have e4 : (i : Int) + 1 ≤ (seats.length : Int) := by omega
  have e5 : ((i : Int) + 1).toNat = i + 1 := by omega
  have e7 : i ≤ cap := by omega
  have e8 : i + 1 ≤ cap := by omega
  have e9 : i + 1 ≤ seats.length := by omega
  have HI := Lib.hid hi
  clear hi
  obtain ⟨A, hA⟩ : ∃ A : Option Addr, (if cap = i + 1 then some (⟨b, off, none⟩ : Addr) else some ⟨b, off + (i + 1) * 4, none⟩) = A := ⟨_, rfl⟩
  go_enter Try.func20, Try.ntmps20
  go_wp2_with fail
  have hx0 : Ext No w ((w.alloc (.cells #[.int .i64 base, .int .i64 per, .slice (some ⟨b, off, none⟩) seats.length cap, .int .i64 cur, .bool opn] 25)).alloc (.cells #[.int .i64 0, .int .i64 0, .slice none 0 0, .int .i64 0, .bool false] 25)) := ((Ext.refl _ _).alloc _).alloc _
  refine (find_any _ _ _ _ (HV.out.extNo hx0)).mono ?_
  rintro e1 w1 ⟨rfl, hx1⟩
  simp only [HF.out]
  have hB := hx1.blk (alloc_under (alloc_top (w := w) rfl)) (fun x => x.elim)
  have hC := hx1.blk (n := w.heap.size + 1) (alloc_top (by simp)) (fun x => x.elim)
  have hx := hx0.transNo hx1
  have cB := cellOf hB
  clear hx0 hx1
  go_wp2_with fail
  refine (valid_any _ _ _ (HV.out.extNo hx)).mono ?_
  rintro e2 w2 ⟨rfl, hx2⟩
  simp only [H1.out]
  replace hB := hx2.blk hB (fun x => x.elim)
  replace hC := hx2.blk hC (fun x => x.elim)
  replace hx := hx.transNo hx2
  have hlB := lt_of_block hB
  have k2 : w2.cell? ⟨w.heap.size, 2, none⟩ = some (.slice (some ⟨b, off, none⟩) seats.length cap) := (cellOf hB 2).trans rfl
  have f2 : w2.frozen? ⟨w.heap.size, 2, none⟩ = false := freeOf hB 2
  clear hx2 cB
  go_wp2_with fail
  go_region_law
    ((refine step_of _ (by rfl) (wp_app_zero _ (.tmp 22) (.tmp 27) 23 (by rfl) 53 i0 Try.underlying23 hi0 (some ⟨b, off, none⟩) i i (Nat.le_refl _) A (cap - (i + 1)) (seats.length - (i + 1)) (by have := HI.out; omega) (by rfl) (by rfl) ?_)))
  all_goals
    have cB2 := cellOf hB
    have cC2 := cellOf hC
    have fB2 := freeOf hB
    have fC2 := freeOf hC
    clear e1 e2 e3 e4 e5 e7 e8 e9 hA
    have hlC := lt_of_block hC
    have hi := HI.out
    have hc' : (i : Int) = cur ∨ cur < (i : Int) := by omega
    have hfl : seats.drop (i + 1) = [] := List.drop_eq_nil_of_le (by omega)
    have HFL := Lib.hid hfl
    have HR1 := fun (h : cur < (i : Int)) => rem_gt (base := base) (per := per) (opn := opn) (seats := seats) h
    have HR2 := Lib.hid (rem_last (base := base) (per := per) (opn := opn) (seats := seats) hi)
    have HR1 := Lib.hid HR1
    clear hi hfl
    rcases hc' with hc | hc
    · obtain rfl := hc
      have HR := HR2
      go_wp2
      refine ret_ex rfl ?_
      simp [results, Try.results20, go_sem, cC2]
      have hf : flatS (seats.take i ++ seats.drop (i + 1)) = (flatS seats).take (i * 4) := by
        rw [HFL.out, List.append_nil, flatS_take]
      have hl : (seats.take i ++ seats.drop (i + 1)).length = i := by
        rw [HFL.out]
        simp only [List.append_nil, List.length_take]
        have := HI.out
        omega
      refine RemPost.mk (HA.out.trans (congrArg (fun x => (x, true)) HR.out)) rfl ⟨_, rfl, ?_⟩ ?_
      · show Row M _ 4 _ (seats.take i ++ seats.drop (i + 1)).length (flatS (seats.take i ++ seats.drop (i + 1)))
        rw [hf, hl]
        refine (HS.out.take (by have := HI.out; omega)).extNo ?_
        repeat (first | (with_reducible assumption) | (with_reducible refine Ext.drew ?_) | ((with_reducible refine Ext.own ?_ ?_ _); rotate_left; first | exact Nat.le_refl _ | exact Nat.le_succ _))
      · repeat (first | (with_reducible assumption) | (with_reducible refine Ext.drew ?_) | ((with_reducible refine Ext.own ?_ ?_ _); rotate_left; first | exact Nat.le_refl _ | exact Nat.le_succ _))
    · have HR := Lib.hid (HR1.out hc)
      go_wp2
      refine ret_ex rfl ?_
      simp [results, Try.results20, go_sem, cC2]
      have hf : flatS (seats.take i ++ seats.drop (i + 1)) = (flatS seats).take (i * 4) := by
        rw [HFL.out, List.append_nil, flatS_take]
      have hl : (seats.take i ++ seats.drop (i + 1)).length = i := by
        rw [HFL.out]
        simp only [List.append_nil, List.length_take]
        have := HI.out
        omega
      refine RemPost.mk (HA.out.trans (congrArg (fun x => (x, true)) HR.out)) rfl ⟨_, rfl, ?_⟩ ?_
      · show Row M _ 4 _ (seats.take i ++ seats.drop (i + 1)).length (flatS (seats.take i ++ seats.drop (i + 1)))
        rw [hf, hl]
        refine (HS.out.take (by have := HI.out; omega)).extNo ?_
        repeat (first | (with_reducible assumption) | (with_reducible refine Ext.drew ?_) | ((with_reducible refine Ext.own ?_ ?_ _); rotate_left; first | exact Nat.le_refl _ | exact Nat.le_succ _))
      · repeat (first | (with_reducible assumption) | (with_reducible refine Ext.drew ?_) | ((with_reducible refine Ext.own ?_ ?_ _); rotate_left; first | exact Nat.le_refl _ | exact Nat.le_succ _))

theorem remove_any (M : Nat → Prop) (v : Value) (r : Ring) (id : Int) (w : World) (hM : ∀ b, M b → b < w.heap.size) (h : RingV M w v r) :
    Calls Try.prog 20 #[v, .int .i64 id] w (RemPost M r id w) := by
  by_cases hf : findZ r.seats id < 0 ∨ ringOk r = false
  · exact rem_no M v r id w h hf
  · have h1 : ringOk r = true := by
      cases h1 : ringOk r with
      | true => rfl
      | false => exact absurd (.inr h1) hf
    obtain ⟨i, hi, hi2⟩ := findZ_ge (fun x => hf (.inl x))
    obtain ⟨base, per, seats, cur, opn⟩ := r
    obtain ⟨sl, rfl, hs⟩ := h
    obtain ⟨b, off, cap, rfl, _, _, _⟩ := Row.shape hs (show 0 < seats.length from Nat.lt_of_le_of_lt (Nat.zero_le _) hi2)
    rcases Nat.lt_or_ge (i + 1) seats.length with h3 | h3
    · exact rem_mid M base per cur opn seats b off cap i id w hM hs h1 hi h3
    · exact rem_end M base per cur opn seats b off cap i id w hM hs h1 hi (by simp only at hi2; omega)
end Go.Proofs.Ytckeidboolfcoaa

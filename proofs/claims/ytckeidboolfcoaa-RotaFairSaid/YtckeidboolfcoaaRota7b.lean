/- rota: Remove, the ways that remove. -/
import Derived.Test.YtckeidboolfcoaaRota7
import Derived.Deep.RegionLaw
namespace Go.Proofs.Ytckeidboolfcoaa
open Go Go.RowKit

theorem rem_lt {base per cur : Int} {opn : Bool} {seats : List Seat} {i : Nat} (h : (i : Int) < cur) : removed ⟨base, per, seats, cur, opn⟩ i = ⟨base, per, seats.take i ++ seats.drop (i + 1), cur - 1, opn⟩ := by
  simp only [removed]; rw [if_pos h, if_neg (by omega)]
theorem rem_gt {base per cur : Int} {opn : Bool} {seats : List Seat} {i : Nat} (h : cur < (i : Int)) : removed ⟨base, per, seats, cur, opn⟩ i = ⟨base, per, seats.take i ++ seats.drop (i + 1), cur, opn⟩ := by
  simp only [removed]; rw [if_neg (by omega), if_neg (by omega), if_neg (by omega)]
theorem rem_eq {base per : Int} {opn : Bool} {seats : List Seat} {i : Nat} (h : i + 1 < seats.length) : removed ⟨base, per, seats, i, opn⟩ i = ⟨base, per, seats.take i ++ seats.drop (i + 1), i, false⟩ := by
  simp only [removed]; rw [if_neg (by omega), if_neg (by omega), if_pos trivial]
theorem rem_last {base per : Int} {opn : Bool} {seats : List Seat} {i : Nat} (h : i + 1 = seats.length) : removed ⟨base, per, seats, i, opn⟩ i = ⟨base, per, seats.take i ++ seats.drop (i + 1), 0, false⟩ := by
  simp only [removed]; rw [if_neg (by omega), if_pos ⟨trivial, by omega⟩, if_pos trivial]
theorem keepG {w w' : World} {a : Addr} {v : Value} {row : Option Nat} (hg : w.grownBy w' row) (h : w.cell? a = some v) (hne : ∀ k, row = some k → a.block < k) : w'.cell? a = some v :=
  hg.cell h (fun e => by have := hne _ e.symm; omega)

theorem frozenG {w w' : World} {a : Addr} {v : Value} {row : Option Nat} (hg : w.grownBy w' row) (h : w.cell? a = some v) (hf : w.frozen? a = false) (hne : ∀ k, row = some k → a.block < k) : w'.frozen? a = false :=
  (World.frozen?_of_block (hg.block a.block (World.block_lt_of_cell? w a h) (fun e => by have := hne _ e.symm; omega))).trans hf

set_option maxRecDepth 100000 in
set_option maxHeartbeats 4000000 in
theorem rem_mid (M : Nat → Prop) (base per cur : Int) (opn : Bool) (seats : List Seat) (b off cap i : Nat) (id : Int) (w : World) (hM : ∀ b, M b → b < w.heap.size)
    (HS : Hid (Seats M w (.slice (some ⟨b, off, none⟩) seats.length cap) seats)) (h1 : ringOk ⟨base, per, seats, cur, opn⟩ = true) (hfi : findZ seats id = i) (hi : i + 1 < seats.length) :
    Calls Try.prog 20 #[.agg #[.int .i64 base, .int .i64 per, .slice (some ⟨b, off, none⟩) seats.length cap, .int .i64 cur, .bool opn], .int .i64 id] w (RemPost M ⟨base, per, seats, cur, opn⟩ id w) := by
  obtain ⟨i0, hi0, hz0, hz1, hz2⟩ := info_parts infoSeat
  have HV : Hid (RingV No w (.agg #[.int .i64 base, .int .i64 per, .slice (some ⟨b, off, none⟩) seats.length cap, .int .i64 cur, .bool opn]) ⟨base, per, seats, cur, opn⟩) := Lib.hid (RingV.toNo ⟨_, rfl, HS.out⟩)
  have hcap := Row.caps HS.out
  obtain ⟨hl16, hc0, hc1⟩ := ok_len h1
  simp only at hl16 hc0 hc1
  have hcn : cur < seats.length := by omega
  clear hc1
  have HF := Lib.hid hfi
  have H1 := Lib.hid h1
  have HA := Lib.hid (remYes (r := ⟨base, per, seats, cur, opn⟩) (id := id) (by simp only; rw [hfi, h1]; simp) |>.trans (by simp only [hfi, Int.toNat_natCast] : _ = (removed ⟨base, per, seats, cur, opn⟩ i, true)))
  clear h1 hfi
  have e1 : IntKind.i64.wrap ((i : Int) + 1) = (i : Int) + 1 := IntWalk.i64_in _ (by omega)
  have e2 : (0 : Int) ≤ (i : Int) + 1 := by omega
  have e3 : (i : Int) ≤ (cap : Int) := by omega
  have e4 : (i : Int) + 1 ≤ (seats.length : Int) := by omega
  have e5 : ((i : Int) + 1).toNat = i + 1 := by omega
  have e6 : ¬ cap = i + 1 := by omega
  have e7 : i ≤ cap := by omega
  have e8 : i + 1 ≤ cap := by omega
  have e9 : i + 1 ≤ seats.length := by omega
  go_enter Try.func20, Try.ntmps20
  go_wp2_with fail
  have hx0 : Ext No w ((w.alloc (.cells #[.int .i64 base, .int .i64 per, .slice (some ⟨b, off, none⟩) seats.length cap, .int .i64 cur, .bool opn] 25)).alloc (.cells #[.int .i64 0, .int .i64 0, .slice none 0 0, .int .i64 0, .bool false] 25)) := ((Ext.refl _ _).alloc _).alloc _
  refine (find_any _ _ _ _ (HV.out.extNo hx0)).mono ?_
  rintro e1 w1 ⟨rfl, hx1⟩
  simp only [HF.out]
  have hB := hx1.blk (alloc_under (alloc_top (w := w) rfl)) (fun x => x.elim)
  have hC := hx1.blk (n := w.heap.size + 1) (alloc_top (by simp)) (fun x => x.elim)
  have hx := hx0.transNo hx1
  have cB := cellOf hB
  clear hx0 hx1
  go_wp2_with fail
  refine (valid_any _ _ _ (HV.out.extNo hx)).mono ?_
  rintro e2 w2 ⟨rfl, hx2⟩
  simp only [H1.out]
  replace hB := hx2.blk hB (fun x => x.elim)
  replace hC := hx2.blk hC (fun x => x.elim)
  replace hx := hx.transNo hx2
  have hlB := lt_of_block hB
  have k2 : w2.cell? ⟨w.heap.size, 2, none⟩ = some (.slice (some ⟨b, off, none⟩) seats.length cap) := (cellOf hB 2).trans rfl
  have f2 : w2.frozen? ⟨w.heap.size, 2, none⟩ = false := freeOf hB 2
  clear hx2 cB
  go_wp2_with fail
  go_region_law
    ((refine step_of _ (by rfl) (wp_app_full _ (.tmp 22) (.tmp 27) 23 (by rfl) 53 i0 _ 4 32 Try.underlying23 hi0 hz0 hz1 hz2 rfl (by omega) M ⟨b, off, none⟩ i ((flatS seats).take (i * 4)) (by rfl) ((HS.out.take (by omega)).extNo hx.drew) M (some ⟨b, off + (i + 1) * 4, none⟩) (seats.length - (i + 1)) (cap - (i + 1)) ((flatS seats).drop ((i + 1) * 4)) (by rfl) ((HS.out.drop (by omega)).extNo hx.drew) (by omega) (by omega) (by omega) ?_); intro v3 w3 hown3 hg3; obtain ⟨a3, c3, rfl⟩ := (Row.ofOwns (M := No) hown3 (fun _ _ x => x)).slice; have hB3 := blk_grown (w := w2.drew) hB hg3 (fun k hk => by cases hk); have hC3 := blk_grown (w := w2.drew) hC hg3 (fun k hk => by cases hk); have hx3 := (hx.drew).grown hg3 (fun k hk => by cases hk); have cB3 := cellOf hB3; have cC3 := cellOf hC3; have fB3 := freeOf hB3; have fC3 := freeOf hC3; have hs3 := hg3.size; clear hg3))
  all_goals
    clear e1 e2 e3 e4 e5 e6 e7 e8 e9
    have hlC := lt_of_block hC
    rcases Int.lt_trichotomy (i : Int) cur with hc | hc | hc
    · have HR := Lib.hid (rem_lt (base := base) (per := per) (opn := opn) (seats := seats) hc)
      go_wp2
      refine ret_ex rfl ?_
      simp [results, Try.results20, go_sem, cC3]
      have hf : flatS (seats.take i ++ seats.drop (i + 1)) = (flatS seats).take (i * 4) ++ (flatS seats).drop ((i + 1) * 4) := by
        rw [flatS_app, flatS_take, flatS_drop]
      have hl : (seats.take i ++ seats.drop (i + 1)).length = i + (seats.length - (i + 1)) := by
        simp only [List.length_append, List.length_take, List.length_drop]
        omega
      refine RemPost.mk (HA.out.trans (congrArg (fun x => (x, true)) HR.out)) rfl ⟨_, rfl, ?_⟩ ?_
      · show Row M _ 4 _ (seats.take i ++ seats.drop (i + 1)).length (flatS (seats.take i ++ seats.drop (i + 1)))
        rw [hf, hl]
        refine Row.fin (w := w) hown3 hx.size hM ?_
        repeat (first | (with_reducible exact (Ext.refl _ _)) | (with_reducible exact (Ext.refl _ _).drew) | (with_reducible refine Ext.drew ?_) | ((with_reducible refine Ext.setCell ?_ ?_ _); rotate_left; (intro _; unfold Lo; simp; omega)))
      · repeat (first | (with_reducible assumption) | (with_reducible refine Ext.drew ?_) | ((with_reducible refine Ext.own ?_ ?_ _); rotate_left; first | exact Nat.le_refl _ | exact Nat.le_succ _))
    · obtain rfl := hc
      have HR := Lib.hid (rem_eq (base := base) (per := per) (opn := opn) (seats := seats) hi)
      go_wp2
      refine ret_ex rfl ?_
      simp [results, Try.results20, go_sem, cC3]
      have hf : flatS (seats.take i ++ seats.drop (i + 1)) = (flatS seats).take (i * 4) ++ (flatS seats).drop ((i + 1) * 4) := by
        rw [flatS_app, flatS_take, flatS_drop]
      have hl : (seats.take i ++ seats.drop (i + 1)).length = i + (seats.length - (i + 1)) := by
        simp only [List.length_append, List.length_take, List.length_drop]
        omega
      refine RemPost.mk (HA.out.trans (congrArg (fun x => (x, true)) HR.out)) rfl ⟨_, rfl, ?_⟩ ?_
      · show Row M _ 4 _ (seats.take i ++ seats.drop (i + 1)).length (flatS (seats.take i ++ seats.drop (i + 1)))
        rw [hf, hl]
        refine Row.fin (w := w) hown3 hx.size hM ?_
        repeat (first | (with_reducible exact (Ext.refl _ _)) | (with_reducible exact (Ext.refl _ _).drew) | (with_reducible refine Ext.drew ?_) | ((with_reducible refine Ext.setCell ?_ ?_ _); rotate_left; (intro _; unfold Lo; simp; omega)))
      · repeat (first | (with_reducible assumption) | (with_reducible refine Ext.drew ?_) | ((with_reducible refine Ext.own ?_ ?_ _); rotate_left; first | exact Nat.le_refl _ | exact Nat.le_succ _))
    · have HR := Lib.hid (rem_gt (base := base) (per := per) (opn := opn) (seats := seats) hc)
      go_wp2
      refine ret_ex rfl ?_
      simp [results, Try.results20, go_sem, cC3]
      have hf : flatS (seats.take i ++ seats.drop (i + 1)) = (flatS seats).take (i * 4) ++ (flatS seats).drop ((i + 1) * 4) := by
        rw [flatS_app, flatS_take, flatS_drop]
      have hl : (seats.take i ++ seats.drop (i + 1)).length = i + (seats.length - (i + 1)) := by
        simp only [List.length_append, List.length_take, List.length_drop]
        omega
      refine RemPost.mk (HA.out.trans (congrArg (fun x => (x, true)) HR.out)) rfl ⟨_, rfl, ?_⟩ ?_
      · show Row M _ 4 _ (seats.take i ++ seats.drop (i + 1)).length (flatS (seats.take i ++ seats.drop (i + 1)))
        rw [hf, hl]
        refine Row.fin (w := w) hown3 hx.size hM ?_
        repeat (first | (with_reducible exact (Ext.refl _ _)) | (with_reducible exact (Ext.refl _ _).drew) | (with_reducible refine Ext.drew ?_) | ((with_reducible refine Ext.setCell ?_ ?_ _); rotate_left; (intro _; unfold Lo; simp; omega)))
      · repeat (first | (with_reducible assumption) | (with_reducible refine Ext.drew ?_) | ((with_reducible refine Ext.own ?_ ?_ _); rotate_left; first | exact Nat.le_refl _ | exact Nat.le_succ _))
end Go.Proofs.Ytckeidboolfcoaa

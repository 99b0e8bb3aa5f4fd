/- The law's spoiler of rings: what it hands back is some ring in memory of its own. -/
import Derived.Test.YtckeidboolfcoaaRota30
namespace Go.Proofs.Ytckeidboolfcoaa
open Go Go.RowKit

structure SpMem (w0 wr : World) (tb : Nat) (base per : Int) (v : Value) (l : List Seat) (cur : Int) (opn : Bool) : Prop where
  box : wr.heap[w0.heap.size]? = some (.cells #[.int .i64 base, .int .i64 per, v, .int .i64 cur, .bool opn] 25 (0, 0))
  out : wr.heap[w0.heap.size + 1]? = some (.cells #[.int .i64 0, .int .i64 0, .slice none 0 0, .int .i64 0, .bool false] 25 (0, 0))
  own : OwnSeats wr (w0.heap.size + 2) v l
  tape : TapeOk wr tb
  ext : Ext (At tb) w0 wr
  tb : tb < w0.heap.size
section
variable {w0 wr w' : World} {tb : Nat} {base per cur : Int} {v : Value} {l : List Seat} {opn : Bool}
theorem SpMem.step (h : SpMem w0 wr tb base per v l cur opn) (hx : Ext (At tb) wr w') (ht : TapeOk w' tb) : SpMem w0 w' tb base per v l cur opn := by
  have h1 := h.tb
  exact ⟨(hx.block _ (lt_of_block h.box) (by unfold At; omega)).trans h.box, (hx.block _ (lt_of_block h.out) (by unfold At; omega)).trans h.out, ownsRow_ext h.own hx (fun i hi => by unfold At; omega), ht, h.ext.trans hx, h1⟩
theorem SpMem.set0 (h : SpMem w0 wr tb base per v l cur opn) (u : Int) : SpMem w0 (wr.setCell ⟨w0.heap.size, 0, none⟩ (.int .i64 u)) tb u per v l cur opn :=
  ⟨(set_same h.box).trans rfl, set_other h.out (by simp), ownsRow_setCell_below h.own (by simp only; omega) _, TapeOk.setC (by simpa using h.tb) h.tape, h.ext.own (Nat.le_refl _) _, h.tb⟩
theorem SpMem.set1 (h : SpMem w0 wr tb base per v l cur opn) (u : Int) : SpMem w0 (wr.setCell ⟨w0.heap.size, 1, none⟩ (.int .i64 u)) tb base u v l cur opn :=
  ⟨(set_same h.box).trans rfl, set_other h.out (by simp), ownsRow_setCell_below h.own (by simp only; omega) _, TapeOk.setC (by simpa using h.tb) h.tape, h.ext.own (Nat.le_refl _) _, h.tb⟩
theorem SpMem.set2 {v' : Value} {l' : List Seat} (h : SpMem w0 wr tb base per v l cur opn) (ho : OwnSeats wr (w0.heap.size + 2) v' l') : SpMem w0 (wr.setCell ⟨w0.heap.size, 2, none⟩ v') tb base per v' l' cur opn :=
  ⟨(set_same h.box).trans rfl, set_other h.out (by simp), ownsRow_setCell_below ho (by simp only; omega) _, TapeOk.setC (by simpa using h.tb) h.tape, h.ext.own (Nat.le_refl _) _, h.tb⟩
theorem SpMem.set3 (h : SpMem w0 wr tb base per v l cur opn) (u : Int) : SpMem w0 (wr.setCell ⟨w0.heap.size, 3, none⟩ (.int .i64 u)) tb base per v l u opn :=
  ⟨(set_same h.box).trans rfl, set_other h.out (by simp), ownsRow_setCell_below h.own (by simp only; omega) _, TapeOk.setC (by simpa using h.tb) h.tape, h.ext.own (Nat.le_refl _) _, h.tb⟩
theorem SpMem.set4 (h : SpMem w0 wr tb base per v l cur opn) (u : Bool) : SpMem w0 (wr.setCell ⟨w0.heap.size, 4, none⟩ (.bool u)) tb base per v l cur u :=
  ⟨(set_same h.box).trans rfl, set_other h.out (by simp), ownsRow_setCell_below h.own (by simp only; omega) _, TapeOk.setC (by simpa using h.tb) h.tape, h.ext.own (Nat.le_refl _) _, h.tb⟩
theorem SpMem.alloc (h : SpMem w0 wr tb base per v l cur opn) (o : Obj) : SpMem w0 (wr.alloc o) tb base per v l cur opn := h.step ((Ext.refl _ _).alloc o) h.tape.alloc
theorem SpMem.grown {v' : Value} {l' : List Seat} (h : SpMem w0 wr tb base per v l cur opn) (hg : wr.grownBy w' v.ownBlock) (ho : OwnSeats w' (w0.heap.size + 2) v' l') : SpMem w0 (w'.setCell ⟨w0.heap.size, 2, none⟩ v') tb base per v' l' cur opn := by
  have h1 := h.tb
  have hlt := World.ownsRow.lt h.own
  have hx : Ext (From (w0.heap.size + 2)) wr w' := (Ext.refl _ _).grown hg (fun k hk _ => (hlt k hk).1)
  have hb : w'.heap[w0.heap.size]? = _ := (hx.block _ (lt_of_block h.box) (by unfold From; omega)).trans h.box
  exact ⟨(set_same hb).trans rfl, set_other ((hx.block _ (lt_of_block h.out) (by unfold From; omega)).trans h.out) (by simp), ownsRow_setCell_below ho (by simp only; omega) _, TapeOk.setC (by simpa using h1) (h.tape.extAbove hx (fun i hi => by unfold From; omega)), (h.ext.trans2 hx (fun i hi e => absurd hi (by unfold From at e; omega))).own (Nat.le_refl _) _, h1⟩
theorem SpMem.elt {g cap i k : Nat} (h : SpMem w0 wr tb base per (.slice (some ⟨g, 0, none⟩) l.length cap) l cur opn) (hi : i < l.length) (hg : w0.heap.size + 2 ≤ g) (hk : k < 4) (u : Int) (s : Seat) (hs : s.cells = l[i].cells.set k (.int .i64 u)) :
    SpMem w0 (wr.setCell ⟨g, i * 4 + k, none⟩ (.int .i64 u)) tb base per (.slice (some ⟨g, 0, none⟩) l.length cap) (l.set i s) cur opn := by
  have h1 := h.tb
  refine ⟨set_other h.box (by simp only; omega), set_other h.out (by simp only; omega), ?_, TapeOk.setC (by simp only; omega) h.tape, h.ext.own (by simp only; omega) _, h1⟩
  show World.ownsRow _ _ _ _ _ _ _
  rw [List.length_set, flatS_set l i hi s k hk (.int .i64 u) hs]
  exact (World.ownsRow.stored (w := wr) h.own (i * 4 + k) (.int .i64 u)).1
end
def SpoilPost (tb : Nat) (w : World) (e : Ending) (w' : World) : Prop :=
  ∃ (r : Ring) (a : Option Addr) (n c : Nat), e = .returned (.agg #[.int .i64 r.base, .int .i64 r.per, .slice a n c, .int .i64 r.cur, .bool r.opn]) ∧ Seats (Lo w.heap.size) w' (.slice a n c) r.seats ∧ TapeOk w' tb ∧ Ext (At tb) w w'
theorem SpMem.ret {w0 wr w' : World} {tb n c : Nat} {a : Option Addr} {base per cur : Int} {l : List Seat} {opn : Bool} {e : Ending} (h : SpMem w0 wr tb base per (.slice a n c) l cur opn)
    (he : e = .returned (.agg #[.int .i64 base, .int .i64 per, .slice a n c, .int .i64 cur, .bool opn])) (hw : w' = wr5 wr (w0.heap.size + 1) (.int .i64 base) (.int .i64 per) (.slice a n c) (.int .i64 cur) (.bool opn)) : SpoilPost tb w0 e w' := by
  subst hw
  have h1 := h.tb
  have hx : Ext (At (w0.heap.size + 1)) wr (wr5 wr (w0.heap.size + 1) (.int .i64 base) (.int .i64 per) (.slice a n c) (.int .i64 cur) (.bool opn)) := wr5_ext
  refine ⟨⟨base, per, l, cur, opn⟩, a, n, c, he, ?_, h.tape.extAbove hx (fun i hi => by unfold At; omega), h.ext.trans2 hx (fun i hi e => by cases e; exact absurd hi (by omega))⟩
  exact Row.mono (Row.fin (M := Lo w0.heap.size) (w := w0) h.own (by omega) (fun _ h => h) (hx.mono (fun i _ e => by cases e; exact (by unfold Lo; omega)))) (fun _ _ h => h)

theorem SpMem.slice {w0 wr : World} {tb : Nat} {base per cur : Int} {v : Value} {l : List Seat} {opn : Bool} (h : SpMem w0 wr tb base per v l cur opn) : ∃ a c, v = .slice a l.length c :=
  (Row.ofOwns (M := No) h.own (fun _ _ x => x)).slice
theorem World.ownsRow_nilAt {w : World} {e : TypeId} {size base g : Nat} (hg : g = w.heap.size) (hb : base ≤ w.heap.size) : (w.alloc (.cells #[] e)).ownsRow base e size (.slice (some ⟨g, 0, none⟩) 0 0) 0 [] := by
  subst hg
  exact World.ownsRow_lit w #[] 0 hb (by simp [maxLen]) (by simp)

theorem SpMem.first {w w1 : World} {tb : Nat} {base per cur : Int} {v v1 : Value} {l : List Seat} {opn : Bool} {o : Obj} (htb : tb < w.heap.size) (ht : TapeOk w tb)
    (hg : (((w.alloc (.cells #[.int .i64 base, .int .i64 per, v, .int .i64 cur, .bool opn] 25)).alloc (.cells #[.int .i64 0, .int .i64 0, .slice none 0 0, .int .i64 0, .bool false] 25)).alloc o).grownBy w1 (some (w.heap.size + 1 + 1))) (ho : OwnSeats w1 (w.heap.size + 2) v1 l) :
    w1.heap[w.heap.size]? = some (.cells #[.int .i64 base, .int .i64 per, v, .int .i64 cur, .bool opn] 25 (0, 0)) ∧ SpMem w (w1.setCell ⟨w.heap.size, 2, none⟩ v1) tb base per v1 l cur opn := by
  have hb := blk_grown (alloc_under (alloc_under (alloc_top (w := w) rfl))) hg (fun k hk => by cases hk; omega)
  have hc := blk_grown (alloc_under (alloc_top (n := w.heap.size + 1) (by simp))) hg (fun k hk => by cases hk; omega)
  have hx : Ext (At (w.heap.size + 1 + 1)) w w1 := (((((Ext.refl _ _).alloc _).alloc _).alloc _).grown hg (fun k hk _ => by cases hk; rfl))
  refine ⟨hb, (set_same hb).trans rfl, set_other hc (by simp), ownsRow_setCell_below ho (by simp only; omega) _, TapeOk.setC htb (ht.extAbove hx (fun i hi => by unfold At; omega)), (hx.toNo (fun i hi e => by unfold At at e; omega)).ofNo.own (Nat.le_refl _) _, htb⟩

theorem SpMem.elt0 {w0 wr : World} {tb g cap i : Nat} {base per cur : Int} {l : List Seat} {opn : Bool} (h : SpMem w0 wr tb base per (.slice (some ⟨g, 0, none⟩) l.length cap) l cur opn) (hi : i < l.length) (hg : w0.heap.size + 2 ≤ g) (u : Int) (s : Seat) (hs : s.cells = l[i].cells.set 0 (.int .i64 u)) :
    SpMem w0 (wr.setCell ⟨g, i * 4, none⟩ (.int .i64 u)) tb base per (.slice (some ⟨g, 0, none⟩) l.length cap) (l.set i s) cur opn := h.elt hi hg (k := 0) (by omega) u s hs
theorem SpMem.lt2 {w0 wr : World} {tb : Nat} {base per cur : Int} {v : Value} {l : List Seat} {opn : Bool} (h : SpMem w0 wr tb base per v l cur opn) : w0.heap.size + 1 < wr.heap.size := lt_of_block h.out
theorem SpMem.grownBox {w0 wr w' : World} {tb : Nat} {base per cur : Int} {v : Value} {l : List Seat} {opn : Bool} (h : SpMem w0 wr tb base per v l cur opn) (hg : wr.grownBy w' v.ownBlock) :
    w'.heap[w0.heap.size]? = some (.cells #[.int .i64 base, .int .i64 per, v, .int .i64 cur, .bool opn] 25 (0, 0)) ∧ w'.heap[w0.heap.size + 1]? = some (.cells #[.int .i64 0, .int .i64 0, .slice none 0 0, .int .i64 0, .bool false] 25 (0, 0)) := by
  have hlt := World.ownsRow.lt h.own
  exact ⟨blk_grown h.box hg (fun k hk => by have := (hlt k hk).1; omega), blk_grown h.out hg (fun k hk => by have := (hlt k hk).1; omega)⟩
theorem own_app {w : World} {base : Nat} {v : Value} {l : List Seat} {s : Seat} (h : w.ownsRow base 53 4 v (l.length + 1) (flatS l ++ s.cells)) : OwnSeats w base v (l ++ [s]) := by
  show World.ownsRow _ _ _ _ _ _ _
  rw [List.length_append, show flatS (l ++ [s]) = flatS l ++ s.cells by simp [flatS]]
  exact h

set_option maxRecDepth 100000 in
set_option maxHeartbeats 4000000 in
theorem spoil_any (tb : Nat) (r : Ring) (a : Option Addr) (n c : Nat) (w : World) (ht : TapeOk w tb) (hs : Seats No w (.slice a n c) r.seats) (hl : r.seats.length ≤ 16) :
    Calls Try.prog 10 #[.pointer (some ⟨tb, 0, none⟩), .agg #[.int .i64 r.base, .int .i64 r.per, .slice a n c, .int .i64 r.cur, .bool r.opn]] w (SpoilPost tb w) := by
  have htb := ht.lt
  obtain ⟨i0, hi0, hz0, hz1, hz2⟩ := info_parts infoSeat
  obtain rfl : n = r.seats.length := by
    obtain ⟨a', c', hsl⟩ := hs.slice
    simp only [Value.slice.injEq] at hsl
    exact hsl.2.1
  have HT := Lib.hid ht
  have HS := Lib.hid hs
  clear ht hs
  go_enter Try.func10, Try.ntmps10
  go_wp2_with (first | (at_builtin; (refine wpList_app _ rfl (.tmp 6) (.tmp 8) 23 rfl (w.heap.size + 2) 53 i0 _ 4 32 Try.underlying23 hi0 hz0 hz1 hz2 rfl (by omega) (.slice (some ⟨w.heap.size + 1 + 1, 0, none⟩) 0 0) 0 [] rfl ?o1 No a r.seats.length c (flatS r.seats) rfl ?o2 (flatS_one _) (by omega) (by omega) ?o3 ?_); (case o1 => exact World.ownsRow_nilAt (by simp) (by simp)); (case o2 => exact Row.extNo HS.out ((((Ext.refl _ _).alloc _).alloc _).alloc _)); (case o3 => simp); (intro v1 w1 hown1 hg1 hb1); (rw [Nat.zero_add, List.nil_append] at hown1); (obtain ⟨a1, c1, hv1⟩ := (Row.ofOwns (M := No) hown1 (fun _ _ x => x)).slice); (subst hv1); (obtain ⟨hB1, hm1⟩ := SpMem.first htb HT.out hg1 hown1); (replace hm1 := Lib.hid hm1); (have cB := cellOf hB1); (have fB := freeOf hB1); (clear hown1 hg1 hb1 hB1)) | fail)
  refine (next_lt tb 8 (by omega) (by omega) _ hm1.out.tape).mono ?_
  rintro e8 w8 ⟨z8, rfl, hz8, ht8, hx8, hs8⟩
  have hm8 := Lib.hid (hm1.out.step hx8 ht8)
  clear hx8 ht8 hs8 cB fB hm1
  have cB := cellOf hm8.out.box
  have fB := freeOf hm8.out.box
  have hzz : z8 = 0 ∨ z8 = 1 ∨ z8 = 2 ∨ z8 = 3 ∨ z8 = 4 ∨ 4 < z8 := by omega
  clear hz8
  rcases hzz with rfl | rfl | rfl | rfl | rfl | h5
  · go_wp2_with fail
    refine (next_lt tb 3 (by omega) (by omega) _ (hm8.out.alloc (.cells #[.int .i64 0, .int .i64 65, .int .i64 (-1)] 3)).tape).mono ?_
    rintro e9 w9 ⟨z9, rfl, hz9, ht9, hx9, hs9⟩
    have hL := hx9.blk (alloc_top (w := w8) (o := (.cells #[.int .i64 0, .int .i64 65, .int .i64 (-1)] 3)) rfl) (at_ne (by have := hm8.out.tape.lt; omega))
    have cL := cellOf hL
    clear hL
    have hm9 := Lib.hid ((hm8.out.alloc (.cells #[.int .i64 0, .int .i64 65, .int .i64 (-1)] 3)).step hx9 ht9)
    clear ht9 hx9 hs9 cB fB
    have cB := cellOf hm9.out.box; have fB := freeOf hm9.out.box; have cC := cellOf hm9.out.out; have fC := freeOf hm9.out.out
    have hzz : z9 = 0 ∨ z9 = 1 ∨ z9 = 2 := by omega
    clear hz9
    rcases hzz with rfl | rfl | rfl
    all_goals
      go_wp2_with fail
      refine ret_ex rfl ?_
      simp [results, Try.results10, go_sem, cC]
      exact (hm9.out.set0 _).ret rfl rfl
  · go_wp2_with fail
    refine (next_lt tb 2 (by omega) (by omega) _ (hm8.out.alloc (.cells #[.int .i64 0, .int .i64 1025] 3)).tape).mono ?_
    rintro e9 w9 ⟨z9, rfl, hz9, ht9, hx9, hs9⟩
    have hL := hx9.blk (alloc_top (w := w8) (o := (.cells #[.int .i64 0, .int .i64 1025] 3)) rfl) (at_ne (by have := hm8.out.tape.lt; omega))
    have cL := cellOf hL
    clear hL
    have hm9 := Lib.hid ((hm8.out.alloc (.cells #[.int .i64 0, .int .i64 1025] 3)).step hx9 ht9)
    clear ht9 hx9 hs9 cB fB
    have cB := cellOf hm9.out.box; have fB := freeOf hm9.out.box; have cC := cellOf hm9.out.out; have fC := freeOf hm9.out.out
    have hzz : z9 = 0 ∨ z9 = 1 := by omega
    clear hz9
    rcases hzz with rfl | rfl
    all_goals
      go_wp2_with fail
      refine ret_ex rfl ?_
      simp [results, Try.results10, go_sem, cC]
      exact (hm9.out.set1 _).ret rfl rfl
  · go_wp2_with fail
    refine (next_lt tb 9 (by omega) (by omega) _ hm8.out.tape).mono ?_
    rintro e9 w9 ⟨z9, rfl, hz9, ht9, hx9, hs9⟩
    have hm9 := Lib.hid (hm8.out.step hx9 ht9)
    clear ht9 hx9 hs9 cB fB
    have cB := cellOf hm9.out.box; have fB := freeOf hm9.out.box; have cC := cellOf hm9.out.out; have fC := freeOf hm9.out.out
    go_wp2_with fail
    refine ret_ex rfl ?_
    simp [results, Try.results10, go_sem, cC]
    exact (hm9.out.set3 _).ret rfl rfl
  · have cC := cellOf hm8.out.out
    have fC := freeOf hm8.out.out
    go_wp2_with fail
    refine ret_ex rfl ?_
    simp [results, Try.results10, go_sem, cC]
    exact (hm8.out.set4 _).ret rfl rfl
  · have cC := cellOf hm8.out.out
    have fC := freeOf hm8.out.out
    go_wp2_with fail
    go_region_law (first | ((go_simp; go_at_call 13); (with_reducible refine (next_lt tb 9 (by omega) (by omega) _ ?_).mono ?_); (exact hm8.out.tape.drew); (rintro e9 w9 ⟨z9, rfl, hz9, ht9, hx9, hs9⟩); (have hm9 := Lib.hid (hm8.out.step ((Ext.refl _ _).drew.trans hx9) ht9)); (clear hs9 ht9 cB fB); (have cB := cellOf hm9.out.box); (have fB := freeOf hm9.out.box); (have cC := cellOf hm9.out.out); (have fC := freeOf hm9.out.out); (have hl9 := Nat.lt_of_succ_lt hm9.out.lt2); (have l9 := keepA (o := .cells #[.int .i64 (IntKind.i64.wrap ((z9 : Int) - 1)), .int .i64 0, .int .i64 0, .int .i64 0] 53) (cB 2))) | ((go_loud (refine step_of _ (by rfl) (wp_app _ (.tmp 88) (.tmp 93) 23 (by rfl) (w.heap.size + 2) 53 i0 _ 4 32 Try.underlying23 hi0 hz0 hz1 hz2 rfl (by omega) (.slice a1 r.seats.length c1) r.seats.length (flatS r.seats) (by rfl) (hm9.out.alloc _).own No (some ⟨w9.heap.size, 0, none⟩) 1 1 (Seat.cells ⟨IntKind.i64.wrap ((z9 : Int) - 1), 0, 0, 0⟩) (by rfl) (Row.block (alloc_top rfl) rfl (fun x => x.elim) (by omega)) (by simp [Seat.cells, Value.oneCell']) (by omega) (by omega) (by have := hm9.out.lt2; simp; omega) ?_))); (intro v3 w3 hown3 hg3 hat3); (clear hat3); (obtain ⟨a3, c3, hv3⟩ := (Row.ofOwns (M := No) hown3 (fun _ _ x => x)).slice); (subst hv3); (have hB3 := (hm9.out.alloc _).grownBox hg3); (have hm3 := Lib.hid ((hm9.out.alloc _).grown hg3 (own_app hown3))); (clear cB fB cC fC); (have cB := cellOf hB3.1); (have fB := freeOf hB3.1); (have cC := cellOf hB3.2); (have fC := freeOf hB3.2); (clear hown3 hg3 hB3)))
    all_goals
      go_wp2_with fail
      refine ret_ex rfl ?_
      simp [results, Try.results10, go_sem, cC]
      exact (hm3.out).ret rfl rfl
  · have k0 : ((z8 : Int) == 0) = false := beq_eq_false_iff_ne.2 (by omega)
    have k1 : ((z8 : Int) == 1) = false := beq_eq_false_iff_ne.2 (by omega)
    have k2 : ((z8 : Int) == 2) = false := beq_eq_false_iff_ne.2 (by omega)
    have k3 : ((z8 : Int) == 3) = false := beq_eq_false_iff_ne.2 (by omega)
    have k4 : ((z8 : Int) == 4) = false := beq_eq_false_iff_ne.2 (by omega)
    clear h5
    have cC := cellOf hm8.out.out
    have fC := freeOf hm8.out.out
    by_cases hlt : 0 < r.seats.length
    · obtain ⟨g, cap, hsl, hg1, hg2⟩ := own_shape hm8.out.own (by omega)
      simp only [Value.slice.injEq] at hsl
      obtain ⟨rfl, _, rfl⟩ := hsl
      have l0 : w8.cell? ⟨w.heap.size, 2, none⟩ = some (.slice (some ⟨g, 0, none⟩) r.seats.length c1) := cB 2
      go_wp2_with fail
      go_region_held3 (fun w' => w'.cell? ⟨w.heap.size, 2, none⟩ = some (.slice (some ⟨g, 0, none⟩) r.seats.length c1))
        (first | (with_reducible assumption) | (with_reducible exact keepD (by with_reducible assumption)) | (with_reducible exact keepM' hx9 (Nat.ne_of_gt htb) (by with_reducible assumption)))
        (first | ((go_at_call 13); (try go_split_ands); (with_reducible refine (next_lt tb r.seats.length (by omega) (by omega) _ ?_).mono ?_); (exact hm8.out.tape.drew); (rintro e9 w9 ⟨z9, rfl, hz9, ht9, hx9, hs9⟩); (have hm9 := Lib.hid (hm8.out.step ((Ext.refl _ _).drew.trans hx9) ht9)); (clear hs9 ht9)))
      clear cB fB cC fC l0 hx9
      have cB := cellOf hm9.out.box
      have fB := freeOf hm9.out.box
      have hj : z9 < r.seats.length := by omega
      go_wp2_with fail
      refine (next_lt tb 4 (by omega) (by omega) _ hm9.out.tape).mono ?_
      rintro e4 w4 ⟨z4, rfl, hz4, ht4, hx4, hs4⟩
      have hm4 := Lib.hid (hm9.out.step hx4 ht4)
      clear ht4 hx4 hs4 cB fB
      have cB := cellOf hm4.out.box; have fB := freeOf hm4.out.box; have cC := cellOf hm4.out.out; have fC := freeOf hm4.out.out
      obtain ⟨q0, q1, q2, q3⟩ := hm4.out.own.at hj
      have fg := fun j => World.ownsRow.frozenAt hm4.out.own j
      have hzz : z4 = 0 ∨ z4 = 1 ∨ z4 = 2 ∨ z4 = 3 := by omega
      rcases hzz with rfl | rfl | rfl | rfl
      · go_wp2_with fail
        refine (next_lt tb 80 (by omega) (by omega) _ hm4.out.tape).mono ?_
        rintro e7 w7 ⟨z7, rfl, hz7, ht7, hx7, hs7⟩
        have hm7 := Lib.hid (hm4.out.step hx7 ht7)
        clear ht7 hx7 hs7 cB fB
        have cB := cellOf hm7.out.box; have fB := freeOf hm7.out.box; have cC := cellOf hm7.out.out; have fC := freeOf hm7.out.out
        clear q0 q1 q2 q3 fg
        obtain ⟨q0, q1, q2, q3⟩ := hm7.out.own.at hj
        have fg := fun j => World.ownsRow.frozenAt hm7.out.own j
        have hmE := Lib.hid (hm7.out.elt hj hg1 (k := 3) (by omega) _ ⟨r.seats[z9].id, r.seats[z9].pri, r.seats[z9].age, (z7 : Int) - 12⟩ rfl)
        have cCE := cellOf hmE.out.out
        have fCE := freeOf hmE.out.out
        have cBE := cellOf hmE.out.box
        go_wp2_with fail
        clear cC
        have cC := cCE
        refine ret_ex rfl ?_
        simp [results, Try.results10, go_sem, cC]
        exact (hmE.out).ret rfl rfl
      · go_wp2_with fail
        refine (next_lt tb 6 (by omega) (by omega) _ hm4.out.tape).mono ?_
        rintro e7 w7 ⟨z7, rfl, hz7, ht7, hx7, hs7⟩
        have hm7 := Lib.hid (hm4.out.step hx7 ht7)
        clear ht7 hx7 hs7 cB fB
        have cB := cellOf hm7.out.box; have fB := freeOf hm7.out.box; have cC := cellOf hm7.out.out; have fC := freeOf hm7.out.out
        clear q0 q1 q2 q3 fg
        obtain ⟨q0, q1, q2, q3⟩ := hm7.out.own.at hj
        have fg := fun j => World.ownsRow.frozenAt hm7.out.own j
        have hmE := Lib.hid (hm7.out.elt hj hg1 (k := 1) (by omega) _ ⟨r.seats[z9].id, (z7 : Int) - 1, r.seats[z9].age, r.seats[z9].dfc⟩ rfl)
        have cCE := cellOf hmE.out.out
        have fCE := freeOf hmE.out.out
        have cBE := cellOf hmE.out.box
        go_wp2_with fail
        clear cC
        have cC := cCE
        refine ret_ex rfl ?_
        simp [results, Try.results10, go_sem, cC]
        exact (hmE.out).ret rfl rfl
      · go_wp2_with fail
        refine (next_lt tb 3 (by omega) (by omega) _ hm4.out.tape).mono ?_
        rintro e7 w7 ⟨z7, rfl, hz7, ht7, hx7, hs7⟩
        have hm7 := Lib.hid (hm4.out.step hx7 ht7)
        clear ht7 hx7 hs7 cB fB
        have cB := cellOf hm7.out.box; have fB := freeOf hm7.out.box; have cC := cellOf hm7.out.out; have fC := freeOf hm7.out.out
        clear q0 q1 q2 q3 fg
        obtain ⟨q0, q1, q2, q3⟩ := hm7.out.own.at hj
        have fg := fun j => World.ownsRow.frozenAt hm7.out.own j
        have hmE := Lib.hid (hm7.out.elt hj hg1 (k := 2) (by omega) _ ⟨r.seats[z9].id, r.seats[z9].pri, (z7 : Int) - 1, r.seats[z9].dfc⟩ rfl)
        have cCE := cellOf hmE.out.out
        have fCE := freeOf hmE.out.out
        have cBE := cellOf hmE.out.box
        go_wp2_with fail
        clear cC
        have cC := cCE
        refine ret_ex rfl ?_
        simp [results, Try.results10, go_sem, cC]
        exact (hmE.out).ret rfl rfl
      · go_wp2_with fail
        refine (next_lt tb 10 (by omega) (by omega) _ hm4.out.tape).mono ?_
        rintro e7 w7 ⟨z7, rfl, hz7, ht7, hx7, hs7⟩
        have hm7 := Lib.hid (hm4.out.step hx7 ht7)
        clear ht7 hx7 hs7 cB fB
        have cB := cellOf hm7.out.box; have fB := freeOf hm7.out.box; have cC := cellOf hm7.out.out; have fC := freeOf hm7.out.out
        clear q0 q1 q2 q3 fg
        obtain ⟨q0, q1, q2, q3⟩ := hm7.out.own.at hj
        have fg := fun j => World.ownsRow.frozenAt hm7.out.own j
        have hmE := Lib.hid (hm7.out.elt0 hj hg1 ((z7 : Int) - 1) ⟨(z7 : Int) - 1, r.seats[z9].pri, r.seats[z9].age, r.seats[z9].dfc⟩ rfl)
        have cCE := cellOf hmE.out.out
        have fCE := freeOf hmE.out.out
        have cBE := cellOf hmE.out.box
        go_wp2_with fail
        clear cC
        have cC := cCE
        refine ret_ex rfl ?_
        simp [results, Try.results10, go_sem, cC]
        exact (hmE.out).ret rfl rfl
    · go_wp2_with fail
      refine ret_ex rfl ?_
      simp [results, Try.results10, go_sem, cC]
      exact (hm8.out).ret rfl rfl
end Go.Proofs.Ytckeidboolfcoaa

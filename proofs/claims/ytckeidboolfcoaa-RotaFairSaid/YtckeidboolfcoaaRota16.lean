/- rota: Pick, on a ring that is valid and not empty. -/
import Derived.Test.YtckeidboolfcoaaRota15
namespace Go.Proofs.Ytckeidboolfcoaa
open Go Go.RowKit

theorem end_at {w0 wr : World} {B g cap base1 n : Nat} {base per : Int} {l : List Seat} {c : Nat} {ts : List Turn} {opn : Bool} {o : Value}
    (h : PickMem w0 wr B g cap base1 n base per l c ts opn o) (hc : c < l.length) (hl : n ≤ 16) :
    Calls Try.prog 35 #[.pointer (some ⟨B, 0, none⟩)] wr fun e w' => e = .returned (.tuple #[]) ∧ PickMem w0 w' B g cap base1 n base per (l.set c ((l[c]?.getD ⟨0, 0, 0, 0⟩).older)) (wrapAt c l.length) ts false o :=
  (end_any B g cap (B + 2) base per l c opn wr hc (by rw [h.len]; exact hl) (by have := h.bg; omega) (by rw [h.len]; exact h.hB) h.own).mono fun _ _ hp => h.ended hp

theorem set_older (l : List Seat) (c : Nat) (hc : c < l.length) (s d : Seat) : (l.set c s).set c (((l.set c s)[c]?.getD d).older) = l.set c s.older := by simp [hc]
theorem own_len {w : World} {base : Nat} {e : TypeId} {size : Nat} {v : Value} {n : Nat} {xs : List Value} (h : w.ownsRow base e size v n xs) : lenV v = n := by
  rcases h.2 with ⟨rfl, rfl⟩ | ⟨g, cap, cur, rfl, _⟩ <;> rfl
theorem PickMem.ret {M : Nat → Prop} {w0 wr w' : World} {B g cap base1 n : Nat} {base per : Int} {l : List Seat} {c : Nat} {ts : List Turn} {opn : Bool} {o : Value}
    (h : PickMem w0 wr B g cap base1 n base per l c ts opn o) (hb : B + 1 < base1) (hM : ∀ b, M b → b < w0.heap.size) (hx : Ext (At (B + 1)) wr w') :
    RingV M w' (.agg #[.int .i64 base, .int .i64 per, .slice (some ⟨g, 0, none⟩) n cap, .int .i64 c, .bool true]) ⟨base, per, l, c, true⟩ ∧ Turns M w' o ts ∧ Ext No w0 w' := by
  have ht := h.top
  refine ⟨⟨_, rfl, ?_⟩, Row.fin h.turns (by omega) hM (hx.mono (fun i _ e => by cases e; exact hb)), h.ext.trans2 hx (fun i hi e => by cases e; exact absurd hi (by omega))⟩
  rw [← h.len]
  exact Row.fin h.own (by omega) hM (hx.mono (fun i _ e => by cases e; exact Nat.lt_succ_self _))

theorem PickMem.done {M : Nat → Prop} {r : Ring} {w0 wr w' : World} {B g cap base1 : Nat} {l : List Seat} {c : Nat} {ts : List Turn} {opn : Bool} {o : Value} {e : Ending}
    (h : PickMem w0 wr B g cap base1 r.seats.length r.base r.per l c ts opn o) (hb : B + 1 < base1) (hM : ∀ b, M b → b < w0.heap.size) (hr : ringPick r = pickRing r (pickFin r)) (hf : pickFin r = (l, c, ts)) (hc : c < l.length)
    (he : e = .returned (.tuple #[.agg #[.int .i64 r.base, .int .i64 r.per, .slice (some ⟨g, 0, none⟩) r.seats.length cap, .int .i64 c, .bool true], .int .i64 l[c].id, o, .bool true])) (hx : Ext (At (B + 1)) wr w') : PickPost M r w0 e w' := by
  obtain ⟨t1, t2, t3⟩ := h.ret hb hM hx
  exact PickPost.mk (hr.trans (congrArg _ hf)) (by rw [he]; simp [pickRing, hc]) t1 t2 t3

set_option maxRecDepth 100000 in
set_option maxHeartbeats 2000000 in
theorem pick_yes (M : Nat → Prop) (v : Value) (r : Ring) (w : World) (hM : ∀ b, M b → b < w.heap.size) (h : RingV M w v r) (hok : ringOk r = true) (hn : r.seats.length ≠ 0) :
    Calls Try.prog 21 #[v] w (PickPost M r w) := by
  have HV := Lib.hid h.toNo
  have HA := Lib.hid (ringPick_yes (r := r) (by simp [hok, hn]))
  have HR := Lib.hid (PickRel.start hok hn)
  obtain ⟨hl16, hc0, hc1⟩ := ok_len hok
  obtain ⟨sl, rfl, hs⟩ := h
  obtain ⟨a, cap, rfl⟩ := hs.slice
  have HS := Lib.hid (show Seats No w (.slice a r.seats.length cap) r.seats from Row.mono hs (fun _ _ x => x.elim))
  have hlen := hs.2.1
  obtain ⟨i0, hi0, hz0, hz1, hz2⟩ := info_parts infoTurn
  clear hs
  have g4 : ((r.seats.length : Int) == 0) = false := beq_eq_false_iff_ne.2 (by omega)
  have HN := Lib.hid hn
  have HC := Lib.hid hc1
  have HM := Lib.hid hM
  clear hc1 hn hM
  go_enter Try.func21, Try.ntmps21
  go_wp2_with fail
  have hx0 : Ext No w ((w.alloc (.cells #[.int .i64 r.base, .int .i64 r.per, .slice a r.seats.length cap, .int .i64 r.cur, .bool r.opn] 25)).alloc (.cells #[.int .i64 0, .int .i64 0, .slice none 0 0, .int .i64 0, .bool false] 25)) := ((Ext.refl _ _).alloc _).alloc _
  refine (valid_any _ r _ (HV.out.extNo hx0)).mono ?_
  rintro e1 w1 ⟨rfl, hx1⟩
  rw [hok]
  have hB := hx1.blk (alloc_under (alloc_top (w := w) rfl)) (fun x => x.elim)
  have hC := hx1.blk (n := w.heap.size + 1) (alloc_top (by simp)) (fun x => x.elim)
  have hx := hx0.transNo hx1
  have hsz1 : w.heap.size + 2 ≤ w1.heap.size := by have := hx1.size; simp at this; omega
  have cB := cellOf hB
  clear hx0 hx1
  go_wp2_with (go_at_call 33; refine (clone_any _ r.seats _ (Row.extNo HS.out hx) (by omega)).mono ?_; rintro e2 w2 ⟨v2, rfl, hown, hx2⟩; obtain ⟨g, gcap, rfl, hbg, hgw⟩ := own_shape hown HN.out; replace hB := hx2.blk hB (fun x => x.elim); replace hC := hx2.blk hC (fun x => x.elim); replace hx := hx.transNo hx2; have hsz2 := Nat.le_trans hsz1 hx2.size; have cB := cellOf hB; have fB := freeOf hB; clear hx2)
  have hB3 := set_same (j := 2) (u := .slice (some ⟨g, 0, none⟩) r.seats.length gcap) hB
  have hC3 := set_other (a := ⟨w.heap.size, 2, none⟩) (u := .slice (some ⟨g, 0, none⟩) r.seats.length gcap) hC (by simp)
  have hS3 := ownsRow_setCell_other (a := ⟨w.heap.size, 2, none⟩) hown (by simp [Value.ownBlock]; omega) (.slice (some ⟨g, 0, none⟩) r.seats.length gcap)
  have hx3 : Ext No w (w2.setCell ⟨w.heap.size, 2, none⟩ (.slice (some ⟨g, 0, none⟩) r.seats.length gcap)) := hx.own (Nat.le_refl _) _
  have hz3 : w2.heap.size = (w2.setCell ⟨w.heap.size, 2, none⟩ (.slice (some ⟨g, 0, none⟩) r.seats.length gcap)).heap.size := by simp [World.setCell]
  clear cB fB hB hC hx hown
  generalize w2.setCell ⟨w.heap.size, 2, none⟩ (.slice (some ⟨g, 0, none⟩) r.seats.length gcap) = W at *
  have hM3 : PickMem w W w.heap.size g gcap W.heap.size r.seats.length r.base r.per r.seats r.cur.toNat [] r.opn (.slice none 0 0) :=
    ⟨hx3, Nat.le_refl _, hB3.trans (by rw [Int.toNat_of_nonneg hc0]; rfl), hC3, ownsRow_base hS3 hsz1, World.ownsRow_nil _ _ _ _, Nat.le_refl _, by omega, by omega, rfl⟩
  clear hB3 hC3 hS3 hx3 hz3
  have HM3 := Lib.hid hM3
  clear hM3
  go_loopw [6, 7, 8] (fun o _ _ wr => ∃ l c ts opn, Hid (PickRel r.base r.per r.seats.length (pickFin r) l c ts opn) ∧ Hid (PickMem w wr w.heap.size g gcap W.heap.size r.seats.length r.base r.per l c ts opn o)) (fun o _ _ _ => 200 - lenV o)
  case atStart => exact ⟨_, _, _, _, HR, HM3⟩
  case round =>
    obtain ⟨l, c, ts, opn, hr, hm⟩ := hrel
    have hcn : c < r.seats.length := hr.out.cur
    have hcl : c < l.length := by have := hr.out.len; omega
    have cB := cellOf hm.out.hB
    have fB := freeOf hm.out.hB
    have cC := cellOf hm.out.hC
    have fC := freeOf hm.out.hC
    have c0 : (0 : Int) ≤ (c : Int) := by omega
    have c1 : (c : Int) < (r.seats.length : Int) := by omega
    obtain ⟨q0, q1, q2, q3⟩ := hm.out.own.at hcl
    cases opn with
    | true =>
      have hfin := Lib.hid (hr.out.fin rfl)
      go_wp2_with fail
      go_region
      all_goals
        go_wp2
        refine ret_ex rfl ?_
        simp [results, Try.results21, go_sem, cC]
        refine hm.out.done (lt_of_block HM3.out.hC) HM.out HA.out hfin.out hcl rfl ?_
        repeat (first | (with_reducible exact Ext.refl _ _) | (with_reducible refine Ext.drew ?_) | (with_reducible refine Ext.setAt ?_ _ _))
    | false =>
      have qb : 1 ≤ quantZ r.base l[c].pri l[c].age r.per ∧ quantZ r.base l[c].pri l[c].age r.per ≤ 64 := quantS_bd r.base r.per l[c]
      obtain ⟨qb1, qb2⟩ := qb
      obtain ⟨db1, db2⟩ := hr.out.at hcl
      have hlt := hr.out.lt
      by_cases hz : l[c].dfc + quantZ r.base l[c].pri l[c].age r.per ≤ 0
      all_goals
        go_wp2_with fail
        go_quiet ((go_at_call 34; exact Calls.quiet_of_same ((quantum_any _ _ _ _ _).mono fun e w' ⟨he, hw⟩ => ⟨he, hw.symm⟩)))
        go_wp2_with (first | (at_builtin; refine wpList_app _ rfl (.tmp 44) (.tmp 51) 30 rfl W.heap.size 51 i0 _ 5 40 Try.underlying30 hi0 hz0 hz1 hz2 rfl (by omega) u6 ts.length (flatT ts) rfl (World.ownsRow.alloc (hm.out.drew nq).turns _) No (some ⟨wr.heap.size, 0, none⟩) 1 1 (Turn.cells ⟨l[c].id, quantS r.base r.per l[c]⟩) rfl (Row.block (alloc_top rfl) rfl (fun x => x.elim) (by omega)) (by simp [Turn.cells, Value.oneCell']) (by omega) (by omega) (by have := hm.out.big; simp; omega) ?_; intro v1 w1 hown1 hg1 _; have hm1 := Lib.hid ((hm.out.drew nq).app hown1 hg1); clear hown1 hg1 cB cC fB fC q0 q1 q2 q3; obtain ⟨q0, q1, q2, q3⟩ := hm1.out.own.at hcl; have fg := fun j => World.ownsRow.frozenAt hm1.out.own j; have cB := cellOf hm1.out.hB; have fB := freeOf hm1.out.hB) | (go_at_call 35; refine (end_at ((hm1.out.store hcl _).opened true) (by rw [List.length_set]; exact hcl) hl16).mono ?_; rintro e4 w4 ⟨rfl, hm4⟩; replace hm4 := Lib.hid hm4))
      · refine ⟨⟨_, _, _, _, Lib.hid (hr.out.more hcl hz), ?_⟩, ?_⟩
        · rw [set_older l c hcl, List.length_set] at hm4
          exact hm4
        · rw [own_len hm1.out.turns, own_len hm.out.turns, List.length_append, List.length_singleton]; omega
      · refine ⟨⟨_, _, _, _, Lib.hid (hr.out.stop hcl (Int.not_le.2 hz)), Lib.hid ((hm1.out.store hcl _).opened true)⟩, ?_⟩
        rw [own_len hm1.out.turns, own_len hm.out.turns, List.length_append, List.length_singleton]; omega

theorem pick_any (M : Nat → Prop) (v : Value) (r : Ring) (w : World) (hM : ∀ b, M b → b < w.heap.size) (h : RingV M w v r) :
    Calls Try.prog 21 #[v] w (PickPost M r w) := by
  by_cases hf : ringOk r = false ∨ r.seats.length = 0
  · exact pick_no M v r w h hf
  · have hf' := not_or.1 hf
    exact pick_yes M v r w hM h (by simpa using hf'.1) hf'.2
end Go.Proofs.Ytckeidboolfcoaa

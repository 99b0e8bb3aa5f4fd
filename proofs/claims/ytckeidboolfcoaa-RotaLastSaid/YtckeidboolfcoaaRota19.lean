/- rota: Spend: the plain words, and the ways that fail. -/
import Derived.Test.YtckeidboolfcoaaRota16
import Derived.Test.YtckeidboolfcoaaRota20
import Derived.Test.YtckeidboolfcoaaRota7c
namespace Go.Proofs.Ytckeidboolfcoaa
open Go Go.RowKit

def seatAt (r : Ring) : Seat := r.seats[r.cur.toNat]?.getD ⟨0, 0, 0, 0⟩
def Seat.pay (s : Seat) (d : Int) : Seat := ⟨s.id, s.pri, s.age, s.dfc - d⟩
def spent (r : Ring) (cost : Int) : Ring × Bool × Int :=
  if 0 < (seatAt r).dfc - cost then (⟨r.base, r.per, r.seats.set r.cur.toNat ((seatAt r).pay cost), r.cur.toNat, true⟩, false, 0)
  else (⟨r.base, r.per, r.seats.set r.cur.toNat ((seatAt r).pay cost).older, (wrapAt r.cur.toNat r.seats.length : Nat), false⟩, true, 0)
def ringSpend (r : Ring) (cost : Int) (fin : Bool) : Ring × Bool × Int :=
  if ringOk r = false ∨ r.opn = false then (ring0, false, 1)
  else if betB cost 1 8 = false then (ring0, false, 3)
  else if fin = true then (removed r r.cur.toNat, true, 0)
  else spent r cost
def SpendPost (M : Nat → Prop) (r : Ring) (cost : Int) (fin : Bool) (w : World) (e : Ending) (w' : World) : Prop :=
  ∃ v, e = .returned (.tuple #[v, .bool (ringSpend r cost fin).2.1, .int .i64 (ringSpend r cost fin).2.2]) ∧ RingV M w' v (ringSpend r cost fin).1 ∧ Ext No w w'
theorem SpendPost.mk {M : Nat → Prop} {r r' : Ring} {cost c : Int} {fin b : Bool} {w w' : World} {e : Ending} {v : Value} (h : ringSpend r cost fin = (r', b, c)) (he : e = .returned (.tuple #[v, .bool b, .int .i64 c])) (hv : RingV M w' v r') (hx : Ext No w w') : SpendPost M r cost fin w e w' :=
  ⟨v, by rw [h]; exact he, by rw [h]; exact hv, hx⟩
theorem spendE1 {r : Ring} {cost : Int} {fin : Bool} (h : ringOk r = false ∨ r.opn = false) : ringSpend r cost fin = (ring0, false, 1) := by unfold ringSpend; rw [if_pos h]
theorem spendE3 {r : Ring} {cost : Int} {fin : Bool} (h : ¬ (ringOk r = false ∨ r.opn = false)) (h2 : betB cost 1 8 = false) : ringSpend r cost fin = (ring0, false, 3) := by unfold ringSpend; rw [if_neg h, if_pos h2]
theorem spendF {r : Ring} {cost : Int} (h : ¬ (ringOk r = false ∨ r.opn = false)) (h2 : betB cost 1 8 = true) : ringSpend r cost true = (removed r r.cur.toNat, true, 0) := by unfold ringSpend; rw [if_neg h, if_neg (by simp [h2]), if_pos rfl]
theorem spendG {r : Ring} {cost : Int} (h : ¬ (ringOk r = false ∨ r.opn = false)) (h2 : betB cost 1 8 = true) : ringSpend r cost false = spent r cost := by unfold ringSpend; rw [if_neg h, if_neg (by simp [h2]), if_neg (by simp)]
theorem spent_on {r : Ring} {cost : Int} {c : Nat} (hc : r.cur = c) (hl : c < r.seats.length) (h : 0 < r.seats[c].dfc - cost) : spent r cost = (⟨r.base, r.per, r.seats.set c (r.seats[c].pay cost), c, true⟩, false, 0) := by
  have hs : seatAt r = r.seats[c] := by simp [seatAt, hc, hl]
  unfold spent
  rw [hs, if_pos h]
  simp [hc]
theorem spent_off {r : Ring} {cost : Int} {c : Nat} (hc : r.cur = c) (hl : c < r.seats.length) (h : ¬ 0 < r.seats[c].dfc - cost) : spent r cost = (⟨r.base, r.per, r.seats.set c (r.seats[c].pay cost).older, (wrapAt c r.seats.length : Nat), false⟩, true, 0) := by
  have hs : seatAt r = r.seats[c] := by simp [seatAt, hc, hl]
  unfold spent
  rw [hs, if_neg h]
  simp [hc]
theorem rem_here {r : Ring} {c : Nat} (hok : ringOk r = true) (hc : r.cur = c) (hl : c < r.seats.length) : ringRemove r r.seats[c].id = (removed r r.cur.toNat, true) := by
  have h := findZ_self (ringP hok).nod c hl
  rw [remYes (by rw [h]; simp [hok]), h, hc]

set_option maxRecDepth 100000 in
set_option maxHeartbeats 2000000 in
theorem spend_no (M : Nat → Prop) (v : Value) (r : Ring) (cost : Int) (fin : Bool) (w : World) (h : RingV M w v r) (hf : ringOk r = false ∨ r.opn = false ∨ betB cost 1 8 = false) :
    Calls Try.prog 22 #[v, .int .i64 cost, .bool fin] w (SpendPost M r cost fin w) := by
  have HV := Lib.hid h.toNo
  obtain ⟨sl, rfl, hs⟩ := h
  obtain ⟨a, cap, rfl⟩ := hs.slice
  clear hs
  obtain ⟨base, per, seats, cur, opn⟩ := r
  simp only at hf HV ⊢
  have hp : ringOk ⟨base, per, seats, cur, opn⟩ = false ∨ (ringOk ⟨base, per, seats, cur, opn⟩ = true ∧ opn = false) ∨ (ringOk ⟨base, per, seats, cur, opn⟩ = true ∧ opn = true ∧ betB cost 1 8 = false) := by
    cases h1 : ringOk ⟨base, per, seats, cur, opn⟩ with
    | false => exact .inl rfl
    | true =>
      cases opn with
      | false => exact .inr (.inl ⟨rfl, rfl⟩)
      | true => exact .inr (.inr ⟨rfl, rfl, (hf.resolve_left (by simp [h1])).resolve_left (by simp)⟩)
  clear hf
  rcases hp with gk | ⟨gk, rfl⟩ | ⟨gk, rfl, gb⟩
  all_goals
    first
    | have HA := Lib.hid (spendE1 (cost := cost) (fin := fin) (.inl gk))
    | have HA := Lib.hid (spendE3 (r := ⟨base, per, seats, cur, true⟩) (cost := cost) (fin := fin) (by simp [gk]) gb)
    | have HA := Lib.hid (spendE1 (r := ⟨base, per, seats, cur, false⟩) (cost := cost) (fin := fin) (.inr rfl))
    go_enter Try.func22, Try.ntmps22
    go_wp2_with fail
    refine (valid_any _ _ _ (HV.out.extNo (((Ext.refl _ _).alloc _).alloc _))).mono ?_
    rintro e1 w1 ⟨rfl, hx1⟩
    rw [gk]
    have hB := hx1.blk (alloc_under (alloc_top (w := w) rfl)) (fun x => x.elim)
    have hC := hx1.blk (n := w.heap.size + 1) (alloc_top (by simp)) (fun x => x.elim)
    have hx := (((Ext.refl No w).alloc _).alloc _).transNo hx1
    have cB := cellOf hB
    have cC := cellOf hC
    have fC := freeOf hC
    clear hx1
    go_wp2_with (go_at_call 31; refine (between_any _ _ _ _).mono ?_; rintro e' w1 ⟨rfl, rfl⟩)
    refine ret_ex rfl ?_
    simp [results, Try.results22, go_sem, cC]
    refine SpendPost.mk HA.out rfl (ring0_v M _) ?_
    repeat (first | (with_reducible assumption) | ((with_reducible refine Ext.own ?_ ?_ _); rotate_left; first | exact Nat.le_refl _ | exact Nat.le_succ _))

theorem PickMem.begin {w w2 : World} {base per : Int} {l : List Seat} {c g cap n base2 : Nat} {opn : Bool} {sl0 : Value} (hx : Ext No w w2)
    (hB : w2.heap[w.heap.size]? = some (.cells #[.int .i64 base, .int .i64 per, sl0, .int .i64 c, .bool opn] 25 (0, 0)))
    (hC : w2.heap[w.heap.size + 1]? = some (.cells #[.int .i64 0, .int .i64 0, .slice none 0 0, .int .i64 0, .bool false] 25 (0, 0)))
    (hown : OwnSeats w2 base2 (.slice (some ⟨g, 0, none⟩) l.length cap) l) (hb2 : w.heap.size + 2 ≤ base2) (hn : l.length = n) :
    PickMem w (w2.setCell ⟨w.heap.size, 2, none⟩ (.slice (some ⟨g, 0, none⟩) n cap)) w.heap.size g cap w2.heap.size n base per l c [] opn (.slice none 0 0) := by
  have hg := World.ownsRow.lt hown g rfl
  refine ⟨hx.own (Nat.le_refl _) _, Nat.le_refl _, (set_same (j := 2) hB).trans rfl, set_other hC (by simp), ?_, World.ownsRow_nil _ _ _ _, by simp [World.setCell], hg.2, by omega, hn⟩
  exact ownsRow_base (ownsRow_setCell_other (a := ⟨w.heap.size, 2, none⟩) hown (by simp [Value.ownBlock]; omega) _) hb2
end Go.Proofs.Ytckeidboolfcoaa

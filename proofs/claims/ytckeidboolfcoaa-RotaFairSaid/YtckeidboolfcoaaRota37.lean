/- The law RotaFair: the plain laws. -/
import Derived.Test.YtckeidboolfcoaaRota35
namespace Go.Proofs.Ytckeidboolfcoaa
open Go Go.RowKit

def ids (n : Nat) : List Int := (List.range n).map fun (i : Nat) => (i : Int)
theorem ids_get {n k : Nat} {x : Int} (h : (ids n)[k]? = some x) : x = k := by
  simp only [ids, List.getElem?_map, Option.map_eq_some_iff] at h
  obtain ⟨y, h1, h2⟩ := h
  have := (List.getElem?_eq_some_iff.1 h1)
  obtain ⟨h3, h4⟩ := this
  rw [List.getElem_range] at h4
  omega
theorem ids_succ (n : Nat) : ids (n + 1) = ids n ++ [(n : Int)] := by simp [ids, List.range_succ]
theorem ids_len (n : Nat) : (ids n).length = n := by simp [ids]

structure FairStart (i : Nat) (r : Ring) : Prop where
  ok : RingP r
  ids : r.seats.map Seat.id = ids i
  cur : r.cur = 0
  opn : r.opn = false
theorem FairStart.len {i : Nat} {r : Ring} (h : FairStart i r) : r.seats.length = i := by rw [map_len h.ids, ids_len]
theorem FairStart.at {i : Nat} {r : Ring} (h : FairStart i r) (k : Nat) (hk : k < r.seats.length) : r.seats[k].id = k := ids_get (id_at h.ids hk)
theorem fair_add {i : Nat} {r : Ring} {p : Int} (h : FairStart i r) (hi : i < 16) (hp : 0 ≤ p ∧ p ≤ 3) : (ringAdd r i p).2 = 0 ∧ FairStart (i + 1) (ringAdd r i p).1 := by
  have hok := ringP_ok h.ok
  have hl := h.len
  have hid : (0 : Int) ≤ (i : Int) ∧ (i : Int) ≤ 1073741824 := by omega
  have hf : findZ r.seats (i : Int) = -1 := findZ_miss (fun j hj e => by have := h.at j hj; omega)
  have e : ringAdd r i p = (added r i p, 0) := by
    unfold ringAdd
    rw [if_neg (by simp [hok]), if_neg (by simp [betB_mk hid, betB_mk hp]), if_neg (by omega), if_neg (by omega)]
  rw [e]
  refine ⟨rfl, added_ok h.ok hid hp (by omega) (by omega), ?_, ?_, ?_⟩
  · have hat : addAt r = r.seats.length := by unfold addAt; rw [if_neg (by simp [h.cur, h.opn])]
    show (r.seats.take (addAt r) ++ [(⟨i, p, 0, 0⟩ : Seat)] ++ r.seats.drop (addAt r)).map Seat.id = _
    rw [hat, List.take_length, List.drop_length, List.append_nil, List.map_append, h.ids, ids_succ]; rfl
  · show (if 0 < r.cur ∨ r.opn = true then r.cur + 1 else r.cur) = 0
    rw [if_neg (by simp [h.cur, h.opn])]; exact h.cur
  · exact h.opn

def spA (s : Int) (j : Nat) : Int := if j = 0 then s else 0
def quA (q : Int) (ts : List Turn) (j : Nat) : Int := if j = 0 then q else ((ts[j - 1]?).getD ⟨0, 0⟩).quant
theorem spA_zero (s : Int) : spA s 0 = s := rfl
theorem quA_zero (q : Int) (ts : List Turn) : quA q ts 0 = q := rfl
theorem spA_succ (s : Int) (j : Nat) : spA s (j + 1) = 0 := rfl
theorem quA_succ (q : Int) (ts : List Turn) (j : Nat) (h : j < ts.length) : quA q ts (j + 1) = ts[j].quant := by simp [quA, h]

structure FairInv (n next : Nat) (spent quantum : Int) (r : Ring) : Prop where
  cyc : Cyc (ids n) next r
  s0 : 0 ≤ spent ∧ spent ≤ 72
  q0 : 0 ≤ quantum ∧ quantum ≤ 64
  dfc : r.opn = true → ∀ c (hc : c < r.seats.length), r.cur = c → spent + r.seats[c].dfc ≤ quantum
theorem FairInv.len {n next : Nat} {spent quantum : Int} {r : Ring} (h : FairInv n next spent quantum r) : r.seats.length = n := by rw [map_len h.cyc.ids, ids_len]

structure FairPick (n next : Nat) (spent quantum : Int) (p : Picked) : Prop where
  ok : p.ok = true
  le : p.turns.length ≤ 113
  turn : ∀ j (h : j < p.turns.length), p.turns[j].q = ((next + j) % n : Nat) ∧ 1 ≤ p.turns[j].quant ∧ p.turns[j].quant ≤ 64
  id : p.id = ((next + p.turns.length - 1) % n : Nat)
  pos : 1 ≤ next + p.turns.length
  opn : p.ring.opn = true
  inv : FairInv n (next + p.turns.length) (spA spent p.turns.length) (quA quantum p.turns p.turns.length) p.ring
theorem fair_pick {n next : Nat} {spent quantum : Int} {r : Ring} (h : FairInv n next spent quantum r) : FairPick n next spent quantum (ringPick r) := by
  have hp := cyc_pick h.cyc
  have hl := h.len
  have hpos := (hp.cyc.on hp.opn).1
  refine ⟨hp.ok, hp.le, fun j hj => ?_, ?_, hpos, hp.opn, hp.cyc, ?_, ?_, ?_⟩
  · have := hp.turn j hj
    rw [hl] at this
    exact ⟨ids_get this.1, this.2⟩
  · have := hp.id
    rw [hl] at this
    exact ids_get this
  · unfold spA; have := h.s0; split <;> omega
  · by_cases h0 : (ringPick r).turns.length = 0
    · rw [h0, quA_zero]; exact h.q0
    · obtain ⟨m, hm⟩ : ∃ m, (ringPick r).turns.length = m + 1 := ⟨(ringPick r).turns.length - 1, by omega⟩
      rw [hm, quA_succ _ _ _ (by omega)]
      have := hp.turn m (by omega)
      omega
  · intro _ c hc hcc
    by_cases h0 : (ringPick r).turns.length = 0
    · obtain ⟨ho, he⟩ := hp.none h0
      rw [h0, quA_zero, spA_zero]
      have hcl : c < r.seats.length := by rw [he] at hc; exact hc
      have := h.dfc ho c hcl (by rw [he] at hcc; exact hcc)
      have e : (ringPick r).ring.seats[c] = r.seats[c] := by simp only [he]
      rw [e]; exact this
    · obtain ⟨m, hm⟩ : ∃ m, (ringPick r).turns.length = m + 1 := ⟨(ringPick r).turns.length - 1, by omega⟩
      have h1 := hp.dfc (by omega) c hc hcc
      have e : quA quantum (ringPick r).turns (ringPick r).turns.length = (ringPick r).turns[(ringPick r).turns.length - 1].quant := by
        unfold quA
        rw [if_neg h0, List.getElem?_eq_getElem (by omega)]; rfl
      rw [e]
      have : spA spent (ringPick r).turns.length = 0 := by unfold spA; rw [if_neg h0]
      rw [this]; omega
structure FairSpend (n next : Nat) (spent quantum : Int) (q : Ring) (cost : Int) : Prop where
  le : spent + cost ≤ quantum + 7
  ok : (ringSpend q cost false).2.2 = 0
  inv : FairInv n next (spent + cost) quantum (ringSpend q cost false).1
theorem fair_spend {n next : Nat} {spent quantum cost : Int} {q : Ring} (h : FairInv n next spent quantum q) (ho : q.opn = true) (h1 : 1 ≤ cost ∧ cost ≤ 8) : FairSpend n next spent quantum q cost := by
  obtain ⟨c, hc⟩ : ∃ c : Nat, q.cur = c := ⟨q.cur.toNat, by have := h.cyc.ok.cur0; omega⟩
  have hcl : c < q.seats.length := by
    rcases h.cyc.ok.cur1 with e | ⟨_, _, e⟩
    · omega
    · rw [ho] at e; cases e
  have hs := cyc_spend h.cyc ho h1 hc hcl
  have hd := h.dfc ho c hcl hc
  have hon := h.cyc.ok.on c hcl ho hc.symm
  have hs0 := h.s0
  have hq0 := h.q0
  refine ⟨by omega, hs.ok, hs.cyc, by omega, hq0, ?_⟩
  intro hoo c' hc' hcc
  by_cases hz : 0 < q.seats[c].dfc - cost
  · obtain ⟨h2, h3, h4, h5⟩ := hs.stay hz
    have : c' = c := by omega
    subst this
    rw [h5]; omega
  · have := hs.go hz
    rw [hoo] at this; cases this
theorem FairStart.inv {n : Nat} {r : Ring} (h : FairStart n r) (hn : n ≠ 0) : FairInv n 0 0 0 r :=
  ⟨⟨h.ok, by rw [h.len]; exact hn, h.ids, fun _ => by rw [h.cur, Nat.zero_mod]; rfl, fun e => by rw [h.opn] at e; cases e⟩, by omega, by omega, fun e => by rw [h.opn] at e; cases e⟩

/-- Pick, with the turns that it hands back -/
theorem ppick_turns {w : World} {B n c : Nat} {r : Ring} {a : Option Addr} (hs : Seats (Lo (B + 1)) w (.slice a n c) r.seats) (hB : B < w.heap.size) :
    Calls Try.prog 21 #[.agg #[.int .i64 r.base, .int .i64 r.per, .slice a n c, .int .i64 r.cur, .bool r.opn]] w fun e w'' => ∃ (a' : Option Addr) (n' c' : Nat) (ta : Option Addr) (tc : Nat),
      e = .returned (.tuple #[.agg #[.int .i64 (ringPick r).ring.base, .int .i64 (ringPick r).ring.per, .slice a' n' c', .int .i64 (ringPick r).ring.cur, .bool (ringPick r).ring.opn], .int .i64 (ringPick r).id, .slice ta (ringPick r).turns.length tc, .bool (ringPick r).ok]) ∧ Hid (Seats (Lo (B + 1)) w'' (.slice a' n' c') (ringPick r).ring.seats) ∧ Hid (Turns (Lo (B + 1)) w'' (.slice ta (ringPick r).turns.length tc) (ringPick r).turns) ∧ Ext No w w'' :=
  (pick_any (Lo (B + 1)) _ r w (fun b hb => Nat.lt_of_lt_of_le hb hB) ⟨_, rfl, hs⟩).mono fun e w'' ⟨v, t, he, hv, ht, hy⟩ => by
    obtain ⟨a', n', c', rfl, hs'⟩ := hv.opens
    obtain ⟨ta, tc, rfl⟩ := Row.slice ht
    exact ⟨a', n', c', ta, tc, he, Lib.hid hs', Lib.hid ht, hy⟩
theorem pspend_lo {w : World} {B n c : Nat} {r : Ring} {a : Option Addr} (hs : Seats (Lo (B + 1)) w (.slice a n c) r.seats) (hB : B < w.heap.size) (cost : Int) (fin : Bool) :
    Calls Try.prog 22 #[.agg #[.int .i64 r.base, .int .i64 r.per, .slice a n c, .int .i64 r.cur, .bool r.opn], .int .i64 cost, .bool fin] w fun e w'' => ∃ (a' : Option Addr) (n' c' : Nat),
      e = .returned (.tuple #[.agg #[.int .i64 (ringSpend r cost fin).1.base, .int .i64 (ringSpend r cost fin).1.per, .slice a' n' c', .int .i64 (ringSpend r cost fin).1.cur, .bool (ringSpend r cost fin).1.opn], .bool (ringSpend r cost fin).2.1, .int .i64 (ringSpend r cost fin).2.2]) ∧ Hid (Seats (Lo (B + 1)) w'' (.slice a' n' c') (ringSpend r cost fin).1.seats) ∧ Ext No w w'' :=
  (spend_any (Lo (B + 1)) _ r cost fin w (fun b hb => Nat.lt_of_lt_of_le hb hB) ⟨_, rfl, hs⟩).mono fun e w'' ⟨v, he, hv, hy⟩ => by
    obtain ⟨a', n', c', rfl, hs'⟩ := hv.opens
    exact ⟨a', n', c', he, Lib.hid hs', hy⟩

/-- a ring in box B, what Pick left in box D, and the turns -/
structure QMem (w0 : World) (tb B D : Nat) (wr : World) (r : Ring) (a : Option Addr) (n c : Nat) (q : Ring) (a' : Option Addr) (n' c' : Nat) (tl : Value) (ts : List Turn) : Prop where
  keep : KeepMem w0 tb B wr r a n c
  box : wr.heap[D]? = some (.cells #[.int .i64 q.base, .int .i64 q.per, .slice a' n' c', .int .i64 q.cur, .bool q.opn] 25 (0, 0))
  seats : Seats (Lo (B + 1)) wr (.slice a' n' c') q.seats
  turns : Turns (Lo (B + 1)) wr tl ts
  big : B < D
theorem QMem.step {w0 wr w' : World} {tb B D n c n' c' : Nat} {r q : Ring} {a a' : Option Addr} {tl : Value} {ts : List Turn} (h : QMem w0 tb B D wr r a n c q a' n' c' tl ts) (hx : Ext (At tb) wr w') (ht : TapeOk w' tb) : QMem w0 tb B D w' r a n c q a' n' c' tl ts := by
  have h1 := h.keep.top
  have h2 := h.big
  exact ⟨h.keep.step hx ht, (hx.block D (lt_of_block h.box) (by unfold At; omega)).trans h.box, Row.ext h.seats hx (fun i _ e => by cases e; exact (by unfold Lo; omega)), Row.ext h.turns hx (fun i _ e => by cases e; exact (by unfold Lo; omega)), h2⟩
theorem QMem.drewN {w0 wr : World} {tb B D n c n' c' : Nat} {r q : Ring} {a a' : Option Addr} {tl : Value} {ts : List Turn} (h : QMem w0 tb B D wr r a n c q a' n' c' tl ts) (k : Nat) : QMem w0 tb B D (wr.drewN k) r a n c q a' n' c' tl ts :=
  h.step ((Ext.refl _ _).drewN k) (h.keep.tape.ext ((Ext.refl _ _).drewN k))
theorem QMem.made {w0 wr w' : World} {tb B n c n' c' : Nat} {r q : Ring} {a a' : Option Addr} {tl : Value} {ts : List Turn} (h : KeepMem w0 tb B wr r a n c) (hx : Ext No wr w') (hs : Seats (Lo (B + 1)) w' (.slice a' n' c') q.seats) (ht : Turns (Lo (B + 1)) w' tl ts) :
    QMem w0 tb B w'.heap.size (w'.alloc (.cells #[.int .i64 q.base, .int .i64 q.per, .slice a' n' c', .int .i64 q.cur, .bool q.opn] 25)) r a n c q a' n' c' tl ts :=
  ⟨h.stepNo (hx.alloc _), alloc_top rfl, Row.extNo hs ((Ext.refl _ _).alloc _), Row.extNo ht ((Ext.refl _ _).alloc _), Nat.lt_of_lt_of_le (lt_of_block h.box) hx.size⟩
end Go.Proofs.Ytckeidboolfcoaa

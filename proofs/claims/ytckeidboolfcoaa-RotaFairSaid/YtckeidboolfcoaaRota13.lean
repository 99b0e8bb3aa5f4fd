/- Picking: the plain words. -/
import Derived.Test.YtckeidboolfcoaaRota6
import Derived.Test.YtckeidboolfcoaaRota11
import Derived.Test.YtckeidboolfcoaaRota3
namespace Go.Proofs.Ytckeidboolfcoaa
open Go Go.RowKit

def Seat.plus (s : Seat) (q : Int) : Seat := ⟨s.id, s.pri, s.age, s.dfc + q⟩
def quantS (base per : Int) (s : Seat) : Int := quantZ base s.pri s.age per
theorem quantS_bd (base per : Int) (s : Seat) : 1 ≤ quantS base per s ∧ quantS base per s ≤ 64 := quantZ_bd _ _ _ _
def pickRun (base per : Int) : Nat → List Seat → Nat → List Turn → List Seat × Nat × List Turn
  | 0, l, c, ts => (l, c, ts)
  | f + 1, l, c, ts =>
    match l[c]? with
    | none => (l, c, ts)
    | some s =>
      if s.dfc + quantS base per s ≤ 0 then pickRun base per f (l.set c (s.plus (quantS base per s)).older) (wrapAt c l.length) (ts ++ [⟨s.id, quantS base per s⟩])
      else (l.set c (s.plus (quantS base per s)), c, ts ++ [⟨s.id, quantS base per s⟩])
def owed (l : List Seat) : Nat := (l.map fun s => (-s.dfc).toNat).sum

theorem owed_set (l : List Seat) (c : Nat) (hc : c < l.length) (s : Seat) : owed (l.set c s) + (-l[c].dfc).toNat = owed l + (-s.dfc).toNat := by
  induction l generalizing c with
  | nil => simp at hc
  | cons a l ih =>
    cases c with
    | zero => simp [owed]; omega
    | succ c =>
      have := ih c (by simpa using hc)
      simp only [List.set_cons_succ, List.getElem_cons_succ, owed, List.map_cons, List.sum_cons] at this ⊢
      omega
theorem owed_le (l : List Seat) (h : ∀ s ∈ l, -7 ≤ s.dfc ∧ s.dfc ≤ 0) : owed l ≤ l.length * 7 := by
  induction l with
  | nil => simp [owed]
  | cons a l ih =>
    have h1 := ih (fun s hs => h s (List.mem_cons_of_mem _ hs))
    have h2 := h a (List.mem_cons_self ..)
    simp only [owed, List.map_cons, List.sum_cons, List.length_cons] at h1 ⊢
    omega

/-- where the loop stands -/
structure PickRel (base per : Int) (n : Nat) (fin : List Seat × Nat × List Turn) (l : List Seat) (c : Nat) (ts : List Turn) (opn : Bool) : Prop where
  len : l.length = n
  cur : c < n
  tot : ts.length ≤ 128
  run : opn = false → ∃ f, owed l < f ∧ ts.length + f ≤ 128 ∧ pickRun base per f l c ts = fin
  bd : opn = false → ∀ s ∈ l, -7 ≤ s.dfc ∧ s.dfc ≤ 0
  fin : opn = true → fin = (l, c, ts)

theorem PickRel.lt {base per : Int} {n : Nat} {fin : List Seat × Nat × List Turn} {l : List Seat} {c : Nat} {ts : List Turn} (h : PickRel base per n fin l c ts false) : ts.length < 128 := by
  obtain ⟨f, h1, h2, _⟩ := h.run rfl
  omega
theorem PickRel.at {base per : Int} {n : Nat} {fin : List Seat × Nat × List Turn} {l : List Seat} {c : Nat} {ts : List Turn} (h : PickRel base per n fin l c ts false) (hc : c < l.length) : -7 ≤ l[c].dfc ∧ l[c].dfc ≤ 0 := h.bd rfl _ (List.getElem_mem hc)
theorem PickRel.more {base per : Int} {n : Nat} {fin : List Seat × Nat × List Turn} {l : List Seat} {c : Nat} {ts : List Turn} (h : PickRel base per n fin l c ts false) (hc : c < l.length) (hd : l[c].dfc + quantS base per l[c] ≤ 0) :
    PickRel base per n fin (l.set c (l[c].plus (quantS base per l[c])).older) (wrapAt c l.length) (ts ++ [⟨l[c].id, quantS base per l[c]⟩]) false := by
  obtain ⟨f, h1, h2, h3⟩ := h.run rfl
  have hb := h.at hc
  have hq := quantS_bd base per l[c]
  have ho := owed_set l c hc (l[c].plus (quantS base per l[c])).older
  have hdf : (l[c].plus (quantS base per l[c])).older.dfc = l[c].dfc + quantS base per l[c] := rfl
  rw [hdf] at ho
  cases f with
  | zero => omega
  | succ f =>
    have hg : l[c]? = some l[c] := List.getElem?_eq_getElem hc
    refine ⟨by rw [List.length_set]; exact h.len, by rw [h.len]; exact Nat.mod_lt _ (by have := h.cur; omega), by rw [List.length_append, List.length_singleton]; omega, fun _ => ⟨f, by omega, by rw [List.length_append, List.length_singleton]; omega, ?_⟩, fun _ s hs => ?_, fun x => by cases x⟩
    · rw [← h3, pickRun, hg]
      simp only [if_pos hd]
    · rcases List.mem_or_eq_of_mem_set hs with h4 | rfl
      · exact h.bd rfl s h4
      · rw [hdf]; omega
theorem PickRel.stop {base per : Int} {n : Nat} {fin : List Seat × Nat × List Turn} {l : List Seat} {c : Nat} {ts : List Turn} (h : PickRel base per n fin l c ts false) (hc : c < l.length) (hd : ¬ l[c].dfc + quantS base per l[c] ≤ 0) :
    PickRel base per n fin (l.set c (l[c].plus (quantS base per l[c]))) c (ts ++ [⟨l[c].id, quantS base per l[c]⟩]) true := by
  obtain ⟨f, h1, h2, h3⟩ := h.run rfl
  cases f with
  | zero => omega
  | succ f =>
    have hg : l[c]? = some l[c] := List.getElem?_eq_getElem hc
    refine ⟨by rw [List.length_set]; exact h.len, h.cur, by rw [List.length_append, List.length_singleton]; omega, fun x => (by cases x), fun x => (by cases x), fun _ => ?_⟩
    rw [← h3, pickRun, hg]
    simp only [if_neg hd]

def pickFin (r : Ring) : List Seat × Nat × List Turn := if r.opn = true then (r.seats, r.cur.toNat, []) else pickRun r.base r.per (owed r.seats + 1) r.seats r.cur.toNat []
structure Picked where
  ring : Ring
  id : Int
  turns : List Turn
  ok : Bool
def pickRing (r : Ring) (x : List Seat × Nat × List Turn) : Picked := ⟨⟨r.base, r.per, x.1, x.2.1, true⟩, (x.1[x.2.1]?.getD ⟨0, 0, 0, 0⟩).id, x.2.2, true⟩
def ringPick (r : Ring) : Picked :=
  if ringOk r = false ∨ r.seats.length = 0 then ⟨r, 0, [], false⟩ else pickRing r (pickFin r)
theorem ringPick_no {r : Ring} (h : ringOk r = false ∨ r.seats.length = 0) : ringPick r = ⟨r, 0, [], false⟩ := by unfold ringPick; rw [if_pos h]
theorem ringPick_yes {r : Ring} (h : ¬ (ringOk r = false ∨ r.seats.length = 0)) : ringPick r = pickRing r (pickFin r) := by unfold ringPick; rw [if_neg h]

theorem ok_seat {r : Ring} (h : ringOk r = true) (i : Nat) (hi : i < r.seats.length) : seatOk r i r.seats[i] = true := by
  simp only [ringOk, Bool.and_eq_true, decide_eq_true_eq] at h
  exact h.2 i hi
theorem ok_dfc {r : Ring} (h : ringOk r = true) (ho : r.opn = false) : ∀ s ∈ r.seats, -7 ≤ s.dfc ∧ s.dfc ≤ 0 := by
  intro s hs
  obtain ⟨i, hi, rfl⟩ := List.getElem_of_mem hs
  have h1 := ok_seat h i hi
  simp only [seatOk, Bool.and_eq_true, ho, betB, Bool.false_eq_true, false_and, if_false, decide_eq_true_eq] at h1
  exact h1.2.2.2.2
theorem PickRel.start {r : Ring} (h : ringOk r = true) (hn : r.seats.length ≠ 0) : PickRel r.base r.per r.seats.length (pickFin r) r.seats r.cur.toNat [] r.opn := by
  obtain ⟨h1, h2, h3⟩ := ok_len h
  refine ⟨rfl, by omega, by simp, fun ho => ⟨owed r.seats + 1, by omega, ?_, by unfold pickFin; rw [if_neg (by simp [ho])]⟩, ok_dfc h, fun ho => by unfold pickFin; rw [if_pos ho]⟩
  have := owed_le _ (ok_dfc h ho)
  simp only [List.length_nil]
  omega

def PickPost (M : Nat → Prop) (r : Ring) (w : World) (e : Ending) (w' : World) : Prop :=
  ∃ v t, e = .returned (.tuple #[v, .int .i64 (ringPick r).id, t, .bool (ringPick r).ok]) ∧ RingV M w' v (ringPick r).ring ∧ Turns M w' t (ringPick r).turns ∧ Ext No w w'
theorem PickPost.mk {M : Nat → Prop} {r : Ring} {p : Picked} {w w' : World} {e : Ending} {v t : Value} (h : ringPick r = p) (he : e = .returned (.tuple #[v, .int .i64 p.id, t, .bool p.ok])) (hv : RingV M w' v p.ring) (ht : Turns M w' t p.turns) (hx : Ext No w w') : PickPost M r w e w' :=
  ⟨v, t, by rw [h]; exact he, by rw [h]; exact hv, by rw [h]; exact ht, hx⟩
def OwnTurns (w : World) (base : Nat) (sl : Value) (l : List Turn) : Prop := w.ownsRow base 51 5 sl l.length (flatT l)
theorem infoTurn : (Try.prog.info? 51).map (fun i => (i.zero, i.size, i.bytes)) = some (some (.agg #[.int .i64 0, .int .i64 0, .int .i64 0, .int .i64 0, .bool false]), 5, 40) := by kernel_rfl
theorem flatT_app (a b : List Turn) : flatT (a ++ b) = flatT a ++ flatT b := by simp [flatT]
end Go.Proofs.Ytckeidboolfcoaa

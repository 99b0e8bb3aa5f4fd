/- The law RotaLast: the plain laws, and what lies in memory. -/
import Derived.Test.YtckeidboolfcoaaRota37
namespace Go.Proofs.Ytckeidboolfcoaa
open Go Go.RowKit

/-- where a seat that is added stands -/
theorem add_50 {r : Ring} (h : Small r) : ringAdd r 50 0 = (if r.seats.length = 16 then (⟨0, 0, [], 0, false⟩, 7) else (added r 50 0, 0)) := by
  have hok := ringP_ok h.ok
  have hf : findZ r.seats 50 = -1 := findZ_miss (fun j hj e => by have := h.lt j hj; omega)
  unfold ringAdd
  rw [if_neg (by simp [hok]), if_neg (by simp [betB]), if_neg (by omega)]
  rfl
def opnN (r : Ring) : Nat := if r.opn = true then 1 else 0
/-- the index in the ring of the seat number n of the old ring -/
def shift (p n : Nat) : Nat := if n < p then n else n + 1
theorem shift_lo {p n : Nat} (h : shift p n < p) : shift p n = n := by unfold shift at h ⊢; split at h <;> split <;> omega
theorem shift_hi {p n : Nat} (h : p < shift p n) : shift p n - 1 = n := by unfold shift at h ⊢; split at h <;> split <;> omega
structure LastCyc (r : Ring) (L : List Int) (p : Nat) : Prop where
  len : L.length = r.seats.length + 1
  pos : p < L.length
  at50 : L[p]? = some 50
  only : ∀ k, L[k]? = some 50 → k = p
  old : ∀ n (h : n < r.seats.length), L[shift p n]? = some r.seats[n].id
theorem nod_ids {r : Ring} (h : RingP r) {i j : Nat} {x : Int} (hi : (r.seats.map Seat.id)[i]? = some x) (hj : (r.seats.map Seat.id)[j]? = some x) : i = j := by
  simp only [List.getElem?_map, Option.map_eq_some_iff] at hi hj
  obtain ⟨a, ha, ha'⟩ := hi
  obtain ⟨b, hb, hb'⟩ := hj
  obtain ⟨h1, rfl⟩ := List.getElem?_eq_some_iff.1 ha
  obtain ⟨h2, rfl⟩ := List.getElem?_eq_some_iff.1 hb
  exact h.nod i j h1 h2 (ha'.trans hb'.symm)
theorem last_start {r : Ring} (h : Small r) (h16 : r.seats.length ≠ 16) :
    LastCyc r ((added r 50 0).seats.map Seat.id) (addAt r) ∧ Cyc ((added r 50 0).seats.map Seat.id) (addAt r + 1 + opnN r) (added r 50 0) ∧ (added r 50 0).seats.length = r.seats.length + 1 ∧ addAt r ≤ r.seats.length ∧ r.seats.length + 1 ≤ 16 ∧ (opnN r = 1 → addAt r + 1 ≤ r.seats.length) := by
  have hf : findZ r.seats 50 < 0 := by rw [findZ_miss (fun j hj e => by have := h.lt j hj; omega)]; omega
  have hadd := added_ok (p := 0) h.ok (id := 50) (by omega) (by omega) hf h16
  have hk := addAt_le h.ok
  have hlen := ins_len r.seats (addAt r) hk ⟨50, 0, 0, 0⟩
  have hl : (added r 50 0).seats.length = r.seats.length + 1 := hlen
  have hl16 := h.ok.len
  have c0 := h.ok.cur0
  have c1 := h.ok.cur1
  have hcur : (added r 50 0).cur = if 0 < r.cur ∨ r.opn = true then r.cur + 1 else r.cur := rfl
  have hat : addAt r = if 0 < r.cur ∨ r.opn = true then r.cur.toNat else r.seats.length := rfl
  have hop : (added r 50 0).opn = r.opn := rfl
  have hat50 : ((added r 50 0).seats.map Seat.id)[addAt r]? = some 50 := by
    rw [id_at rfl (by omega)]
    congr 1
    show (r.seats.take (addAt r) ++ [(⟨50, 0, 0, 0⟩ : Seat)] ++ r.seats.drop (addAt r))[addAt r].id = 50
    rcases ins_get r.seats (addAt r) hk ⟨50, 0, 0, 0⟩ (addAt r) (by omega) with ⟨g1, _⟩ | ⟨_, g3⟩ | ⟨g1, _⟩
    · omega
    · rw [g3]
    · omega
  refine ⟨⟨by rw [List.length_map]; exact hl, by rw [List.length_map]; omega, hat50, fun k hk2 => nod_ids hadd hk2 hat50, fun n hn => ?_⟩, ?_, hl, hk, by omega, ?_⟩
  · have hsh : shift (addAt r) n < (added r 50 0).seats.length := by unfold shift; split <;> omega
    rw [id_at rfl hsh]
    congr 1
    rcases ins_get r.seats (addAt r) hk ⟨50, 0, 0, 0⟩ (shift (addAt r) n) (by rw [hlen]; omega) with ⟨g1, g2, g3⟩ | ⟨g1, g3⟩ | ⟨g1, g2, g3⟩
    · refine (congrArg Seat.id g3).trans ?_
      have : shift (addAt r) n = n := shift_lo g1
      simp only [this]
    · unfold shift at g1; split at g1 <;> omega
    · refine (congrArg Seat.id g3).trans ?_
      have : shift (addAt r) n - 1 = n := shift_hi g1
      simp only [this]
  · refine ⟨hadd, by omega, rfl, fun e => ?_, fun e => ?_⟩
    · rw [hl, hcur]
      rw [hop] at e
      have ho : opnN r = 0 := by unfold opnN; rw [e]; rfl
      rw [ho, hat]
      by_cases h1 : 0 < r.cur
      · rw [if_pos (.inl h1), if_pos (.inl h1), Nat.mod_eq_of_lt (by omega)]; omega
      · rw [if_neg (by simp [e]; omega), if_neg (by simp [e]; omega), Nat.add_zero, Nat.mod_self]; omega
    · rw [hop] at e
      have ho : opnN r = 1 := by unfold opnN; rw [e]; rfl
      rw [hl, hcur, ho, hat, if_pos (.inr e), if_pos (.inr e)]
      have : r.cur < r.seats.length := by
        rcases c1 with c1 | ⟨_, _, c1⟩
        · exact c1
        · rw [e] at c1; cases c1
      refine ⟨by omega, ?_⟩
      rw [Nat.mod_eq_of_lt (by omega)]; omega
  · intro ho
    have e : r.opn = true := by
      cases hb : r.opn with
      | true => rfl
      | false => unfold opnN at ho; rw [hb] at ho; cases ho
    rw [hat, if_pos (.inr e)]
    rcases c1 with c1 | ⟨_, _, c1⟩
    · omega
    · rw [e] at c1; cases c1

/-- what has been seen so far: the seats behind the new one, in order -/
structure Seen (L : List Int) (p s next : Nat) (seen : List Int) : Prop where
  len : p + 1 + s + seen.length = next
  get : ∀ k (h : k < seen.length), L[(p + 1 + s + k) % L.length]? = some seen[k]
theorem Seen.snoc {L : List Int} {p s next : Nat} {seen : List Int} {x : Int} (h : Seen L p s next seen) (hx : L[next % L.length]? = some x) : Seen L p s (next + 1) (seen ++ [x]) := by
  have hl := h.len
  refine ⟨by simp; omega, fun k hk => ?_⟩
  rcases Nat.lt_or_ge k seen.length with h1 | h1
  · rw [List.getElem_append_left h1]; exact h.get k h1
  · have : k = seen.length := by simp at hk; omega
    subst this
    rw [hl, List.getElem_append_right (Nat.le_refl _)]
    simpa using hx
theorem turn_50 {r : Ring} {L : List Int} {p k : Nat} {x : Int} (h : LastCyc r L p) (hk : k = p + L.length) (hx : L[k % L.length]? = some x) : x = 50 := by
  have := h.at50
  rw [hk, Nat.add_mod_right, Nat.mod_eq_of_lt h.pos, this] at hx
  simpa using hx.symm
theorem turn_no {r : Ring} {L : List Int} {p k : Nat} {x : Int} (h : LastCyc r L p) (h1 : p < k) (h2 : k < p + L.length) (hx : L[k % L.length]? = some x) : x ≠ 50 := by
  intro e
  rw [e] at hx
  have := h.only _ hx
  have hp := h.pos
  rcases Nat.lt_or_ge k L.length with h3 | h3
  · rw [Nat.mod_eq_of_lt h3] at this; omega
  · rw [Nat.mod_eq_sub_mod h3, Nat.mod_eq_of_lt (by omega)] at this; omega
/-- when the turn of the new seat begins, all others have been seen, but the one whose turn was open -/
theorem seen_all {r : Ring} {L : List Int} {p s next : Nat} {seen : List Int} (h : LastCyc r L p) (hs : Seen L p s next seen) (hn : next = p + L.length) {n : Nat} (hnl : n < r.seats.length) (hno : ∀ k (hk : k < seen.length), seen[k] ≠ r.seats[n].id) (hs1 : s ≤ 1) : s = 1 ∧ shift p n = (p + 1) % L.length := by
  have hl := hs.len
  have hp := h.pos
  have hlen := h.len
  have hsh : shift p n < L.length ∧ shift p n ≠ p := by unfold shift; split <;> omega
  have key : ∀ k, k < seen.length → (p + 1 + s + k) % L.length ≠ shift p n := by
    intro k hk e
    have h1 := hs.get k hk
    rw [e, h.old n hnl] at h1
    exact hno k hk (by simpa using h1.symm)
  by_cases hlt : shift p n < p
  · -- it lies behind the wrap
    have h1 : p + 1 ≤ shift p n + L.length := by omega
    by_cases h2 : p + 1 + s ≤ shift p n + L.length
    · refine absurd ?_ (key (shift p n + L.length - (p + 1 + s)) (by omega))
      rw [show p + 1 + s + (shift p n + L.length - (p + 1 + s)) = shift p n + L.length by omega, Nat.add_mod_right, Nat.mod_eq_of_lt hsh.1]
    · have : s = 1 := by omega
      refine ⟨this, ?_⟩
      have e : p + 1 = shift p n + L.length := by omega
      rw [e, Nat.add_mod_right, Nat.mod_eq_of_lt hsh.1]
  · have h1 : p + 1 ≤ shift p n := by omega
    by_cases h2 : p + 1 + s ≤ shift p n
    · refine absurd ?_ (key (shift p n - (p + 1 + s)) (by omega))
      rw [show p + 1 + s + (shift p n - (p + 1 + s)) = shift p n by omega, Nat.mod_eq_of_lt hsh.1]
    · have : s = 1 := by omega
      refine ⟨this, ?_⟩
      have e : p + 1 = shift p n := by omega
      rw [e, Nat.mod_eq_of_lt hsh.1]
theorem shift_inj {p a b : Nat} (h : shift p a = shift p b) : a = b := by
  unfold shift at h
  split at h <;> split at h <;> omega
/-- how many of the first n may be missing -/
def extra (L : List Int) (p s n : Nat) : Nat := if s = 1 ∧ ∃ k, k < n ∧ shift p k = (p + 1) % L.length then 1 else 0
theorem extra_le (L : List Int) (p s n : Nat) : extra L p s n ≤ s := by
  unfold extra
  split
  · omega
  · omega
theorem extra_mono (L : List Int) (p s n : Nat) : extra L p s n ≤ extra L p s (n + 1) := by
  unfold extra
  split
  · rename_i h
    obtain ⟨h1, k, h2, h3⟩ := h
    rw [if_pos ⟨h1, k, by omega, h3⟩]; exact Nat.le_refl _
  · omega
theorem extra_here (L : List Int) (p s n : Nat) (hs : s = 1) (h : shift p n = (p + 1) % L.length) : extra L p s n + 1 ≤ extra L p s (n + 1) := by
  unfold extra
  rw [if_neg, if_pos ⟨hs, n, by omega, h⟩]
  · exact Nat.le_refl _
  · rintro ⟨_, k, h1, h2⟩
    have := shift_inj (h2.trans h.symm)
    omega

/-- how long it may take -/
structure Budget (L : List Int) (p next i b : Nat) (q : Ring) : Prop where
  cyc : Cyc L next q
  hi : next ≤ p + L.length
  dfc : q.opn = true → ∀ c (hc : c < q.seats.length), q.cur = c → q.seats[c].dfc ≤ 8 * b
  sum : i + 9 * (p + L.length - next) + b ≤ 200
structure LastSpent (L : List Int) (p next i : Nat) (x : Ring) : Prop where
  ok : (ringSpend x 8 false).2.2 = 0
  bud : ∃ b, Budget L p next (i + 1) b (ringSpend x 8 false).1
theorem last_round {L : List Int} {p next i b : Nat} {q : Ring} (h : Budget L p next i b q) (hn : next + (ringPick q).turns.length ≤ p + L.length) : LastSpent L p (next + (ringPick q).turns.length) i (ringPick q).ring := by
  have hp := cyc_pick h.cyc
  have hs := h.sum
  obtain ⟨c, hc⟩ : ∃ c : Nat, (ringPick q).ring.cur = c := ⟨(ringPick q).ring.cur.toNat, by have := hp.cyc.ok.cur0; omega⟩
  have hcl : c < (ringPick q).ring.seats.length := by
    rcases hp.cyc.ok.cur1 with e | ⟨_, _, e⟩
    · omega
    · rw [hp.opn] at e; cases e
  have hon := hp.cyc.ok.on c hcl hp.opn hc.symm
  have hsp := cyc_spend hp.cyc hp.opn (cost := 8) (by omega) hc hcl
  -- the open turn has at most b' steps left
  obtain ⟨b', hb1, hb2⟩ : ∃ b', (ringPick q).ring.seats[c].dfc ≤ 8 * ((b' : Nat) : Int) ∧ i + 9 * (p + L.length - (next + (ringPick q).turns.length)) + b' ≤ 200 := by
    by_cases h0 : (ringPick q).turns.length = 0
    · obtain ⟨ho, he⟩ := hp.none h0
      have hcq : c < q.seats.length := by rw [he] at hcl; exact hcl
      have := h.dfc ho c hcq (by rw [he] at hc; exact hc)
      refine ⟨b, ?_, by omega⟩
      simp only [he]; exact this
    · exact ⟨8, by omega, by omega⟩
  refine ⟨hsp.ok, ?_⟩
  by_cases hz : 0 < (ringPick q).ring.seats[c].dfc - 8
  · obtain ⟨g1, g2, g3, g4⟩ := hsp.stay hz
    refine ⟨b' - 1, hsp.cyc, hn, fun _ c' hc' hcc => ?_, by omega⟩
    have : c' = c := by omega
    subst this
    rw [g4]; omega
  · have hg := hsp.go hz
    exact ⟨0, hsp.cyc, hn, fun e => (by rw [hg] at e; cases e), by omega⟩
end Go.Proofs.Ytckeidboolfcoaa

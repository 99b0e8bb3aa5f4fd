/- Rings: the plain laws: which rings are valid, and that they stay so. -/
import Derived.Test.YtckeidboolfcoaaRota7
import Derived.Test.YtckeidboolfcoaaRota4
namespace Go.Proofs.Ytckeidboolfcoaa
open Go Go.RowKit

structure RingP (r : Ring) : Prop where
  base : 1 ≤ r.base ∧ r.base ≤ 64
  per : 1 ≤ r.per ∧ r.per ≤ 1024
  len : r.seats.length ≤ 16
  cur0 : 0 ≤ r.cur
  cur1 : r.cur < r.seats.length ∨ (r.cur = 0 ∧ r.seats.length = 0 ∧ r.opn = false)
  nod : ∀ i j (hi : i < r.seats.length) (hj : j < r.seats.length), r.seats[i].id = r.seats[j].id → i = j
  id : ∀ i (h : i < r.seats.length), 0 ≤ r.seats[i].id ∧ r.seats[i].id ≤ 1073741824
  pri : ∀ i (h : i < r.seats.length), 0 ≤ r.seats[i].pri ∧ r.seats[i].pri ≤ 3
  age : ∀ i (h : i < r.seats.length), 0 ≤ r.seats[i].age ∧ r.seats[i].age ≤ 1073741824
  on : ∀ i (h : i < r.seats.length), r.opn = true → (i : Int) = r.cur → 1 ≤ r.seats[i].dfc ∧ r.seats[i].dfc ≤ 64
  off : ∀ i (h : i < r.seats.length), ¬ (r.opn = true ∧ (i : Int) = r.cur) → -7 ≤ r.seats[i].dfc ∧ r.seats[i].dfc ≤ 0

theorem findZ_first {l : List Seat} {i : Nat} (hi : i < l.length) (h : findZ l l[i].id = i) (j : Nat) (hj : j < l.length) (he : l[j].id = l[i].id) : i ≤ j := by
  rcases Nat.lt_or_ge j i with h2 | h2
  · exfalso
    unfold findZ at h
    have h3 : l.findIdx (fun s => s.id == l[i].id) ≤ j := by
      rcases Nat.lt_or_ge j (l.findIdx (fun s => s.id == l[i].id)) with h4 | h4
      · have := List.not_of_lt_findIdx h4
        simp [he] at this
      · exact h4
    rw [if_pos (by omega)] at h
    omega
  · exact h2
theorem findZ_self {l : List Seat} (h : ∀ i j (hi : i < l.length) (hj : j < l.length), l[i].id = l[j].id → i = j) (i : Nat) (hi : i < l.length) : findZ l l[i].id = i :=
  findZ_hit hi (fun j hj hji e => by have := h j i hj hi e; omega) rfl
theorem findZ_no {l : List Seat} {id : Int} (h : findZ l id < 0) (i : Nat) (hi : i < l.length) : l[i].id ≠ id := by
  intro he
  unfold findZ at h
  have : l.findIdx (fun s => s.id == id) < l.length := by
    rw [List.findIdx_lt_length]
    exact ⟨l[i], List.getElem_mem hi, by simp [he]⟩
  rw [if_pos this] at h
  omega
theorem findZ_is {l : List Seat} {id : Int} {k : Nat} (h : findZ l id = k) : ∃ hk : k < l.length, l[k].id = id := by
  unfold findZ at h
  split at h
  · rename_i h2
    have h3 : l.findIdx (fun s => s.id == id) = k := by omega
    refine ⟨by omega, ?_⟩
    have := List.findIdx_getElem (w := h2)
    simp only [h3] at this
    simpa using this
  · omega

theorem ringP {r : Ring} (h : ringOk r = true) : RingP r := by
  have h' := h
  simp only [ringOk, Bool.and_eq_true] at h'
  obtain ⟨b1, b2, b3, b4, b5⟩ := head_true h'.1
  have hs := fun i (hi : i < r.seats.length) => seat_true (of_decide_eq_true h'.2 i hi)
  refine ⟨betB_true b1, betB_true b2, b3, b4, ?_, ?_, ?_, ?_, ?_, ?_, ?_⟩
  · rcases b5 with ⟨_, _, h⟩ | ⟨h6, h7, h8⟩ | ⟨_, _, h⟩
    · exact .inl h
    · exact .inr ⟨by omega, h7, h6⟩
    · exact .inl h
  · intro i j hi hj he
    have h1 : findZ r.seats r.seats[i].id = i := by simpa using (hs i hi).2.1
    have h2 : findZ r.seats r.seats[j].id = j := by simpa using (hs j hj).2.1
    rw [he] at h1
    omega
  · exact fun i hi => betB_true (hs i hi).1
  · exact fun i hi => betB_true (hs i hi).2.2.1
  · exact fun i hi => betB_true (hs i hi).2.2.2.1
  · intro i hi h1 h2
    have := (hs i hi).2.2.2.2
    rw [if_pos ⟨h1, h2⟩] at this
    exact betB_true this
  · intro i hi h1
    have := (hs i hi).2.2.2.2
    rw [if_neg h1] at this
    exact betB_true this
theorem betB_mk {n l m : Int} (h : l ≤ n ∧ n ≤ m) : betB n l m = true := by simpa [betB] using h
theorem ringP_ok {r : Ring} (h : RingP r) : ringOk r = true := by
  refine ringOk_all ?_ ?_
  · have c : decide (r.cur < if (r.seats.length : Int) < 1 then 1 else r.seats.length) = true := by
      rcases h.cur1 with h1 | ⟨h1, h2, h3⟩
      · rw [if_neg (by have := h.cur0; omega)]; simpa using h1
      · rw [if_pos (by omega)]; simp [h1]
    have o : (!(r.opn && decide (r.seats.length = 0))) = true := by
      rcases h.cur1 with h1 | ⟨h1, h2, h3⟩
      · have : r.seats.length ≠ 0 := by have := h.cur0; omega
        simp [this]
      · simp [h3]
    simp only [headOk, betB_mk h.base, betB_mk h.per, decide_eq_true h.len, decide_eq_true h.cur0, c, o, Bool.and_true]
  · intro i hi
    have d : (if r.opn = true ∧ (i : Int) = r.cur then betB r.seats[i].dfc 1 64 else betB r.seats[i].dfc (-7) 0) = true := by
      split
      · rename_i h2; exact betB_mk (h.on i hi h2.1 h2.2)
      · rename_i h2; exact betB_mk (h.off i hi h2)
    simp only [seatOk, betB_mk (h.id i hi), findZ_self h.nod i hi, betB_mk (h.pri i hi), betB_mk (h.age i hi), d, BEq.rfl, Bool.and_true]
theorem ringOk_iff (r : Ring) : ringOk r = true ↔ RingP r := ⟨ringP, ringP_ok⟩

theorem ins_get {α : Type} (l : List α) (k : Nat) (hk : k ≤ l.length) (x : α) (i : Nat) (h : i < (l.take k ++ [x] ++ l.drop k).length) :
    (i < k ∧ ∃ h' : i < l.length, (l.take k ++ [x] ++ l.drop k)[i] = l[i]) ∨ (i = k ∧ (l.take k ++ [x] ++ l.drop k)[i] = x) ∨
    (k < i ∧ ∃ h' : i - 1 < l.length, (l.take k ++ [x] ++ l.drop k)[i] = l[i - 1]) := by
  have hl : (l.take k ++ [x] ++ l.drop k).length = l.length + 1 := by simp; omega
  rcases Nat.lt_trichotomy i k with h1 | h1 | h1
  · refine .inl ⟨h1, by omega, ?_⟩
    rw [List.getElem_append_left (by simp; omega), List.getElem_append_left (by simp; omega), List.getElem_take]
  · subst h1
    refine .inr (.inl ⟨rfl, ?_⟩)
    rw [List.getElem_append_left (by simp; omega), List.getElem_append_right (by simp; omega)]
    simp
  · refine .inr (.inr ⟨h1, by omega, ?_⟩)
    rw [List.getElem_append_right (by simp; omega)]
    simp only [List.getElem_drop, List.length_append, List.length_take, List.length_singleton]
    congr 1
    omega
theorem del_get {α : Type} (l : List α) (k : Nat) (hk : k < l.length) (i : Nat) (h : i < (l.take k ++ l.drop (k + 1)).length) :
    (i < k ∧ ∃ h' : i < l.length, (l.take k ++ l.drop (k + 1))[i] = l[i]) ∨ (k ≤ i ∧ ∃ h' : i + 1 < l.length, (l.take k ++ l.drop (k + 1))[i] = l[i + 1]) := by
  have hl : (l.take k ++ l.drop (k + 1)).length = l.length - 1 := by simp; omega
  rcases Nat.lt_or_ge i k with h1 | h1
  · refine .inl ⟨h1, by omega, ?_⟩
    rw [List.getElem_append_left (by simp; omega), List.getElem_take]
  · refine .inr ⟨h1, by omega, ?_⟩
    rw [List.getElem_append_right (by simp; omega)]
    simp only [List.getElem_drop, List.length_take]
    congr 1
    omega
theorem ins_len {α : Type} (l : List α) (k : Nat) (hk : k ≤ l.length) (x : α) : (l.take k ++ [x] ++ l.drop k).length = l.length + 1 := by simp; omega
theorem del_len {α : Type} (l : List α) (k : Nat) (hk : k < l.length) : (l.take k ++ l.drop (k + 1)).length = l.length - 1 := by simp; omega

theorem addAt_le {r : Ring} (h : RingP r) : addAt r ≤ r.seats.length := by
  unfold addAt
  have := h.cur0
  split
  · rcases h.cur1 with h1 | ⟨h1, h2, h3⟩ <;> omega
  · exact Nat.le_refl _
/-- a seat is added behind all others of the cycle -/
theorem added_ok {r : Ring} {id p : Int} (h : RingP r) (h1 : 0 ≤ id ∧ id ≤ 1073741824) (h2 : 0 ≤ p ∧ p ≤ 3) (h3 : findZ r.seats id < 0) (h4 : r.seats.length ≠ 16) : RingP (added r id p) := by
  have hk := addAt_le h
  have hlen := ins_len r.seats (addAt r) hk ⟨id, p, 0, 0⟩
  have c0 := h.cur0
  have c1 := h.cur1
  have hl := h.len
  have hno := findZ_no h3
  have hcur : (added r id p).cur = if 0 < r.cur ∨ r.opn = true then r.cur + 1 else r.cur := rfl
  have hat : addAt r = if 0 < r.cur ∨ r.opn = true then r.cur.toNat else r.seats.length := rfl
  refine ⟨h.base, h.per, by show (r.seats.take (addAt r) ++ [(⟨id, p, 0, 0⟩ : Seat)] ++ r.seats.drop (addAt r)).length ≤ 16; omega, ?_, ?_, ?_, ?_, ?_, ?_, ?_, ?_⟩
  · rw [hcur]; split <;> omega
  · left
    rw [hcur]
    have e : ((added r id p).seats.length : Int) = r.seats.length + 1 := congrArg (Nat.cast (R := Int)) hlen
    rw [e]
    rcases c1 with c1 | ⟨c1, c2, c3⟩
    · split <;> omega
    · rw [if_neg (by simp [c1, c3])]; omega
  · intro i j hi hj he
    rcases ins_get r.seats (addAt r) hk ⟨id, p, 0, 0⟩ i hi with ⟨g1, g2, g3⟩ | ⟨g1, g3⟩ | ⟨g1, g2, g3⟩ <;>
    rcases ins_get r.seats (addAt r) hk ⟨id, p, 0, 0⟩ j hj with ⟨f1, f2, f3⟩ | ⟨f1, f3⟩ | ⟨f1, f2, f3⟩ <;>
    have he' := (congrArg Seat.id g3).symm.trans (he.trans (congrArg Seat.id f3))
    · exact h.nod _ _ _ _ he'
    · exact absurd he' (hno _ _)
    · have := h.nod _ _ _ _ he'; omega
    · exact absurd he'.symm (hno _ _)
    · exact g1.trans f1.symm
    · exact absurd he'.symm (hno _ _)
    · have := h.nod _ _ _ _ he'; omega
    · exact absurd he' (hno _ _)
    · have := h.nod _ _ _ _ he'; omega
  · intro i hi
    rcases ins_get r.seats (addAt r) hk ⟨id, p, 0, 0⟩ i hi with ⟨g1, g2, g3⟩ | ⟨g1, g3⟩ | ⟨g1, g2, g3⟩ <;>
    have g4 := congrArg Seat.id g3 <;> change (added r id p).seats[i].id = _ at g4 <;> rw [g4]
    · exact h.id _ _
    · exact h1
    · exact h.id _ _
  · intro i hi
    rcases ins_get r.seats (addAt r) hk ⟨id, p, 0, 0⟩ i hi with ⟨g1, g2, g3⟩ | ⟨g1, g3⟩ | ⟨g1, g2, g3⟩ <;>
    have g4 := congrArg Seat.pri g3 <;> change (added r id p).seats[i].pri = _ at g4 <;> rw [g4]
    · exact h.pri _ _
    · exact h2
    · exact h.pri _ _
  · intro i hi
    rcases ins_get r.seats (addAt r) hk ⟨id, p, 0, 0⟩ i hi with ⟨g1, g2, g3⟩ | ⟨g1, g3⟩ | ⟨g1, g2, g3⟩ <;>
    have g4 := congrArg Seat.age g3 <;> change (added r id p).seats[i].age = _ at g4 <;> rw [g4]
    · exact h.age _ _
    · simp
    · exact h.age _ _
  · intro i hi ho hc
    have ho' : r.opn = true := ho
    have hor : 0 < r.cur ∨ r.opn = true := .inr ho'
    rw [hcur, if_pos hor] at hc
    rw [if_pos hor] at hat
    rcases ins_get r.seats (addAt r) hk ⟨id, p, 0, 0⟩ i hi with ⟨g1, g2, g3⟩ | ⟨g1, g3⟩ | ⟨g1, g2, g3⟩
    · omega
    · omega
    · have g4 := congrArg Seat.dfc g3
      change (added r id p).seats[i].dfc = _ at g4
      rw [g4]
      exact h.on _ _ ho' (by omega)
  · intro i hi ho
    have hcur2 : (added r id p).opn = r.opn := rfl
    rw [hcur2, hcur] at ho
    rcases ins_get r.seats (addAt r) hk ⟨id, p, 0, 0⟩ i hi with ⟨g1, g2, g3⟩ | ⟨g1, g3⟩ | ⟨g1, g2, g3⟩ <;>
    have g4 := congrArg Seat.dfc g3 <;> change (added r id p).seats[i].dfc = _ at g4 <;> rw [g4]
    · refine h.off _ _ (fun hx => ?_)
      rw [if_pos (.inr hx.1)] at hat
      omega
    · simp
    · refine h.off _ _ (fun hx => ho ⟨hx.1, ?_⟩)
      rw [if_pos (.inr hx.1)]
      omega
/-- what is left when a seat is removed -/
theorem removed_ok {r : Ring} {k : Nat} (h : RingP r) (hk : k < r.seats.length) : RingP (removed r k) := by
  have hlen := del_len r.seats k hk
  have c0 := h.cur0
  have c1 := h.cur1
  have hl := h.len
  have hcur : (removed r k).cur = if (k : Int) < r.cur then r.cur - 1 else if (k : Int) = r.cur ∧ r.cur = r.seats.length - 1 then 0 else r.cur := rfl
  have hop : (removed r k).opn = if (k : Int) = r.cur then false else r.opn := rfl
  refine ⟨h.base, h.per, by show (r.seats.take k ++ r.seats.drop (k + 1)).length ≤ 16; omega, ?_, ?_, ?_, ?_, ?_, ?_, ?_, ?_⟩
  · rw [hcur]; split
    · omega
    · split <;> omega
  · rw [hcur, hop]
    show _ < ((r.seats.take k ++ r.seats.drop (k + 1)).length : Int) ∨ (_ ∧ (r.seats.take k ++ r.seats.drop (k + 1)).length = 0 ∧ _)
    rw [hlen]
    by_cases h1 : (k : Int) < r.cur
    · rw [if_pos h1]; left; omega
    · rw [if_neg h1]
      by_cases h2 : (k : Int) = r.cur ∧ r.cur = r.seats.length - 1
      · rw [if_pos h2, if_pos h2.1]
        by_cases h3 : r.seats.length = 1
        · right; exact ⟨rfl, by omega, rfl⟩
        · left; omega
      · rw [if_neg h2]; left; omega
  · intro i j hi hj he
    rcases del_get r.seats k hk i hi with ⟨g1, g2, g3⟩ | ⟨g1, g2, g3⟩ <;>
    rcases del_get r.seats k hk j hj with ⟨f1, f2, f3⟩ | ⟨f1, f2, f3⟩ <;>
    have he' := (congrArg Seat.id g3).symm.trans (he.trans (congrArg Seat.id f3)) <;>
    have := h.nod _ _ _ _ he' <;> omega
  · intro i hi
    rcases del_get r.seats k hk i hi with ⟨g1, g2, g3⟩ | ⟨g1, g2, g3⟩ <;>
    have g4 := congrArg Seat.id g3 <;> change (removed r k).seats[i].id = _ at g4 <;> rw [g4] <;> exact h.id _ _
  · intro i hi
    rcases del_get r.seats k hk i hi with ⟨g1, g2, g3⟩ | ⟨g1, g2, g3⟩ <;>
    have g4 := congrArg Seat.pri g3 <;> change (removed r k).seats[i].pri = _ at g4 <;> rw [g4] <;> exact h.pri _ _
  · intro i hi
    rcases del_get r.seats k hk i hi with ⟨g1, g2, g3⟩ | ⟨g1, g2, g3⟩ <;>
    have g4 := congrArg Seat.age g3 <;> change (removed r k).seats[i].age = _ at g4 <;> rw [g4] <;> exact h.age _ _
  · intro i hi ho hc
    rw [hop] at ho
    rw [hcur] at hc
    have hne : ¬ (k : Int) = r.cur := fun e => by rw [if_pos e] at ho; cases ho
    rw [if_neg hne] at ho
    have hc' : (i : Int) = if (k : Int) < r.cur then r.cur - 1 else r.cur := by
      by_cases h1 : (k : Int) < r.cur
      · rw [if_pos h1] at hc ⊢; exact hc
      · rw [if_neg h1, if_neg (fun e => hne e.1)] at hc; rw [if_neg h1]; exact hc
    rcases del_get r.seats k hk i hi with ⟨g1, g2, g3⟩ | ⟨g1, g2, g3⟩ <;>
    have g4 := congrArg Seat.dfc g3 <;> change (removed r k).seats[i].dfc = _ at g4 <;> rw [g4] <;> refine h.on _ _ ho ?_ <;> split at hc' <;> omega
  · intro i hi ho
    rw [hop, hcur] at ho
    rcases del_get r.seats k hk i hi with ⟨g1, g2, g3⟩ | ⟨g1, g2, g3⟩ <;>
    have g4 := congrArg Seat.dfc g3 <;> change (removed r k).seats[i].dfc = _ at g4 <;> rw [g4] <;> refine h.off _ _ (fun hx => ho ?_)
    · rw [if_neg (by omega), if_neg (by omega), if_neg (by omega)]; exact hx
    · rw [if_neg (by omega)]
      refine ⟨hx.1, ?_⟩
      rw [if_pos (by omega)]; omega
end Go.Proofs.Ytckeidboolfcoaa

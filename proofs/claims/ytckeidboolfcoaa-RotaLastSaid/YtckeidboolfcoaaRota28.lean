/- The law's generator of rings: the plain law, and the calls that it makes. -/
import Derived.Test.YtckeidboolfcoaaRota26
namespace Go.Proofs.Ytckeidboolfcoaa
open Go Go.RowKit

/-- valid, and every identity is below 9 -/
structure Small (r : Ring) : Prop where
  ok : RingP r
  lt : ∀ i (h : i < r.seats.length), r.seats[i].id < 9

theorem small_new {base per : Int} (h1 : 1 ≤ base ∧ base ≤ 64) (h2 : 1 ≤ per ∧ per ≤ 1024) : ringNew base per = (⟨base, per, [], 0, false⟩, 0) ∧ Small ⟨base, per, [], 0, false⟩ :=
  ⟨newR0 (betB_mk h1) (betB_mk h2), ⟨⟨h1, h2, by simp, by simp, .inr ⟨rfl, rfl, rfl⟩, fun i j hi => by simp at hi, fun i hi => by simp at hi, fun i hi => by simp at hi, fun i hi => by simp at hi, fun i hi => by simp at hi, fun i hi => by simp at hi⟩, fun i hi => by simp at hi⟩⟩
theorem betB_of {n l m : Int} {b : Bool} (h : betB n l m = b) : (b = true → l ≤ n ∧ n ≤ m) := fun e => betB_true (h.trans e)
theorem small_add {r : Ring} {id p : Int} (h : Small r) (hid : id < 9) (he : (ringAdd r id p).2 = 0) : Small (ringAdd r id p).1 := by
  have hok := ringP_ok h.ok
  unfold ringAdd at he ⊢
  rw [if_neg (by simp [hok])] at he ⊢
  cases hb : (betB id 0 1073741824 && betB p 0 3) with
  | false => rw [if_pos hb] at he; simp at he
  | true =>
    rw [if_neg (by simp [hb])] at he ⊢
    by_cases h3 : 0 ≤ findZ r.seats id
    · rw [if_pos h3] at he; simp at he
    · rw [if_neg h3] at he ⊢
      by_cases h4 : r.seats.length = 16
      · rw [if_pos h4] at he; simp at he
      · rw [if_neg h4]
        simp only [Bool.and_eq_true] at hb
        refine ⟨added_ok h.ok (betB_true hb.1) (betB_true hb.2) (by omega) h4, fun i hi => ?_⟩
        rcases ins_get r.seats (addAt r) (addAt_le h.ok) ⟨id, p, 0, 0⟩ i hi with ⟨g1, g2, g3⟩ | ⟨g1, g3⟩ | ⟨g1, g2, g3⟩ <;>
        have g4 := congrArg Seat.id g3 <;> change (added r id p).seats[i].id = _ at g4 <;> rw [g4]
        · exact h.lt _ _
        · exact hid
        · exact h.lt _ _
theorem small_removed {r : Ring} {k : Nat} (h : Small r) (hk : k < r.seats.length) : Small (removed r k) := by
  refine ⟨removed_ok h.ok hk, fun i hi => ?_⟩
  rcases del_get r.seats k hk i hi with ⟨g1, g2, g3⟩ | ⟨g1, g2, g3⟩ <;>
  have g4 := congrArg Seat.id g3 <;> change (removed r k).seats[i].id = _ at g4 <;> rw [g4] <;> exact h.lt _ _
theorem small_rem {r : Ring} {id : Int} (h : Small r) : Small (ringRemove r id).1 := by
  unfold ringRemove
  split
  · exact h
  · rename_i h2
    have := findZ_lt r.seats id
    exact small_removed h (by omega)

theorem set_get {l : List Seat} {k : Nat} {s : Seat} (i : Nat) (h : i < (l.set k s).length) : (i = k ∧ (l.set k s)[i] = s) ∨ (i ≠ k ∧ ∃ h' : i < l.length, (l.set k s)[i] = l[i]) := by
  rw [List.length_set] at h
  by_cases e : i = k
  · exact .inl ⟨e, by subst e; simp⟩
  · exact .inr ⟨e, h, by rw [List.getElem_set]; simp [Ne.symm e]⟩
theorem addZ_bd (a b : Int) : 0 ≤ addZ a b ∧ addZ a b ≤ 1073741824 := clampZ_bd _
/-- one seat is changed in its age and its deficit, and the place is moved -/
theorem set_ok {r : Ring} {k : Nat} {s : Seat} {c : Int} {o : Bool} (h : RingP r) (hk : k < r.seats.length) (hid : s.id = r.seats[k].id) (hpri : s.pri = r.seats[k].pri) (hage : 0 ≤ s.age ∧ s.age ≤ 1073741824)
    (hc0 : 0 ≤ c) (hc1 : c < r.seats.length) (hon : o = true → c = k ∧ 1 ≤ s.dfc ∧ s.dfc ≤ 64) (hoff : o = false → -7 ≤ s.dfc ∧ s.dfc ≤ 0) (hcur : r.cur = k ∨ r.opn = false) : RingP ⟨r.base, r.per, r.seats.set k s, c, o⟩ := by
  refine ⟨h.base, h.per, by show (r.seats.set k s).length ≤ 16; rw [List.length_set]; exact h.len, hc0, .inl (by show c < ((r.seats.set k s).length : Int); rw [List.length_set]; exact hc1), ?_, ?_, ?_, ?_, ?_, ?_⟩
  · intro i j hi hj he
    simp only at hi hj he
    rcases set_get i hi with ⟨g1, g3⟩ | ⟨g1, g2, g3⟩ <;> rcases set_get j hj with ⟨f1, f3⟩ | ⟨f1, f2, f3⟩ <;> rw [g3, f3] at he
    · omega
    · rw [hid] at he; exact absurd (h.nod _ _ _ _ he) (by omega)
    · rw [hid] at he; exact absurd (h.nod _ _ _ _ he) (by omega)
    · exact h.nod _ _ _ _ he
  · intro i hi
    simp only at hi ⊢
    rcases set_get i hi with ⟨g1, g3⟩ | ⟨g1, g2, g3⟩ <;> rw [g3]
    · rw [hid]; exact h.id _ _
    · exact h.id _ _
  · intro i hi
    simp only at hi ⊢
    rcases set_get i hi with ⟨g1, g3⟩ | ⟨g1, g2, g3⟩ <;> rw [g3]
    · rw [hpri]; exact h.pri _ _
    · exact h.pri _ _
  · intro i hi
    simp only at hi ⊢
    rcases set_get i hi with ⟨g1, g3⟩ | ⟨g1, g2, g3⟩ <;> rw [g3]
    · exact hage
    · exact h.age _ _
  · intro i hi ho hc
    simp only at hi ho hc ⊢
    obtain ⟨e1, e2⟩ := hon ho
    rcases set_get i hi with ⟨g1, g3⟩ | ⟨g1, g2, g3⟩
    · rw [g3]; exact e2
    · omega
  · intro i hi ho
    simp only at hi ho ⊢
    rcases set_get i hi with ⟨g1, g3⟩ | ⟨g1, g2, g3⟩ <;> rw [g3]
    · cases o with
      | false => exact hoff rfl
      | true => exact absurd ⟨rfl, by have := (hon rfl).1; omega⟩ ho
    · refine h.off _ _ (fun hx => ?_)
      rcases hcur with e | e
      · omega
      · rw [e] at hx; exact absurd hx.1 (by simp)
theorem set_lt {l : List Seat} {k : Nat} {s : Seat} (h : ∀ i (h : i < l.length), l[i].id < 9) (hk : k < l.length) (hid : s.id = l[k].id) (i : Nat) (hi : i < (l.set k s).length) : (l.set k s)[i].id < 9 := by
  rcases set_get i hi with ⟨g1, g3⟩ | ⟨g1, g2, g3⟩ <;> rw [g3]
  · rw [hid]; exact h _ _
  · exact h _ _

/-- picking keeps a ring valid, and leaves a turn open -/
theorem pickRun_ok (base per : Int) (P : Ring → Prop) (hstep : ∀ (l : List Seat) (c : Nat) (hc : c < l.length), P ⟨base, per, l, c, false⟩ → l[c].dfc + quantS base per l[c] ≤ 0 → P ⟨base, per, l.set c (l[c].plus (quantS base per l[c])).older, (wrapAt c l.length : Nat), false⟩)
    (hstop : ∀ (l : List Seat) (c : Nat) (hc : c < l.length), P ⟨base, per, l, c, false⟩ → ¬ l[c].dfc + quantS base per l[c] ≤ 0 → P ⟨base, per, l.set c (l[c].plus (quantS base per l[c])), c, true⟩) :
    ∀ (f : Nat) (l : List Seat) (c : Nat) (ts : List Turn), c < l.length → (∀ s ∈ l, s.dfc ≤ 0) → owed l < f → P ⟨base, per, l, c, false⟩ → P ⟨base, per, (pickRun base per f l c ts).1, (pickRun base per f l c ts).2.1, true⟩ := by
  intro f
  induction f with
  | zero => intro l c ts _ _ h; omega
  | succ f ih =>
    intro l c ts hc hd ho hp
    have hg : l[c]? = some l[c] := List.getElem?_eq_getElem hc
    rw [pickRun, hg]
    simp only
    by_cases hz : l[c].dfc + quantS base per l[c] ≤ 0
    · rw [if_pos hz]
      have hq := quantS_bd base per l[c]
      have hset := owed_set l c hc (l[c].plus (quantS base per l[c])).older
      have hdf : (l[c].plus (quantS base per l[c])).older.dfc = l[c].dfc + quantS base per l[c] := rfl
      rw [hdf] at hset
      refine ih _ _ _ (by rw [List.length_set]; exact Nat.mod_lt _ (by omega)) (fun s hs => ?_) (by omega) ?_
      · rcases List.mem_or_eq_of_mem_set hs with h | rfl
        · exact hd s h
        · rw [hdf]; exact hz
      · exact hstep l c hc hp hz
    · rw [if_neg hz]
      exact hstop l c hc hp hz

theorem small_step (r : Ring) (base per : Int) (l : List Seat) (c : Nat) (hc : c < l.length) (h : Small ⟨base, per, l, c, false⟩) (hz : l[c].dfc + quantS base per l[c] ≤ 0) :
    Small ⟨base, per, l.set c (l[c].plus (quantS base per l[c])).older, (wrapAt c l.length : Nat), false⟩ := by
  have hq := quantS_bd base per l[c]
  have hoff := h.ok.off c hc (by simp)
  simp only at hoff
  have hw : wrapAt c l.length < l.length := Nat.mod_lt _ (by omega)
  refine ⟨set_ok (r := ⟨base, per, l, c, false⟩) h.ok hc rfl rfl (addZ_bd _ _) (by omega) (by simp only; omega) (fun e => by cases e) (fun _ => ?_) (.inl rfl), set_lt h.lt hc rfl⟩
  show -7 ≤ l[c].dfc + quantS base per l[c] ∧ _ ≤ _
  exact ⟨by omega, hz⟩
theorem small_stop (base per : Int) (l : List Seat) (c : Nat) (hc : c < l.length) (h : Small ⟨base, per, l, c, false⟩) (hz : ¬ l[c].dfc + quantS base per l[c] ≤ 0) :
    Small ⟨base, per, l.set c (l[c].plus (quantS base per l[c])), c, true⟩ := by
  have hq := quantS_bd base per l[c]
  have hoff := h.ok.off c hc (by simp)
  simp only at hoff
  refine ⟨set_ok (r := ⟨base, per, l, c, false⟩) h.ok hc rfl rfl (h.ok.age c hc) (by omega) (by simp only; omega) (fun _ => ⟨rfl, ?_⟩) (fun e => by cases e) (.inl rfl), set_lt h.lt hc rfl⟩
  show 1 ≤ l[c].dfc + quantS base per l[c] ∧ l[c].dfc + quantS base per l[c] ≤ 64
  omega
theorem small_pick {r : Ring} (h : Small r) : Small (ringPick r).ring ∧ (r.seats.length ≠ 0 → (ringPick r).ring.opn = true ∧ (ringPick r).ok = true) := by
  have hok := ringP_ok h.ok
  by_cases h0 : r.seats.length = 0
  · rw [ringPick_no (.inr h0)]
    exact ⟨h, fun e => absurd h0 e⟩
  · rw [ringPick_yes (by simp [hok, h0])]
    refine ⟨?_, fun _ => ⟨rfl, rfl⟩⟩
    have hc0 := h.ok.cur0
    have hc1 : r.cur < r.seats.length := by
      rcases h.ok.cur1 with e | ⟨_, e, _⟩
      · exact e
      · exact absurd e h0
    unfold pickFin
    by_cases ho : r.opn = true
    · rw [if_pos ho]
      have e : (pickRing r (r.seats, r.cur.toNat, [])).ring = r := by
        obtain ⟨base, per, seats, cur, opn⟩ := r
        simp only at ho hc0
        simp [pickRing, ho]; omega
      rw [e]; exact h
    · rw [if_neg ho]
      have ho' : r.opn = false := by simpa using ho
      have hd := ok_dfc hok ho'
      refine pickRun_ok r.base r.per Small (small_step r r.base r.per) (small_stop r.base r.per) _ _ _ _ (by omega) (fun s hs => (hd s hs).2) (by omega) ?_
      have e : (⟨r.base, r.per, r.seats, (r.cur.toNat : Int), false⟩ : Ring) = r := by
        obtain ⟨base, per, seats, cur, opn⟩ := r
        simp only at ho' hc0
        simp [ho']; omega
      rw [e]; exact h
theorem small_spend {r : Ring} {cost : Int} {fin : Bool} (h : Small r) (he : (ringSpend r cost fin).2.2 = 0) : Small (ringSpend r cost fin).1 := by
  have hok := ringP_ok h.ok
  unfold ringSpend at he ⊢
  by_cases ho : ringOk r = false ∨ r.opn = false
  · rw [if_pos ho] at he; simp at he
  · rw [if_neg ho] at he ⊢
    have ho' : r.opn = true := by simpa using (not_or.1 ho).2
    have hc0 := h.ok.cur0
    have hc1 : r.cur < r.seats.length := by
      rcases h.ok.cur1 with e | ⟨_, _, e⟩
      · exact e
      · rw [ho'] at e; cases e
    cases hb : betB cost 1 8 with
    | false => rw [if_pos hb] at he; simp at he
    | true =>
      obtain ⟨b1, b2⟩ := betB_true hb
      rw [if_neg (by simp [hb])]
      cases fin with
      | true => rw [if_pos rfl]; exact small_removed h (by omega)
      | false =>
        rw [if_neg (by simp)]
        obtain ⟨c, hc⟩ : ∃ c : Nat, r.cur = c := ⟨r.cur.toNat, by omega⟩
        have hcl : c < r.seats.length := by omega
        have hon := h.ok.on c hcl ho' hc.symm
        by_cases hz : 0 < r.seats[c].dfc - cost
        · rw [spent_on hc hcl hz]
          refine ⟨set_ok h.ok hcl rfl rfl (h.ok.age c hcl) (by omega) (by omega) (fun _ => ⟨rfl, ?_⟩) (fun e => by cases e) (.inl hc), set_lt h.lt hcl rfl⟩
          show 1 ≤ r.seats[c].dfc - cost ∧ r.seats[c].dfc - cost ≤ 64
          omega
        · rw [spent_off hc hcl hz]
          have hw : wrapAt c r.seats.length < r.seats.length := Nat.mod_lt _ (by omega)
          refine ⟨set_ok h.ok hcl rfl rfl (addZ_bd _ _) (by omega) (by omega) (fun e => by cases e) (fun _ => ?_) (.inl hc), set_lt h.lt hcl rfl⟩
          show -7 ≤ r.seats[c].dfc - cost ∧ r.seats[c].dfc - cost ≤ 0
          omega
end Go.Proofs.Ytckeidboolfcoaa

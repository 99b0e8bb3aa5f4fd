/- Whose turn comes next: the plain laws of fairness. -/
import Derived.Test.YtckeidboolfcoaaRota28
namespace Go.Proofs.Ytckeidboolfcoaa
open Go Go.RowKit

/-- whose turn comes next: seat number next (mod the number of seats) if none is open; seat next - 1 has begun if one is -/
structure Cyc (L : List Int) (next : Nat) (r : Ring) : Prop where
  ok : RingP r
  ne : r.seats.length ≠ 0
  ids : r.seats.map Seat.id = L
  off : r.opn = false → r.cur = ((next % r.seats.length : Nat) : Int)
  on : r.opn = true → 1 ≤ next ∧ r.cur = (((next - 1) % r.seats.length : Nat) : Int)

theorem wrapAt_next (next N : Nat) : wrapAt (next % N) N = (next + 1) % N := by
  show (next % N + 1) % N = _
  rw [Nat.mod_add_mod]
theorem id_at {l : List Seat} {L : List Int} (h : l.map Seat.id = L) {c : Nat} (hc : c < l.length) : L[c]? = some l[c].id := by
  subst h; simp [hc]
theorem map_set {l : List Seat} {c : Nat} (hc : c < l.length) {s : Seat} (hs : s.id = l[c].id) : (l.set c s).map Seat.id = l.map Seat.id := by
  rw [List.map_set, hs]
  refine List.ext_getElem (by simp) (fun i h1 h2 => ?_)
  rw [List.getElem_set]
  split
  · rename_i e; subst e; simp
  · rfl

structure RunCyc (L : List Int) (N : Nat) (next : Nat) (f : Nat) (ts us : List Turn) (x : List Seat × Nat × List Turn) : Prop where
  ts : x.2.2 = ts ++ us
  pos : 0 < us.length
  le : us.length ≤ f
  turn : ∀ j (h : j < us.length), L[(next + j) % N]? = some us[j].q ∧ 1 ≤ us[j].quant ∧ us[j].quant ≤ 64
  cur : x.2.1 = (next + us.length - 1) % N
  ids : x.1.map Seat.id = L
  len : x.1.length = N
  dfc : ∀ s, x.1[x.2.1]? = some s → ∀ (h : us.length - 1 < us.length), s.dfc ≤ us[us.length - 1].quant

theorem pickRun_cyc (base per : Int) (N : Nat) (L : List Int) : ∀ (f : Nat) (l : List Seat) (c : Nat) (ts : List Turn) (next : Nat), c < l.length → l.length = N → l.map Seat.id = L → c = next % N → (∀ s ∈ l, s.dfc ≤ 0) → owed l < f →
    ∃ us, RunCyc L N next f ts us (pickRun base per f l c ts) := by
  intro f
  induction f with
  | zero => intro l c ts next _ _ _ _ _ h; omega
  | succ f ih =>
    intro l c ts next hc hl hids hn hd ho
    have hg : l[c]? = some l[c] := List.getElem?_eq_getElem hc
    have hq := quantS_bd base per l[c]
    have hid := id_at hids hc
    rw [pickRun, hg]
    simp only
    by_cases hz : l[c].dfc + quantS base per l[c] ≤ 0
    · rw [if_pos hz]
      have hset := owed_set l c hc (l[c].plus (quantS base per l[c])).older
      have hdf : (l[c].plus (quantS base per l[c])).older.dfc = l[c].dfc + quantS base per l[c] := rfl
      rw [hdf] at hset
      have hdc := hd _ (List.getElem_mem hc)
      obtain ⟨us, h⟩ := ih (l.set c (l[c].plus (quantS base per l[c])).older) (wrapAt c l.length) (ts ++ [⟨l[c].id, quantS base per l[c]⟩]) (next + 1) (by rw [List.length_set]; exact Nat.mod_lt _ (by omega)) (by rw [List.length_set]; exact hl) ((map_set (s := (l[c].plus (quantS base per l[c])).older) hc rfl).trans hids)
        (by rw [hn, hl]; exact wrapAt_next next N) (fun s hs => by
          rcases List.mem_or_eq_of_mem_set hs with h | rfl
          · exact hd s h
          · rw [hdf]; exact hz) (by omega)
      refine ⟨⟨l[c].id, quantS base per l[c]⟩ :: us, ⟨by rw [h.ts]; simp, by simp, by have := h.le; simp; omega, ?_, ?_, h.ids, h.len, ?_⟩⟩
      · intro j hj
        cases j with
        | zero => exact ⟨by rw [Nat.add_zero, ← hn]; exact hid, hq⟩
        | succ j =>
          have := h.turn j (by simpa using hj)
          rw [show next + 1 + j = next + (j + 1) by omega] at this
          exact this
      · rw [h.cur]; congr 1; simp only [List.length_cons]; omega
      · intro s hs hl2
        have hp := h.pos
        have := h.dfc s hs (by omega)
        have e : (⟨l[c].id, quantS base per l[c]⟩ :: us : List Turn)[(⟨l[c].id, quantS base per l[c]⟩ :: us : List Turn).length - 1] = us[us.length - 1] := by
          simp only [List.length_cons, Nat.add_sub_cancel]
          rw [List.getElem_cons]
          rw [dif_neg (by omega)]
        rw [e]; exact this
    · rw [if_neg hz]
      refine ⟨[⟨l[c].id, quantS base per l[c]⟩], ⟨rfl, by simp, by simp, ?_, ?_, (map_set (s := l[c].plus (quantS base per l[c])) hc rfl).trans hids, by rw [List.length_set]; exact hl, ?_⟩⟩
      · intro j hj
        have : j = 0 := by simpa using hj
        subst this
        exact ⟨by rw [Nat.add_zero, ← hn]; exact hid, hq⟩
      · show c = (next + 1 - 1) % N; rw [Nat.add_sub_cancel]; exact hn
      · intro s hs _
        have hdc := hd _ (List.getElem_mem hc)
        simp only [List.getElem?_set_self hc, Option.some.injEq] at hs
        subst hs
        show l[c].dfc + quantS base per l[c] ≤ quantS base per l[c]
        omega

theorem ring_pick {r : Ring} (h : RingP r) : RingP (ringPick r).ring := by
  have hok := ringP_ok h
  by_cases h0 : r.seats.length = 0
  · rw [ringPick_no (.inr h0)]; exact h
  · rw [ringPick_yes (by simp [hok, h0])]
    have hc0 := h.cur0
    have hc1 : r.cur < r.seats.length := by
      rcases h.cur1 with e | ⟨_, e, _⟩
      · exact e
      · exact absurd e h0
    unfold pickFin
    by_cases ho : r.opn = true
    · rw [if_pos ho]
      have e : (pickRing r (r.seats, r.cur.toNat, [])).ring = r := by
        obtain ⟨base, per, seats, cur, opn⟩ := r
        simp only at ho hc0
        simp [pickRing, ho]; omega
      rw [e]; exact h
    · rw [if_neg ho]
      have ho' : r.opn = false := by simpa using ho
      have hd := ok_dfc hok ho'
      refine pickRun_ok r.base r.per RingP (fun l c hc h hz => ?_) (fun l c hc h hz => ?_) _ _ _ _ (by omega) (fun s hs => (hd s hs).2) (by omega) ?_
      · have hq := quantS_bd r.base r.per l[c]
        have hoff := h.off c hc (by simp)
        simp only at hoff
        have hw : wrapAt c l.length < l.length := Nat.mod_lt _ (by omega)
        refine set_ok (r := ⟨r.base, r.per, l, c, false⟩) h hc rfl rfl (addZ_bd _ _) (by omega) (by simp only; omega) (fun e => (by cases e)) (fun _ => ?_) (.inl rfl)
        show -7 ≤ l[c].dfc + quantS r.base r.per l[c] ∧ _ ≤ _
        exact ⟨by omega, hz⟩
      · have hq := quantS_bd r.base r.per l[c]
        have hoff := h.off c hc (by simp)
        simp only at hoff
        refine set_ok (r := ⟨r.base, r.per, l, c, false⟩) h hc rfl rfl (h.age c hc) (by omega) (by simp only; omega) (fun _ => ⟨rfl, ?_⟩) (fun e => (by cases e)) (.inl rfl)
        show 1 ≤ l[c].dfc + quantS r.base r.per l[c] ∧ l[c].dfc + quantS r.base r.per l[c] ≤ 64
        omega
      · have e : (⟨r.base, r.per, r.seats, (r.cur.toNat : Int), false⟩ : Ring) = r := by
          obtain ⟨base, per, seats, cur, opn⟩ := r
          simp only at ho' hc0
          simp [ho']; omega
        rw [e]; exact h
theorem ring_open {r : Ring} (h : RingP r) (hn : r.seats.length ≠ 0) : (ringPick r).ok = true ∧ (ringPick r).ring.opn = true := by
  rw [ringPick_yes (by simp [ringP_ok h, hn])]; exact ⟨rfl, rfl⟩

/-- what Pick does to whose turn comes next -/
structure CycPick (L : List Int) (next : Nat) (r : Ring) : Prop where
  ok : (ringPick r).ok = true
  opn : (ringPick r).ring.opn = true
  cyc : Cyc L (next + (ringPick r).turns.length) (ringPick r).ring
  le : (ringPick r).turns.length ≤ 113
  turn : ∀ j (h : j < (ringPick r).turns.length), L[(next + j) % r.seats.length]? = some (ringPick r).turns[j].q ∧ 1 ≤ (ringPick r).turns[j].quant ∧ (ringPick r).turns[j].quant ≤ 64
  id : L[(next + (ringPick r).turns.length - 1) % r.seats.length]? = some (ringPick r).id
  none : (ringPick r).turns.length = 0 → r.opn = true ∧ (ringPick r).ring = r
  off : r.opn = false → 0 < (ringPick r).turns.length
  len : (ringPick r).ring.seats.length = r.seats.length
  dfc : ∀ (h : (ringPick r).turns.length - 1 < (ringPick r).turns.length) (c : Nat) (hc : c < (ringPick r).ring.seats.length), (ringPick r).ring.cur = c → (ringPick r).ring.seats[c].dfc ≤ (ringPick r).turns[(ringPick r).turns.length - 1].quant

theorem cyc_pick {L : List Int} {next : Nat} {r : Ring} (h : Cyc L next r) : CycPick L next r := by
  have hok := ringP_ok h.ok
  have hkeep := ring_pick h.ok
  have hop := ring_open h.ok h.ne
  have hc0 := h.ok.cur0
  have hc1 : r.cur < r.seats.length := by
    rcases h.ok.cur1 with e | ⟨_, e, _⟩
    · exact e
    · exact absurd e h.ne
  have hyes := ringPick_yes (r := r) (by simp [hok, h.ne])
  by_cases ho : r.opn = true
  · have e : ringPick r = ⟨r, (r.seats[r.cur.toNat]?.getD ⟨0, 0, 0, 0⟩).id, [], true⟩ := by
      rw [hyes]
      unfold pickFin
      rw [if_pos ho]
      obtain ⟨base, per, seats, cur, opn⟩ := r
      simp only at ho hc0
      simp [pickRing, ho]; omega
    rw [e] at hkeep hop
    have hon := h.on ho
    have hcn : r.cur.toNat < r.seats.length := by omega
    refine ⟨by rw [e], by rw [e]; exact ho, by rw [e]; exact h, by rw [e]; simp, (by rw [e]; intro j hj; simp at hj), ?_, (by rw [e]; exact fun _ => ⟨ho, rfl⟩), fun x => (by rw [ho] at x; cases x), by rw [e], by rw [e]; intro h; simp at h⟩
    rw [e]
    simp only [List.length_nil, Nat.add_zero]
    have e2 : (next - 1) % r.seats.length = r.cur.toNat := by omega
    rw [e2, id_at h.ids hcn, List.getElem?_eq_getElem hcn]
    rfl
  · have ho' : r.opn = false := by simpa using ho
    have hd := ok_dfc hok ho'
    have hoff := h.off ho'
    have howed := owed_le _ hd
    have h16 := h.ok.len
    obtain ⟨us, hu⟩ := pickRun_cyc r.base r.per r.seats.length L (owed r.seats + 1) r.seats r.cur.toNat [] next (by omega) rfl h.ids (by omega) (fun s hs => (hd s hs).2) (by omega)
    have hf : pickFin r = pickRun r.base r.per (owed r.seats + 1) r.seats r.cur.toNat [] := by unfold pickFin; rw [if_neg ho]
    rw [hf] at hyes
    generalize pickRun r.base r.per (owed r.seats + 1) r.seats r.cur.toNat [] = x at hu hyes
    obtain ⟨l', c', ts'⟩ := x
    have hts : ts' = us := hu.ts
    subst hts
    have e : ringPick r = ⟨⟨r.base, r.per, l', c', true⟩, (l'[c']?.getD ⟨0, 0, 0, 0⟩).id, ts', true⟩ := hyes
    rw [e] at hkeep hop
    have hlen := hu.len
    have hcur := hu.cur
    have hids := hu.ids
    have hpos := hu.pos
    have hle := hu.le
    have hdf := hu.dfc
    simp only at hlen hcur hids hdf
    have hcl : c' < l'.length := by rw [hcur, hlen]; exact Nat.mod_lt _ (by have := h.ne; omega)
    refine ⟨by rw [e], by rw [e], ?_, ?_, ?_, ?_, ?_, ?_, ?_, ?_⟩
    · rw [e]
      exact ⟨hkeep, by rw [hlen]; exact h.ne, hids, fun x => (by cases x), fun _ => ⟨by simp only; omega, by simp only; rw [hlen, hcur]⟩⟩
    · rw [e]; simp only; omega
    · rw [e]; exact hu.turn
    · rw [e]
      simp only
      rw [← hcur, id_at hids hcl, List.getElem?_eq_getElem hcl]; rfl
    · rw [e]; simp only; intro x; omega
    · rw [e]; intro _; exact hpos
    · rw [e]; exact hlen
    · rw [e]
      simp only
      intro h1 c hc hcc
      have : c = c' := by omega
      subst this
      exact hdf _ (List.getElem?_eq_getElem hc) h1

theorem map_len {l : List Seat} {L : List Int} (h : l.map Seat.id = L) : l.length = L.length := by rw [← h, List.length_map]
/-- what Spend does to whose turn comes next -/
structure CycSpend (L : List Int) (next : Nat) (r : Ring) (cost : Int) (c : Nat) (hc : c < r.seats.length) : Prop where
  ok : (ringSpend r cost false).2.2 = 0
  cyc : Cyc L next (ringSpend r cost false).1
  len : (ringSpend r cost false).1.seats.length = r.seats.length
  stay : 0 < r.seats[c].dfc - cost → ∃ h : c < (ringSpend r cost false).1.seats.length, (ringSpend r cost false).1.opn = true ∧ (ringSpend r cost false).1.cur = c ∧ (ringSpend r cost false).1.seats[c].dfc = r.seats[c].dfc - cost
  go : ¬ 0 < r.seats[c].dfc - cost → (ringSpend r cost false).1.opn = false

theorem cyc_spend {L : List Int} {next : Nat} {r : Ring} {cost : Int} (h : Cyc L next r) (ho : r.opn = true) (h1 : 1 ≤ cost ∧ cost ≤ 8) {c : Nat} (hcc : r.cur = c) (hcl : c < r.seats.length) : CycSpend L next r cost c hcl := by
  have hok := ringP_ok h.ok
  have hon := h.on ho
  have hn := h.ne
  have hc2 : c = (next - 1) % r.seats.length := by omega
  have hdf := h.ok.on c hcl ho hcc.symm
  have hE : ringSpend r cost false = spent r cost := spendG (by simp [hok, ho]) (betB_mk h1)
  by_cases hz : 0 < r.seats[c].dfc - cost
  · rw [spent_on hcc hcl hz] at hE
    have hk : RingP ⟨r.base, r.per, r.seats.set c (r.seats[c].pay cost), c, true⟩ := by
      refine set_ok h.ok hcl rfl rfl (h.ok.age c hcl) (by omega) (by omega) (fun _ => ⟨rfl, ?_⟩) (fun e => (by cases e)) (.inl hcc)
      show 1 ≤ r.seats[c].dfc - cost ∧ r.seats[c].dfc - cost ≤ 64
      omega
    refine ⟨by rw [hE], ?_, by rw [hE]; simp, fun _ => ?_, fun x => absurd hz x⟩
    · rw [hE]
      exact ⟨hk, by simp only [List.length_set]; exact hn, (map_set (s := r.seats[c].pay cost) hcl rfl).trans h.ids, fun x => (by cases x), fun _ => ⟨hon.1, by simp only [List.length_set]; rw [← hc2]⟩⟩
    · rw [hE]
      exact ⟨by simpa using hcl, rfl, rfl, by simp [Seat.pay]⟩
  · rw [spent_off hcc hcl hz] at hE
    have hw : wrapAt c r.seats.length < r.seats.length := Nat.mod_lt _ (by omega)
    have hk : RingP ⟨r.base, r.per, r.seats.set c (r.seats[c].pay cost).older, (wrapAt c r.seats.length : Nat), false⟩ := by
      refine set_ok h.ok hcl rfl rfl (addZ_bd _ _) (by omega) (by omega) (fun e => (by cases e)) (fun _ => ?_) (.inl hcc)
      show -7 ≤ r.seats[c].dfc - cost ∧ r.seats[c].dfc - cost ≤ 0
      omega
    refine ⟨by rw [hE], ?_, by rw [hE]; simp, fun x => absurd x hz, fun _ => by rw [hE]⟩
    rw [hE]
    refine ⟨hk, by simp only [List.length_set]; exact hn, (map_set (s := (r.seats[c].pay cost).older) hcl rfl).trans h.ids, fun _ => ?_, fun x => (by cases x)⟩
    simp only [List.length_set]
    rw [hc2, wrapAt_next, show next - 1 + 1 = next by omega]
end Go.Proofs.Ytckeidboolfcoaa

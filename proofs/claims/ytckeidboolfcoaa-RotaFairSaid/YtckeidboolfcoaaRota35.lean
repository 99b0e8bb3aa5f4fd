/- The law RotaKeeps: the plain laws, the calls, what lies in memory. -/
import Derived.Test.YtckeidboolfcoaaRota30
import Derived.Test.YtckeidboolfcoaaRota32
namespace Go.Proofs.Ytckeidboolfcoaa
open Go Go.RowKit

theorem ring_add {r : Ring} {id p : Int} (h : RingP r) (he : (ringAdd r id p).2 = 0) : RingP (ringAdd r id p).1 := by
  have hok := ringP_ok h
  unfold ringAdd at he ⊢
  rw [if_neg (by simp [hok])] at he ⊢
  cases hb : (betB id 0 1073741824 && betB p 0 3) with
  | false => rw [if_pos hb] at he; simp at he
  | true =>
    rw [if_neg (by simp [hb])] at he ⊢
    by_cases h3 : 0 ≤ findZ r.seats id
    · rw [if_pos h3] at he; simp at he
    · rw [if_neg h3] at he ⊢
      by_cases h4 : r.seats.length = 16
      · rw [if_pos h4] at he; simp at he
      · rw [if_neg h4]
        simp only [Bool.and_eq_true] at hb
        exact added_ok h (betB_true hb.1) (betB_true hb.2) (by omega) h4
theorem ring_rem {r : Ring} {id : Int} (h : RingP r) : RingP (ringRemove r id).1 := by
  unfold ringRemove
  split
  · exact h
  · rename_i h2
    have := findZ_lt r.seats id
    exact removed_ok h (by omega)
theorem ring_spend {r : Ring} {cost : Int} {fin : Bool} (h : RingP r) (ho : r.opn = true) (h1 : 1 ≤ cost ∧ cost ≤ 8) : (ringSpend r cost fin).2.2 = 0 ∧ RingP (ringSpend r cost fin).1 := by
  have hok := ringP_ok h
  have hc0 := h.cur0
  have hc1 : r.cur < r.seats.length := by
    rcases h.cur1 with e | ⟨_, _, e⟩
    · exact e
    · rw [ho] at e; cases e
  cases fin with
  | true => rw [spendF (by simp [hok, ho]) (betB_mk h1)]; exact ⟨rfl, removed_ok h (by omega)⟩
  | false =>
    obtain ⟨c, hc⟩ : ∃ c : Nat, r.cur = c := ⟨r.cur.toNat, by omega⟩
    have hcl : c < r.seats.length := by omega
    have hcyc : Cyc (r.seats.map Seat.id) (c + 1) r := ⟨h, by omega, rfl, fun e => (by rw [ho] at e; cases e), fun _ => ⟨by omega, by rw [Nat.add_sub_cancel, Nat.mod_eq_of_lt hcl]; exact hc⟩⟩
    have := cyc_spend hcyc ho h1 hc hcl
    exact ⟨this.ok, this.cyc.ok⟩
theorem spend_bad {r : Ring} {cost : Int} {fin : Bool} (h : r.opn = false) : (ringSpend r cost fin).2.2 ≠ 0 := by
  rw [spendE1 (.inr h)]; simp
theorem ring_picked {r : Ring} (h : RingP r) : RingP (ringPick r).ring ∧ ((ringPick r).ring.opn = true ∨ (ringPick r).ring.seats.length = 0) := by
  refine ⟨ring_pick h, ?_⟩
  by_cases h0 : r.seats.length = 0
  · rw [ringPick_no (.inr h0)]; exact .inr h0
  · exact .inl (ring_open h h0).2
theorem ring_spent {r r' : Ring} {cost er : Int} {fin b : Bool} (h : RingP r) (ho : r.opn = true ∨ r.seats.length = 0) (h1 : 1 ≤ cost ∧ cost ≤ 8) (e : ringSpend r cost fin = (r', b, er)) : (er = 0 → RingP r') ∧ (er ≠ 0 → r.seats.length = 0) := by
  cases hb : r.opn with
  | true =>
    have := ring_spend (fin := fin) h hb h1
    rw [e] at this
    exact ⟨fun _ => this.2, fun x => absurd this.1 x⟩
  | false =>
    have := spend_bad (cost := cost) (fin := fin) hb
    rw [e] at this
    exact ⟨fun x => absurd x this, fun _ => ho.resolve_left (by rw [hb]; simp)⟩
theorem Seats.num {M : Nat → Prop} {w : World} {a : Option Addr} {n c : Nat} {l : List Seat} (h : Seats M w (.slice a n c) l) : n = l.length := by
  obtain ⟨a', c', hsl⟩ := h.slice
  simp only [Value.slice.injEq] at hsl
  exact hsl.2.1

section
variable {wr w' : World} {B tb : Nat} {r : Ring} {a : Option Addr} {n c : Nat}
theorem padd_mid (hs : Seats (Lo (B + 1)) wr (.slice a n c) r.seats) (hx : Ext (At tb) wr w') (htb : tb ≤ B) (hB : B < wr.heap.size) (id p : Int) :
    Calls Try.prog 19 #[.agg #[.int .i64 r.base, .int .i64 r.per, .slice a n c, .int .i64 r.cur, .bool r.opn], .int .i64 id, .int .i64 p] w' fun e w'' => ∃ r' er a' n' c', Hid (ringAdd r id p = (r', er)) ∧
      e = .returned (.tuple #[.agg #[.int .i64 r'.base, .int .i64 r'.per, .slice a' n' c', .int .i64 r'.cur, .bool r'.opn], .int .i64 er]) ∧ Hid (Seats (Mid B wr.heap.size w'.heap.size) w'' (.slice a' n' c') r'.seats) ∧ Ext No w' w'' :=
  (ringAdd_any (Mid B wr.heap.size w'.heap.size) _ r id p w' (mid_lt hx hB) ⟨_, rfl, mid_row hs hx htb⟩).mono fun e w'' ⟨v, he, hv, hy⟩ => by
    obtain ⟨a', n', c', rfl, hs'⟩ := hv.opens
    exact ⟨_, _, a', n', c', Lib.hid rfl, he, Lib.hid hs', hy⟩
theorem prem_mid (hs : Seats (Lo (B + 1)) wr (.slice a n c) r.seats) (hx : Ext (At tb) wr w') (htb : tb ≤ B) (hB : B < wr.heap.size) (id : Int) :
    Calls Try.prog 20 #[.agg #[.int .i64 r.base, .int .i64 r.per, .slice a n c, .int .i64 r.cur, .bool r.opn], .int .i64 id] w' fun e w'' => ∃ r' er a' n' c', Hid (ringRemove r id = (r', er)) ∧
      e = .returned (.tuple #[.agg #[.int .i64 r'.base, .int .i64 r'.per, .slice a' n' c', .int .i64 r'.cur, .bool r'.opn], .bool er]) ∧ Hid (Seats (Mid B wr.heap.size w'.heap.size) w'' (.slice a' n' c') r'.seats) ∧ Ext No w' w'' :=
  (remove_any (Mid B wr.heap.size w'.heap.size) _ r id w' (mid_lt hx hB) ⟨_, rfl, mid_row hs hx htb⟩).mono fun e w'' ⟨v, he, hv, hy⟩ => by
    obtain ⟨a', n', c', rfl, hs'⟩ := hv.opens
    exact ⟨_, _, a', n', c', Lib.hid rfl, he, Lib.hid hs', hy⟩
theorem ppick_mid (hs : Seats (Lo (B + 1)) wr (.slice a n c) r.seats) (hx : Ext (At tb) wr w') (htb : tb ≤ B) (hB : B < wr.heap.size) :
    Calls Try.prog 21 #[.agg #[.int .i64 r.base, .int .i64 r.per, .slice a n c, .int .i64 r.cur, .bool r.opn]] w' fun e w'' => ∃ r' id t ok a' n' c', Hid ((ringPick r).ring = r') ∧
      e = .returned (.tuple #[.agg #[.int .i64 r'.base, .int .i64 r'.per, .slice a' n' c', .int .i64 r'.cur, .bool r'.opn], .int .i64 id, t, .bool ok]) ∧ Hid (Seats (Mid B wr.heap.size w'.heap.size) w'' (.slice a' n' c') r'.seats) ∧ Ext No w' w'' :=
  (pick_any (Mid B wr.heap.size w'.heap.size) _ r w' (mid_lt hx hB) ⟨_, rfl, mid_row hs hx htb⟩).mono fun e w'' ⟨v, t, he, hv, _, hy⟩ => by
    obtain ⟨a', n', c', rfl, hs'⟩ := hv.opens
    exact ⟨_, _, t, _, a', n', c', Lib.hid rfl, he, Lib.hid hs', hy⟩
theorem pspend_mid (hs : Seats (Lo (B + 1)) wr (.slice a n c) r.seats) (hx : Ext (At tb) wr w') (htb : tb ≤ B) (hB : B < wr.heap.size) (cost : Int) (fin : Bool) :
    Calls Try.prog 22 #[.agg #[.int .i64 r.base, .int .i64 r.per, .slice a n c, .int .i64 r.cur, .bool r.opn], .int .i64 cost, .bool fin] w' fun e w'' => ∃ r' b er a' n' c', Hid (ringSpend r cost fin = (r', b, er)) ∧
      e = .returned (.tuple #[.agg #[.int .i64 r'.base, .int .i64 r'.per, .slice a' n' c', .int .i64 r'.cur, .bool r'.opn], .bool b, .int .i64 er]) ∧ Hid (Seats (Mid B wr.heap.size w'.heap.size) w'' (.slice a' n' c') r'.seats) ∧ Ext No w' w'' :=
  (spend_any (Mid B wr.heap.size w'.heap.size) _ r cost fin w' (mid_lt hx hB) ⟨_, rfl, mid_row hs hx htb⟩).mono fun e w'' ⟨v, he, hv, hy⟩ => by
    obtain ⟨a', n', c', rfl, hs'⟩ := hv.opens
    exact ⟨_, _, _, a', n', c', Lib.hid rfl, he, Lib.hid hs', hy⟩
end

/-- the ring lies in block B, the tape before it -/
structure KeepMem (w0 : World) (tb B : Nat) (wr : World) (r : Ring) (a : Option Addr) (n c : Nat) : Prop where
  ok : RingP r
  box : wr.heap[B]? = some (.cells #[.int .i64 r.base, .int .i64 r.per, .slice a n c, .int .i64 r.cur, .bool r.opn] 25 (0, 0))
  seats : Seats (Lo (B + 1)) wr (.slice a n c) r.seats
  tape : TapeOk wr tb
  ext : Ext No w0 wr
  low : w0.heap.size ≤ tb
  top : tb < B
/-- what a call leaves in a variable of its own, beside the ring -/
def KeepCut (w0 : World) (tb B : Nat) (r : Ring) (a : Option Addr) (n c : Nat) (good : Ring → Int → Prop) (s6 s7 : Value) (wx : World) : Prop :=
  ∃ D r' er a' n' c', s6 = .pointer (some ⟨D, 0, none⟩) ∧ s7 = .int .i64 er ∧ B < D ∧ good r' er ∧ wx.heap[D]? = some (.cells #[.int .i64 r'.base, .int .i64 r'.per, .slice a' n' c', .int .i64 r'.cur, .bool r'.opn] 25 (0, 0)) ∧
    Seats (Lo (B + 1)) wx (.slice a' n' c') r'.seats ∧ KeepMem w0 tb B wx r a n c
theorem KeepMem.step {w0 wr w' : World} {tb B n c : Nat} {r : Ring} {a : Option Addr} (h : KeepMem w0 tb B wr r a n c) (hx : Ext (At tb) wr w') (ht : TapeOk w' tb) : KeepMem w0 tb B w' r a n c := by
  have h1 := h.low
  have h2 := h.top
  exact ⟨h.ok, (hx.block B (lt_of_block h.box) (by unfold At; omega)).trans h.box, Row.ext h.seats hx (fun i _ e => by cases e; exact (by unfold Lo; omega)), ht, h.ext.trans2 hx (fun i hi e => by cases e; exact absurd hi (by omega)), h1, h2⟩
theorem KeepMem.stepNo {w0 wr w' : World} {tb B n c : Nat} {r : Ring} {a : Option Addr} (h : KeepMem w0 tb B wr r a n c) (hx : Ext No wr w') : KeepMem w0 tb B w' r a n c := h.step hx.ofNo (h.tape.ext hx)
theorem KeepMem.set {w0 wr w' : World} {tb B n c : Nat} {r r' : Ring} {a a' : Option Addr} {n' c' : Nat} (h : KeepMem w0 tb B wr r a n c) (hs : Seats (Lo (B + 1)) wr (.slice a' n' c') r'.seats) (hr : RingP r')
    (hw : w' = wr5 wr B (.int .i64 r'.base) (.int .i64 r'.per) (.slice a' n' c') (.int .i64 r'.cur) (.bool r'.opn)) : KeepMem w0 tb B w' r' a' n' c' := by
  subst hw
  have h1 := h.low
  have h2 := h.top
  have hx : Ext (At B) wr (wr5 wr B (.int .i64 r'.base) (.int .i64 r'.per) (.slice a' n' c') (.int .i64 r'.cur) (.bool r'.opn)) := wr5_ext
  exact ⟨hr, wr5_blk h.box, wr5_row hs, h.tape.extAbove hx (fun i hi => by unfold At; omega), h.ext.trans2 hx (fun i hi e => by cases e; exact absurd hi (by omega)), h1, h2⟩
theorem KeepCut.late {w0 w3 : World} {tb B n c : Nat} {r r' : Ring} {a a' : Option Addr} {n' c' : Nat} {er : Int} {good : Ring → Int → Prop} {M : Nat → Prop} (h : KeepMem w0 tb B w3 r a n c) (hs : Seats M w3 (.slice a' n' c') r'.seats) (hM : ∀ k, k ≤ B → M k) (hg : good r' er) :
    KeepCut w0 tb B r a n c good (.pointer (some ⟨w3.heap.size, 0, none⟩)) (.int .i64 er) (w3.alloc (.cells #[.int .i64 r'.base, .int .i64 r'.per, .slice a' n' c', .int .i64 r'.cur, .bool r'.opn] 25)) :=
  ⟨_, r', er, a', n', c', rfl, rfl, lt_of_block h.box, hg, alloc_top rfl, Row.extNo (Row.mono hs (fun i _ hm => hM i (Nat.le_of_lt_succ hm))) ((Ext.refl _ _).alloc _), h.stepNo ((Ext.refl _ _).alloc _)⟩
theorem KeepCut.early {w0 w3 : World} {tb B n c D : Nat} {r r' : Ring} {a a' : Option Addr} {n' c' : Nat} {er : Int} {good : Ring → Int → Prop} {M : Nat → Prop} (h : KeepMem w0 tb B w3 r a n c) (hs0 : Seats M w3 (.slice a n c) r.seats) (hs : Seats M w3 (.slice a' n' c') r'.seats) (hM : ∀ k, k ≤ B → M k) (hD : M D) (hBD : B < D) (hg : good r' er)
    (hz : w3.heap[D]? = some (.cells #[.int .i64 0, .int .i64 0, .slice none 0 0, .int .i64 0, .bool false] 25 (0, 0))) :
    KeepCut w0 tb B r a n c good (.pointer (some ⟨D, 0, none⟩)) (.int .i64 er) (((((w3.setCell ⟨D, 0, none⟩ (.int .i64 r'.base)).setCell ⟨D, 1, none⟩ (.int .i64 r'.per)).setCell ⟨D, 2, none⟩ (.slice a' n' c')).setCell ⟨D, 3, none⟩ (.int .i64 r'.cur)).setCell ⟨D, 4, none⟩ (.bool r'.opn)) := by
  have h1 := h.low
  have h2 := h.top
  have hx : Ext (At D) w3 (wr5 w3 D (.int .i64 r'.base) (.int .i64 r'.per) (.slice a' n' c') (.int .i64 r'.cur) (.bool r'.opn)) := wr5_ext
  refine ⟨D, r', er, a', n', c', rfl, rfl, hBD, hg, wr5_blk hz, (Row.ext hs hx (fun i _ e => by cases e; exact hD)).mono (fun i _ hm => hM i (Nat.le_of_lt_succ hm)), ?_⟩
  exact ⟨h.ok, (hx.block _ (lt_of_block h.box) (by unfold At; omega)).trans h.box, (Row.ext hs0 hx (fun i _ e => by cases e; exact hD)).mono (fun i _ hm => hM i (Nat.le_of_lt_succ hm)), h.tape.extAbove hx (fun i hi => by unfold At; omega), h.ext.trans2 hx (fun i hi e => by cases e; exact absurd hi (by omega)), h1, h2⟩
end Go.Proofs.Ytckeidboolfcoaa

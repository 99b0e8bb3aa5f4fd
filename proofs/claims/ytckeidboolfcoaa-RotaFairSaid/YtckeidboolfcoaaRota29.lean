/- The law's generator of rings: what a call gives, with the rows that it must not touch. -/
import Derived.Test.YtckeidboolfcoaaRota28
namespace Go.Proofs.Ytckeidboolfcoaa
open Go Go.RowKit

/-- up to B, or made since -/
def Mid (B n0 n1 : Nat) : Nat → Prop := fun k => k ≤ B ∨ (n0 ≤ k ∧ k < n1)
theorem mid_row {wr w' : World} {B tb s n : Nat} {sl : Value} {vs : List Value} (h : Row (Lo (B + 1)) wr s sl n vs) (hx : Ext (At tb) wr w') (htb : tb ≤ B) : Row (Mid B wr.heap.size w'.heap.size) w' s sl n vs :=
  (h.mono (M' := Mid B wr.heap.size w'.heap.size) (fun i hi hm => by
    rcases hm with hm | hm
    · exact Nat.lt_succ_of_le hm
    · omega)).ext hx (fun i _ e => by cases e; exact .inl htb)
theorem mid_lt {wr w' : World} {B tb : Nat} (hx : Ext (At tb) wr w') (hB : B < wr.heap.size) : ∀ b, Mid B wr.heap.size w'.heap.size b → b < w'.heap.size := fun b h => by
  have := hx.size
  rcases h with h | h <;> omega

section
variable {wr w' : World} {B tb : Nat} {r : Ring} {a : Option Addr} {n c : Nat}
def RingOut (M : Nat → Prop) (w' w'' : World) (r' : Ring) (a' : Option Addr) (n' c' : Nat) : Prop := Seats M w'' (.slice a' n' c') r'.seats ∧ Ext No w' w''
theorem radd_mid (hs : Seats (Lo (B + 1)) wr (.slice a n c) r.seats) (hx : Ext (At tb) wr w') (htb : tb ≤ B) (hB : B < wr.heap.size) (id p : Int) :
    Calls Try.prog 24 #[.agg #[.int .i64 r.base, .int .i64 r.per, .slice a n c, .int .i64 r.cur, .bool r.opn], .int .i64 id, .int .i64 p] w' fun e w'' => ∃ r' er a' n' c', Hid (ringAdd r id p = (r', er)) ∧
      e = .returned (.tuple #[.agg #[.int .i64 r'.base, .int .i64 r'.per, .slice a' n' c', .int .i64 r'.cur, .bool r'.opn], .int .i64 er]) ∧ Hid (Seats (Mid B wr.heap.size w'.heap.size) w'' (.slice a' n' c') r'.seats) ∧ Ext No w' w'' :=
  (raddSeat_any (Mid B wr.heap.size w'.heap.size) _ r id p w' (mid_lt hx hB) ⟨_, rfl, mid_row hs hx htb⟩).mono fun e w'' ⟨v, he, hv, hy⟩ => by
    obtain ⟨a', n', c', rfl, hs'⟩ := hv.opens
    exact ⟨_, _, a', n', c', Lib.hid rfl, he, Lib.hid hs', hy⟩
theorem rrem_mid (hs : Seats (Lo (B + 1)) wr (.slice a n c) r.seats) (hx : Ext (At tb) wr w') (htb : tb ≤ B) (hB : B < wr.heap.size) (id : Int) :
    Calls Try.prog 25 #[.agg #[.int .i64 r.base, .int .i64 r.per, .slice a n c, .int .i64 r.cur, .bool r.opn], .int .i64 id] w' fun e w'' => ∃ r' er a' n' c', Hid (ringRemove r id = (r', er)) ∧
      e = .returned (.tuple #[.agg #[.int .i64 r'.base, .int .i64 r'.per, .slice a' n' c', .int .i64 r'.cur, .bool r'.opn], .bool er]) ∧ Hid (Seats (Mid B wr.heap.size w'.heap.size) w'' (.slice a' n' c') r'.seats) ∧ Ext No w' w'' :=
  (rremove_any (Mid B wr.heap.size w'.heap.size) _ r id w' (mid_lt hx hB) ⟨_, rfl, mid_row hs hx htb⟩).mono fun e w'' ⟨v, he, hv, hy⟩ => by
    obtain ⟨a', n', c', rfl, hs'⟩ := hv.opens
    exact ⟨_, _, a', n', c', Lib.hid rfl, he, Lib.hid hs', hy⟩
theorem rpick_mid (hs : Seats (Lo (B + 1)) wr (.slice a n c) r.seats) (hx : Ext (At tb) wr w') (htb : tb ≤ B) (hB : B < wr.heap.size) :
    Calls Try.prog 11 #[.agg #[.int .i64 r.base, .int .i64 r.per, .slice a n c, .int .i64 r.cur, .bool r.opn]] w' fun e w'' => ∃ r' id t ok a' n' c', Hid ((ringPick r).ring = r') ∧
      e = .returned (.tuple #[.agg #[.int .i64 r'.base, .int .i64 r'.per, .slice a' n' c', .int .i64 r'.cur, .bool r'.opn], .int .i64 id, t, .bool ok]) ∧ Hid (Seats (Mid B wr.heap.size w'.heap.size) w'' (.slice a' n' c') r'.seats) ∧ Ext No w' w'' :=
  (rpick_any (Mid B wr.heap.size w'.heap.size) _ r w' (mid_lt hx hB) ⟨_, rfl, mid_row hs hx htb⟩).mono fun e w'' ⟨v, t, he, hv, _, hy⟩ => by
    obtain ⟨a', n', c', rfl, hs'⟩ := hv.opens
    exact ⟨_, _, t, _, a', n', c', Lib.hid rfl, he, Lib.hid hs', hy⟩
theorem rspend_mid (hs : Seats (Lo (B + 1)) wr (.slice a n c) r.seats) (hx : Ext (At tb) wr w') (htb : tb ≤ B) (hB : B < wr.heap.size) (cost : Int) (fin : Bool) :
    Calls Try.prog 26 #[.agg #[.int .i64 r.base, .int .i64 r.per, .slice a n c, .int .i64 r.cur, .bool r.opn], .int .i64 cost, .bool fin] w' fun e w'' => ∃ r' b er a' n' c', Hid (ringSpend r cost fin = (r', b, er)) ∧
      e = .returned (.tuple #[.agg #[.int .i64 r'.base, .int .i64 r'.per, .slice a' n' c', .int .i64 r'.cur, .bool r'.opn], .bool b, .int .i64 er]) ∧ Hid (Seats (Mid B wr.heap.size w'.heap.size) w'' (.slice a' n' c') r'.seats) ∧ Ext No w' w'' :=
  (rspend_any (Mid B wr.heap.size w'.heap.size) _ r cost fin w' (mid_lt hx hB) ⟨_, rfl, mid_row hs hx htb⟩).mono fun e w'' ⟨v, he, hv, hy⟩ => by
    obtain ⟨a', n', c', rfl, hs'⟩ := hv.opens
    exact ⟨_, _, _, a', n', c', Lib.hid rfl, he, Lib.hid hs', hy⟩
end

/-- where the generator's loop stands: the ring lies in block B -/
structure GenMem (w0 : World) (tb B : Nat) (wr : World) (r : Ring) (a : Option Addr) (n c : Nat) : Prop where
  small : Small r
  box : wr.heap[B]? = some (.cells #[.int .i64 r.base, .int .i64 r.per, .slice a n c, .int .i64 r.cur, .bool r.opn] 25 (0, 0))
  out : wr.heap[w0.heap.size]? = some (.cells #[.int .i64 0, .int .i64 0, .slice none 0 0, .int .i64 0, .bool false] 25 (0, 0))
  seats : Seats (Lo (B + 1)) wr (.slice a n c) r.seats
  tape : TapeOk wr tb
  ext : Ext (At tb) w0 wr
  tb : tb < w0.heap.size
  top : w0.heap.size < B
/-- what a call leaves in a variable of its own, beside the ring -/
def GenCut (w0 : World) (tb B : Nat) (r : Ring) (a : Option Addr) (n c : Nat) (good : Ring → Int → Prop) (s6 s7 : Value) (wx : World) : Prop :=
  ∃ D r' er a' n' c', s6 = .pointer (some ⟨D, 0, none⟩) ∧ s7 = .int .i64 er ∧ B < D ∧ good r' er ∧ wx.heap[D]? = some (.cells #[.int .i64 r'.base, .int .i64 r'.per, .slice a' n' c', .int .i64 r'.cur, .bool r'.opn] 25 (0, 0)) ∧
    Seats (Lo (B + 1)) wx (.slice a' n' c') r'.seats ∧ GenMem w0 tb B wx r a n c
theorem GenMem.step {w0 wr w' : World} {tb B n c : Nat} {r : Ring} {a : Option Addr} (h : GenMem w0 tb B wr r a n c) (hx : Ext (At tb) wr w') (ht : TapeOk w' tb) : GenMem w0 tb B w' r a n c := by
  have h1 := h.tb
  have h2 := h.top
  exact ⟨h.small, (hx.block B (lt_of_block h.box) (by unfold At; omega)).trans h.box, (hx.block _ (lt_of_block h.out) (by unfold At; omega)).trans h.out, Row.ext h.seats hx (fun i _ e => by cases e; exact (by unfold Lo; omega)), ht, h.ext.trans hx, h1, h2⟩
theorem GenMem.stepNo {w0 wr w' : World} {tb B n c : Nat} {r : Ring} {a : Option Addr} (h : GenMem w0 tb B wr r a n c) (hx : Ext No wr w') : GenMem w0 tb B w' r a n c := h.step hx.ofNo (h.tape.ext hx)
theorem GenMem.set {w0 wr w' : World} {tb B n c : Nat} {r r' : Ring} {a a' : Option Addr} {n' c' : Nat} (h : GenMem w0 tb B wr r a n c) (hs : Seats (Lo (B + 1)) wr (.slice a' n' c') r'.seats) (hr : Small r')
    (hw : w' = wr5 wr B (.int .i64 r'.base) (.int .i64 r'.per) (.slice a' n' c') (.int .i64 r'.cur) (.bool r'.opn)) : GenMem w0 tb B w' r' a' n' c' := by
  subst hw
  have h1 := h.tb
  have h2 := h.top
  have hx : Ext (At B) wr (wr5 wr B (.int .i64 r'.base) (.int .i64 r'.per) (.slice a' n' c') (.int .i64 r'.cur) (.bool r'.opn)) := wr5_ext
  refine ⟨hr, wr5_blk h.box, (hx.block _ (lt_of_block h.out) (by unfold At; omega)).trans h.out, wr5_row hs, h.tape.extAbove hx (fun i hi => by unfold At; omega), h.ext.trans2 hx (fun i hi e => by cases e; exact absurd hi (by omega)), h1, h2⟩
theorem GenCut.late {w0 w3 : World} {tb B n c : Nat} {r r' : Ring} {a a' : Option Addr} {n' c' : Nat} {er : Int} {good : Ring → Int → Prop} {M : Nat → Prop} (h : GenMem w0 tb B w3 r a n c) (hs : Seats M w3 (.slice a' n' c') r'.seats) (hM : ∀ k, k ≤ B → M k) (hg : good r' er) :
    GenCut w0 tb B r a n c good (.pointer (some ⟨w3.heap.size, 0, none⟩)) (.int .i64 er) (w3.alloc (.cells #[.int .i64 r'.base, .int .i64 r'.per, .slice a' n' c', .int .i64 r'.cur, .bool r'.opn] 25)) :=
  ⟨_, r', er, a', n', c', rfl, rfl, lt_of_block h.box, hg, alloc_top rfl, Row.extNo (Row.mono hs (fun i _ hm => hM i (Nat.le_of_lt_succ hm))) ((Ext.refl _ _).alloc _), h.stepNo ((Ext.refl _ _).alloc _)⟩
theorem GenCut.early {w0 w3 : World} {tb B n c D : Nat} {r r' : Ring} {a a' : Option Addr} {n' c' : Nat} {er : Int} {good : Ring → Int → Prop} {M : Nat → Prop} (h : GenMem w0 tb B w3 r a n c) (hs0 : Seats M w3 (.slice a n c) r.seats) (hs : Seats M w3 (.slice a' n' c') r'.seats) (hM : ∀ k, k ≤ B → M k) (hD : M D) (hBD : B < D) (hg : good r' er)
    (hz : w3.heap[D]? = some (.cells #[.int .i64 0, .int .i64 0, .slice none 0 0, .int .i64 0, .bool false] 25 (0, 0))) :
    GenCut w0 tb B r a n c good (.pointer (some ⟨D, 0, none⟩)) (.int .i64 er) (((((w3.setCell ⟨D, 0, none⟩ (.int .i64 r'.base)).setCell ⟨D, 1, none⟩ (.int .i64 r'.per)).setCell ⟨D, 2, none⟩ (.slice a' n' c')).setCell ⟨D, 3, none⟩ (.int .i64 r'.cur)).setCell ⟨D, 4, none⟩ (.bool r'.opn)) := by
  have h1 := h.tb
  have h2 := h.top
  have hx : Ext (At D) w3 (wr5 w3 D (.int .i64 r'.base) (.int .i64 r'.per) (.slice a' n' c') (.int .i64 r'.cur) (.bool r'.opn)) := wr5_ext
  refine ⟨D, r', er, a', n', c', rfl, rfl, hBD, hg, wr5_blk hz, (Row.ext hs hx (fun i _ e => by cases e; exact hD)).mono (fun i _ hm => hM i (Nat.le_of_lt_succ hm)), ?_⟩
  exact ⟨h.small, (hx.block _ (lt_of_block h.box) (by unfold At; omega)).trans h.box, (hx.block _ (lt_of_block h.out) (by unfold At; omega)).trans h.out, (Row.ext hs0 hx (fun i _ e => by cases e; exact hD)).mono (fun i _ hm => hM i (Nat.le_of_lt_succ hm)), h.tape.extAbove hx (fun i hi => by unfold At; omega), h.ext.trans2 hx (fun i hi e => by cases e; exact absurd hi (by omega)), h1, h2⟩
end Go.Proofs.Ytckeidboolfcoaa

/- The law RotaLast: what lies in memory. -/
import Derived.Test.YtckeidboolfcoaaRota39
namespace Go.Proofs.Ytckeidboolfcoaa
open Go Go.RowKit

theorem ppick_M {M : Nat → Prop} {w : World} {n c : Nat} {r : Ring} {a : Option Addr} (hM : ∀ b, M b → b < w.heap.size) (hs : Seats M w (.slice a n c) r.seats) :
    Calls Try.prog 21 #[.agg #[.int .i64 r.base, .int .i64 r.per, .slice a n c, .int .i64 r.cur, .bool r.opn]] w fun e w'' => ∃ (a' : Option Addr) (n' c' : Nat) (ta : Option Addr) (tc : Nat),
      e = .returned (.tuple #[.agg #[.int .i64 (ringPick r).ring.base, .int .i64 (ringPick r).ring.per, .slice a' n' c', .int .i64 (ringPick r).ring.cur, .bool (ringPick r).ring.opn], .int .i64 (ringPick r).id, .slice ta (ringPick r).turns.length tc, .bool (ringPick r).ok]) ∧ Hid (Seats M w'' (.slice a' n' c') (ringPick r).ring.seats) ∧ Hid (Turns M w'' (.slice ta (ringPick r).turns.length tc) (ringPick r).turns) ∧ Ext No w w'' :=
  (pick_any M _ r w hM ⟨_, rfl, hs⟩).mono fun e w'' ⟨v, t, he, hv, ht, hy⟩ => by
    obtain ⟨a', n', c', rfl, hs'⟩ := hv.opens
    obtain ⟨ta, tc, rfl⟩ := Row.slice ht
    exact ⟨a', n', c', ta, tc, he, Lib.hid hs', Lib.hid ht, hy⟩
theorem pspend_M {M : Nat → Prop} {w : World} {n c : Nat} {r : Ring} {a : Option Addr} (hM : ∀ b, M b → b < w.heap.size) (hs : Seats M w (.slice a n c) r.seats) (cost : Int) (fin : Bool) :
    Calls Try.prog 22 #[.agg #[.int .i64 r.base, .int .i64 r.per, .slice a n c, .int .i64 r.cur, .bool r.opn], .int .i64 cost, .bool fin] w fun e w'' => ∃ (a' : Option Addr) (n' c' : Nat),
      e = .returned (.tuple #[.agg #[.int .i64 (ringSpend r cost fin).1.base, .int .i64 (ringSpend r cost fin).1.per, .slice a' n' c', .int .i64 (ringSpend r cost fin).1.cur, .bool (ringSpend r cost fin).1.opn], .bool (ringSpend r cost fin).2.1, .int .i64 (ringSpend r cost fin).2.2]) ∧ Hid (Seats M w'' (.slice a' n' c') (ringSpend r cost fin).1.seats) ∧ Ext No w w'' :=
  (spend_any M _ r cost fin w hM ⟨_, rfl, hs⟩).mono fun e w'' ⟨v, he, hv, hy⟩ => by
    obtain ⟨a', n', c', rfl, hs'⟩ := hv.opens
    exact ⟨a', n', c', he, Lib.hid hs', hy⟩

/-- D, or the block of what the call itself has filled -/
def MS (D : Nat) (sv : Value) : Nat → Prop := fun b => b = D ∨ sv.ownBlock = some b
theorem Row.app {D s n : Nat} {sv v' sl : Value} {wr w1 : World} {o : Obj} {vs : List Value} (h : Row (MS D sv) wr s sl n vs) (hg : (wr.alloc o).grownBy w1 sv.ownBlock) (hb : v'.ownBlock = sv.ownBlock ∨ v'.ownBlock = some (wr.alloc o).heap.size) : Row (MS D v') w1 s sl n vs := by
  have hx : Ext (fun k => sv.ownBlock = some k) wr w1 := ((Ext.refl _ _).alloc o).grown hg (fun k hk _ => hk)
  obtain ⟨h1, h2, a, cap, h3, hcp, h4⟩ := h
  refine ⟨h1, h2, a, cap, h3, hcp, ?_⟩
  rcases h4 with h4 | ⟨b, off, h5, h6, h7, h8⟩
  · exact .inl h4
  · have hn : ¬ sv.ownBlock = some b := fun e => h7 (.inr e)
    refine .inr ⟨b, off, h5, Nat.lt_of_lt_of_le h6 hx.size, fun e => ?_, fun j u hj => (hx.cell (p := ⟨b, off + j, none⟩) h6 hn).trans (h8 j u hj)⟩
    rcases e with e | e
    · exact h7 (.inl e)
    · rcases hb with hb | hb
      · exact hn (hb ▸ e)
      · rw [hb] at e; simp at e; omega

structure LMem (w0 wr : World) (B D : Nat) (r : Ring) (a : Option Addr) (n c : Nat) (q : Ring) (a' : Option Addr) (n' c' : Nat) (base : Nat) (sv : Value) (seen : List Int) : Prop where
  boxR : wr.heap[B]? = some (.cells #[.int .i64 r.base, .int .i64 r.per, .slice a n c, .int .i64 r.cur, .bool r.opn] 25 (0, 0))
  seatsR : Seats (MS D sv) wr (.slice a n c) r.seats
  boxQ : wr.heap[D]? = some (.cells #[.int .i64 q.base, .int .i64 q.per, .slice a' n' c', .int .i64 q.cur, .bool q.opn] 25 (0, 0))
  seatsQ : Seats (MS D sv) wr (.slice a' n' c') q.seats
  own : wr.ownsRow base 3 1 sv seen.length (seen.map (.int .i64))
  ext : Ext No w0 wr
  lo : w0.heap.size ≤ B
  BD : B < D
  big : D < base
  bw : base ≤ wr.heap.size
structure XMem (wr : World) (D E : Nat) (x : Ring) (ax : Option Addr) (nx cx : Nat) (tl : Value) (ts : List Turn) (sv : Value) : Prop where
  boxX : wr.heap[E]? = some (.cells #[.int .i64 x.base, .int .i64 x.per, .slice ax nx cx, .int .i64 x.cur, .bool x.opn] 25 (0, 0))
  seatsX : Seats (MS D sv) wr (.slice ax nx cx) x.seats
  turns : Turns (MS D sv) wr tl ts
  ne : sv.ownBlock ≠ some E
  big : D < E
section
variable {w0 wr w' w1 : World} {B D E n c n' c' nx cx base : Nat} {r q x : Ring} {a a' ax : Option Addr} {sv v' tl : Value} {seen : List Int} {ts : List Turn} {o : Obj}
theorem LMem.stepNo (h : LMem w0 wr B D r a n c q a' n' c' base sv seen) (hx : Ext No wr w') : LMem w0 w' B D r a n c q a' n' c' base sv seen :=
  ⟨hx.blk h.boxR (fun x => x.elim), Row.extNo h.seatsR hx, hx.blk h.boxQ (fun x => x.elim), Row.extNo h.seatsQ hx, ownsRow_ext h.own hx (fun _ _ x => x), h.ext.transNo hx, h.lo, h.BD, h.big, Nat.le_trans h.bw hx.size⟩
theorem XMem.stepNo (h : XMem wr D E x ax nx cx tl ts sv) (hx : Ext No wr w') : XMem w' D E x ax nx cx tl ts sv :=
  ⟨hx.blk h.boxX (fun x => x.elim), Row.extNo h.seatsX hx, Row.extNo h.turns hx, h.ne, h.big⟩
theorem LMem.drewN (h : LMem w0 wr B D r a n c q a' n' c' base sv seen) (k : Nat) : LMem w0 (wr.drewN k) B D r a n c q a' n' c' base sv seen := h.stepNo ((Ext.refl _ _).drewN k)
theorem XMem.drewN (h : XMem wr D E x ax nx cx tl ts sv) (k : Nat) : XMem (wr.drewN k) D E x ax nx cx tl ts sv := h.stepNo ((Ext.refl _ _).drewN k)
theorem LMem.hM (h : LMem w0 wr B D r a n c q a' n' c' base sv seen) : ∀ b, MS D sv b → b < wr.heap.size := fun b hb => by
  rcases hb with hb | hb
  · rw [hb]; exact lt_of_block h.boxQ
  · exact (World.ownsRow.lt h.own b hb).2
theorem LMem.ne (h : LMem w0 wr B D r a n c q a' n' c' base sv seen) {k : Nat} (hk : sv.ownBlock = some k) : base ≤ k := (World.ownsRow.lt h.own k hk).1
theorem LMem.set (h : LMem w0 wr B D r a n c q a' n' c' base sv seen) (hs : Seats (MS D sv) wr (.slice ax nx cx) x.seats) (hw : w' = wr5 wr D (.int .i64 x.base) (.int .i64 x.per) (.slice ax nx cx) (.int .i64 x.cur) (.bool x.opn)) : LMem w0 w' B D r a n c x ax nx cx base sv seen := by
  subst hw
  have h1 := h.lo
  have h2 := h.BD
  have h3 := h.big
  have hx : Ext (At D) wr (wr5 wr D (.int .i64 x.base) (.int .i64 x.per) (.slice ax nx cx) (.int .i64 x.cur) (.bool x.opn)) := wr5_ext
  have hM : ∀ i, i < wr.heap.size → At D i → MS D sv i := fun i _ e => by cases e; exact .inl rfl
  exact ⟨hx.blk h.boxR (by unfold At; omega), Row.ext h.seatsR hx hM, wr5_blk h.boxQ, Row.ext hs hx hM, ownsRow_ext h.own hx (fun i hi => by unfold At; omega), h.ext.trans2 hx (fun i hi e => by cases e; exact absurd hi (by omega)), h1, h2, h3, Nat.le_trans h.bw hx.size⟩
theorem LMem.app {y : Int} (h : LMem w0 wr B D r a n c q a' n' c' base sv seen) (ho : w1.ownsRow base 3 1 v' (seen.length + 1) (seen.map (.int .i64) ++ [.int .i64 y])) (hg : (wr.alloc o).grownBy w1 sv.ownBlock) (hb : v'.ownBlock = sv.ownBlock ∨ v'.ownBlock = some (wr.alloc o).heap.size) :
    LMem w0 w1 B D r a n c q a' n' c' base v' (seen ++ [y]) := by
  have h1 := h.lo
  have h2 := h.BD
  have h3 := h.big
  have hx : Ext (fun k => sv.ownBlock = some k) wr w1 := ((Ext.refl _ _).alloc o).grown hg (fun k hk _ => hk)
  refine ⟨hx.blk h.boxR (fun e => by have := h.ne e; omega), Row.app h.seatsR hg hb, hx.blk h.boxQ (fun e => by have := h.ne e; omega), Row.app h.seatsQ hg hb, ?_, h.ext.trans2 hx (fun i hi e => by have := h.ne e; omega), h1, h2, h3, Nat.le_trans h.bw hx.size⟩
  rw [List.length_append, List.length_singleton, List.map_append]
  exact ho
theorem XMem.app (h : XMem wr D E x ax nx cx tl ts sv) (hg : (wr.alloc o).grownBy w1 sv.ownBlock) (hb : v'.ownBlock = sv.ownBlock ∨ v'.ownBlock = some (wr.alloc o).heap.size) : XMem w1 D E x ax nx cx tl ts v' := by
  have hx : Ext (fun k => sv.ownBlock = some k) wr w1 := ((Ext.refl _ _).alloc o).grown hg (fun k hk _ => hk)
  refine ⟨hx.blk h.boxX h.ne, Row.app h.seatsX hg hb, Row.app h.turns hg hb, fun e => ?_, h.big⟩
  rcases hb with hb | hb
  · exact h.ne (hb ▸ e)
  · rw [hb] at e
    have := lt_of_block h.boxX
    simp at e; omega
theorem XMem.made (h : LMem w0 wr B D r a n c q a' n' c' base sv seen) (hx : Ext No wr w') (hs : Seats (MS D sv) w' (.slice ax nx cx) x.seats) (ht : Turns (MS D sv) w' tl ts) :
    LMem w0 (w'.alloc (.cells #[.int .i64 x.base, .int .i64 x.per, .slice ax nx cx, .int .i64 x.cur, .bool x.opn] 25)) B D r a n c q a' n' c' base sv seen ∧
    XMem (w'.alloc (.cells #[.int .i64 x.base, .int .i64 x.per, .slice ax nx cx, .int .i64 x.cur, .bool x.opn] 25)) D w'.heap.size x ax nx cx tl ts sv :=
  ⟨h.stepNo (hx.alloc _), alloc_top rfl, Row.extNo hs ((Ext.refl _ _).alloc _), Row.extNo ht ((Ext.refl _ _).alloc _), fun e => by have := (World.ownsRow.lt h.own _ e).2; have := hx.size; omega, Nat.lt_of_lt_of_le (lt_of_block h.boxQ) hx.size⟩
/-- the numbers seen so far, as a slice -/
theorem LMem.seenAt (h : LMem w0 wr B D r a n c q a' n' c' base sv seen) {k : Nat} (hk : k < seen.length) : ∃ g cap, sv = .slice (some ⟨g, 0, none⟩) seen.length cap ∧ wr.cell? ⟨g, k, none⟩ = some (.int .i64 seen[k]) := by
  obtain ⟨g, off, cap, h1, _, _, h4⟩ := Row.shape (Row.ofOwns (M := No) h.own (fun _ _ x => x)) (by omega)
  have h2 := h.own
  rcases h2.2 with ⟨_, h0⟩ | ⟨g', cap', cur, h3, _⟩
  · omega
  · rw [h3] at h1
    simp only [Value.slice.injEq, Option.some.injEq, Addr.mk.injEq] at h1
    obtain ⟨⟨rfl, rfl, _⟩, _, rfl⟩ := h1
    have := h4 k (.int .i64 seen[k]) (by simp [hk])
    rw [Nat.zero_add] at this
    exact ⟨g', cap', h3, this⟩
theorem LMem.shape (h : LMem w0 wr B D r a n c q a' n' c' base sv seen) : ∃ g cap, sv = .slice g seen.length cap := (Row.ofOwns (M := No) h.own (fun _ _ x => x)).slice
end
end Go.Proofs.Ytckeidboolfcoaa

/- The law RotaAgrees: the walk. -/
import Derived.Test.YtckeidboolfcoaaRota31
namespace Go.Proofs.Ytckeidboolfcoaa
open Go Go.RowKit

theorem seatsNo {M : Nat → Prop} {w : World} {sl : Value} {l : List Seat} (h : Seats M w sl l) : Seats No w sl l := Row.mono h (fun _ _ x => x.elim)

/-- what a round of the law holds in memory: three rings, each in a box and with its seats; the tape -/
structure AgB (w0 w' : World) (tb : Nat) (B1 B2 B3 : Nat) (r1 r2 r3 : Ring) (a1 a2 a3 : Option Addr) (n1 n2 n3 c1 c2 c3 : Nat) (o0 : Obj) : Prop where
  box1 : w'.heap[B1]? = some (.cells #[.int .i64 r1.base, .int .i64 r1.per, .slice a1 n1 c1, .int .i64 r1.cur, .bool r1.opn] 25 (0, 0))
  box2 : w'.heap[B2]? = some (.cells #[.int .i64 r2.base, .int .i64 r2.per, .slice a2 n2 c2, .int .i64 r2.cur, .bool r2.opn] 25 (0, 0))
  box3 : w'.heap[B3]? = some (.cells #[.int .i64 r3.base, .int .i64 r3.per, .slice a3 n3 c3, .int .i64 r3.cur, .bool r3.opn] 25 (0, 0))
  s1 : Seats (At tb) w' (.slice a1 n1 c1) r1.seats
  s2 : Seats (At tb) w' (.slice a2 n2 c2) r2.seats
  s3 : Seats (At tb) w' (.slice a3 n3 c3) r3.seats
  tape : TapeOk w' tb
  arg : w'.heap[w0.heap.size]? = some o0
  ext : Ext No w0 w'
  n1 : B1 ≠ tb
  n2 : B2 ≠ tb
  n3 : B3 ≠ tb
  nt : w0.heap.size < tb
section
variable {w0 w w' : World} {tb B1 B2 B3 : Nat} {r1 r2 r3 : Ring} {a1 a2 a3 : Option Addr} {n1 n2 n3 c1 c2 c3 : Nat} {o0 : Obj}
theorem AgB.step (h : AgB w0 w tb B1 B2 B3 r1 r2 r3 a1 a2 a3 n1 n2 n3 c1 c2 c3 o0) (hx : Ext (At tb) w w') (ht : TapeOk w' tb) : AgB w0 w' tb B1 B2 B3 r1 r2 r3 a1 a2 a3 n1 n2 n3 c1 c2 c3 o0 := by
  have h1 := h.nt
  exact ⟨hx.blk h.box1 h.n1, hx.blk h.box2 h.n2, hx.blk h.box3 h.n3, Row.ext h.s1 hx (fun _ _ x => x), Row.ext h.s2 hx (fun _ _ x => x), Row.ext h.s3 hx (fun _ _ x => x), ht, hx.blk h.arg (by unfold At; omega), h.ext.trans2 hx (fun i hi e => by cases e; exact absurd hi (by omega)), h.n1, h.n2, h.n3, h1⟩
theorem AgB.drew (h : AgB w0 w tb B1 B2 B3 r1 r2 r3 a1 a2 a3 n1 n2 n3 c1 c2 c3 o0) : AgB w0 w.drew tb B1 B2 B3 r1 r2 r3 a1 a2 a3 n1 n2 n3 c1 c2 c3 o0 := h.step (Ext.refl _ _).drew h.tape.drew
theorem AgB.cells (h : AgB w0 w tb B1 B2 B3 r1 r2 r3 a1 a2 a3 n1 n2 n3 c1 c2 c3 o0) :
    w.cell? ⟨B1, 0, none⟩ = some (.int .i64 r1.base) ∧ w.cell? ⟨B1, 1, none⟩ = some (.int .i64 r1.per) ∧ w.cell? ⟨B1, 2, none⟩ = some (.slice a1 n1 c1) ∧ w.cell? ⟨B1, 3, none⟩ = some (.int .i64 r1.cur) ∧ w.cell? ⟨B1, 4, none⟩ = some (.bool r1.opn) ∧
    w.cell? ⟨B2, 0, none⟩ = some (.int .i64 r2.base) ∧ w.cell? ⟨B2, 1, none⟩ = some (.int .i64 r2.per) ∧ w.cell? ⟨B2, 2, none⟩ = some (.slice a2 n2 c2) ∧ w.cell? ⟨B2, 3, none⟩ = some (.int .i64 r2.cur) ∧ w.cell? ⟨B2, 4, none⟩ = some (.bool r2.opn) ∧
    w.cell? ⟨B3, 0, none⟩ = some (.int .i64 r3.base) ∧ w.cell? ⟨B3, 1, none⟩ = some (.int .i64 r3.per) ∧ w.cell? ⟨B3, 2, none⟩ = some (.slice a3 n3 c3) ∧ w.cell? ⟨B3, 3, none⟩ = some (.int .i64 r3.cur) ∧ w.cell? ⟨B3, 4, none⟩ = some (.bool r3.opn) ∧
    AgB w0 w tb B1 B2 B3 r1 r2 r3 a1 a2 a3 n1 n2 n3 c1 c2 c3 o0 :=
  ⟨cellOf h.box1 0, cellOf h.box1 1, cellOf h.box1 2, cellOf h.box1 3, cellOf h.box1 4, cellOf h.box2 0, cellOf h.box2 1, cellOf h.box2 2, cellOf h.box2 3, cellOf h.box2 4, cellOf h.box3 0, cellOf h.box3 1, cellOf h.box3 2, cellOf h.box3 3, cellOf h.box3 4, h⟩
theorem AgB.next (h : AgB w0 w tb B1 B2 B3 r1 r2 r3 a1 a2 a3 n1 n2 n3 c1 c2 c3 o0) (q : Int) (hq1 : 1 ≤ q) (hq2 : q ≤ 9223372036854775807) :
    Calls Try.prog 13 #[.pointer (some ⟨tb, 0, none⟩), .int .i64 q] w fun e w' => ∃ z : Nat, e = .returned (.int .i64 z) ∧ (z : Int) < q ∧ AgB w0 w' tb B1 B2 B3 r1 r2 r3 a1 a2 a3 n1 n2 n3 c1 c2 c3 o0 :=
  (next_lt tb q hq1 hq2 w h.tape).mono fun _ _ ⟨z, he, hz, ht, hx, _⟩ => ⟨z, he, hz, h.step hx ht⟩
theorem AgB.agrees1 (h : AgB w0 w tb B1 B2 B3 r1 r2 r3 a1 a2 a3 n1 n2 n3 c1 c2 c3 o0) (id n : Int) (f : Bool) :
    Calls Try.prog 12 #[.agg #[.int .i64 r1.base, .int .i64 r1.per, .slice a1 n1 c1, .int .i64 r1.cur, .bool r1.opn], .int .i64 id, .int .i64 n, .bool f] w fun e w' => e = .returned (.bool true) ∧ AgB w0 w' tb B1 B2 B3 r1 r2 r3 a1 a2 a3 n1 n2 n3 c1 c2 c3 o0 :=
  (agrees_any _ r1 id n f w ⟨_, rfl, seatsNo h.s1⟩).mono fun _ _ ⟨he, hx⟩ => ⟨he, h.step hx.ofNo (h.tape.ext hx)⟩
theorem AgB.agrees2 (h : AgB w0 w tb B1 B2 B3 r1 r2 r3 a1 a2 a3 n1 n2 n3 c1 c2 c3 o0) (id n : Int) (f : Bool) :
    Calls Try.prog 12 #[.agg #[.int .i64 r2.base, .int .i64 r2.per, .slice a2 n2 c2, .int .i64 r2.cur, .bool r2.opn], .int .i64 id, .int .i64 n, .bool f] w fun e w' => e = .returned (.bool true) ∧ AgB w0 w' tb B1 B2 B3 r1 r2 r3 a1 a2 a3 n1 n2 n3 c1 c2 c3 o0 :=
  (agrees_any _ r2 id n f w ⟨_, rfl, seatsNo h.s2⟩).mono fun _ _ ⟨he, hx⟩ => ⟨he, h.step hx.ofNo (h.tape.ext hx)⟩
theorem AgB.agrees3 (h : AgB w0 w tb B1 B2 B3 r1 r2 r3 a1 a2 a3 n1 n2 n3 c1 c2 c3 o0) (id n : Int) (f : Bool) :
    Calls Try.prog 12 #[.agg #[.int .i64 r3.base, .int .i64 r3.per, .slice a3 n3 c3, .int .i64 r3.cur, .bool r3.opn], .int .i64 id, .int .i64 n, .bool f] w fun e w' => e = .returned (.bool true) ∧ AgB w0 w' tb B1 B2 B3 r1 r2 r3 a1 a2 a3 n1 n2 n3 c1 c2 c3 o0 :=
  (agrees_any _ r3 id n f w ⟨_, rfl, seatsNo h.s3⟩).mono fun _ _ ⟨he, hx⟩ => ⟨he, h.step hx.ofNo (h.tape.ext hx)⟩
end

set_option maxRecDepth 100000 in
set_option maxHeartbeats 8000000 in
theorem rotaAgrees_any (tl : Value) (zs : List Int) (r : Ring) (a : Option Addr) (n c : Nat) (id k : Int) (flag : Bool) (w : World) (ht : Ints No w .i64 tl zs) (hs : Seats No w (.slice a n c) r.seats) :
    Calls Try.prog 3 #[tl, .agg #[.int .i64 r.base, .int .i64 r.per, .slice a n c, .int .i64 r.cur, .bool r.opn], .int .i64 id, .int .i64 k, .bool flag] w fun e w' => e = .returned (.bool true) ∧ Ext No w w' := by
  have HS := Lib.hid hs
  have HT := Lib.hid ht
  obtain ⟨at', ct', rfl⟩ := ht.slice
  obtain ⟨a', c', hsl⟩ := hs.slice
  simp only [Value.slice.injEq] at hsl
  obtain ⟨rfl, rfl, rfl⟩ := hsl
  clear hs ht
  go_enter Try.func3, Try.ntmps3
  go_wp2_with fail
  refine (new_any _ zs _ (Row.extNo HT.out ((Ext.refl _ _).alloc _))).mono ?_
  rintro e1 w1 ⟨rfl, ht1, hx1, hs1⟩
  have h1 : Hid (TapeOk w1 (w.heap.size + 1) ∧ w1.heap[w.heap.size]? = some (.cells #[.int .i64 r.base, .int .i64 r.per, .slice a r.seats.length c, .int .i64 r.cur, .bool r.opn] 25 (0, 0)) ∧ Ext No w w1) :=
    Lib.hid ⟨by simpa using ht1, hx1.blk (alloc_top rfl) (fun x => x.elim), ((Ext.refl No w).alloc _).transNo hx1⟩
  clear ht1 hx1 hs1
  go_wp2_with fail
  go_loopw [12] (fun i wr => ∃ j : Nat, j ≤ 5 ∧ i = .int .i64 j ∧ Hid (TapeOk wr (w.heap.size + 1) ∧ wr.heap[w.heap.size]? = some (.cells #[.int .i64 r.base, .int .i64 r.per, .slice a r.seats.length c, .int .i64 r.cur, .bool r.opn] 25 (0, 0)) ∧ Ext No w wr)) (fun i _ => 5 - (intOf i).toNat)
  case atStart => exact ⟨0, by omega, rfl, h1⟩
  case round =>
    obtain ⟨j, hj, rfl, hm⟩ := hrel
    by_cases hlt : j < 5
    · have htl := hm.out.1.lt
      go_wp2_with fail
      refine (ring_any _ _ hm.out.1).mono ?_
      rintro e2 w2 ⟨r1, a1, n1, c1, hr1, rfl, hs1, ht2, hx2⟩
      have H2 := Lib.hid (show Small r1 ∧ Seats (At (w.heap.size + 1)) w2 (.slice a1 n1 c1) r1.seats ∧ TapeOk w2 (w.heap.size + 1) ∧ w2.heap[w.heap.size]? = _ ∧ Ext No w w2 from
        ⟨hr1, Row.mono hs1 (fun i _ e => by cases e; exact htl), ht2, hx2.blk hm.out.2.1 (by unfold At; omega), hm.out.2.2.trans2 hx2 (fun i hi e => by cases e; exact absurd hi (by omega))⟩)
      have hsz2 := hx2.size
      clear hr1 hs1 ht2 hx2
      go_wp2_with fail
      refine (spoil_any (w.heap.size + 1) r1 a1 n1 c1 _ H2.out.2.2.1.alloc (seatsNo (Row.extNo H2.out.2.1 ((Ext.refl _ _).alloc _))) H2.out.1.ok.len).mono ?_
      rintro e3 w3 ⟨r2, a2, n2, c2, rfl, hs3, ht3, hx3⟩
      have htl2 : w.heap.size + 1 < w2.heap.size := by omega
      have hx3' : Ext (At (w.heap.size + 1)) w2 w3 := ((Ext.refl _ _).alloc (.cells #[.int .i64 r1.base, .int .i64 r1.per, .slice a1 n1 c1, .int .i64 r1.cur, .bool r1.opn] 25)).trans hx3
      have hb1 := hx3.blk (alloc_top (w := w2) (o := (.cells #[.int .i64 r1.base, .int .i64 r1.per, .slice a1 n1 c1, .int .i64 r1.cur, .bool r1.opn] 25)) rfl) (by unfold At; omega)
      have H3 := Lib.hid (show w3.heap[w2.heap.size]? = some (.cells #[.int .i64 r1.base, .int .i64 r1.per, .slice a1 n1 c1, .int .i64 r1.cur, .bool r1.opn] 25) ∧ Seats (At (w.heap.size + 1)) w3 (.slice a1 n1 c1) r1.seats ∧ Seats (At (w.heap.size + 1)) w3 (.slice a2 n2 c2) r2.seats ∧ TapeOk w3 (w.heap.size + 1) ∧ w3.heap[w.heap.size]? = _ ∧ Ext No w w3 from
        ⟨hb1, Row.ext H2.out.2.1 hx3' (fun _ _ x => x), Row.mono hs3 (fun i _ e => by cases e; exact (by simp [Lo]; omega)), ht3, hx3'.blk H2.out.2.2.2.1 (by unfold At; omega), H2.out.2.2.2.2.trans2 hx3' (fun i hi e => by cases e; exact absurd hi (by omega))⟩)
      have hsz3 : w2.heap.size < w3.heap.size := lt_of_block hb1
      have cB := cellOf (alloc_under (o := (.cells #[.int .i64 r2.base, .int .i64 r2.per, .slice a2 n2 c2, .int .i64 r2.cur, .bool r2.opn] 25)) hb1)
      clear hs3 ht3 hx3 hx3' hb1 hsz2
      go_wp2_with fail
      clear cB
      refine (rpick_any (At (w.heap.size + 1)) _ r1 _ (fun b e => by cases e; simp; omega) ⟨_, rfl, Row.extNo H3.out.2.1 ((Ext.refl _ _).alloc _)⟩).mono ?_
      rintro e4 w4 ⟨v4, t4, rfl, hv4, _, hx4⟩
      obtain ⟨a3, n3, c3, hve4, hs4⟩ := hv4.opens
      generalize (ringPick r1).ring = r3 at *
      obtain rfl : v4 = .agg #[.int .i64 r3.base, .int .i64 r3.per, .slice a3 n3 c3, .int .i64 r3.cur, .bool r3.opn] := hve4
      have hx4' : Ext No w3 (w4.alloc (.cells #[.int .i64 r3.base, .int .i64 r3.per, .slice a3 n3 c3, .int .i64 r3.cur, .bool r3.opn] 25)) := (((Ext.refl _ _).alloc (.cells #[.int .i64 r2.base, .int .i64 r2.per, .slice a2 n2 c2, .int .i64 r2.cur, .bool r2.opn] 25)).transNo hx4).alloc _
      have hx5 : Ext No w4 (w4.alloc (.cells #[.int .i64 r3.base, .int .i64 r3.per, .slice a3 n3 c3, .int .i64 r3.cur, .bool r3.opn] 25)) := (Ext.refl _ _).alloc _
      have hb2 := hx4.blk (alloc_top (w := w3) (o := (.cells #[.int .i64 r2.base, .int .i64 r2.per, .slice a2 n2 c2, .int .i64 r2.cur, .bool r2.opn] 25)) rfl) (fun x => x.elim)
      have hsz4 : w3.heap.size < w4.heap.size := lt_of_block hb2
      have HG : Hid (AgB w (w4.alloc (.cells #[.int .i64 r3.base, .int .i64 r3.per, .slice a3 n3 c3, .int .i64 r3.cur, .bool r3.opn] 25)) (w.heap.size + 1) w2.heap.size w3.heap.size w4.heap.size r1 r2 r3 a1 a2 a3 n1 n2 n3 c1 c2 c3 (.cells #[.int .i64 r.base, .int .i64 r.per, .slice a r.seats.length c, .int .i64 r.cur, .bool r.opn] 25)) := Lib.hid
        ⟨hx4'.blk H3.out.1 (fun x => x.elim), hx5.blk hb2 (fun x => x.elim), alloc_top rfl, Row.extNo H3.out.2.1 hx4', Row.extNo H3.out.2.2.1 hx4', Row.extNo hs4 hx5, H3.out.2.2.2.1.ext hx4', hx4'.blk H3.out.2.2.2.2.1 (fun x => x.elim), H3.out.2.2.2.2.2.transNo hx4', by omega, by omega, by omega, by omega⟩
      clear hv4 hs4 hx4 hx4' hx5 hb2
      go_wp2_with fail
      generalize (w4.alloc (.cells #[.int .i64 r3.base, .int .i64 r3.per, .slice a3 n3 c3, .int .i64 r3.cur, .bool r3.opn] 25)) = W at *
      generalize w2.heap.size = B1 at *
      generalize w3.heap.size = B2 at *
      generalize w4.heap.size = B3 at *
      go_region_held3 (fun w' => w'.cell? ⟨B1, 0, none⟩ = some (.int .i64 r1.base) ∧ w'.cell? ⟨B1, 1, none⟩ = some (.int .i64 r1.per) ∧ w'.cell? ⟨B1, 2, none⟩ = some (.slice a1 n1 c1) ∧ w'.cell? ⟨B1, 3, none⟩ = some (.int .i64 r1.cur) ∧ w'.cell? ⟨B1, 4, none⟩ = some (.bool r1.opn) ∧
    w'.cell? ⟨B2, 0, none⟩ = some (.int .i64 r2.base) ∧ w'.cell? ⟨B2, 1, none⟩ = some (.int .i64 r2.per) ∧ w'.cell? ⟨B2, 2, none⟩ = some (.slice a2 n2 c2) ∧ w'.cell? ⟨B2, 3, none⟩ = some (.int .i64 r2.cur) ∧ w'.cell? ⟨B2, 4, none⟩ = some (.bool r2.opn) ∧
    w'.cell? ⟨B3, 0, none⟩ = some (.int .i64 r3.base) ∧ w'.cell? ⟨B3, 1, none⟩ = some (.int .i64 r3.per) ∧ w'.cell? ⟨B3, 2, none⟩ = some (.slice a3 n3 c3) ∧ w'.cell? ⟨B3, 3, none⟩ = some (.int .i64 r3.cur) ∧ w'.cell? ⟨B3, 4, none⟩ = some (.bool r3.opn) ∧
    AgB w w' (w.heap.size + 1) B1 B2 B3 r1 r2 r3 a1 a2 a3 n1 n2 n3 c1 c2 c3 (.cells #[.int .i64 r.base, .int .i64 r.per, .slice a r.seats.length c, .int .i64 r.cur, .bool r.opn] 25))
        (first | ((with_reducible refine AgB.cells ?_); with_reducible assumption) | ((with_reducible refine AgB.cells (AgB.drew ?_)); (with_reducible exact HG.out)))
        (first | ((go_at_call 13); (try go_split_ands); (with_reducible refine (AgB.next (w0 := w) (tb := w.heap.size + 1) (B1 := B1) (B2 := B2) (B3 := B3) (r1 := r1) (r2 := r2) (r3 := r3) (a1 := a1) (a2 := a2) (a3 := a3) (n1 := n1) (n2 := n2) (n3 := n3) (c1 := c1) (c2 := c2) (c3 := c3) (o0 := (.cells #[.int .i64 r.base, .int .i64 r.per, .slice a r.seats.length c, .int .i64 r.cur, .bool r.opn] 25)) ?_ _ ?_ ?_).mono ?_); (with_reducible assumption); omega; omega; (rintro eq wq ⟨z, rfl, hz, hag⟩)) | ((go_at_call 12); (try go_split_ands); (first | (with_reducible refine (AgB.agrees1 (w0 := w) (tb := w.heap.size + 1) (B1 := B1) (B2 := B2) (B3 := B3) (r1 := r1) (r2 := r2) (r3 := r3) (a1 := a1) (a2 := a2) (a3 := a3) (n1 := n1) (n2 := n2) (n3 := n3) (c1 := c1) (c2 := c2) (c3 := c3) (o0 := (.cells #[.int .i64 r.base, .int .i64 r.per, .slice a r.seats.length c, .int .i64 r.cur, .bool r.opn] 25)) ?_ _ _ _).mono ?_) | (with_reducible refine (AgB.agrees2 (w0 := w) (tb := w.heap.size + 1) (B1 := B1) (B2 := B2) (B3 := B3) (r1 := r1) (r2 := r2) (r3 := r3) (a1 := a1) (a2 := a2) (a3 := a3) (n1 := n1) (n2 := n2) (n3 := n3) (c1 := c1) (c2 := c2) (c3 := c3) (o0 := (.cells #[.int .i64 r.base, .int .i64 r.per, .slice a r.seats.length c, .int .i64 r.cur, .bool r.opn] 25)) ?_ _ _ _).mono ?_) | (with_reducible refine (AgB.agrees3 (w0 := w) (tb := w.heap.size + 1) (B1 := B1) (B2 := B2) (B3 := B3) (r1 := r1) (r2 := r2) (r3 := r3) (a1 := a1) (a2 := a2) (a3 := a3) (n1 := n1) (n2 := n2) (n3 := n3) (c1 := c1) (c2 := c2) (c3 := c3) (o0 := (.cells #[.int .i64 r.base, .int .i64 r.per, .slice a r.seats.length c, .int .i64 r.cur, .bool r.opn] 25)) ?_ _ _ _).mono ?_)); (with_reducible assumption); (rintro eq wq ⟨rfl, hag⟩)))
      go_wp2_with fail
      go_roundw
      case rel => exact ⟨j + 1, by omega, by go_num, Lib.hid ⟨hag.tape, hag.arg, hag.ext⟩⟩
      case measure => simp [intOf]; omega
    · have cB := cellOf hm.out.2.1
      have fB := freeOf hm.out.2.1
      by_cases h20 : 20 < r.seats.length
      · have h20' : (20 : Int) < (r.seats.length : Int) := by omega
        go_wp2_with fail
        go_ret
        exact ⟨rfl, hm.out.2.2⟩
      · have h20' : ¬ (20 : Int) < (r.seats.length : Int) := by omega
        go_wp2_with fail
        refine (agrees_any _ r id k flag _ ⟨_, rfl, Row.extNo HS.out hm.out.2.2⟩).mono ?_
        rintro e2 w2 ⟨rfl, hx2⟩
        clear cB fB
        go_wp2_with fail
        refine (sane_any _).mono ?_
        rintro e3 w3 ⟨rfl, hx3⟩
        go_wp2_with fail
        go_ret
        exact ⟨rfl, (hm.out.2.2.transNo hx2).transNo hx3⟩
end Go.Proofs.Ytckeidboolfcoaa

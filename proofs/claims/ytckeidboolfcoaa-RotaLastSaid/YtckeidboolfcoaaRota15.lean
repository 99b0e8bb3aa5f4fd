/- rota: Pick, the loop. -/
import Derived.Test.YtckeidboolfcoaaRota14
import Derived.Test.YtckeidboolfcoaaRota0
namespace Go.Proofs.Ytckeidboolfcoaa
open Go Go.RowKit

/-- what the loop keeps in memory -/
structure PickMem (w0 wr : World) (B g cap base1 n : Nat) (base per : Int) (l : List Seat) (c : Nat) (ts : List Turn) (opn : Bool) (o : Value) : Prop where
  ext : Ext No w0 wr
  top : w0.heap.size ≤ B
  hB : wr.heap[B]? = some (.cells #[.int .i64 base, .int .i64 per, .slice (some ⟨g, 0, none⟩) n cap, .int .i64 c, .bool opn] 25 (0, 0))
  hC : wr.heap[B + 1]? = some (.cells #[.int .i64 0, .int .i64 0, .slice none 0 0, .int .i64 0, .bool false] 25 (0, 0))
  own : OwnSeats wr (B + 2) (.slice (some ⟨g, 0, none⟩) l.length cap) l
  turns : OwnTurns wr base1 o ts
  big : base1 ≤ wr.heap.size
  gb : g < base1
  bg : B + 2 ≤ g
  len : l.length = n

theorem ownsRow_ext {M : Nat → Prop} {w w' : World} {base : Nat} {e : TypeId} {size : Nat} {v : Value} {n : Nat} {xs : List Value} (h : w.ownsRow base e size v n xs) (hx : Ext M w w') (hM : ∀ i, base ≤ i → ¬ M i) : w'.ownsRow base e size v n xs := by
  obtain ⟨h1, h2⟩ := h
  refine ⟨h1, ?_⟩
  rcases h2 with h2 | ⟨g, cap, cur, hv, hb, hg, hr⟩
  · exact .inl h2
  · exact .inr ⟨g, cap, cur, hv, hb, (hx.block g (lt_of_block hg) (hM g hb)).trans hg, hr⟩
theorem ownsRow_blk {w w' : World} {base : Nat} {e : TypeId} {size : Nat} {v : Value} {n : Nat} {xs : List Value} (h : w.ownsRow base e size v n xs) (hx : ∀ g, v.ownBlock = some g → g < w.heap.size → w'.heap[g]? = w.heap[g]?) : w'.ownsRow base e size v n xs := by
  obtain ⟨h1, h2⟩ := h
  refine ⟨h1, ?_⟩
  rcases h2 with h2 | ⟨g, cap, cur, rfl, hb, hg, hr⟩
  · exact .inl h2
  · exact .inr ⟨g, cap, cur, rfl, hb, (hx g rfl (lt_of_block hg)).trans hg, hr⟩
theorem Ext.setAt {b : Nat} {a w : World} (h : Ext (At b) a w) (o : Nat) (u : Value) : Ext (At b) a (w.setCell ⟨b, o, none⟩ u) := h.setCell (p := ⟨b, o, none⟩) (fun _ => rfl) u
theorem set_all5 {w : World} {b T : Nat} {a0 a1 a2 a3 a4 : Value} (u0 u1 u2 u3 u4 : Value) (h : w.heap[b]? = some (.cells #[a0, a1, a2, a3, a4] T (0, 0))) :
    (((((w.setCell ⟨b, 0, none⟩ u0).setCell ⟨b, 1, none⟩ u1).setCell ⟨b, 2, none⟩ u2).setCell ⟨b, 3, none⟩ u3).setCell ⟨b, 4, none⟩ u4).heap[b]? = some (.cells #[u0, u1, u2, u3, u4] T (0, 0)) := by
  have h0 : (w.setCell ⟨b, 0, none⟩ u0).heap[b]? = some (.cells #[u0, a1, a2, a3, a4] T (0, 0)) := set_same (j := 0) h
  have h1 : ((w.setCell ⟨b, 0, none⟩ u0).setCell ⟨b, 1, none⟩ u1).heap[b]? = some (.cells #[u0, u1, a2, a3, a4] T (0, 0)) := set_same (j := 1) h0
  have h2 := set_same (j := 2) (u := u2) h1
  have h3 := set_same (j := 3) (u := u3) h2
  have h4 := set_same (j := 4) (u := u4) h3
  exact h4
theorem set_none5 {w : World} {b k : Nat} {o : Obj} (u0 u1 u2 u3 u4 : Value) (h : w.heap[k]? = some o) (hk : k ≠ b) :
    (((((w.setCell ⟨b, 0, none⟩ u0).setCell ⟨b, 1, none⟩ u1).setCell ⟨b, 2, none⟩ u2).setCell ⟨b, 3, none⟩ u3).setCell ⟨b, 4, none⟩ u4).heap[k]? = some o :=
  set_other (set_other (set_other (set_other (set_other h hk) hk) hk) hk) hk
theorem ownsRow_base {w : World} {base base' : Nat} {e : TypeId} {size : Nat} {v : Value} {n : Nat} {xs : List Value} (h : w.ownsRow base e size v n xs) (hb : base' ≤ base) : w.ownsRow base' e size v n xs := by
  obtain ⟨h1, h2⟩ := h
  refine ⟨h1, ?_⟩
  rcases h2 with h2 | ⟨g, cap, cur, hv, hb2, hg, hr⟩
  · exact .inl h2
  · exact .inr ⟨g, cap, cur, hv, Nat.le_trans hb hb2, hg, hr⟩
def lenV : Value → Nat
  | .slice _ n _ => n
  | _ => 0
theorem own_shape {w : World} {base : Nat} {l : List Seat} {v : Value} (h : OwnSeats w base v l) (hn : l.length ≠ 0) : ∃ g cap, v = .slice (some ⟨g, 0, none⟩) l.length cap ∧ base ≤ g ∧ g < w.heap.size := by
  obtain ⟨h1, h2⟩ := h
  rcases h2 with ⟨_, h3⟩ | ⟨g, cap, cur, rfl, hb, hg, _⟩
  · omega
  · exact ⟨g, cap, rfl, hb, lt_of_block hg⟩

variable {w0 wr : World} {B g cap base1 n : Nat} {base per : Int} {l : List Seat} {c : Nat} {ts : List Turn} {opn : Bool} {o : Value}
theorem PickMem.drew (h : PickMem w0 wr B g cap base1 n base per l c ts opn o) (k : Nat) : PickMem w0 (wr.drewN k) B g cap base1 n base per l c ts opn o :=
  ⟨h.ext.drewN k, h.top, h.hB, h.hC, h.own, h.turns, h.big, h.gb, h.bg, h.len⟩
theorem PickMem.app {t : Turn} {w1 : World} {v' : Value} {ob : Obj} (h : PickMem w0 wr B g cap base1 n base per l c ts opn o) (ho : w1.ownsRow base1 51 5 v' (ts.length + 1) (flatT ts ++ t.cells)) (hg : (wr.alloc ob).grownBy w1 o.ownBlock) :
    PickMem w0 w1 B g cap base1 n base per l c (ts ++ [t]) opn v' := by
  have hlt := World.ownsRow.lt h.turns
  have hgb := h.gb
  have hbg := h.bg
  have htop := h.top
  refine ⟨(h.ext.alloc ob).grown hg (fun k hk hlt2 => ?_), htop, blk_grown (alloc_under h.hB) hg (fun k hk => ?_), blk_grown (alloc_under h.hC) hg (fun k hk => ?_), ?_, ?_, ?_, hgb, hbg, h.len⟩
  · have := (hlt k hk).1; omega
  · have := (hlt k hk).1; omega
  · have := (hlt k hk).1; omega
  · refine ownsRow_blk (World.ownsRow.alloc h.own ob) (fun k hk hs => hg.block k hs (fun e => ?_))
    have := (hlt k e.symm).1
    simp [Value.ownBlock] at hk
    omega
  · show World.ownsRow _ _ _ _ _ _ _
    rw [flatT_app, List.length_append]
    exact ho
  · have h1 := hg.size
    have h2 := h.big
    have h3 : (wr.alloc ob).heap.size = wr.heap.size + 1 := by simp
    omega
theorem PickMem.store (h : PickMem w0 wr B g cap base1 n base per l c ts opn o) (hc : c < l.length) (d : Int) : PickMem w0 (wr.setCell ⟨g, c * 4 + 3, none⟩ (.int .i64 d)) B g cap base1 n base per (l.set c ⟨l[c].id, l[c].pri, l[c].age, d⟩) c ts opn o := by
  have hlt := World.ownsRow.lt h.turns
  have hgb := h.gb
  have hbg := h.bg
  have htop := h.top
  refine ⟨h.ext.own (by simp only; omega) _, htop, set_other h.hB (by simp only; omega), set_other h.hC (by simp only; omega), ?_, ?_, ?_, hgb, hbg, by rw [List.length_set]; exact h.len⟩
  · show World.ownsRow _ _ _ _ _ _ _
    rw [List.length_set, flatS_set l c hc ⟨l[c].id, l[c].pri, l[c].age, d⟩ 3 (by omega) (.int .i64 d) rfl]
    exact (World.ownsRow.stored (w := wr) h.own (c * 4 + 3) (.int .i64 d)).1
  · exact ownsRow_setCell_other h.turns (fun e => by have := (hlt _ e).1; simp only at this; omega) _
  · have := h.big; simp [World.setCell]; omega
theorem PickMem.opened (h : PickMem w0 wr B g cap base1 n base per l c ts opn o) (b : Bool) : PickMem w0 (wr.setCell ⟨B, 4, none⟩ (.bool b)) B g cap base1 n base per l c ts b o := by
  have hlt := World.ownsRow.lt h.turns
  have hgb := h.gb
  have hbg := h.bg
  have htop := h.top
  refine ⟨h.ext.own htop _, htop, (set_same h.hB).trans rfl, set_other h.hC (by simp), ?_, ?_, ?_, hgb, hbg, h.len⟩
  · exact ownsRow_setCell_other h.own (fun e => by simp [Value.ownBlock] at e; omega) _
  · exact ownsRow_setCell_other h.turns (fun e => by have := (hlt _ e).1; simp only at this; omega) _
  · have := h.big; simp [World.setCell]; omega
theorem PickMem.ended {w' : World} {e : Ending} (h : PickMem w0 wr B g cap base1 n base per l c ts opn o) (hp : EndPost B g cap (B + 2) base per l c wr e w') : e = .returned (.tuple #[]) ∧ PickMem w0 w' B g cap base1 n base per (l.set c ((l[c]?.getD ⟨0, 0, 0, 0⟩).older)) (wrapAt c l.length) ts false o := by
  obtain ⟨he, l', rfl, hB, hS, hx⟩ := hp
  have hlt := World.ownsRow.lt h.turns
  have hgb := h.gb
  have hbg := h.bg
  have htop := h.top
  have hsz := hx.size
  have hbig := h.big
  refine ⟨he, h.ext.trans2 hx (fun i hi hm => by rcases hm with rfl | rfl <;> exact absurd hi (by omega)), htop, by rw [← h.len]; exact hB, (hx.block (B + 1) (lt_of_block h.hC) (by omega)).trans h.hC, by rw [List.length_set]; exact hS, ?_, by omega, hgb, hbg, by rw [List.length_set]; exact h.len⟩
  exact ownsRow_blk h.turns (fun k hk hs => hx.block k hs (fun e => by have := (hlt k hk).1; omega))
end Go.Proofs.Ytckeidboolfcoaa

/- Appending: what stands behind the builtin append, in the words of Row and ownsRow. No program is named here. -/
import Derived.Test.YtgakojgkkdmabaaHeap
import Derived.Maps.AppendAt
import Derived.ArgAppend
import Derived.OwnWalk
namespace Go.Proofs.Ytgakojgkkdmabaa
open Go Go.RowKit

/-- a slice as an append's source: nothing to append, or its cells from an address on -/
theorem Row.src {M : Nat → Prop} {w : World} {s m : Nat} {A : Option Addr} {c : Nat} {vs : List Value} (h : Row M w s (.slice A m c) m vs) :
    vs.length = m * s ∧ ((m = 0 ∧ vs = []) ∨ ∃ ad : Addr, A = some ad ∧ ∀ j u, vs[j]? = some u → w.cell? (ad.add j) = some u) := by
  obtain ⟨h1, _, a, cap, h3, _, h4⟩ := h
  refine ⟨h1, ?_⟩
  simp only [Value.slice.injEq] at h3
  obtain ⟨rfl, _, _⟩ := h3
  rcases h4 with h4 | ⟨b, off, rfl, _, _, h8⟩
  · subst h4
    exact .inl ⟨rfl, List.eq_nil_of_length_eq_zero (by simpa using h1)⟩
  · refine .inr ⟨_, rfl, fun j u hj => ?_⟩
    have hadd : (⟨b, off, none⟩ : Addr).add j = ⟨b, off + j, none⟩ := by unfold Addr.add; split <;> simp_all
    rw [hadd]; exact h8 j u hj

section
variable {P : Program} (w : World)

theorem run_app (base : Nat) (t ty e : TypeId) (i : TypeInfo) (z : Value) (size bytes : Nat) (ht : P.underlying t = some (.slice e)) (hi : P.info? e = some i) (hz : i.zero = some z)
    (hsize : i.size = size) (hby : i.bytes = bytes) (hzs : z.cells.size = size) (hsz : 0 < size)
    (v : Value) (n : Nat) (xs : List Value) (hown : w.ownsRow base e size v n xs)
    (M : Nat → Prop) (A : Option Addr) (m c : Nat) (news : List Value) (hr : Row M w size (.slice A m c) m news) (h1 : ∀ u ∈ news, u.oneCell' = true)
    (h63 : n + m ≤ 9223372036854775807) (hbytes : (n + m) * bytes ≤ 140737488355328) (hbase : base ≤ w.heap.size) :
    ∃ v' w', (Builtin.append_ #[t, t] ty #[v, .slice A m c]).run P w = .ok v' w' ∧ w'.ownsRow base e size v' (n + m) (xs ++ news) ∧ w.grownBy w' v.ownBlock ∧
      (v'.ownBlock = v.ownBlock ∨ v'.ownBlock = some w.heap.size) := by
  have h63' : n + m ≤ maxLen := by simp only [maxLen]; omega
  obtain ⟨hl, hc⟩ := hr.src
  have key : ∀ ad : Addr, A = some ad → (∀ j u, news[j]? = some u → w.cell? (ad.add j) = some u) → ∃ v' w', (Builtin.append_ #[t, t] ty #[v, .slice A m c]).run P w = .ok v' w' ∧ w'.ownsRow base e size v' (n + m) (xs ++ news) ∧ w.grownBy w' v.ownBlock ∧
      (v'.ownBlock = v.ownBlock ∨ v'.ownBlock = some w.heap.size) := by
    intro ad hA hcells
    subst hA
    obtain ⟨v', w', hrun, h2, h3, _, h5⟩ := run_append_own_at (P := P) w base t ty e i z size bytes ht hi hz hsize hby hzs hsz v n xs hown ad m c news hl hcells h1 h63' hbytes hbase
    exact ⟨v', w', hrun, h2, h3, h5⟩
  rcases hc with ⟨rfl, rfl⟩ | ⟨ad, hA, hcells⟩
  · cases A with
    | some ad => exact key ad rfl (fun j u hj => by simp at hj)
    | none =>
      refine ⟨v, w, ?_, by simpa using hown, World.grownBy.refl w _, .inl rfl⟩
      rcases hown.2 with ⟨rfl, rfl⟩ | ⟨g, cap, cur, rfl, _, _, hnc, _⟩
      · simp [Builtin.append_, run_underlying ht, sizeOf, typeInfo, hi, Builtin.lenOf, Builtin.firstCells]
      · simp [Builtin.append_, run_underlying ht, sizeOf, typeInfo, hi, Builtin.lenOf, Builtin.firstCells, hnc, storeCells]
  · exact key ad hA hcells

theorem wp_app {o : Oper} {a : Act} {K : Act → World → Prop} {Q : Exit → Act → World → Prop} (s x : Operand) (t : TypeId)
    (ho : o.op = .call { callee := .builtin .append, args := #[s, x], argTypes := #[t, t] })
    (base : Nat) (e : TypeId) (i : TypeInfo) (z : Value) (size bytes : Nat) (ht : P.underlying t = some (.slice e)) (hi : P.info? e = some i) (hz : i.zero = some z)
    (hsize : i.size = size) (hby : i.bytes = bytes) (hzs : z.cells.size = size) (hsz : 0 < size)
    (v : Value) (n : Nat) (xs : List Value) (hs : a.eval s = v) (hown : w.ownsRow base e size v n xs)
    (M : Nat → Prop) (A : Option Addr) (m c : Nat) (news : List Value) (hx : a.eval x = .slice A m c) (hr : Row M w size (.slice A m c) m news) (h1 : ∀ u ∈ news, u.oneCell' = true)
    (h63 : n + m ≤ 9223372036854775807) (hbytes : (n + m) * bytes ≤ 140737488355328) (hbase : base ≤ w.heap.size)
    (h : ∀ v' w', w'.ownsRow base e size v' (n + m) (xs ++ news) → w.grownBy w' v.ownBlock → (v'.ownBlock = v.ownBlock ∨ v'.ownBlock = some w.heap.size) → K (a.put o.dst v') w') : o.wp P a w K Q := by
  obtain ⟨v', w', hrun, h2, h3, h4⟩ := run_app (P := P) w base t o.type e i z size bytes ht hi hz hsize hby hzs hsz v n xs hown M A m c news hr h1 h63 hbytes hbase
  unfold Oper.wp execOp
  simp only [ho, resolve, invoke, builtin, Sem.run_bind, Sem.run_pure, Result.andThen_ok, List.map_toArray, List.map_cons, List.map_nil, hs, hx, hrun]
  exact h v' w' h2 h3 h4

/-- append onto what the call itself made, whatever the source -/
theorem wpList_app {ops : Array Oper} {rest : List Oper} {o : Oper} {a : Act} {Q : Exit → Act → World → Prop} (hgd : o.guard = none) (s x : Operand) (t : TypeId)
    (ho : o.op = .call { callee := .builtin .append, args := #[s, x], argTypes := #[t, t] })
    (base : Nat) (e : TypeId) (i : TypeInfo) (z : Value) (size bytes : Nat) (ht : P.underlying t = some (.slice e)) (hi : P.info? e = some i) (hz : i.zero = some z)
    (hsize : i.size = size) (hby : i.bytes = bytes) (hzs : z.cells.size = size) (hsz : 0 < size)
    (v : Value) (n : Nat) (xs : List Value) (hs : a.eval s = v) (hown : w.ownsRow base e size v n xs)
    (M : Nat → Prop) (A : Option Addr) (m c : Nat) (news : List Value) (hx : a.eval x = .slice A m c) (hr : Row M w size (.slice A m c) m news) (h1 : ∀ u ∈ news, u.oneCell' = true)
    (h63 : n + m ≤ 9223372036854775807) (hbytes : (n + m) * bytes ≤ 140737488355328) (hbase : base ≤ w.heap.size)
    (h : ∀ v' w', w'.ownsRow base e size v' (n + m) (xs ++ news) → w.grownBy w' v.ownBlock → (v'.ownBlock = v.ownBlock ∨ v'.ownBlock = some w.heap.size) → wpList P ops Q rest (a.put o.dst v') w') : wpList P ops Q (o :: rest) a w :=
  wpList_plain hgd fun _ hK => wp_app w s x t ho base e i z size bytes ht hi hz hsize hby hzs hsz v n xs hs hown M A m c news hx hr h1 h63 hbytes hbase fun v' w' h2 h3 h4 => hK _ _ (h v' w' h2 h3 h4)

/-- append of something onto a slice that has no room left: a new block -/
theorem wpList_app_full {ops : Array Oper} {rest : List Oper} {o : Oper} {a : Act} {Q : Exit → Act → World → Prop} (hgd : o.guard = none) (s x : Operand) (t : TypeId)
    (ho : o.op = .call { callee := .builtin .append, args := #[s, x], argTypes := #[t, t] })
    (e : TypeId) (i : TypeInfo) (z : Value) (size bytes : Nat) (ht : P.underlying t = some (.slice e)) (hi : P.info? e = some i) (hz : i.zero = some z)
    (hsize : i.size = size) (hby : i.bytes = bytes) (hzs : z.cells.size = size) (hsz : 0 < size)
    (M0 : Nat → Prop) (ao : Option Addr) (n : Nat) (olds : List Value) (hs : a.eval s = .slice ao n n) (hro : Row M0 w size (.slice ao n n) n olds)
    (M : Nat → Prop) (A : Option Addr) (m c : Nat) (news : List Value) (hx : a.eval x = .slice A m c) (hr : Row M w size (.slice A m c) m news) (h1 : ∀ u ∈ news, u.oneCell' = true)
    (hm : 0 < m) (h63 : n + m ≤ 9223372036854775807) (hbytes : (n + m) * bytes ≤ 140737488355328)
    (h : ∀ v' w', w'.ownsRow w.heap.size e size v' (n + m) (olds ++ news) → w.grownBy w' none → wpList P ops Q rest (a.put o.dst v') w') : wpList P ops Q (o :: rest) a w := by
  obtain ⟨hl, hc⟩ := hr.src
  obtain ⟨hlo, hco⟩ := hro.src
  rcases hc with ⟨h0, _⟩ | ⟨ad, rfl, hcells⟩
  · omega
  · refine wpList_append_grows w hgd s x t ho e i z size bytes ht hi hz hsize hby hzs hsz ao n n olds hs ?_ hlo ?_ ad m c news hx hl hcells h1 (by omega) (by simp only [maxLen]; omega) hbytes h
    · intro hn
      rcases hco with ⟨h0, _⟩ | ⟨ad', h0, _⟩
      · exact ⟨h0, h0⟩
      · rw [hn] at h0; cases h0
    · intro b hb j u hj
      rcases hco with ⟨_, h0⟩ | ⟨ad', h0, h2⟩
      · rw [h0] at hj; simp at hj
      · rw [hb] at h0; cases h0; exact h2 j u hj
end

/-- a store into a block that was made meanwhile -/
theorem Ext.own {M : Nat → Prop} {a w : World} (h : Ext M a w) {p : Addr} (hp : a.heap.size ≤ p.block) (u : Value) : Ext M a (w.setCell p u) := h.setCell (fun hlt => absurd hlt (Nat.not_lt.2 hp)) u
theorem Row.take {M : Nat → Prop} {w : World} {s n cap k : Nat} {a : Option Addr} {vs : List Value} (h : Row M w s (.slice a n cap) n vs) (hk : k ≤ n) : Row M w s (.slice a k k) k (vs.take (k * s)) := by
  obtain ⟨h1, h2, a', cap', h3, _, h4⟩ := h
  simp only [Value.slice.injEq] at h3
  obtain ⟨rfl, _, rfl⟩ := h3
  have hks : k * s ≤ n * s := Nat.mul_le_mul_right _ hk
  refine ⟨by rw [List.length_take, h1]; omega, by omega, _, _, rfl, ⟨Nat.le_refl _, by omega⟩, ?_⟩
  rcases h4 with h4 | ⟨b, off, h5, h6, h7, h8⟩
  · exact .inl (by omega)
  · exact .inr ⟨b, off, h5, h6, h7, fun j u hj => h8 j u (by
      rw [List.getElem?_take] at hj
      split at hj
      · exact hj
      · simp at hj)⟩
theorem Row.drop {M : Nat → Prop} {w : World} {s n cap k b off : Nat} {vs : List Value} (h : Row M w s (.slice (some ⟨b, off, none⟩) n cap) n vs) (hk : k ≤ n) : Row M w s (.slice (some ⟨b, off + k * s, none⟩) (n - k) (cap - k)) (n - k) (vs.drop (k * s)) := by
  obtain ⟨h1, h2, a', cap', h3, h9, h4⟩ := h
  simp only [Value.slice.injEq] at h3
  obtain ⟨rfl, _, rfl⟩ := h3
  refine ⟨by rw [List.length_drop, h1, Nat.sub_mul], by omega, _, _, rfl, ⟨by omega, by omega⟩, ?_⟩
  rcases h4 with h4 | ⟨b', off', h5, h6, h7, h8⟩
  · exact .inl (by omega)
  · simp only [Option.some.injEq, Addr.mk.injEq] at h5
    obtain ⟨rfl, rfl, _⟩ := h5
    exact .inr ⟨b, off + k * s, rfl, h6, h7, fun j u hj => by
      rw [Nat.add_assoc]
      exact h8 _ u (by rw [List.getElem?_drop] at hj; exact hj)⟩

def Lo (n : Nat) : Nat → Prop := fun b => b < n
/-- a block that is known whole, as a slice -/
theorem Row.block {M : Nat → Prop} {w : World} {g n s : Nat} {cs : Array Value} {T : TypeId} (h : w.heap[g]? = some (.cells cs T (0, 0))) (hn : cs.size = n * s) (hM : ¬ M g) (hs : n ≤ 9223372036854775807) : Row M w s (.slice (some ⟨g, 0, none⟩) n n) n cs.toList := by
  refine ⟨by simpa using hn, hs, _, n, rfl, ⟨Nat.le_refl _, hs⟩, .inr ⟨g, 0, rfl, lt_of_block h, hM, fun j u hj => ?_⟩⟩
  rw [Nat.zero_add, cellOf h j]
  simpa using hj
/-- what the call itself filled, seen in a later world in which only elder blocks were written -/
theorem Row.fin {M : Nat → Prop} {w w4 w5 : World} {base : Nat} {e : TypeId} {size n : Nat} {v : Value} {xs : List Value} (h : w4.ownsRow base e size v n xs) (hb : w.heap.size ≤ base) (hM : ∀ b, M b → b < w.heap.size) (hx : Ext (Lo base) w4 w5) : Row M w5 size v n xs :=
  ((Row.ofOwns (M := Lo base) h (fun _ hb hl => absurd hl (Nat.not_lt.2 hb))).ext hx (fun _ _ x => x)).mono (fun b _ hm => Nat.lt_of_lt_of_le (hM b hm) hb)
theorem blk_grown {w w' : World} {b : Nat} {row : Option Nat} {o : Obj} (h : w.heap[b]? = some o) (hg : w.grownBy w' row) (hne : ∀ k, row = some k → b < k) : w'.heap[b]? = some o :=
  (hg.block b (lt_of_block h) (fun e => by have := hne b e.symm; omega)).trans h
end Go.Proofs.Ytgakojgkkdmabaa

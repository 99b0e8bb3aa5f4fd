/- Appending inside a region that draws its order; appending nothing. No program is named here. -/
import Derived.Test.YtgakojgkkdmabaaApp
import Derived.RegionTactic
namespace Go.Proofs.Ytgakojgkkdmabaa
open Go Go.RowKit

section
variable {P : Program} (w : World)
theorem run_app_zero (t ty e : TypeId) (i : TypeInfo) (ht : P.underlying t = some (.slice e)) (hi : P.info? e = some i) (ao : Option Addr) (n c : Nat) (hnc : n ≤ c) (A : Option Addr) (c' : Nat) :
    (Builtin.append_ #[t, t] ty #[.slice ao n c, .slice A 0 c']).run P w = .ok (.slice ao n c) w := by
  cases ao <;> cases A <;> simp [Builtin.append_, run_underlying ht, sizeOf, typeInfo, hi, Builtin.lenOf, Builtin.firstCells, hnc, storeCells, loadCells, loadCellsFrom]

theorem wp_app_zero {o : Oper} {a : Act} {K : Act → World → Prop} {Q : Exit → Act → World → Prop} (s x : Operand) (t : TypeId)
    (ho : o.op = .call { callee := .builtin .append, args := #[s, x], argTypes := #[t, t] })
    (e : TypeId) (i : TypeInfo) (ht : P.underlying t = some (.slice e)) (hi : P.info? e = some i) (ao : Option Addr) (n c : Nat) (hnc : n ≤ c) (A : Option Addr) (c' : Nat)
    (m : Nat) (hm : m = 0) (hs : a.eval s = .slice ao n c) (hx : a.eval x = .slice A m c') (h : K (a.put o.dst (.slice ao n c)) w) : o.wp P a w K Q := by
  subst hm
  have hrun := run_app_zero (P := P) w t o.type e i ht hi ao n c hnc A c'
  unfold Oper.wp execOp
  simp only [ho, resolve, invoke, builtin, Sem.run_bind, Sem.run_pure, Result.andThen_ok, List.map_toArray, List.map_cons, List.map_nil, hs, hx, hrun]
  exact h

theorem wp_app_full {o : Oper} {a : Act} {K : Act → World → Prop} {Q : Exit → Act → World → Prop} (s x : Operand) (t : TypeId)
    (ho : o.op = .call { callee := .builtin .append, args := #[s, x], argTypes := #[t, t] })
    (e : TypeId) (i : TypeInfo) (z : Value) (size bytes : Nat) (ht : P.underlying t = some (.slice e)) (hi : P.info? e = some i) (hz : i.zero = some z)
    (hsize : i.size = size) (hby : i.bytes = bytes) (hzs : z.cells.size = size) (hsz : 0 < size)
    (M0 : Nat → Prop) (b0 : Addr) (n : Nat) (olds : List Value) (hs : a.eval s = .slice (some b0) n n) (hro : Row M0 w size (.slice (some b0) n n) n olds)
    (M : Nat → Prop) (A : Option Addr) (m c : Nat) (news : List Value) (hx : a.eval x = .slice A m c) (hr : Row M w size (.slice A m c) m news)
    (hm : 0 < m) (h63 : n + m ≤ 9223372036854775807) (hbytes : (n + m) * bytes ≤ 140737488355328)
    (h : ∀ v' w', w'.ownsRow w.heap.size e size v' (n + m) (olds ++ news) → w.grownBy w' none → K (a.put o.dst v') w') : o.wp P a w K Q := by
  obtain ⟨hl, hc⟩ := hr.src
  obtain ⟨hlo, hco⟩ := hro.src
  rcases hc with ⟨h0, _⟩ | ⟨ad, rfl, hcells⟩
  · omega
  · have holds : ∀ j u, olds[j]? = some u → w.cell? (b0.add j) = some u := by
      intro j u hj
      rcases hco with ⟨_, h0⟩ | ⟨ad', h0, h2⟩
      · rw [h0] at hj; simp at hj
      · cases h0; exact h2 j u hj
    obtain ⟨v', w', hrun, r1, r2⟩ := run_append_arg_grows (P := P) w t o.type e i z size bytes ht hi hz hsize hby hzs hsz b0 n n olds hlo holds ad m c news hl hcells (by omega) (by simp only [maxLen]; omega) hbytes
    unfold Oper.wp execOp
    simp only [ho, resolve, invoke, builtin, Sem.run_bind, Sem.run_pure, Result.andThen_ok, List.map_toArray, List.map_cons, List.map_nil, hs, hx, hrun]
    exact h v' w' r1 r2

theorem step_of {ops : Array Oper} {o : Oper} {a : Act} {K : Act → World → Prop} {Q : Exit → Act → World → Prop} {E : Prop} (hgd : o.guard = none) (h : Oper.wp P o a w K Q) :
    if Region.wanted o (yielded ops a.tmps) = true then Oper.wp P o a w K Q else E := by
  have hw : Region.wanted o (yielded ops a.tmps) = true := by simp [Region.wanted, hgd]
  rw [if_pos hw]; exact h
end

/-- the first k elements, the capacity kept -/
theorem Row.takeC {M : Nat → Prop} {w : World} {s n cap k : Nat} {a : Option Addr} {vs : List Value} (h : Row M w s (.slice a n cap) n vs) (hk : k ≤ n) : Row M w s (.slice a k cap) k (vs.take (k * s)) := by
  have hc := h.caps
  obtain ⟨h1, h2, a', cap', h3, h4, h5⟩ := h.take hk
  simp only [Value.slice.injEq] at h3
  obtain ⟨rfl, _, rfl⟩ := h3
  exact ⟨h1, h2, _, cap, rfl, ⟨by omega, hc.2⟩, h5⟩
end Go.Proofs.Ytgakojgkkdmabaa

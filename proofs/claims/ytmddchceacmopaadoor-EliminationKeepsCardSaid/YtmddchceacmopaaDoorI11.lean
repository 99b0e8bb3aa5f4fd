
import Derived.Test.YtmddchceacmopaaDoorE9
set_option linter.unusedVariables false
set_option linter.unusedSimpArgs false
namespace Go.Proofs.YtmddchceacmopaaDoor
open Go Go.RowKit
section
variable {P : Program} (w : World)
theorem wp_app_ful2 {o : Oper} {a : Act} {K : Act → World → Prop} {Q : Exit → Act → World → Prop} (s x : Operand) (t : TypeId)
  (ho : o.op = .call { callee := .builtin .append, args := #[s, x], argTypes := #[t, t] })
  (e : TypeId) (i : TypeInfo) (z : Value) (size bytes : Nat) (ht : P.underlying t = some (.slice e)) (hi : P.info? e = some i) (hz : i.zero = some z)
  (hsize : i.size = size) (hby : i.bytes = bytes) (hzs : z.cells.size = size) (hsz : 0 < size)
  (M0 : Nat → Prop) (b0 : Addr) (n : Nat) (olds : List Value) (hs : a.eval s = .slice (some b0) n n) (hro : Row M0 w size (.slice (some b0) n n) n olds)
  (M : Nat → Prop) (A : Option Addr) (m c : Nat) (news : List Value) (hx : a.eval x = .slice A m c) (hr : Row M w size (.slice A m c) m news)
  (hm : 0 < m) (h63 : n + m ≤ 9223372036854775807) (hbytes : (n + m) * bytes ≤ 140737488355328)
  (h : ∀ v' w', w'.ownsRow w.heap.size e size v' (n + m) (olds ++ news) → w.grownBy w' none → K (a.put o.dst v') w') : o.wp P a w K Q := by
 obtain ⟨hl, hc⟩ := hr.src
 obtain ⟨hlo, hco⟩ := hro.src
 rcases hc with ⟨h0, _⟩ | ⟨ad, rfl, hcells⟩
 ·omega
 have holds : ∀ j u, olds[j]? = some u → w.cell? (b0.add j) = some u := by
  intro j u hj
  rcases hco with ⟨_, h0⟩ | ⟨ad', h0, h2⟩
  ·rw [h0] at hj; simp at hj
  cases h0; exact h2 j u hj
 obtain ⟨v', w', hrun, r1, r2⟩ := run_append_arg_grows (P := P) w t o.type e i z size bytes ht hi hz hsize hby hzs hsz b0 n n olds hlo holds ad m c news hl hcells (by omega) (by simp only [maxLen]; omega) hbytes
 unfold Oper.wp execOp
 simp only [ho, resolve, invoke, builtin, Sem.run_bind, Sem.run_pure, Result.andThen_ok, List.map_toArray, List.map_cons, List.map_nil, hs, hx, hrun]
 exact h v' w' r1 r2
end

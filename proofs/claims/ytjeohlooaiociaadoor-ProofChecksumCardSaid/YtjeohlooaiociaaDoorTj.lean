/- Tarjan's search, without a program: what a visit keeps. -/
import Derived.Test.YtjeohlooaiociaaDoorFS
set_option linter.unusedVariables false
set_option linter.unusedSimpArgs false
namespace Go.Proofs.YtjeohlooaiociaaDoor.Tj
def upd {α : Type} (f : Nat → α) (n : Nat) (v : α) : Nat → α := fun i => if i = n then v else f i
structure TS where
 idx : Nat → Nat
 low : Nat → Nat
 out : Nat → Int
 path : List Nat
 cnt : Nat
def start (s : TS) (n : Nat) : TS := { s with idx := upd s.idx n (s.cnt + 1), low := upd s.low n (s.cnt + 1), path := s.path ++ [n], cnt := s.cnt + 1 }
end Go.Proofs.YtjeohlooaiociaaDoor.Tj

/- The walk of MemoCopies. -/
import Derived.Test.YtfejidihocoboaaN48
import Derived.Test.YtfejidihocoboaaN31
import Derived.Test.YtfejidihocoboaaN45
set_option linter.unusedVariables false
set_option linter.unusedSimpArgs false
namespace Go.Proofs.Ytfejidihocoboaa
open Go Go.RowKit
section
variable {tb T D T2 D2 : Nat} {cap Ka Kb : Int} {w w' W : World}
theorem Two.notBox {M : Nat → Prop} {bm : Nat} {clkP clkR : Int} {vk v : Value} {L : List PE} {LL : List EV} {q : Nat} {cs : Array Value} (h : Two M w T D cap clkP clkR bm vk v L LL) (hb : w.heap[q]? = some (.cells cs 34 (0, 0))) : ¬ TOwn T D bm vk v L q := by
  rintro ((e | e | e | ⟨p, hp, e⟩) | (e | e))
  · exact ne_type hb h.p.t.box (by decide) e
  · exact ne_map hb h.p.map e
  · obtain ⟨cur, hc⟩ := h.p.t.keyBlk e
    exact ne_type hb hc (by decide) rfl
  · exact ne_type hb (h.p.t.it p hp) (by decide) e.symm
  · exact ne_type hb h.r.box (by decide) e
  · obtain ⟨cur, hc⟩ := h.r.ents.blk e
    exact ne_type hb hc (by decide) rfl
end
end Go.Proofs.Ytfejidihocoboaa

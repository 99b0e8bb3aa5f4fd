/- rota: end, in place. -/
import Derived.Test.YtckeidboolfcoaaRota2
import Derived.Test.YtckeidboolfcoaaApp2
import Derived.Deep.QuietTactic
import Derived.BigQuiet
import Derived.Deep.RegionLaw
namespace Go.Proofs.Ytckeidboolfcoaa
open Go Go.RowKit

def Seat.older (s : Seat) : Seat := ⟨s.id, s.pri, addZ s.age 1, s.dfc⟩
theorem flatS_set (l : List Seat) (k : Nat) (hk : k < l.length) (s : Seat) (f : Nat) (hf : f < 4) (u : Value) (h : s.cells = l[k].cells.set f u) : flatS (l.set k s) = (flatS l).set (k * 4 + f) u := by
  apply List.ext_getElem?
  intro j
  rw [List.getElem?_set]
  have hlen := flatS_len l
  have hlen2 := flatS_len (l.set k s)
  rw [List.length_set] at hlen2
  by_cases hj : j < l.length * 4
  · have hq : j / 4 < l.length := by omega
    have hr : j % 4 < 4 := by omega
    have hje : j = j / 4 * 4 + j % 4 := by omega
    have h1 : (flatS (l.set k s))[j]? = ((l.set k s)[j / 4]'(by simpa using hq)).cells[j % 4]? := by
      conv => lhs; rw [hje]
      exact flatS_get (l.set k s) (j / 4) (j % 4) (by simpa using hq) hr
    have h2 : (flatS l)[j]? = l[j / 4].cells[j % 4]? := by
      conv => lhs; rw [hje]
      exact flatS_get l (j / 4) (j % 4) hq hr
    rw [h1, h2, List.getElem_set]
    by_cases hkj : k = j / 4
    · subst hkj
      rw [if_pos rfl, h, List.getElem?_set]
      by_cases hfj : f = j % 4
      · have hl4 : (l[j / 4]).cells.length = 4 := rfl
        rw [if_pos hfj, if_pos (show f < (l[j / 4]).cells.length by rw [hl4]; exact hf), if_pos (by omega), if_pos (by omega)]
      · rw [if_neg hfj, if_neg (by omega)]
    · rw [if_neg hkj, if_neg (by omega)]
  · rw [List.getElem?_eq_none (by omega), List.getElem?_eq_none (by omega)]
    split
    · rw [if_neg (by omega)]
    · rfl
/-- the cells of an own row of seats -/
theorem OwnSeats.at {w : World} {base g cap : Nat} {l : List Seat} (h : OwnSeats w base (.slice (some ⟨g, 0, none⟩) l.length cap) l) {i : Nat} (hi : i < l.length) :
    w.cell? ⟨g, i * 4, none⟩ = some (.int .i64 l[i].id) ∧ w.cell? ⟨g, i * 4 + 1, none⟩ = some (.int .i64 l[i].pri) ∧
    w.cell? ⟨g, i * 4 + 2, none⟩ = some (.int .i64 l[i].age) ∧ w.cell? ⟨g, i * 4 + 3, none⟩ = some (.int .i64 l[i].dfc) := by
  have hc := fun (j : Nat) (hj : j < l.length * 4) => World.ownsRow.cellAt h j hj
  exact ⟨(hc (i * 4) (by omega)).trans (flatS_get l i 0 hi (by omega)), (hc (i * 4 + 1) (by omega)).trans (flatS_get l i 1 hi (by omega)), (hc (i * 4 + 2) (by omega)).trans (flatS_get l i 2 hi (by omega)), (hc (i * 4 + 3) (by omega)).trans (flatS_get l i 3 hi (by omega))⟩
end Go.Proofs.Ytckeidboolfcoaa


import Derived.Deep.RegionHeld3
set_option linter.unusedVariables false
set_option linter.unusedSimpArgs false
namespace Go.Proofs.YtmddchceacmopaaDoor
open Go
section
variable {P : Program} {ops : Array Oper} {Q : Exit → Act → World → Prop} {md : Region.Mode} {S : World → Prop}
theorem drop_get {i : Nat} {oi : Oper} {tl : List Oper} (h : ops.toList.drop i = oi :: tl) : ops[i]? = some oi := by
 have h1 := congrArg (fun l => l[0]?) h
 simp only [List.getElem?_drop, Nat.add_zero, List.getElem?_cons_zero] at h1
 rw [← Array.getElem?_toList]; exact h1
theorem held_take {i : Nat} {oi : Oper} {tl : List Oper} {v : Value} {fuel : Nat} {listed : Array Bool} {a : Act} {w : World} (hi : ops.toList.drop i = oi :: tl)
  (hs : Region.noSelect ops = true) (hf : Region.free md ops listed i = true) (hr : (Region.ready md ops listed).contains i = true)
  (hQ : ∀ c a w, Q (.panic c) (a.put oi.dst v) w → Q (.panic c) a w) (hw : Region.wanted oi (yielded ops a.tmps) = true) (hy : ∀ w, S w → (execOp a.eval oi).run P w = .ok (.value v) w) (hS : S w)
  (h : wpAnyH P md ops Q S fuel (listed.setIfInBounds i true) (a.put oi.dst v) w) : wpAnyH P md ops Q S (fuel + 1) listed a w :=
 wpAnyH_take (drop_get hi) hs hf hr hQ (.inl ⟨hw, hy⟩) hS h
def Run (_ : List Nat) (p : Prop) : Prop := p
theorem hHs {p : Prop} (is : List Nat) (h : Run is p) : p := h
theorem hHe {p : Prop} (h : p) : Run [] p := h
theorem hTk (i : Nat) {oi : Oper} {tl : List Oper} (v : Value) {fuel : Nat} {listed : Array Bool} {a : Act} {w : World} (hS : S w) (hy : ∀ w, S w → (execOp a.eval oi).run P w = .ok (.value v) w)
  (h : wpAnyH P md ops Q S fuel (listed.setIfInBounds i true) (a.put oi.dst v) w) (hi : ops.toList.drop i = oi :: tl := by rfl)
  (hc : (Region.noSelect ops && (Region.free md ops listed i && (Region.ready md ops listed).contains i)) = true := by kernel_rfl)
  (hQ : ∀ c a w, Q (.panic c) (a.put oi.dst v) w → Q (.panic c) a w := by exact fun _ _ _ h => h) (hw : Region.wanted oi (yielded ops a.tmps) = true := by rfl) : wpAnyH P md ops Q S (fuel + 1) listed a w := by
 simp only [Bool.and_eq_true] at hc
 exact held_take hi hc.1 hc.2.1 hc.2.2 hQ hw hy hS h
theorem hTn {i : Nat} {is : List Nat} {oi : Oper} {tl : List Oper} (v : Value) {fuel : Nat} {listed : Array Bool} {a : Act} {w : World} (hS : S w) (hy : ∀ w, S w → (execOp a.eval oi).run P w = .ok (.value v) w)
  (h : Run is (wpAnyH P md ops Q S fuel (listed.setIfInBounds i true) (a.put oi.dst v) w)) (hi : ops.toList.drop i = oi :: tl := by rfl)
  (hc : (Region.noSelect ops && (Region.free md ops listed i && (Region.ready md ops listed).contains i)) = true := by kernel_rfl)
  (hQ : ∀ c a w, Q (.panic c) (a.put oi.dst v) w → Q (.panic c) a w := by exact fun _ _ _ h => h) (hw : Region.wanted oi (yielded ops a.tmps) = true := by rfl) : Run (i :: is) (wpAnyH P md ops Q S (fuel + 1) listed a w) := by
 simp only [Bool.and_eq_true] at hc
 exact held_take hi hc.1 hc.2.1 hc.2.2 hQ hw hy hS h
theorem held_skip {i : Nat} {oi : Oper} {tl : List Oper} {fuel : Nat} {listed : Array Bool} {a : Act} {w : World} (hi : ops.toList.drop i = oi :: tl)
  (hs : Region.noSelect ops = true) (hf : Region.free md ops listed i = true) (hr : (Region.ready md ops listed).contains i = true)
  (hQ : ∀ c a w, Q (.panic c) (a.put oi.dst undef) w → Q (.panic c) a w) (hw : Region.wanted oi (yielded ops a.tmps) = false) (hS : S w)
  (h : wpAnyH P md ops Q S fuel (listed.setIfInBounds i true) (a.put oi.dst undef) w) : wpAnyH P md ops Q S (fuel + 1) listed a w :=
 wpAnyH_take (drop_get hi) hs hf hr hQ (.inr ⟨hw, rfl⟩) hS h
theorem hSk {i : Nat} {oi : Oper} {tl : List Oper} {fuel : Nat} {listed : Array Bool} {a : Act} {w : World} (hS : S w)
  (h : wpAnyH P md ops Q S fuel (listed.setIfInBounds i true) (a.put oi.dst undef) w) (hi : ops.toList.drop i = oi :: tl := by rfl)
  (hc : (Region.noSelect ops && (Region.free md ops listed i && (Region.ready md ops listed).contains i)) = true := by kernel_rfl)
  (hQ : ∀ c a w, Q (.panic c) (a.put oi.dst undef) w → Q (.panic c) a w := by exact fun _ _ _ h => h) (hw : Region.wanted oi (yielded ops a.tmps) = false := by rfl) : wpAnyH P md ops Q S (fuel + 1) listed a w := by
 simp only [Bool.and_eq_true] at hc
 exact held_skip hi hc.1 hc.2.1 hc.2.2 hQ hw hS h
theorem hSn {i : Nat} {is : List Nat} {oi : Oper} {tl : List Oper} {fuel : Nat} {listed : Array Bool} {a : Act} {w : World} (hS : S w)
  (h : Run is (wpAnyH P md ops Q S fuel (listed.setIfInBounds i true) (a.put oi.dst undef) w)) (hi : ops.toList.drop i = oi :: tl := by rfl)
  (hc : (Region.noSelect ops && (Region.free md ops listed i && (Region.ready md ops listed).contains i)) = true := by kernel_rfl)
  (hQ : ∀ c a w, Q (.panic c) (a.put oi.dst undef) w → Q (.panic c) a w := by exact fun _ _ _ h => h) (hw : Region.wanted oi (yielded ops a.tmps) = false := by rfl) : Run (i :: is) (wpAnyH P md ops Q S (fuel + 1) listed a w) := by
 simp only [Bool.and_eq_true] at hc
 exact held_skip hi hc.1 hc.2.1 hc.2.2 hQ hw hS h
theorem held_call {i : Nat} {o : Oper} {tl : List Oper} {fuel : Nat} {listed : Array Bool} {a : Act} {w : World} (ho : ops.toList.drop i = o :: tl) (hr : Region.ready md ops listed = [i])
  (hw : Region.wanted o (yielded ops a.tmps) = true)
  (h : ∀ K' : Act → World → Prop, Shut (∀ a w, S w → (S w → wpAnyH P md ops Q S fuel (listed.setIfInBounds i true) a w) → K' a w) → Oper.wp P o a w K' Q) : wpAnyH P md ops Q S (fuel + 1) listed a w :=
 wpAnyH_ready hr (by simp) (AllReadyH.cons (drop_get ho) (fun K' hK => by rw [if_pos hw]; exact h K' hK) AllReadyH.nil)
theorem hHc (i : Nat) {o : Oper} {tl : List Oper} {fuel : Nat} {listed : Array Bool} {a : Act} {w : World}
  (h : ∀ K' : Act → World → Prop, Shut (∀ a w, S w → (S w → wpAnyH P md ops Q S fuel (listed.setIfInBounds i true) a w) → K' a w) → Oper.wp P o a w K' Q) (ho : ops.toList.drop i = o :: tl := by rfl) (hr : Region.ready md ops listed = [i] := by kernel_rfl)
  (hw : Region.wanted o (yielded ops a.tmps) = true := by rfl) : wpAnyH P md ops Q S (fuel + 1) listed a w := held_call ho hr hw h
end
theorem nzA {α : Type} (l : List α) (i : Nat) (a : α) : l.toArray.setIfInBounds i a = (l.set i a).toArray := List.setIfInBounds_toArray ..
theorem nzB {α : Type} (b : α) (l : List α) (a : α) : (b :: l).set 0 a = a :: l := rfl
theorem nzC {α : Type} (b : α) (l : List α) (i : Nat) (a : α) : (b :: l).set (i + 1) a = b :: l.set i a := rfl

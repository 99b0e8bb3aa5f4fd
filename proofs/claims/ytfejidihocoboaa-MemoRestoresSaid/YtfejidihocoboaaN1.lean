/- Maps: a block as the relation of its keys and values. -/
import Derived.Test.YtfejidihocoboaaSetA
import Derived.Maps.Keyed
import Derived.Maps.OwnSet
import Derived.DeepKeys4
set_option linter.unusedVariables false
set_option linter.unusedSimpArgs false
namespace Go.Proofs.Ytfejidihocoboaa
open Go Go.RowKit
open Go.Maps (Keyed)
open Go.ChangeMaps (setBlock modify_eq_set)
theorem cut_at {α : Type} : ∀ {l : List α} {j : Nat} {a : α}, l[j]? = some a → ∃ l1 l2, l = l1 ++ a :: l2 ∧ l1.length = j
  | x :: l, 0, a, h => ⟨[], l, by simpa using h, rfl⟩
  | x :: l, j + 1, a, h => by
    obtain ⟨l1, l2, h1, h2⟩ := cut_at (l := l) (j := j) (a := a) (by simpa using h)
    exact ⟨x :: l1, l2, by rw [h1]; rfl, by simp [h2]⟩
/-- block b is a map that holds just the pairs of R -/
def MapR (P : Program) (k : TypeId) (w : World) (b : Nat) (R : Value → Value → Prop) : Prop :=
  ∃ es clock, w.heap[b]? = some (.map es clock) ∧ (∀ e ∈ es.toList, ∃ l, keyOf P k e.key = some l) ∧ es.toList.Pairwise (fun x y => x.key ≠ y.key) ∧ ∀ x v, R x v ↔ ∃ e ∈ es.toList, e.key = x ∧ e.val = v
section
variable {P : Program} {k t e : TypeId} {w w' : World} {b : Nat} {R R' : Value → Value → Prop} {M : Nat → Prop} {key val : Value} {kl : Lit}
theorem MapR.ext (h : MapR P k w b R) (hx : Ext M w w') (hb : ¬ M b) : MapR P k w' b R := by
  obtain ⟨es, c, h1, h2⟩ := h
  exact ⟨es, c, hx.blk h1 hb, h2⟩
theorem MapR.iff (h : MapR P k w b R) (hi : ∀ x v, R x v ↔ R' x v) : MapR P k w b R' := by
  obtain ⟨es, c, h1, h2, h3, h4⟩ := h
  exact ⟨es, c, h1, h2, h3, fun x v => (hi x v).symm.trans (h4 x v)⟩
theorem MapR.made (P : Program) (k : TypeId) (w : World) : MapR P k (w.alloc (.map #[] 0)) w.heap.size (fun _ _ => False) :=
  ⟨#[], 0, alloc_top rfl, fun e he => by simp at he, by simp, fun x v => by simp⟩
theorem MapR.lt (h : MapR P k w b R) : b < w.heap.size := by
  obtain ⟨es, c, h1, _⟩ := h
  exact lt_of_block h1
theorem MapR.look (h : MapR P k w b R) (K : Keyed P k) (ht : P.underlying t = some (.map k e)) (hkey : keyOf P k key = some kl) (hv : R key val) :
    (Instr.lookup t (.map (some b)) key false).run P w = .ok val w := by
  obtain ⟨es, c, hb, h2, h3, h4⟩ := h
  obtain ⟨e1, m1, k1, v1⟩ := (h4 _ _).1 hv
  rcases K.find w hkey es.toList h2 with ⟨_, f2⟩ | ⟨j, e0, f1, f2, f3⟩
  · exact absurd k1 (f2 e1 m1)
  · have e2 : e0 = e1 := by
      by_cases he : e0 = e1
      · exact he
      · exfalso
        obtain ⟨l1, l2, hl, _⟩ := cut_at f2
        rw [hl] at h3 m1
        obtain ⟨_, p2, p3⟩ := List.pairwise_append.1 h3
        rcases List.mem_append.1 m1 with m | m
        · exact p3 e1 m e0 (List.mem_cons_self ..) (k1.trans f3.symm)
        · rcases List.mem_cons.1 m with m | m
          · exact he m.symm
          · exact (List.pairwise_cons.1 p2).1 e1 m (f3.trans k1.symm)
    subst e2
    simp [Instr.lookup, run_underlying ht, MapKept.run_getObj_map hb, K.check w _ hkey, f1, v1, Result.andThen]
theorem MapR.lookNo (h : MapR P k w b R) (K : Keyed P k) (ht : P.underlying t = some (.map k e)) (hkey : keyOf P k key = some kl) (hv : ∀ v, ¬ R key v) {z : Value} (hz : (zeroValue e).run P w = .ok z w) :
    (Instr.lookup t (.map (some b)) key false).run P w = .ok z w := by
  obtain ⟨es, c, hb, h2, h3, h4⟩ := h
  rcases K.find w hkey es.toList h2 with ⟨f1, _⟩ | ⟨j, e0, f1, f2, f3⟩
  · simp [Instr.lookup, run_underlying ht, MapKept.run_getObj_map hb, K.check w _ hkey, f1, hz, Result.andThen]
  · exact absurd ((h4 _ _).2 ⟨e0, List.mem_of_getElem? f2, f3, rfl⟩) (hv _)
theorem ext_block {o : Obj} {o' : Obj} (hb : w.heap[b]? = some o') : Ext (At b) w (setBlock w b o) :=
  ⟨rfl, rfl, rfl, by simp [setBlock], fun i _ hi => by
    show (w.heap.setIfInBounds b o)[i]? = _
    rw [Array.getElem?_setIfInBounds_ne (fun e => hi (show i = b from e.symm))]⟩
theorem block_set {o : Obj} {o' : Obj} (hb : w.heap[b]? = some o') : (setBlock w b o).heap[b]? = some o := by
  show (w.heap.setIfInBounds b o)[b]? = _
  have := lt_of_block hb
  simp [this]
theorem MapR.store (h : MapR P k w b R) (K : Keyed P k) (ht : P.underlying t = some (.map k e)) (hkey : keyOf P k key = some kl) (val : Value) :
    ∃ w', (Instr.mapUpdate t (.map (some b)) key val).run P w = .ok () w' ∧ MapR P k w' b (fun x v => (x = key ∧ v = val) ∨ (x ≠ key ∧ R x v)) ∧ Ext (At b) w w' ∧ w'.heap.size = w.heap.size := by
  obtain ⟨es, c, hb, h2, h3, h4⟩ := h
  rcases K.find w hkey es.toList h2 with ⟨f1, g2⟩ | ⟨j, e0, f1, f2, f3⟩
  · refine ⟨setBlock w b (.map (es.push ⟨key, val, c⟩) (c + 1)), ?_, ⟨_, _, block_set hb, fun x hx => ?_, ?_, fun x v => ?_⟩, ext_block hb, by simp [setBlock]⟩
    · simp [Instr.mapUpdate, run_underlying ht, MapKept.run_getObj_map hb, K.check w false hkey, f1, MapKept.run_setObj_map _ hb, Result.andThen, setBlock]
    · simp only [Array.toList_push, List.mem_append, List.mem_singleton] at hx
      rcases hx with hx | rfl
      · exact h2 x hx
      · exact ⟨kl, hkey⟩
    · rw [Array.toList_push, List.pairwise_append]
      exact ⟨h3, by simp, fun a ha q hq => by rw [List.mem_singleton.1 hq]; exact g2 a ha⟩
    · simp only [Array.toList_push, List.mem_append, List.mem_singleton]
      rw [h4]
      constructor
      · rintro (⟨rfl, rfl⟩ | ⟨hne, q, hq, e1, e2⟩)
        · exact ⟨_, .inr rfl, rfl, rfl⟩
        · exact ⟨q, .inl hq, e1, e2⟩
      · rintro ⟨q, hq | rfl, e1, e2⟩
        · exact .inr ⟨fun e3 => g2 q hq (e1.trans e3), q, hq, e1, e2⟩
        · exact .inl ⟨e1.symm, e2.symm⟩
  · have hj : es[j]? = some e0 := by simpa using f2
    have hlist : (es.modify j (fun e' => { e' with key := key, val := val })).toList = es.toList.set j { e0 with key := key, val := val } := by rw [Array.toList_modify, modify_eq_set _ _ _ _ f2]
    obtain ⟨l1, l2, hl, hj2⟩ := cut_at f2
    have hset : es.toList.set j { e0 with key := key, val := val } = l1 ++ { e0 with key := key, val := val } :: l2 := by
      rw [hl, ← hj2]; simp
    rw [hl] at h2 h3 h4
    obtain ⟨p1, p2, p3⟩ := List.pairwise_append.1 h3
    obtain ⟨p4, p5⟩ := List.pairwise_cons.1 p2
    refine ⟨setBlock w b (.map (es.modify j (fun e' => { e' with key := key, val := val })) c), ?_, ⟨_, _, block_set hb, fun x hx => ?_, ?_, fun x v => ?_⟩, ext_block hb, by simp [setBlock]⟩
    · simp [Instr.mapUpdate, run_underlying ht, MapKept.run_getObj_map hb, K.check w false hkey, f1, hj, f3, K.stays w hkey, MapKept.run_setObj_map _ hb, Result.andThen, setBlock]
    · rw [hlist, hset] at hx
      rcases List.mem_append.1 hx with hx | hx
      · exact h2 x (List.mem_append_left _ hx)
      · rcases List.mem_cons.1 hx with rfl | hx
        · exact ⟨kl, hkey⟩
        · exact h2 x (List.mem_append_right _ (List.mem_cons_of_mem _ hx))
    · rw [hlist, hset, List.pairwise_append, List.pairwise_cons]
      refine ⟨p1, ⟨fun q hq => by simp only; rw [← f3]; exact p4 q hq, p5⟩, fun a ha q hq => ?_⟩
      rcases List.mem_cons.1 hq with rfl | hq
      · simp only; rw [← f3]; exact p3 a ha e0 (List.mem_cons_self ..)
      · exact p3 a ha q (List.mem_cons_of_mem _ hq)
    · rw [hlist, hset]
      simp only [h4]
      constructor
      · rintro (⟨rfl, rfl⟩ | ⟨hne, q, hq, e1, e2⟩)
        · exact ⟨_, List.mem_append_right _ (List.mem_cons_self ..), rfl, rfl⟩
        · refine ⟨q, ?_, e1, e2⟩
          rcases List.mem_append.1 hq with hq | hq
          · exact List.mem_append_left _ hq
          · rcases List.mem_cons.1 hq with rfl | hq
            · exact absurd (e1.symm.trans f3) hne
            · exact List.mem_append_right _ (List.mem_cons_of_mem _ hq)
      · rintro ⟨q, hq, e1, e2⟩
        rcases List.mem_append.1 hq with hq | hq
        · exact .inr ⟨fun e3 => p3 q hq e0 (List.mem_cons_self ..) (by rw [f3, e1, e3]), q, List.mem_append_left _ hq, e1, e2⟩
        · rcases List.mem_cons.1 hq with rfl | hq
          · exact .inl ⟨e1.symm, e2.symm⟩
          · exact .inr ⟨fun e3 => p4 q hq (by rw [f3, e1, e3]), q, List.mem_append_right _ (List.mem_cons_of_mem _ hq), e1, e2⟩
theorem MapR.drop (h : MapR P k w b R) (K : Keyed P k) (ht : P.underlying t = some (.map k e)) (hkey : keyOf P k key = some kl) (ty : TypeId) :
    ∃ w', (Builtin.delete_ #[t, k] ty #[.map (some b), key]).run P w = .ok (.tuple #[]) w' ∧ MapR P k w' b (fun x v => x ≠ key ∧ R x v) ∧ Ext (At b) w w' ∧ w'.heap.size = w.heap.size := by
  obtain ⟨es, c, hb, h2, h3, h4⟩ := h
  rcases K.find w hkey es.toList h2 with ⟨f1, g2⟩ | ⟨j, e0, f1, f2, f3⟩
  · refine ⟨setBlock w b (.map es c), ?_, ⟨_, _, block_set hb, h2, h3, fun x v => ?_⟩, ext_block hb, by simp [setBlock]⟩
    · simp [Builtin.delete_, run_underlying ht, MapKept.run_getObj_map hb, K.check w _ hkey, f1, MapKept.run_setObj_map _ hb, Result.andThen, setBlock]
    · simp only [h4]
      constructor
      · rintro ⟨_, h⟩; exact h
      · rintro ⟨q, hq, e1, e2⟩; exact ⟨fun e3 => g2 q hq (e1.trans e3), q, hq, e1, e2⟩
  · have hjs : j < es.size := by
      have := (List.getElem?_eq_some_iff.1 f2).1
      simpa using this
    have hsub : (es.eraseIdxIfInBounds j).toList = es.toList.eraseIdx j := by
      unfold Array.eraseIdxIfInBounds
      rw [dif_pos hjs]
      simp
    obtain ⟨l1, l2, hl, hj2⟩ := cut_at f2
    have her : es.toList.eraseIdx j = l1 ++ l2 := by
      rw [hl, ← hj2, List.eraseIdx_append_of_length_le (Nat.le_refl _)]; simp
    rw [hl] at h2 h3 h4
    obtain ⟨p1, p2, p3⟩ := List.pairwise_append.1 h3
    obtain ⟨p4, p5⟩ := List.pairwise_cons.1 p2
    refine ⟨setBlock w b (.map (es.eraseIdxIfInBounds j) c), ?_, ⟨_, _, block_set hb, fun x hx => ?_, ?_, fun x v => ?_⟩, ext_block hb, by simp [setBlock]⟩
    · simp [Builtin.delete_, run_underlying ht, MapKept.run_getObj_map hb, K.check w _ hkey, f1, MapKept.run_setObj_map _ hb, Result.andThen, setBlock]
    · rw [hsub, her] at hx
      rcases List.mem_append.1 hx with hx | hx
      · exact h2 x (List.mem_append_left _ hx)
      · exact h2 x (List.mem_append_right _ (List.mem_cons_of_mem _ hx))
    · rw [hsub, her, List.pairwise_append]
      exact ⟨p1, p5, fun a ha q hq => p3 a ha q (List.mem_cons_of_mem _ hq)⟩
    · rw [hsub, her]
      simp only [h4]
      constructor
      · rintro ⟨hne, q, hq, e1, e2⟩
        refine ⟨q, ?_, e1, e2⟩
        rcases List.mem_append.1 hq with hq | hq
        · exact List.mem_append_left _ hq
        · rcases List.mem_cons.1 hq with rfl | hq
          · exact absurd (e1.symm.trans f3) hne
          · exact List.mem_append_right _ hq
      · rintro ⟨q, hq, e1, e2⟩
        rcases List.mem_append.1 hq with hq | hq
        · exact ⟨fun e3 => p3 q hq e0 (List.mem_cons_self ..) (by rw [f3, e1, e3]), q, List.mem_append_left _ hq, e1, e2⟩
        · exact ⟨fun e3 => p4 q hq (by rw [f3, e1, e3]), q, List.mem_append_right _ (List.mem_cons_of_mem _ hq), e1, e2⟩
end
section
variable {P : Program} {w : World} {ops : Array Oper} {rest : List Oper} {o : Oper} {a : Act} {Q : Exit → Act → World → Prop} {k e : TypeId} {b : Nat} {R : Value → Value → Prop} {key val : Value} {kl : Lit}
theorem wpList_mlook (hg : o.guard = none) (m x : Operand) (t : TypeId) (hop : o.op = Op.lookup t m x false) (hm : a.eval m = .map (some b)) (hx : a.eval x = key) {u : Value}
    (hrun : (Instr.lookup t (.map (some b)) key false).run P w = .ok u w) (hK : wpList P ops Q rest (a.put o.dst u) w) :
    wpList P ops Q (o :: rest) a w := by
  refine wpList_plain hg fun K' hK' => ?_
  unfold Oper.wp
  simp [execOp, hop, hm, hx, hrun, Result.andThen]
  exact hK' _ _ hK
end
end Go.Proofs.Ytfejidihocoboaa

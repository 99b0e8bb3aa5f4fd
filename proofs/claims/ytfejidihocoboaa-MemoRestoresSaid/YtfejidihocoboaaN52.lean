/- A copy of the reference's entries, changed here and there; the pair of restored tables. -/
import Derived.Test.YtfejidihocoboaaN49
import Derived.Test.YtfejidihocoboaaN51
set_option linter.unusedVariables false
set_option linter.unusedSimpArgs false
namespace Go.Proofs.Ytfejidihocoboaa
open Go Go.RowKit
structure EMx (tb : Nat) (W w : World) (v : Value) (LL : List EV) : Prop where
  own : LOwn kE (fun b => b ≤ tb) w (tb + 1) v LL
  key : ∀ p ∈ LL, KeyOk p.1.key
  tape : TapeOk w tb
  ext : Ext (fun b => tb ≤ b) W w
section
variable {tb : Nat} {W w w' : World} {v : Value} {LL : List EV}
theorem EMx.stepNo (h : EMx tb W w v LL) (hx : Ext No w w') : EMx tb W w' v LL := ⟨h.own.extNo hx, h.key, h.tape.ext hx, h.ext.transNo hx⟩
theorem EMx.next (h : EMx tb W w v LL) (hx : Ext (At tb) w w') (ht : TapeOk w' tb) : EMx tb W w' v LL :=
  ⟨h.own.ext2 hx (fun i hi e => by have h1 := (h.own.lt i hi).1; have e2 : i = tb := e; omega) (fun i _ e => Nat.le_of_eq (show i = tb from e)), h.key, ht, h.ext.trans2 hx (fun i _ e => Nat.le_of_eq (show i = tb from e).symm)⟩
theorem EMx.list (h : EMx tb W w v LL) : LAt kE No w v LL := h.own.list2 (fun _ _ e => e) (fun _ e => e.elim)
theorem EMx.put {g c n : Nat} (h : EMx tb W w (.slice (some ⟨g, 0, none⟩) n c) LL) (hn : LL.length = n) {k : Nat} (hk : k < LL.length) {p : EV} {j : Nat} (hj : j < 6) {u : Value} (hc : kE.cells p = (kE.cells LL[k]).set j u) (hp : kE.ok (fun b => b ≤ tb ∨ b = g) w p) (hky : KeyOk p.1.key) :
    EMx tb W (w.setCell ⟨g, k * 6 + j, none⟩ u) (.slice (some ⟨g, 0, none⟩) n c) (LL.set k p) := by
  subst hn
  have h2 := (h.own.lt g rfl).1
  refine ⟨LOwn.put1 (K := kE) h.own hk hj hc hp, fun q hq => ?_, h.tape.extAbove ((Ext.refl (At g) w).setAt _ u) (fun i hi e => by have e2 : i = g := e; omega), h.ext.trans2 ((Ext.refl (At g) w).setAt _ u) (fun i _ e => by have e2 : i = g := e; omega)⟩
  rcases List.mem_or_eq_of_mem_set hq with hq | rfl
  · exact h.key q hq
  · exact hky
theorem EMx.okAt {g c n : Nat} (h : EMx tb W w (.slice (some ⟨g, 0, none⟩) n c) LL) {k : Nat} (hk : k < LL.length) : WordsAt (fun b => b ≤ tb ∨ b = g) w LL[k].2 LL[k].1.s.words :=
  WordsAt.mono (h.own.ok _ (List.getElem_mem hk)) (fun i _ e => e.imp id (fun e => by rw [e]; rfl))
theorem EMx.cell {g c n : Nat} (h : EMx tb W w (.slice (some ⟨g, 0, none⟩) n c) LL) (hn : LL.length = n) {k : Nat} (hk : k < LL.length) : (w.cell? ⟨g, k * 6 + 2, none⟩ = some (.int .i64 LL[k].1.key.2.2) ∧ w.cell? ⟨g, k * 6 + 3, none⟩ = some (.int .i64 LL[k].1.s.width)) ∧ w.cell? ⟨g, k * 6 + 4, none⟩ = some LL[k].2 ∧ w.cell? ⟨g, k * 6 + 5, none⟩ = some (.int .i64 LL[k].1.t) := by
  subst hn
  exact ⟨⟨h.own.cellAt (K := kE) (j := 2) hk (by decide) rfl, h.own.cellAt (K := kE) (j := 3) hk (by decide) rfl⟩, h.own.cellAt (K := kE) (j := 4) hk (by decide) rfl, h.own.cellAt (K := kE) (j := 5) hk (by decide) rfl⟩
theorem EMx.tick {g c n : Nat} (h : EMx tb W w (.slice (some ⟨g, 0, none⟩) n c) LL) (hn : LL.length = n) {k : Nat} (hk : k < LL.length) (t : Int) : ∃ LL' : List EV, LL'.length = n ∧ EMx tb W (w.setCell ⟨g, k * 6 + 5, none⟩ (.int .i64 t)) (.slice (some ⟨g, 0, none⟩) n c) LL' :=
  ⟨_, by rw [List.length_set, hn], h.put hn hk (p := (⟨LL[k].1.key, LL[k].1.s, t⟩, LL[k].2)) (by decide) rfl (h.okAt hk) (h.key LL[k] (List.getElem_mem hk))⟩
theorem EMx.node {g c n : Nat} (h : EMx tb W w (.slice (some ⟨g, 0, none⟩) n c) LL) (hn : LL.length = n) {k : Nat} (hk : k < LL.length) (t : Int) (ht : -1 ≤ t ∧ t ≤ 5) : ∃ LL' : List EV, LL'.length = n ∧ EMx tb W (w.setCell ⟨g, k * 6 + 2, none⟩ (.int .i64 t)) (.slice (some ⟨g, 0, none⟩) n c) LL' :=
  ⟨_, by rw [List.length_set, hn], h.put hn hk (p := (⟨(LL[k].1.key.1, LL[k].1.key.2.1, t), LL[k].1.s, LL[k].1.t⟩, LL[k].2)) (by decide) rfl (h.okAt hk) (by
    have h1 := h.key _ (List.getElem_mem hk)
    exact ⟨h1.1, h1.2.1, by simp only; omega⟩)⟩
theorem EMx.value {g c n : Nat} (h : EMx tb W w (.slice (some ⟨g, 0, none⟩) n c) LL) (hn : LL.length = n) {k : Nat} (hk : k < LL.length) (s : RawSet) (sl : Value) (hs : WordsAt (fun b => b ≤ tb ∨ b = g) w sl s.words) : ∃ LL' : List EV, LL'.length = n ∧ EMx tb W ((w.setCell ⟨g, k * 6 + 3, none⟩ (.int .i64 s.width)).setCell ⟨g, k * 6 + 4, none⟩ sl) (.slice (some ⟨g, 0, none⟩) n c) LL' := by
  have h1 := h.put hn hk (p := (⟨LL[k].1.key, ⟨s.width, LL[k].1.s.words⟩, LL[k].1.t⟩, LL[k].2)) (j := 3) (u := .int .i64 s.width) (by decide) rfl (h.okAt hk) (h.key LL[k] (List.getElem_mem hk))
  have hk2 : k < (LL.set k ((⟨LL[k].1.key, ⟨s.width, LL[k].1.s.words⟩, LL[k].1.t⟩ : Ent), LL[k].2)).length := by rw [List.length_set]; exact hk
  have h2 := h1.put (by rw [List.length_set, hn]) hk2 (p := (⟨LL[k].1.key, s, LL[k].1.t⟩, sl)) (j := 4) (u := sl) (by decide) (by rw [List.getElem_set_self]; rfl) (hs.ext ((Ext.refl (At g) w).setAt _ _) (fun i _ e => .inr e)) (h.key LL[k] (List.getElem_mem hk))
  exact ⟨_, by rw [List.length_set, List.length_set, hn], h2⟩
theorem two_restored {wx w1 w5 : World} {T bm : Nat} {cap clk : Int} {vk : Value} {L : List PE} {BB : Array Value} {BT : TypeId} (h : EMx tb W wx v LL) (hP : PTab (Lo wx.heap.size) w1 T cap clk bm vk L) (hx1 : Ext No wx w1) (hx5 : Ext No w1 w5) :
    Two (fun b => b ≤ tb) ((w5.alloc (.cells #[.int .i64 cap, v, .int .i64 clk] 32)).alloc (.cells BB BT)) T w5.heap.size cap clk clk bm vk v L LL := by
  have hs1 := hx1.size
  have hs5 := hx5.size
  have htl := h.tape.lt
  have hx7 : Ext No w5 ((w5.alloc (.cells #[.int .i64 cap, v, .int .i64 clk] 32)).alloc (.cells BB BT)) := ((Ext.refl _ _).alloc _).alloc _
  have hpo : ∀ b, POwn T bm vk L b → wx.heap.size ≤ b ∧ b < w1.heap.size := fun b hb => by
    have h1 := hP.t.out b hb
    unfold Lo at h1
    exact ⟨by omega, hP.ownLt hb⟩
  refine ⟨((hP.mono (M' := fun b => b < wx.heap.size ∨ w1.heap.size ≤ b) (fun i hi e => by unfold Lo; omega)).stepNo (hx5.transNo hx7)).mono (fun i hi e => ?_), ⟨alloc_under (alloc_top rfl), ?_, fun b hb e => ?_⟩⟩
  · rcases e with e | e | e
    · exact .inl (by omega)
    · exact .inr (by omega)
    · exact .inl (h.own.lt i e).2
  · have h1 := ((h.own.mono (A' := fun b => b ≤ tb ∨ wx.heap.size ≤ b) (fun i hi e => e.elim id (fun e => by omega))).extNo ((hx1.transNo hx5).transNo hx7)).mono (A' := fun b => (b ≤ tb ∨ POwn T bm vk L b) ∨ b = w5.heap.size) (fun i _ e => by
      rcases e with (e | e) | e
      · exact .inl e
      · exact .inr (hpo i e).1
      · exact .inr (by omega))
    exact ⟨row_base h1.own (Nat.zero_le _), h1.ok⟩
  · rcases hb with hb | hb
    · rcases e with e | e
      · omega
      · have h2 := hpo b e; omega
    · have h3 := h.own.lt b hb
      rcases e with e | e
      · omega
      · have h2 := hpo b e; omega
end
theorem RestPost.val {z y : Int} {es : List Ent} {W w' : World} {e : Ending} (h : RestPost z y es W e w') : ∃ p, e = .returned (.tuple #[.pointer p, .int .i64 (restE z es y)]) ∧ Ext No W w' := by
  obtain ⟨h1, h2, hx⟩ := h
  by_cases hr : restE z es y = 0
  · obtain ⟨T, bm, vk, L, rfl, -, -⟩ := h2 hr
    rw [hr]
    exact ⟨_, rfl, hx⟩
  · exact ⟨_, h1 hr, hx⟩
end Go.Proofs.Ytfejidihocoboaa

/- Webs in memory: what lies where. -/
import Derived.Test.YtkdjdhflhlbelaaH1
set_option linter.unusedVariables false
set_option linter.unusedSimpArgs false
namespace Go.Proofs.Ytkdjdhflhlbelaa
open Go Go.RowKit
def ArcsAt (M : Nat → Prop) (W : World) (sl : Value) (S : SysD) (i : Nat) : Prop := ∃ L : LA, LAt kA M W sl L ∧ L.map cutA = arcsR S i
section
variable {M M' : Nat → Prop} {W W' : World} {vb vi sl : Value} {S : SysD} {i : Nat}
theorem ArcsAt.ext (h : ArcsAt M W sl S i) (hx : Ext M' W W') (hm : ∀ i, i < W.heap.size → M' i → M i) : ArcsAt M W' sl S i := by
  obtain ⟨L, h1, h2⟩ := h; exact ⟨L, h1.ext hx hm, h2⟩
theorem ArcsAt.extNo (h : ArcsAt M W sl S i) (hx : Ext No W W') : ArcsAt M W' sl S i := h.ext hx (fun _ _ x => x.elim)
theorem ArcsAt.slice (h : ArcsAt M W sl S i) : ∃ a c, sl = .slice a (depD S i).length c := by
  obtain ⟨L, h1, h2⟩ := h
  obtain ⟨a, c, e⟩ := h1.slice
  have e2 := congrArg List.length h2
  simp only [List.length_map, arcsR] at e2
  exact ⟨a, c, by rw [e, e2]⟩
theorem WebAt.slices (h : WebAt M W vb vi S) : ∃ ab cb ai ci, vb = .slice ab S.deps.length cb ∧ vi = .slice ai S.deps.length ci := by
  obtain ⟨ab, cb, e1⟩ := h.bnd.slice
  obtain ⟨Li, h1, h2, _⟩ := h.ex
  obtain ⟨ai, ci, e2⟩ := h1.slice
  exact ⟨ab, cb, ai, ci, by rw [e1, h.ok.lb], by rw [e2, h2]⟩
theorem WebAt.arcs (h : WebAt M W vb vi S) (hi : i < S.deps.length) : ∃ b off cap a c, vi = .slice (some ⟨b, off, none⟩) S.deps.length cap ∧ W.cell? ⟨b, off + i, none⟩ = some (.slice a (depD S i).length c) ∧ Hid (ArcsAt M W (.slice a (depD S i).length c) S i) := by
  obtain ⟨Li, h1, h2, h3⟩ := h.ex
  have hi2 : i < Li.length := by omega
  obtain ⟨b, off, cap, g1, _, _, g4⟩ := h1.atL hi2
  have g5 : ArcsAt M W Li[i].2 S i := ⟨Li[i].1, h1.ok _ (List.getElem_mem hi2), h3 i hi2⟩
  obtain ⟨a, c, g6⟩ := g5.slice
  exact ⟨b, off, cap, a, c, by rw [g1, h2], by rw [g4 i hi2, g6], Lib.hid (g6 ▸ g5)⟩
theorem ArcsAt.at (hS : SysOk S) (h : ArcsAt M W sl S i) {k m : Nat} (hk : k < (depD S i).length) (hm : m = (depD S i)[k]) : ∃ b off cap ag cg ak ck ac n cc, sl = .slice (some ⟨b, off, none⟩) (depD S i).length cap ∧
    (W.cell? ⟨b, off + k * 6, none⟩ = some (.int .i64 (m : Int)) ∧ W.cell? ⟨b, off + k * 6 + 1, none⟩ = some (.int .i64 (S.w : Int)) ∧ W.cell? ⟨b, off + k * 6 + 2, none⟩ = some (.slice ag (nw S.w) cg) ∧ W.cell? ⟨b, off + k * 6 + 3, none⟩ = some (.int .i64 (S.w : Int)) ∧ W.cell? ⟨b, off + k * 6 + 4, none⟩ = some (.slice ak (nw S.w) ck) ∧ W.cell? ⟨b, off + k * 6 + 5, none⟩ = some (.slice ac n cc)) ∧
    Hid (TrAt M W (.slice ag (nw S.w) cg) (.slice ak (nw S.w) ck) (.slice ac n cc) (trD S m)) ∧ Hid ((trD S m).w = S.w) := by
  obtain ⟨L, h1, h2⟩ := h
  have e2 := congrArg List.length h2
  simp only [List.length_map, arcsR] at e2
  have hk2 : k < L.length := by omega
  have hmd : m < S.deps.length := hS.dep (i := i) (by rw [hm]; exact List.getElem_mem hk)
  obtain ⟨b, off, cap, g1, _, _, g4⟩ := h1.atA hk2
  have g5 : RawTAt M W L[k].2.2.1 L[k].2.2.2.1 L[k].2.2.2.2 L[k].2.1 := h1.ok _ (List.getElem_mem hk2)
  have g6 : cutA L[k] = ((m : Int), rawT (trD S m)) := by
    have := congrArg (fun l => l[k]?) h2
    simp only [List.getElem?_map, List.getElem?_eq_getElem hk2, arcsR, List.getElem?_eq_getElem hk, Option.map_some, Option.some.injEq] at this
    rw [this, ← hm]
  have g6a : L[k].1 = (m : Int) := congrArg Prod.fst g6
  have g6b : L[k].2.1 = rawT (trD S m) := congrArg Prod.snd g6
  obtain ⟨g7, g8⟩ := hS.tr hmd
  rw [g6b] at g5
  have g9 := g5.tr g7
  obtain ⟨ag, cg, k1⟩ := g9.gen.slice
  obtain ⟨ak, ck, k2⟩ := g9.kill.slice
  obtain ⟨ac, cc, k3⟩ := Row.slice g9.copies
  rw [k1, k2, k3] at g9
  rw [g8] at g9 k1 k2
  obtain ⟨cz, c0, c1, c2, c3, c4⟩ := g4 k hk2
  refine ⟨b, off, cap, ag, cg, ak, ck, ac, _, cc, by rw [g1, e2], ⟨by rw [cz, g6a], ?_, ?_, ?_, ?_, ?_⟩, Lib.hid g9, Lib.hid g8⟩
  · rw [c0, g6b]; show some (Value.int .i64 ((trD S m).w : Int)) = _; rw [g8]
  · rw [c1, k1]
  · rw [c2, g6b]; show some (Value.int .i64 ((trD S m).w : Int)) = _; rw [g8]
  · rw [c3, k2]
  · rw [c4, k3]
end
/-- a sum under way in box D; Q: what is written meanwhile -/
structure WdM (Q : Nat → Prop) (w0 wr : World) (D w m : Nat) (a : Option Addr) (c : Nat) : Prop where
  ext : Ext No w0 wr
  box : wr.heap[D]? = some (.cells #[.int .i64 (w : Int), .slice a (nw w) c] 33 (0, 0))
  set : SetAt (fun b => Q b ∨ b = D) wr (.slice a (nw w) c) w m
  low : w0.heap.size ≤ D
section
variable {Q : Nat → Prop} {w0 wr w' : World} {D w m m' : Nat} {a a' : Option Addr} {c c' : Nat}
theorem WdM.step (h : WdM Q w0 wr D w m a c) (hx : Ext No wr w') : WdM Q w0 w' D w m a c := ⟨h.ext.transNo hx, hx.blk h.box no_no, h.set.extNo hx, h.low⟩
theorem WdM.put (h : WdM Q w0 wr D w m a c) (hs : SetAt (fun b => Q b ∨ b = D) wr (.slice a' (nw w) c') w m') : WdM Q w0 ((wr.setCell ⟨D, 0, none⟩ (.int .i64 (w : Int))).setCell ⟨D, 1, none⟩ (.slice a' (nw w) c')) D w m' a' c' := by
  have hE : Ext (At D) wr ((wr.setCell ⟨D, 0, none⟩ (.int .i64 (w : Int))).setCell ⟨D, 1, none⟩ (.slice a' (nw w) c')) := ext_two (Ext.refl No wr) D
  have hl := h.low
  exact ⟨h.ext.trans2 hE (fun i hi e => by unfold At at e; omega), (set_same (j := 1) (set_same (j := 0) h.box)).trans rfl, hs.ext hE (fun i _ e => .inr e), hl⟩
theorem WdM.hM (h : WdM Q w0 wr D w m a c) (hQ : ∀ b, Q b → b < w0.heap.size) : ∀ b, (Q b ∨ b = D) → b < wr.heap.size := fun b hb => by
  rcases hb with hb | rfl
  · exact Nat.lt_of_lt_of_le (hQ b hb) h.ext.size
  · exact lt_of_block h.box
end
end Go.Proofs.Ytkdjdhflhlbelaa


import Derived.Test.YtjeohlooaiociaaGreatDoorSp1
set_option linter.unusedVariables false
set_option linter.unusedSimpArgs false
namespace Go.Proofs.YtjeohlooaiociaaGreatDoor
open Go Go.RowKit
theorem flatC_one (l : List (Int × Int)) : ∀ u ∈ flatC l, u.oneCell' = true := fun u hu => by
 simp only [flatC, List.mem_flatMap, CopyC] at hu
 obtain ⟨c, _, hc⟩ := hu
 simp only [List.mem_cons, List.not_mem_nil, or_false] at hc
 rcases hc with rfl | rfl <;> rfl
theorem flatC_append (l k : List (Int × Int)) : flatC (l ++ k) = flatC l ++ flatC k := by simp [flatC]
theorem own_block {w : World} {g : Nat} {cs : Array Value} {T : TypeId} (h : w.heap[g]? = some (.cells cs T (0, 0))) (hn : cs.size = 2) : w.ownsRow g T 2 (.slice (some ⟨g, 0, none⟩) 1 1) 1 cs.toList :=
 ⟨by simpa using hn, .inr ⟨g, 1, cs, rfl, Nat.le_refl _, h, by decide, by decide, by omega, by simp [← hn]; exact List.take_of_length_le (by simp)⟩⟩
structure SqM (tb : Nat) (N : Nat → Prop) (W wr : World) (fc : Array Value) (r : RawT) (sg sk vc : Value) : Prop where
 ext : Ext (At tb) W wr
 tape : TapeOk wr tb
 boxA : wr.heap[W.heap.size]? = some (.cells fc 69 (0, 0))
 boxC : wr.heap[W.heap.size + 1]? = some (.cells #[.int .i64 0, .slice none 0 0, .int .i64 0, .slice none 0 0, .slice none 0 0] 69 (0, 0))
 boxD : wr.heap[W.heap.size + 2]? = some (.cells #[.int .i64 r.gen.width, sg, .int .i64 r.kill.width, sk, vc] 69 (0, 0))
 gen : WordsAt (fun b => N b ∨ b = W.heap.size + 1 ∨ b = W.heap.size + 2 ∨ vc.ownBlock = some b) wr sg r.gen.words
 kill : WordsAt (fun b => N b ∨ b = W.heap.size + 1 ∨ b = W.heap.size + 2 ∨ vc.ownBlock = some b) wr sk r.kill.words
 own : wr.ownsRow (W.heap.size + 3) 99 2 vc r.copies.length (flatC r.copies)
 lt0 : (tb < W.heap.size ∧ N tb) ∧ ∀ i, N i → i < W.heap.size
theorem SqM.lt {tb : Nat} {N : Nat → Prop} {W wr : World} {fc : Array Value} {r : RawT} {sg sk vc : Value} (h : SqM tb N W wr fc r sg sk vc) : tb < W.heap.size := h.lt0.1.1
section
variable {tb : Nat} {N : Nat → Prop} {W wr w' : World} {fc : Array Value} {r : RawT} {sg sk vc vc' sg' sk' : Value}
theorem SqM.step (h : SqM tb N W wr fc r sg sk vc) (hx : Ext (At tb) wr w') (ht : TapeOk w' tb) : SqM tb N W w' fc r sg sk vc := by
 have h1 := h.lt
 exact ⟨h.ext.trans hx, ht, hx.blk h.boxA (by unfold At; omega), hx.blk h.boxC (by unfold At; omega), hx.blk h.boxD (by unfold At; omega), h.gen.ext hx (fun i _ e => .inl (by unfold At at e; rw [e]; exact h.lt0.1.2)), h.kill.ext hx (fun i _ e => .inl (by unfold At at e; rw [e]; exact h.lt0.1.2)), row_keep h.own hx (fun i hi e => by unfold At at e; omega), h.lt0⟩
theorem SqM.stepNo (h : SqM tb N W wr fc r sg sk vc) (hx : Ext No wr w') : SqM tb N W w' fc r sg sk vc := h.step hx.ofNo (h.tape.ext hx)
theorem SqM.ownLt (h : SqM tb N W wr fc r sg sk vc) (k : Nat) (hk : vc.ownBlock = some k) : W.heap.size + 3 ≤ k ∧ k < wr.heap.size := World.ownsRow.lt h.own k hk
theorem SqM.putG {g : RawSet} (h : SqM tb N W wr fc r sg sk vc) (hg : WordsAt (fun b => N b ∨ b = W.heap.size + 1 ∨ b = W.heap.size + 2 ∨ vc.ownBlock = some b) wr sg' g.words) :
  SqM tb N W ((wr.setCell ⟨W.heap.size + 2, 0, none⟩ (.int .i64 g.width)).setCell ⟨W.heap.size + 2, 1, none⟩ sg') fc ⟨g, r.kill, r.copies⟩ sg' sk vc := by
 have hE : Ext (At (W.heap.size + 2)) wr ((wr.setCell ⟨W.heap.size + 2, 0, none⟩ (.int .i64 g.width)).setCell ⟨W.heap.size + 2, 1, none⟩ sg') := ((Ext.refl (At (W.heap.size + 2)) _).setAt _ _).setAt _ _
 have h1 := h.lt
 exact ⟨h.ext.trans2 hE (fun i hi e => by unfold At at e; omega), h.tape.extAbove hE (fun i hi e => by unfold At at e; omega), hE.blk h.boxA (by unfold At; omega), hE.blk h.boxC (by unfold At; omega), (set_same (j := 1) (set_same (j := 0) h.boxD)).trans rfl, hg.ext hE (fun i _ e => .inr (.inr (.inl e))), h.kill.ext hE (fun i _ e => .inr (.inr (.inl e))), row_keep h.own hE (fun i hi e => by unfold At at e; omega), h.lt0⟩
theorem SqM.putK {k : RawSet} (h : SqM tb N W wr fc r sg sk vc) (hk : WordsAt (fun b => N b ∨ b = W.heap.size + 1 ∨ b = W.heap.size + 2 ∨ vc.ownBlock = some b) wr sk' k.words) :
  SqM tb N W ((wr.setCell ⟨W.heap.size + 2, 2, none⟩ (.int .i64 k.width)).setCell ⟨W.heap.size + 2, 3, none⟩ sk') fc ⟨r.gen, k, r.copies⟩ sg sk' vc := by
 have hE : Ext (At (W.heap.size + 2)) wr ((wr.setCell ⟨W.heap.size + 2, 2, none⟩ (.int .i64 k.width)).setCell ⟨W.heap.size + 2, 3, none⟩ sk') := ((Ext.refl (At (W.heap.size + 2)) _).setAt _ _).setAt _ _
 have h1 := h.lt
 exact ⟨h.ext.trans2 hE (fun i hi e => by unfold At at e; omega), h.tape.extAbove hE (fun i hi e => by unfold At at e; omega), hE.blk h.boxA (by unfold At; omega), hE.blk h.boxC (by unfold At; omega), (set_same (j := 3) (set_same (j := 2) h.boxD)).trans rfl, h.gen.ext hE (fun i _ e => .inr (.inr (.inl e))), hk.ext hE (fun i _ e => .inr (.inr (.inl e))), row_keep h.own hE (fun i hi e => by unfold At at e; omega), h.lt0⟩
theorem SqM.putC {l : List (Int × Int)} {M : Nat → Prop} (h : SqM tb N W wr fc r sg sk vc) (hE : Ext M wr w') (hM : ∀ i, M i → W.heap.size + 3 ≤ i ∧ (vc.ownBlock = some i ∨ wr.heap.size ≤ i)) (hown : w'.ownsRow (W.heap.size + 3) 99 2 vc' l.length (flatC l)) (hv : ∀ k, vc'.ownBlock = some k → vc.ownBlock = some k ∨ wr.heap.size ≤ k) :
  SqM tb N W (w'.setCell ⟨W.heap.size + 2, 4, none⟩ vc') fc ⟨r.gen, r.kill, l⟩ sg sk vc' ∧ w'.heap[W.heap.size + 2]? = some (.cells #[.int .i64 r.gen.width, sg, .int .i64 r.kill.width, sk, vc] 69 (0, 0)) := by
 have h1 := h.lt
 have hD := hE.blk h.boxD (fun e => by have := (hM _ e).1; omega)
 have hE2 : Ext (At (W.heap.size + 2)) w' (w'.setCell ⟨W.heap.size + 2, 4, none⟩ vc') := (Ext.refl (At (W.heap.size + 2)) _).setAt _ _
 have hW : ∀ {sl : Value} {ws : List Nat}, WordsAt (fun b => N b ∨ b = W.heap.size + 1 ∨ b = W.heap.size + 2 ∨ vc.ownBlock = some b) wr sl ws → WordsAt (fun b => N b ∨ b = W.heap.size + 1 ∨ b = W.heap.size + 2 ∨ vc'.ownBlock = some b) (w'.setCell ⟨W.heap.size + 2, 4, none⟩ vc') sl ws := fun hw => by
  refine ((hw.mono (M' := fun b => (N b ∨ b = W.heap.size + 1 ∨ b = W.heap.size + 2 ∨ vc'.ownBlock = some b) ∨ M b) (fun i hi e => ?_)).ext hE (fun i _ e => .inr e)).mono (fun i _ e => .inl e) |>.ext hE2 (fun i _ e => .inr (.inr (.inl e)))
  rcases e with (e | e | e | e) | e
  ·exact .inl e
  ·exact .inr (.inl e)
  ·exact .inr (.inr (.inl e))
  ·rcases hv i e with h2 | h2
   ·exact .inr (.inr (.inr h2))
   omega
  rcases (hM i e).2 with h2 | h2
  ·exact .inr (.inr (.inr h2))
  omega
 exact ⟨⟨(h.ext.trans2 hE (fun i hi e => by have := (hM i e).1; omega)).trans2 hE2 (fun i hi e => by unfold At at e; omega), (h.tape.extAbove hE (fun i hi e => by have := (hM i e).1; omega)).extAbove hE2 (fun i hi e => by unfold At at e; omega), hE2.blk (hE.blk h.boxA (fun e => by have := (hM _ e).1; omega)) (by unfold At; omega), hE2.blk (hE.blk h.boxC (fun e => by have := (hM _ e).1; omega)) (by unfold At; omega), (set_same (j := 4) hD).trans rfl, hW h.gen, hW h.kill, row_keep hown hE2 (fun i hi e => by unfold At at e; omega), h.lt0⟩, hD⟩
theorem SqM.app {o : Obj} {x y : Int} (h : SqM tb N W wr fc r sg sk vc) (hown : w'.ownsRow (W.heap.size + 3) 99 2 vc' (r.copies.length + 1) (flatC r.copies ++ [.int .i64 x, .int .i64 y])) (hg : (wr.alloc o).grownBy w' vc.ownBlock) (hv : vc'.ownBlock = vc.ownBlock ∨ vc'.ownBlock = some (wr.alloc o).heap.size) :
  SqM tb N W (w'.setCell ⟨W.heap.size + 2, 4, none⟩ vc') fc ⟨r.gen, r.kill, r.copies ++ [(x, y)]⟩ sg sk vc' ∧ w'.heap[W.heap.size + 2]? = some (.cells #[.int .i64 r.gen.width, sg, .int .i64 r.kill.width, sk, vc] 69 (0, 0)) := by
 have hE : Ext (fun k => vc.ownBlock = some k) wr w' := ((Ext.refl _ wr).alloc o).grown hg (fun k hk _ => hk)
 refine h.putC hE (fun i hi => ⟨(h.ownLt i hi).1, .inl hi⟩) ?_ (fun k hk => ?_)
 ·rw [flatC_append, List.length_append]
  exact hown
 rcases hv with hv | hv
 ·exact .inl (hv ▸ hk)
 rw [hv] at hk
 simp only [Option.some.injEq] at hk
 have : (wr.alloc o).heap.size = wr.heap.size + 1 := by simp
 exact .inr (by omega)
theorem SqM.pre {o : Obj} {x y : Int} (h : SqM tb N W wr fc r sg sk vc) (hown : w'.ownsRow wr.heap.size 99 2 vc' (1 + r.copies.length) ([.int .i64 x, .int .i64 y] ++ flatC r.copies)) (hg : (wr.alloc o).grownBy w' (some wr.heap.size)) :
  SqM tb N W (w'.setCell ⟨W.heap.size + 2, 4, none⟩ vc') fc ⟨r.gen, r.kill, (x, y) :: r.copies⟩ sg sk vc' ∧ w'.heap[W.heap.size + 2]? = some (.cells #[.int .i64 r.gen.width, sg, .int .i64 r.kill.width, sk, vc] 69 (0, 0)) := by
 have hE : Ext No wr w' := ((Ext.refl No wr).alloc o).grown hg (fun k hk hlt => by simp only [Option.some.injEq] at hk; omega)
 have h2 := lt_of_block h.boxD
 refine h.putC hE (fun i hi => hi.elim) ?_ (fun k hk => .inr (World.ownsRow.lt hown k hk).1)
 rw [show (x, y) :: r.copies = [(x, y)] ++ r.copies from rfl, flatC_append, List.length_append]
 exact row_base hown (by omega)
theorem SqM.sliceC (h : SqM tb N W wr fc r sg sk vc) : ∃ a n c, vc = .slice a n c := by
 obtain ⟨a, c, e⟩ := (Row.ofOwns (M := No) h.own (fun _ _ x => x)).slice
 exact ⟨a, _, c, e⟩
theorem SqM.shape (h : SqM tb N W wr fc r sg sk vc) (hn : r.copies.length ≠ 0) : ∃ g, vc = .slice (some ⟨g, 0, none⟩) r.copies.length (match vc with | .slice _ _ c => c | _ => 0) ∧ g < wr.heap.size := by
 obtain ⟨h1, h2⟩ := h.own
 rcases h2 with ⟨_, h3⟩ | ⟨g, cap, cur, rfl, hb, hg, _⟩
 ·exact absurd h3 hn
 exact ⟨g, rfl, lt_of_block hg⟩
theorem SqM.last {g c : Nat} (h : SqM tb N W wr fc r sg sk (.slice (some ⟨g, 0, none⟩) r.copies.length c)) (hn : r.copies.length ≠ 0) : ∃ x y : Int, wr.cell? ⟨g, (r.copies.length - 1) * 2, none⟩ = some (.int .i64 x) ∧ wr.cell? ⟨g, (r.copies.length - 1) * 2 + 1, none⟩ = some (.int .i64 y) := by
 have hl := flatC_len r.copies
 refine ⟨(r.copies[r.copies.length - 1]'(by omega)).1, (r.copies[r.copies.length - 1]'(by omega)).2, ?_, ?_⟩
 ·rw [World.ownsRow.cellAt h.own _ (by omega)]
  exact (flatC_get r.copies (r.copies.length - 1) 0 (by omega) (by omega)).trans rfl
 rw [World.ownsRow.cellAt h.own _ (by omega)]
 exact (flatC_get r.copies (r.copies.length - 1) 1 (by omega) (by omega)).trans rfl
theorem SqM.slices (h : SqM tb N W wr fc r sg sk vc) : ∃ a1 c1 a2 c2 a3 c3, sg = .slice a1 r.gen.words.length c1 ∧ sk = .slice a2 r.kill.words.length c2 ∧ vc = .slice a3 r.copies.length c3 := by
 obtain ⟨a1, c1, e1⟩ := h.gen.slice
 obtain ⟨a2, c2, e2⟩ := h.kill.slice
 obtain ⟨a3, c3, e3⟩ := (Row.ofOwns (M := No) h.own (fun _ _ x => x)).slice
 exact ⟨a1, c1, a2, c2, a3, c3, e1, e2, e3⟩
end
theorem SqM.lo {tb : Nat} {N : Nat → Prop} {W wr : World} {fc : Array Value} {r : RawT} {sg sk vc : Value} (h : SqM tb N W wr fc r sg sk vc) (i : Nat) (e : N i ∨ i = W.heap.size + 1 ∨ i = W.heap.size + 2 ∨ vc.ownBlock = some i) : Lo wr.heap.size i := by
 have h1 := h.lt
 have h2 := lt_of_block h.boxD
 unfold Lo
 rcases e with e | e | e | e
 ·have := h.lt0.2 i e; omega
 ·omega
 ·omega
 exact (h.ownLt i e).2
def GenRawT (tb : Nat) (N : Nat → Prop) (W : World) (e : Ending) (w' : World) : Prop :=
 ∃ (r : RawT) (sg sk sc : Value), e = .returned (.agg #[.int .i64 r.gen.width, sg, .int .i64 r.kill.width, sk, sc]) ∧ Hid (RawTAt N w' sg sk sc r) ∧ TapeOk w' tb ∧ Ext (At tb) W w'
theorem spoilT_end {tb : Nat} {N : Nat → Prop} {W wr : World} {fc : Array Value} {r : RawT} {sg sk vc : Value} {z1 z2 : Int} {tmps : Array Value} (h : SqM tb N W wr fc r sg sk vc) (h4 : tmps[4]? = some (.pointer (some ⟨W.heap.size + 1, 0, none⟩))) (e1 : z1 = r.gen.width) (e2 : z2 = r.kill.width) :
  bodyPost Tryz.prog Tryz.f47 (GenRawT tb N W) .ret { tmps := tmps, defers := [] } (((((wr.setCell ⟨W.heap.size + 1, 0, none⟩ (.int .i64 z1)).setCell ⟨W.heap.size + 1, 1, none⟩ sg).setCell ⟨W.heap.size + 1, 2, none⟩ (.int .i64 z2)).setCell ⟨W.heap.size + 1, 3, none⟩ sk).setCell ⟨W.heap.size + 1, 4, none⟩ vc) := by
 subst e1
 subst e2
 have hE := set5 wr (W.heap.size + 1) (.int .i64 r.gen.width) sg (.int .i64 r.kill.width) sk vc
 have hbF := BoxR.fin5 ⟨_, rfl, h.boxC⟩ (.int .i64 r.gen.width) sg (.int .i64 r.kill.width) sk vc
 have h1 := h.lt
 generalize (((((wr.setCell ⟨W.heap.size + 1, 0, none⟩ (.int .i64 r.gen.width)).setCell ⟨W.heap.size + 1, 1, none⟩ sg).setCell ⟨W.heap.size + 1, 2, none⟩ (.int .i64 r.kill.width)).setCell ⟨W.heap.size + 1, 3, none⟩ sk).setCell ⟨W.heap.size + 1, 4, none⟩ vc) = WF at *
 have cF := cellOf hbF
 refine ret_ex rfl ?_
 simp [results, Tryz.results47, go_sem, cF, h4]
 exact ⟨r, sg, sk, vc, rfl, Lib.hid ⟨(h.gen.ext hE (fun i _ e => .inr (.inl e))).mono (fun i _ e => .inl e), (h.kill.ext hE (fun i _ e => .inr (.inl e))).mono (fun i _ e => .inl e), Row.ofOwns (row_keep h.own hE (fun i hi e => by unfold At at e; omega)) (fun b hb hm => by have := h.lt0.2 b hm; omega)⟩, h.tape.extAbove hE (fun i hi e => by unfold At at e; omega), h.ext.trans2 hE (fun i hi e => by unfold At at e; omega)⟩
set_option maxRecDepth 100000 in
set_option maxHeartbeats 8000000 in
theorem spoilT_any (tb : Nat) (N : Nat → Prop) (f : RawT) (g1 k1 c1 : Value) (W : World) (hNt : N tb) (hNl : ∀ i, N i → i < W.heap.size) (h : RawTAt N W g1 k1 c1 f) (hl1 : f.gen.words.length ≤ 1048576) (hl2 : f.kill.words.length ≤ 1048576) (hl3 : f.copies.length ≤ 1048576) (ht : TapeOk W tb) :
  Calls Tryz.prog 47 #[.pointer (some ⟨tb, 0, none⟩), .agg #[.int .i64 f.gen.width, g1, .int .i64 f.kill.width, k1, c1]] W (GenRawT tb N W) := by
 obtain ⟨i0, hi0, hz0, hz1, hz2⟩ := info_parts infoC
 have H := Lib.hid h
 have HT := Lib.hid ht
 have hlt0 := ht.lt
 obtain ⟨ag, cg, rfl⟩ := h.gen.slice
 obtain ⟨ak, ck, rfl⟩ := h.kill.slice
 obtain ⟨ac, cc, rfl⟩ := Row.slice h.copies
 clear h ht
 go_enter Tryz.func47, Tryz.ntmps47
 have hx0 : Ext No W (((W.alloc (.cells #[.int .i64 f.gen.width, .slice ag f.gen.words.length cg, .int .i64 f.kill.width, .slice ak f.kill.words.length ck, .slice ac f.copies.length cc] 69)).alloc (.cells #[.int .i64 0, .slice none 0 0, .int .i64 0, .slice none 0 0, .slice none 0 0] 69)).alloc (.cells #[.int .i64 f.gen.width, .slice ag f.gen.words.length cg, .int .i64 f.kill.width, .slice ak f.kill.words.length ck, .slice ac f.copies.length cc] 69)) := (((Ext.refl _ _).alloc _).alloc _).alloc _
 have hA : (((W.alloc (.cells #[.int .i64 f.gen.width, .slice ag f.gen.words.length cg, .int .i64 f.kill.width, .slice ak f.kill.words.length ck, .slice ac f.copies.length cc] 69)).alloc (.cells #[.int .i64 0, .slice none 0 0, .int .i64 0, .slice none 0 0, .slice none 0 0] 69)).alloc (.cells #[.int .i64 f.gen.width, .slice ag f.gen.words.length cg, .int .i64 f.kill.width, .slice ak f.kill.words.length ck, .slice ac f.copies.length cc] 69)).heap[W.heap.size]? = some (.cells #[.int .i64 f.gen.width, .slice ag f.gen.words.length cg, .int .i64 f.kill.width, .slice ak f.kill.words.length ck, .slice ac f.copies.length cc] 69 (0, 0)) := alloc_under (alloc_under (alloc_top rfl))
 have hC : (((W.alloc (.cells #[.int .i64 f.gen.width, .slice ag f.gen.words.length cg, .int .i64 f.kill.width, .slice ak f.kill.words.length ck, .slice ac f.copies.length cc] 69)).alloc (.cells #[.int .i64 0, .slice none 0 0, .int .i64 0, .slice none 0 0, .slice none 0 0] 69)).alloc (.cells #[.int .i64 f.gen.width, .slice ag f.gen.words.length cg, .int .i64 f.kill.width, .slice ak f.kill.words.length ck, .slice ac f.copies.length cc] 69)).heap[W.heap.size + 1]? = some (.cells #[.int .i64 0, .slice none 0 0, .int .i64 0, .slice none 0 0, .slice none 0 0] 69 (0, 0)) := alloc_under (alloc_top (by simp))
 have hD : (((W.alloc (.cells #[.int .i64 f.gen.width, .slice ag f.gen.words.length cg, .int .i64 f.kill.width, .slice ak f.kill.words.length ck, .slice ac f.copies.length cc] 69)).alloc (.cells #[.int .i64 0, .slice none 0 0, .int .i64 0, .slice none 0 0, .slice none 0 0] 69)).alloc (.cells #[.int .i64 f.gen.width, .slice ag f.gen.words.length cg, .int .i64 f.kill.width, .slice ak f.kill.words.length ck, .slice ac f.copies.length cc] 69)).heap[W.heap.size + 2]? = some (.cells #[.int .i64 f.gen.width, .slice ag f.gen.words.length cg, .int .i64 f.kill.width, .slice ak f.kill.words.length ck, .slice ac f.copies.length cc] 69 (0, 0)) := alloc_top (by simp)
 have HS3 : Hid ((((W.alloc (.cells #[.int .i64 f.gen.width, .slice ag f.gen.words.length cg, .int .i64 f.kill.width, .slice ak f.kill.words.length ck, .slice ac f.copies.length cc] 69)).alloc (.cells #[.int .i64 0, .slice none 0 0, .int .i64 0, .slice none 0 0, .slice none 0 0] 69)).alloc (.cells #[.int .i64 f.gen.width, .slice ag f.gen.words.length cg, .int .i64 f.kill.width, .slice ak f.kill.words.length ck, .slice ac f.copies.length cc] 69)).heap.size = W.heap.size + 3) := Lib.hid (by simp)
 have HX0 := Lib.hid hx0
 have HRW := Lib.hid ((Row.mono H.out.copies (M' := No) (fun _ _ x => x.elim)).extNo hx0)
 have HMD : Hid (((((W.alloc (.cells #[.int .i64 f.gen.width, .slice ag f.gen.words.length cg, .int .i64 f.kill.width, .slice ak f.kill.words.length ck, .slice ac f.copies.length cc] 69)).alloc (.cells #[.int .i64 0, .slice none 0 0, .int .i64 0, .slice none 0 0, .slice none 0 0] 69)).alloc (.cells #[.int .i64 f.gen.width, .slice ag f.gen.words.length cg, .int .i64 f.kill.width, .slice ak f.kill.words.length ck, .slice ac f.copies.length cc] 69)).alloc (.cells #[] 99)).ownsRow (W.heap.size + 3) 99 2 (.slice (some ⟨W.heap.size + 3, 0, none⟩) 0 0) 0 []) := Lib.hid (by
  have h := World.ownsRow_made (((W.alloc (.cells #[.int .i64 f.gen.width, .slice ag f.gen.words.length cg, .int .i64 f.kill.width, .slice ak f.kill.words.length ck, .slice ac f.copies.length cc] 69)).alloc (.cells #[.int .i64 0, .slice none 0 0, .int .i64 0, .slice none 0 0, .slice none 0 0] 69)).alloc (.cells #[.int .i64 f.gen.width, .slice ag f.gen.words.length cg, .int .i64 f.kill.width, .slice ak f.kill.words.length ck, .slice ac f.copies.length cc] 69)) #[] 0 (e := 99) (size := 2) (Nat.le_refl _) (Nat.zero_le _) rfl
  rwa [HS3.out] at h)
 have HDL : Hid (W.heap.size + 2 < ((((W.alloc (.cells #[.int .i64 f.gen.width, .slice ag f.gen.words.length cg, .int .i64 f.kill.width, .slice ak f.kill.words.length ck, .slice ac f.copies.length cc] 69)).alloc (.cells #[.int .i64 0, .slice none 0 0, .int .i64 0, .slice none 0 0, .slice none 0 0] 69)).alloc (.cells #[.int .i64 f.gen.width, .slice ag f.gen.words.length cg, .int .i64 f.kill.width, .slice ak f.kill.words.length ck, .slice ac f.copies.length cc] 69)).alloc (.cells #[] 99)).heap.size) := Lib.hid (by simp)
 have HD := Lib.hid (alloc_under (o := .cells #[] 99) hD)
 have HSG : Hid (W.heap.size + 3 ≤ ((((W.alloc (.cells #[.int .i64 f.gen.width, .slice ag f.gen.words.length cg, .int .i64 f.kill.width, .slice ak f.kill.words.length ck, .slice ac f.copies.length cc] 69)).alloc (.cells #[.int .i64 0, .slice none 0 0, .int .i64 0, .slice none 0 0, .slice none 0 0] 69)).alloc (.cells #[.int .i64 f.gen.width, .slice ag f.gen.words.length cg, .int .i64 f.kill.width, .slice ak f.kill.words.length ck, .slice ac f.copies.length cc] 69)).alloc (.cells #[] 99)).heap.size) := Lib.hid (by simp)
 go_wp2_with (at_builtin; refine wpList_app _ rfl (.tmp 7) (.tmp 9) 67 rfl (W.heap.size + 3) 99 i0 _ 2 16 Tryz.underlying67 hi0 hz0 hz1 hz2 rfl (by omega) (.slice (some ⟨W.heap.size + 3, 0, none⟩) 0 0) 0 [] rfl HMD.out No ac f.copies.length cc (flatC f.copies) rfl (HRW.out.extNo ((Ext.refl No _).alloc _)) (flatC_one f.copies) (by omega) (by omega) HSG.out ?_; intro vq w1 hown1 hg1 hv1; simp only [Nat.zero_add, List.nil_append] at hown1; obtain ⟨aq, cq, hsl⟩ := (Row.ofOwns (M := No) hown1 (fun _ _ x => x)).slice; subst hsl; have hD1 := (hg1.block (W.heap.size + 2) HDL.out (fun e => by simp only [Value.ownBlock, Option.some.injEq] at e; omega)).trans HD.out; have cX := cellOf hD1; have fX := freeOf hD1)
 have hE1 : Ext (At (W.heap.size + 3)) ((((W.alloc (.cells #[.int .i64 f.gen.width, .slice ag f.gen.words.length cg, .int .i64 f.kill.width, .slice ak f.kill.words.length ck, .slice ac f.copies.length cc] 69)).alloc (.cells #[.int .i64 0, .slice none 0 0, .int .i64 0, .slice none 0 0, .slice none 0 0] 69)).alloc (.cells #[.int .i64 f.gen.width, .slice ag f.gen.words.length cg, .int .i64 f.kill.width, .slice ak f.kill.words.length ck, .slice ac f.copies.length cc] 69)).alloc (.cells #[] 99)) w1 := (Ext.refl _ _).grown hg1 (fun k hk _ => by simp only [Value.ownBlock, Option.some.injEq] at hk; exact hk.symm)
 have hx1 := hx0.alloc (.cells #[] 99)
 have hA1 := hE1.blk (alloc_under (o := .cells #[] 99) hA) (by unfold At; omega)
 have hC1 := hE1.blk (alloc_under (o := .cells #[] 99) hC) (by unfold At; omega)
 clear hA hC hD HS3 HX0 HRW HMD HDL HD HSG hx0 hg1 cX fX hv1
 generalize ((((W.alloc (.cells #[.int .i64 f.gen.width, .slice ag f.gen.words.length cg, .int .i64 f.kill.width, .slice ak f.kill.words.length ck, .slice ac f.copies.length cc] 69)).alloc (.cells #[.int .i64 0, .slice none 0 0, .int .i64 0, .slice none 0 0, .slice none 0 0] 69)).alloc (.cells #[.int .i64 f.gen.width, .slice ag f.gen.words.length cg, .int .i64 f.kill.width, .slice ak f.kill.words.length ck, .slice ac f.copies.length cc] 69)).alloc (.cells #[] 99)) = V1 at *
 have hE2 : Ext (At (W.heap.size + 2)) w1 (w1.setCell ⟨W.heap.size + 2, 4, none⟩ (.slice aq f.copies.length cq)) := (Ext.refl (At (W.heap.size + 2)) _).setAt _ _
 have hxT : Ext (At tb) W (w1.setCell ⟨W.heap.size + 2, 4, none⟩ (.slice aq f.copies.length cq)) := (hx1.ofNo.trans2 hE1 (fun i hi e => by unfold At at e; omega)).trans2 hE2 (fun i hi e => by unfold At at e; omega)
 have hol : ∀ k, (Value.slice aq f.copies.length cq).ownBlock = some k → W.heap.size + 3 ≤ k := fun k hk => (World.ownsRow.lt hown1 k hk).1
 have hmA : ∀ i, i < W.heap.size → (N i ∨ i = W.heap.size + 1 ∨ i = W.heap.size + 2 ∨ (Value.slice aq f.copies.length cq).ownBlock = some i) → N i := fun i hi e => by
  rcases e with e | e | e | e
  ·exact e
  ·omega
  ·omega
  have := hol i e; omega
 have hm : Hid (SqM tb N W (w1.setCell ⟨W.heap.size + 2, 4, none⟩ (.slice aq f.copies.length cq)) #[.int .i64 f.gen.width, .slice ag f.gen.words.length cg, .int .i64 f.kill.width, .slice ak f.kill.words.length ck, .slice ac f.copies.length cc] f (.slice ag f.gen.words.length cg) (.slice ak f.kill.words.length ck) (.slice aq f.copies.length cq)) := Lib.hid
  ⟨hxT, ((HT.out.ext hx1).extAbove hE1 (fun i hi e => by unfold At at e; omega)).extAbove hE2 (fun i hi e => by unfold At at e; omega), hE2.blk hA1 (by unfold At; omega), hE2.blk hC1 (by unfold At; omega), (set_same (j := 4) hD1).trans rfl, (H.out.gen.mono hmA).ext hxT (fun i _ e => .inl (by unfold At at e; rw [e]; exact hNt)), (H.out.kill.mono hmA).ext hxT (fun i _ e => .inl (by unfold At at e; rw [e]; exact hNt)), row_keep hown1 hE2 (fun i hi e => by unfold At at e; omega), ⟨⟨hlt0, hNt⟩, hNl⟩⟩
 clear hE1 hx1 hA1 hC1 hE2 hxT hol hmA hD1 hown1 HT
 show Calls Tryz.prog _ _ (w1.setCell ⟨W.heap.size + 2, 4, none⟩ (.slice aq f.copies.length cq)) _
 generalize (w1.setCell ⟨W.heap.size + 2, 4, none⟩ (.slice aq f.copies.length cq)) = V2 at *
 clear w1 V1
 refine (next_lt tb 5 (by decide) (by decide) _ hm.out.tape).mono ?_
 rintro e1 w1 ⟨r, rfl, hr, ht1, hx1, -⟩
 have hm1 := Lib.hid (hm.out.step hx1 ht1)
 clear hm hx1 ht1
 have hr5 : r = 0 ∨ r = 1 ∨ r = 2 ∨ r = 3 ∨ r = 4 := by omega
 clear hr
 rcases hr5 with rfl | rfl | rfl | rfl | rfl
 ·have cA := cellOf hm1.out.boxA
  go_wp2_with fail
  clear cA
  refine (spoilS_any tb f.gen _ _ (WordsAt.mono (H.out.gen.ext hm1.out.ext (fun i _ e => by unfold At at e; rw [e]; exact hNt)) (fun _ _ x => x.elim)) hl1 hm1.out.tape).mono ?_
  rintro e2 w2 ⟨z, a2, c2, l2, rfl, hl, ht2, hx2⟩
  have hm2 := Lib.hid (hm1.out.step hx2 ht2)
  have hmF := Lib.hid (hm2.out.putG (g := ⟨z, l2⟩) (sg' := .slice a2 l2.length c2) (hl.out.mono (fun i hi e => hm1.out.lo i e)))
  have cD := cellOf hm2.out.boxD
  have fD := freeOf hm2.out.boxD
  have cDF := cellOf hmF.out.boxD
  have cCF := cellOf hmF.out.boxC
  have fCF := freeOf hmF.out.boxC
  go_wp2_with fail
  refine spoilT_end hmF.out ?_ rfl rfl
  rfl
 ·have cA := cellOf hm1.out.boxA
  go_wp2_with fail
  clear cA
  refine (spoilS_any tb f.kill _ _ (WordsAt.mono (H.out.kill.ext hm1.out.ext (fun i _ e => by unfold At at e; rw [e]; exact hNt)) (fun _ _ x => x.elim)) hl2 hm1.out.tape).mono ?_
  rintro e2 w2 ⟨z, a2, c2, l2, rfl, hl, ht2, hx2⟩
  have hm2 := Lib.hid (hm1.out.step hx2 ht2)
  have hmF := Lib.hid (hm2.out.putK (k := ⟨z, l2⟩) (sk' := .slice a2 l2.length c2) (hl.out.mono (fun i hi e => hm1.out.lo i e)))
  have cD := cellOf hm2.out.boxD
  have fD := freeOf hm2.out.boxD
  have cDF := cellOf hmF.out.boxD
  have cCF := cellOf hmF.out.boxC
  have fCF := freeOf hmF.out.boxC
  go_wp2_with fail
  refine spoilT_end hmF.out ?_ rfl rfl
  rfl
 ·go_wp2_with fail
  refine wp_region_held_drew (S := (fun _ => True)) (by kernel_rfl) ?_ (fun hHeld => ?_)
  ·trivial
  replace hm1 := Lib.hid (hm1.out.stepNo (Ext.refl No w1).drew)
  generalize w1.drew = v0 at *
  refine hHs [0, 2, 5] ?_
  iterate 3
   refine hTn ?_ hHeld (fun w hSw => ?_) ?_
   rotate_left
   ·(try dsimp only at hSw); go_simp; (try with_reducible rfl)
   simp only [Act.put, nzA, nzB, nzC]
  refine hHe ?_
  refine held_next2 (i := 1) (j := 3) (by kernel_rfl) (NextOp.mk rfl rfl (fun K hK => ?_)) (NextOp.mk rfl rfl (fun K hK => ?_))
  ·((have cX := cellOf hm1.out.boxD); go_simp; (clear cX))
   refine hK.out _ _ ?_ ?_
   ·trivial
   clear hK K hHeld
   intro hHeld
   skip
   try simp only [Act.put, nzA, nzB, nzC]
   refine hHc 3 fun K hK => ?_
   (go_simp; go_at_call 23; (with_reducible refine (next_lt tb 9 (by decide) (by decide) _ hm1.out.tape).mono ?_); (rintro e5 w5 ⟨r5, rfl, hr5, ht5, hx5, -⟩); go_simp)
   refine hK.out _ _ ?_ ?_
   ·trivial
   clear hK K hHeld
   intro hHeld
   replace hm1 := Lib.hid (hm1.out.step hx5 ht5)
   clear hx5 ht5
   have hw5 : IntKind.i64.wrap ((r5 : Int) - 1) = (r5 : Int) - 1 := IntWalk.i64_in _ (by omega)
   try simp only [Act.put, nzA, nzB, nzC]
   refine hTk 4 ?_ hHeld (fun w hSw => ?_) ?_
   rotate_left
   ·(try dsimp only at hSw); go_simp; (try with_reducible rfl)
   simp only [Act.put, nzA, nzB, nzC]
   refine hHc 6 fun K hK => ?_
   (go_simp; go_at_call 23; (with_reducible refine (next_lt tb 9 (by decide) (by decide) _ hm1.out.tape).mono ?_); (rintro e6 w6 ⟨r6, rfl, hr6, ht6, hx6, -⟩); go_simp)
   refine hK.out _ _ ?_ ?_
   ·trivial
   clear hK K hHeld
   intro hHeld
   replace hm1 := Lib.hid (hm1.out.step hx6 ht6)
   clear hx6 ht6
   have hw6 : IntKind.i64.wrap ((r6 : Int) - 1) = (r6 : Int) - 1 := IntWalk.i64_in _ (by omega)
   try simp only [Act.put, nzA, nzB, nzC]
   refine hHs [7, 8] ?_
   iterate 2
    refine hTn ?_ hHeld (fun w hSw => ?_) ?_
    rotate_left
    ·(try dsimp only at hSw); go_simp; (try with_reducible rfl)
    simp only [Act.put, nzA, nzB, nzC]
   refine hHe ?_
   refine hHc 9 fun K hK => ?_
   go_simp
   refine hK.out _ _ ?_ ?_
   ·trivial
   clear hK K hHeld
   intro hHeld
   skip
   try simp only [Act.put, nzA, nzB, nzC]
   refine hHc 10 fun K hK => ?_
   ((refine wp_app _ (.tmp 48) (.tmp 56) 67 rfl (W.heap.size + 3) 99 i0 _ 2 16 Tryz.underlying67 hi0 hz0 hz1 hz2 rfl (by omega) (.slice aq f.copies.length cq) f.copies.length (flatC f.copies) rfl (row_keep hm1.out.own ((Ext.refl No _).alloc _) (fun _ _ x => x)) No (some ⟨w6.heap.size, 0, none⟩) 1 1 [.int .i64 ((r5 : Int) - 1), .int .i64 ((r6 : Int) - 1)] rfl (Row.block (alloc_top rfl) rfl no_no (by omega)) (by simp [Value.oneCell']) (by omega) (by omega) (by have := lt_of_block hm1.out.boxD; simp; omega) ?_); (intro v1 w9 hown1 hg1 hv1); (obtain ⟨hm9, hX9⟩ := hm1.out.app (x := (r5 : Int) - 1) (y := (r6 : Int) - 1) hown1 hg1 hv1); (have HM9 := Lib.hid hm9); (have HX9 := Lib.hid hX9); (obtain ⟨a9, n9, c9, hs9⟩ := hm9.sliceC); (subst hs9); (clear hm9 hX9 hown1 hg1 hv1))
   refine hK.out _ _ ?_ ?_
   ·trivial
   clear hK K hHeld
   intro hHeld
   clear hm1
   try simp only [Act.put, nzA, nzB, nzC]
   refine hTk 11 ?_ hHeld (fun w hSw => ?_) ?_
   rotate_left
   ·(try dsimp only at hSw); go_simp; (try with_reducible rfl)
   simp only [Act.put, nzA, nzB, nzC]
   refine hHc 12 fun K hK => ?_
   ((have cX := cellOf HX9.out); (have fX := freeOf HX9.out); go_simp; (clear cX fX))
   refine hK.out _ _ ?_ ?_
   ·trivial
   clear hK K hHeld
   intro hHeld
   clear HX9
   try simp only [Act.put, nzA, nzB, nzC]
   refine wpAnyH_done (by kernel_rfl) ?_ _
   have hmF := HM9
   have cDF := cellOf hmF.out.boxD
   have cCF := cellOf hmF.out.boxC
   have fCF := freeOf hmF.out.boxC
   go_wp2_with fail
   refine spoilT_end hmF.out ?_ rfl rfl
   rfl
   
  (go_simp; go_at_call 23; (with_reducible refine (next_lt tb 9 (by decide) (by decide) _ hm1.out.tape).mono ?_); (rintro e5 w5 ⟨r5, rfl, hr5, ht5, hx5, -⟩); go_simp)
  refine hK.out _ _ ?_ ?_
  ·trivial
  clear hK K hHeld
  intro hHeld
  replace hm1 := Lib.hid (hm1.out.step hx5 ht5)
  clear hx5 ht5
  have hw5 : IntKind.i64.wrap ((r5 : Int) - 1) = (r5 : Int) - 1 := IntWalk.i64_in _ (by omega)
  try simp only [Act.put, nzA, nzB, nzC]
  refine hTk 4 ?_ hHeld (fun w hSw => ?_) ?_
  rotate_left
  ·(try dsimp only at hSw); go_simp; (try with_reducible rfl)
  simp only [Act.put, nzA, nzB, nzC]
  refine held_next2 (i := 1) (j := 6) (by kernel_rfl) (NextOp.mk rfl rfl (fun K hK => ?_)) (NextOp.mk rfl rfl (fun K hK => ?_))
  ·((have cX := cellOf hm1.out.boxD); go_simp; (clear cX))
   refine hK.out _ _ ?_ ?_
   ·trivial
   clear hK K hHeld
   intro hHeld
   skip
   try simp only [Act.put, nzA, nzB, nzC]
   refine hHc 6 fun K hK => ?_
   (go_simp; go_at_call 23; (with_reducible refine (next_lt tb 9 (by decide) (by decide) _ hm1.out.tape).mono ?_); (rintro e6 w6 ⟨r6, rfl, hr6, ht6, hx6, -⟩); go_simp)
   refine hK.out _ _ ?_ ?_
   ·trivial
   clear hK K hHeld
   intro hHeld
   replace hm1 := Lib.hid (hm1.out.step hx6 ht6)
   clear hx6 ht6
   have hw6 : IntKind.i64.wrap ((r6 : Int) - 1) = (r6 : Int) - 1 := IntWalk.i64_in _ (by omega)
   try simp only [Act.put, nzA, nzB, nzC]
   refine hHs [7, 8] ?_
   iterate 2
    refine hTn ?_ hHeld (fun w hSw => ?_) ?_
    rotate_left
    ·(try dsimp only at hSw); go_simp; (try with_reducible rfl)
    simp only [Act.put, nzA, nzB, nzC]
   refine hHe ?_
   refine hHc 9 fun K hK => ?_
   go_simp
   refine hK.out _ _ ?_ ?_
   ·trivial
   clear hK K hHeld
   intro hHeld
   skip
   try simp only [Act.put, nzA, nzB, nzC]
   refine hHc 10 fun K hK => ?_
   ((refine wp_app _ (.tmp 48) (.tmp 56) 67 rfl (W.heap.size + 3) 99 i0 _ 2 16 Tryz.underlying67 hi0 hz0 hz1 hz2 rfl (by omega) (.slice aq f.copies.length cq) f.copies.length (flatC f.copies) rfl (row_keep hm1.out.own ((Ext.refl No _).alloc _) (fun _ _ x => x)) No (some ⟨w6.heap.size, 0, none⟩) 1 1 [.int .i64 ((r5 : Int) - 1), .int .i64 ((r6 : Int) - 1)] rfl (Row.block (alloc_top rfl) rfl no_no (by omega)) (by simp [Value.oneCell']) (by omega) (by omega) (by have := lt_of_block hm1.out.boxD; simp; omega) ?_); (intro v1 w9 hown1 hg1 hv1); (obtain ⟨hm9, hX9⟩ := hm1.out.app (x := (r5 : Int) - 1) (y := (r6 : Int) - 1) hown1 hg1 hv1); (have HM9 := Lib.hid hm9); (have HX9 := Lib.hid hX9); (obtain ⟨a9, n9, c9, hs9⟩ := hm9.sliceC); (subst hs9); (clear hm9 hX9 hown1 hg1 hv1))
   refine hK.out _ _ ?_ ?_
   ·trivial
   clear hK K hHeld
   intro hHeld
   clear hm1
   try simp only [Act.put, nzA, nzB, nzC]
   refine hTk 11 ?_ hHeld (fun w hSw => ?_) ?_
   rotate_left
   ·(try dsimp only at hSw); go_simp; (try with_reducible rfl)
   simp only [Act.put, nzA, nzB, nzC]
   refine hHc 12 fun K hK => ?_
   ((have cX := cellOf HX9.out); (have fX := freeOf HX9.out); go_simp; (clear cX fX))
   refine hK.out _ _ ?_ ?_
   ·trivial
   clear hK K hHeld
   intro hHeld
   clear HX9
   try simp only [Act.put, nzA, nzB, nzC]
   refine wpAnyH_done (by kernel_rfl) ?_ _
   have hmF := HM9
   have cDF := cellOf hmF.out.boxD
   have cCF := cellOf hmF.out.boxC
   have fCF := freeOf hmF.out.boxC
   go_wp2_with fail
   refine spoilT_end hmF.out ?_ rfl rfl
   rfl
    
  (go_simp; go_at_call 23; (with_reducible refine (next_lt tb 9 (by decide) (by decide) _ hm1.out.tape).mono ?_); (rintro e6 w6 ⟨r6, rfl, hr6, ht6, hx6, -⟩); go_simp)
  refine hK.out _ _ ?_ ?_
  ·trivial
  clear hK K hHeld
  intro hHeld
  replace hm1 := Lib.hid (hm1.out.step hx6 ht6)
  clear hx6 ht6
  have hw6 : IntKind.i64.wrap ((r6 : Int) - 1) = (r6 : Int) - 1 := IntWalk.i64_in _ (by omega)
  try simp only [Act.put, nzA, nzB, nzC]
  refine hHs [7, 8] ?_
  iterate 2
   refine hTn ?_ hHeld (fun w hSw => ?_) ?_
   rotate_left
   ·(try dsimp only at hSw); go_simp; (try with_reducible rfl)
   simp only [Act.put, nzA, nzB, nzC]
  refine hHe ?_
  refine held_next2 (i := 1) (j := 9) (by kernel_rfl) (NextOp.mk rfl rfl (fun K hK => ?_)) (NextOp.mk rfl rfl (fun K hK => ?_))
  ·((have cX := cellOf hm1.out.boxD); go_simp; (clear cX))
   refine hK.out _ _ ?_ ?_
   ·trivial
   clear hK K hHeld
   intro hHeld
   skip
   try simp only [Act.put, nzA, nzB, nzC]
   refine hHc 9 fun K hK => ?_
   go_simp
   refine hK.out _ _ ?_ ?_
   ·trivial
   clear hK K hHeld
   intro hHeld
   skip
   try simp only [Act.put, nzA, nzB, nzC]
   refine hHc 10 fun K hK => ?_
   ((refine wp_app _ (.tmp 48) (.tmp 56) 67 rfl (W.heap.size + 3) 99 i0 _ 2 16 Tryz.underlying67 hi0 hz0 hz1 hz2 rfl (by omega) (.slice aq f.copies.length cq) f.copies.length (flatC f.copies) rfl (row_keep hm1.out.own ((Ext.refl No _).alloc _) (fun _ _ x => x)) No (some ⟨w6.heap.size, 0, none⟩) 1 1 [.int .i64 ((r5 : Int) - 1), .int .i64 ((r6 : Int) - 1)] rfl (Row.block (alloc_top rfl) rfl no_no (by omega)) (by simp [Value.oneCell']) (by omega) (by omega) (by have := lt_of_block hm1.out.boxD; simp; omega) ?_); (intro v1 w9 hown1 hg1 hv1); (obtain ⟨hm9, hX9⟩ := hm1.out.app (x := (r5 : Int) - 1) (y := (r6 : Int) - 1) hown1 hg1 hv1); (have HM9 := Lib.hid hm9); (have HX9 := Lib.hid hX9); (obtain ⟨a9, n9, c9, hs9⟩ := hm9.sliceC); (subst hs9); (clear hm9 hX9 hown1 hg1 hv1))
   refine hK.out _ _ ?_ ?_
   ·trivial
   clear hK K hHeld
   intro hHeld
   clear hm1
   try simp only [Act.put, nzA, nzB, nzC]
   refine hTk 11 ?_ hHeld (fun w hSw => ?_) ?_
   rotate_left
   ·(try dsimp only at hSw); go_simp; (try with_reducible rfl)
   simp only [Act.put, nzA, nzB, nzC]
   refine hHc 12 fun K hK => ?_
   ((have cX := cellOf HX9.out); (have fX := freeOf HX9.out); go_simp; (clear cX fX))
   refine hK.out _ _ ?_ ?_
   ·trivial
   clear hK K hHeld
   intro hHeld
   clear HX9
   try simp only [Act.put, nzA, nzB, nzC]
   refine wpAnyH_done (by kernel_rfl) ?_ _
   have hmF := HM9
   have cDF := cellOf hmF.out.boxD
   have cCF := cellOf hmF.out.boxC
   have fCF := freeOf hmF.out.boxC
   go_wp2_with fail
   refine spoilT_end hmF.out ?_ rfl rfl
   rfl
     
  go_simp
  refine hK.out _ _ ?_ ?_
  ·trivial
  clear hK K hHeld
  intro hHeld
  skip
  try simp only [Act.put, nzA, nzB, nzC]
  refine hHc 1 fun K hK => ?_
  ((have cX := cellOf hm1.out.boxD); (have cX2 := cellOf (alloc_under (o := (.cells #[.int .i64 ((r5 : Int) - 1), .int .i64 ((r6 : Int) - 1)] 99)) hm1.out.boxD)); go_simp; (clear cX cX2))
  refine hK.out _ _ ?_ ?_
  ·trivial
  clear hK K hHeld
  intro hHeld
  skip
  try simp only [Act.put, nzA, nzB, nzC]
  refine hHc 10 fun K hK => ?_
  ((refine wp_app _ (.tmp 48) (.tmp 56) 67 rfl (W.heap.size + 3) 99 i0 _ 2 16 Tryz.underlying67 hi0 hz0 hz1 hz2 rfl (by omega) (.slice aq f.copies.length cq) f.copies.length (flatC f.copies) rfl (row_keep hm1.out.own ((Ext.refl No _).alloc _) (fun _ _ x => x)) No (some ⟨w6.heap.size, 0, none⟩) 1 1 [.int .i64 ((r5 : Int) - 1), .int .i64 ((r6 : Int) - 1)] rfl (Row.block (alloc_top rfl) rfl no_no (by omega)) (by simp [Value.oneCell']) (by omega) (by omega) (by have := lt_of_block hm1.out.boxD; simp; omega) ?_); (intro v1 w9 hown1 hg1 hv1); (obtain ⟨hm9, hX9⟩ := hm1.out.app (x := (r5 : Int) - 1) (y := (r6 : Int) - 1) hown1 hg1 hv1); (have HM9 := Lib.hid hm9); (have HX9 := Lib.hid hX9); (obtain ⟨a9, n9, c9, hs9⟩ := hm9.sliceC); (subst hs9); (clear hm9 hX9 hown1 hg1 hv1))
  refine hK.out _ _ ?_ ?_
  ·trivial
  clear hK K hHeld
  intro hHeld
  clear hm1
  try simp only [Act.put, nzA, nzB, nzC]
  refine hTk 11 ?_ hHeld (fun w hSw => ?_) ?_
  rotate_left
  ·(try dsimp only at hSw); go_simp; (try with_reducible rfl)
  simp only [Act.put, nzA, nzB, nzC]
  refine hHc 12 fun K hK => ?_
  ((have cX := cellOf HX9.out); (have fX := freeOf HX9.out); go_simp; (clear cX fX))
  refine hK.out _ _ ?_ ?_
  ·trivial
  clear hK K hHeld
  intro hHeld
  clear HX9
  try simp only [Act.put, nzA, nzB, nzC]
  refine wpAnyH_done (by kernel_rfl) ?_ _
  have hmF := HM9
  have cDF := cellOf hmF.out.boxD
  have cCF := cellOf hmF.out.boxC
  have fCF := freeOf hmF.out.boxC
  go_wp2_with fail
  refine spoilT_end hmF.out ?_ rfl rfl
  rfl
     
 ·go_wp2_with fail
  refine wp_region_held_drew (S := (fun _ => True)) (by kernel_rfl) ?_ (fun hHeld => ?_)
  ·trivial
  replace hm1 := Lib.hid (hm1.out.stepNo (Ext.refl No w1).drew)
  generalize w1.drew = v0 at *
  refine hHs [0, 2, 3, 5, 10] ?_
  iterate 5
   refine hTn ?_ hHeld (fun w hSw => ?_) ?_
   rotate_left
   ·(try dsimp only at hSw); go_simp; (try with_reducible rfl)
   simp only [Act.put, nzA, nzB, nzC]
  refine hHe ?_
  refine held_next3 (i := 1) (j := 4) (k := 11) (by kernel_rfl) (NextOp.mk rfl rfl (fun K hK => ?_)) (NextOp.mk rfl rfl (fun K hK => ?_)) (NextOp.mk rfl rfl (fun K hK => ?_))
  ·(go_simp; go_at_call 23; (with_reducible refine (next_lt tb 4 (by decide) (by decide) _ hm1.out.tape).mono ?_); (rintro e5 w5 ⟨r5, rfl, hr5, ht5, hx5, -⟩); go_simp)
   refine hK.out _ _ ?_ ?_
   ·trivial
   clear hK K hHeld
   intro hHeld
   replace hm1 := Lib.hid (hm1.out.step hx5 ht5)
   clear hx5 ht5
   try simp only [Act.put, nzA, nzB, nzC]
   refine held_next3 (i := 4) (j := 6) (k := 11) (by kernel_rfl) (NextOp.mk rfl rfl (fun K hK => ?_)) (NextOp.mk rfl rfl (fun K hK => ?_)) (NextOp.mk rfl rfl (fun K hK => ?_))
   ·((have cX := cellOf hm1.out.boxA); go_simp; (clear cX))
    refine hK.out _ _ ?_ ?_
    ·trivial
    clear hK K hHeld
    intro hHeld
    skip
    try simp only [Act.put, nzA, nzB, nzC]
    refine held_next2 (i := 6) (j := 11) (by kernel_rfl) (NextOp.mk rfl rfl (fun K hK => ?_)) (NextOp.mk rfl rfl (fun K hK => ?_))
    ·(go_simp; go_at_call 23; (with_reducible refine (next_lt tb 2 (by decide) (by decide) _ hm1.out.tape).mono ?_); (rintro e6 w6 ⟨r6, rfl, hr6, ht6, hx6, -⟩); go_simp)
     refine hK.out _ _ ?_ ?_
     ·trivial
     clear hK K hHeld
     intro hHeld
     replace hm1 := Lib.hid (hm1.out.step hx6 ht6)
     clear hx6 ht6
     try simp only [Act.put, nzA, nzB, nzC]
     refine hHs [7, 8] ?_
     iterate 2
      refine hTn ?_ hHeld (fun w hSw => ?_) ?_
      rotate_left
      ·(try dsimp only at hSw); go_simp; (try with_reducible rfl)
      simp only [Act.put, nzA, nzB, nzC]
     refine hHe ?_
     refine held_next2 (i := 9) (j := 11) (by kernel_rfl) (NextOp.mk rfl rfl (fun K hK => ?_)) (NextOp.mk rfl rfl (fun K hK => ?_))
     ·go_simp
      refine hK.out _ _ ?_ ?_
      ·trivial
      clear hK K hHeld
      intro hHeld
      skip
      try simp only [Act.put, nzA, nzB, nzC]
      refine hHc 11 fun K hK => ?_
      ((have cX := cellOf hm1.out.boxD); (have cX2 := cellOf (alloc_under (o := (.cells #[.int .i64 (r5 : Int), .int .i64 (IntKind.i64.wrap (f.gen.width - (r6 : Int)))] 99)) hm1.out.boxD)); go_simp; (clear cX cX2))
      refine hK.out _ _ ?_ ?_
      ·trivial
      clear hK K hHeld
      intro hHeld
      skip
      try simp only [Act.put, nzA, nzB, nzC]
      refine hHc 12 fun K hK => ?_
      ((refine wp_app _ (.tmp 70) (.tmp 72) 67 rfl w6.heap.size 99 i0 _ 2 16 Tryz.underlying67 hi0 hz0 hz1 hz2 rfl (by omega) (.slice (some ⟨w6.heap.size, 0, none⟩) 1 1) 1 [.int .i64 (r5 : Int), .int .i64 (IntKind.i64.wrap (f.gen.width - (r6 : Int)))] rfl (own_block (alloc_top rfl) rfl) No aq f.copies.length cq (flatC f.copies) rfl ((Row.ofOwns (M := No) hm1.out.own (fun _ _ x => x)).extNo ((Ext.refl No _).alloc _)) (flatC_one f.copies) (by omega) (by omega) (by simp) ?_); (intro v1 w9 hown1 hg1 hv1); (obtain ⟨hm9, hX9⟩ := hm1.out.pre (x := (r5 : Int)) (y := IntKind.i64.wrap (f.gen.width - (r6 : Int))) hown1 hg1); (have HM9 := Lib.hid hm9); (have HX9 := Lib.hid hX9); (obtain ⟨a9, n9, c9, hs9⟩ := hm9.sliceC); (subst hs9); (clear hm9 hX9 hown1 hg1 hv1))
      refine hK.out _ _ ?_ ?_
      ·trivial
      clear hK K hHeld
      intro hHeld
      clear hm1
      try simp only [Act.put, nzA, nzB, nzC]
      refine hTk 13 ?_ hHeld (fun w hSw => ?_) ?_
      rotate_left
      ·(try dsimp only at hSw); go_simp; (try with_reducible rfl)
      simp only [Act.put, nzA, nzB, nzC]
      refine hHc 14 fun K hK => ?_
      ((have cX := cellOf HX9.out); (have fX := freeOf HX9.out); go_simp; (clear cX fX))
      refine hK.out _ _ ?_ ?_
      ·trivial
      clear hK K hHeld
      intro hHeld
      clear HX9
      try simp only [Act.put, nzA, nzB, nzC]
      refine wpAnyH_done (by kernel_rfl) ?_ _
      have hmF := HM9
      have cDF := cellOf hmF.out.boxD
      have cCF := cellOf hmF.out.boxC
      have fCF := freeOf hmF.out.boxC
      go_wp2_with fail
      refine spoilT_end hmF.out ?_ rfl rfl
      rfl
      
     ((have cX := cellOf hm1.out.boxD); go_simp; (clear cX))
     refine hK.out _ _ ?_ ?_
     ·trivial
     clear hK K hHeld
     intro hHeld
     skip
     try simp only [Act.put, nzA, nzB, nzC]
     refine hHc 9 fun K hK => ?_
     go_simp
     refine hK.out _ _ ?_ ?_
     ·trivial
     clear hK K hHeld
     intro hHeld
     skip
     try simp only [Act.put, nzA, nzB, nzC]
     refine hHc 12 fun K hK => ?_
     ((refine wp_app _ (.tmp 70) (.tmp 72) 67 rfl w6.heap.size 99 i0 _ 2 16 Tryz.underlying67 hi0 hz0 hz1 hz2 rfl (by omega) (.slice (some ⟨w6.heap.size, 0, none⟩) 1 1) 1 [.int .i64 (r5 : Int), .int .i64 (IntKind.i64.wrap (f.gen.width - (r6 : Int)))] rfl (own_block (alloc_top rfl) rfl) No aq f.copies.length cq (flatC f.copies) rfl ((Row.ofOwns (M := No) hm1.out.own (fun _ _ x => x)).extNo ((Ext.refl No _).alloc _)) (flatC_one f.copies) (by omega) (by omega) (by simp) ?_); (intro v1 w9 hown1 hg1 hv1); (obtain ⟨hm9, hX9⟩ := hm1.out.pre (x := (r5 : Int)) (y := IntKind.i64.wrap (f.gen.width - (r6 : Int))) hown1 hg1); (have HM9 := Lib.hid hm9); (have HX9 := Lib.hid hX9); (obtain ⟨a9, n9, c9, hs9⟩ := hm9.sliceC); (subst hs9); (clear hm9 hX9 hown1 hg1 hv1))
     refine hK.out _ _ ?_ ?_
     ·trivial
     clear hK K hHeld
     intro hHeld
     clear hm1
     try simp only [Act.put, nzA, nzB, nzC]
     refine hTk 13 ?_ hHeld (fun w hSw => ?_) ?_
     rotate_left
     ·(try dsimp only at hSw); go_simp; (try with_reducible rfl)
     simp only [Act.put, nzA, nzB, nzC]
     refine hHc 14 fun K hK => ?_
     ((have cX := cellOf HX9.out); (have fX := freeOf HX9.out); go_simp; (clear cX fX))
     refine hK.out _ _ ?_ ?_
     ·trivial
     clear hK K hHeld
     intro hHeld
     clear HX9
     try simp only [Act.put, nzA, nzB, nzC]
     refine wpAnyH_done (by kernel_rfl) ?_ _
     have hmF := HM9
     have cDF := cellOf hmF.out.boxD
     have cCF := cellOf hmF.out.boxC
     have fCF := freeOf hmF.out.boxC
     go_wp2_with fail
     refine spoilT_end hmF.out ?_ rfl rfl
     rfl
      
    ((have cX := cellOf hm1.out.boxD); go_simp; (clear cX))
    refine hK.out _ _ ?_ ?_
    ·trivial
    clear hK K hHeld
    intro hHeld
    skip
    try simp only [Act.put, nzA, nzB, nzC]
    refine hHc 6 fun K hK => ?_
    (go_simp; go_at_call 23; (with_reducible refine (next_lt tb 2 (by decide) (by decide) _ hm1.out.tape).mono ?_); (rintro e6 w6 ⟨r6, rfl, hr6, ht6, hx6, -⟩); go_simp)
    refine hK.out _ _ ?_ ?_
    ·trivial
    clear hK K hHeld
    intro hHeld
    replace hm1 := Lib.hid (hm1.out.step hx6 ht6)
    clear hx6 ht6
    try simp only [Act.put, nzA, nzB, nzC]
    refine hHs [7, 8] ?_
    iterate 2
     refine hTn ?_ hHeld (fun w hSw => ?_) ?_
     rotate_left
     ·(try dsimp only at hSw); go_simp; (try with_reducible rfl)
     simp only [Act.put, nzA, nzB, nzC]
    refine hHe ?_
    refine hHc 9 fun K hK => ?_
    go_simp
    refine hK.out _ _ ?_ ?_
    ·trivial
    clear hK K hHeld
    intro hHeld
    skip
    try simp only [Act.put, nzA, nzB, nzC]
    refine hHc 12 fun K hK => ?_
    ((refine wp_app _ (.tmp 70) (.tmp 72) 67 rfl w6.heap.size 99 i0 _ 2 16 Tryz.underlying67 hi0 hz0 hz1 hz2 rfl (by omega) (.slice (some ⟨w6.heap.size, 0, none⟩) 1 1) 1 [.int .i64 (r5 : Int), .int .i64 (IntKind.i64.wrap (f.gen.width - (r6 : Int)))] rfl (own_block (alloc_top rfl) rfl) No aq f.copies.length cq (flatC f.copies) rfl ((Row.ofOwns (M := No) hm1.out.own (fun _ _ x => x)).extNo ((Ext.refl No _).alloc _)) (flatC_one f.copies) (by omega) (by omega) (by simp) ?_); (intro v1 w9 hown1 hg1 hv1); (obtain ⟨hm9, hX9⟩ := hm1.out.pre (x := (r5 : Int)) (y := IntKind.i64.wrap (f.gen.width - (r6 : Int))) hown1 hg1); (have HM9 := Lib.hid hm9); (have HX9 := Lib.hid hX9); (obtain ⟨a9, n9, c9, hs9⟩ := hm9.sliceC); (subst hs9); (clear hm9 hX9 hown1 hg1 hv1))
    refine hK.out _ _ ?_ ?_
    ·trivial
    clear hK K hHeld
    intro hHeld
    clear hm1
    try simp only [Act.put, nzA, nzB, nzC]
    refine hTk 13 ?_ hHeld (fun w hSw => ?_) ?_
    rotate_left
    ·(try dsimp only at hSw); go_simp; (try with_reducible rfl)
    simp only [Act.put, nzA, nzB, nzC]
    refine hHc 14 fun K hK => ?_
    ((have cX := cellOf HX9.out); (have fX := freeOf HX9.out); go_simp; (clear cX fX))
    refine hK.out _ _ ?_ ?_
    ·trivial
    clear hK K hHeld
    intro hHeld
    clear HX9
    try simp only [Act.put, nzA, nzB, nzC]
    refine wpAnyH_done (by kernel_rfl) ?_ _
    have hmF := HM9
    have cDF := cellOf hmF.out.boxD
    have cCF := cellOf hmF.out.boxC
    have fCF := freeOf hmF.out.boxC
    go_wp2_with fail
    refine spoilT_end hmF.out ?_ rfl rfl
    rfl
     
   ·(go_simp; go_at_call 23; (with_reducible refine (next_lt tb 2 (by decide) (by decide) _ hm1.out.tape).mono ?_); (rintro e6 w6 ⟨r6, rfl, hr6, ht6, hx6, -⟩); go_simp)
    refine hK.out _ _ ?_ ?_
    ·trivial
    clear hK K hHeld
    intro hHeld
    replace hm1 := Lib.hid (hm1.out.step hx6 ht6)
    clear hx6 ht6
    try simp only [Act.put, nzA, nzB, nzC]
    refine held_next2 (i := 4) (j := 11) (by kernel_rfl) (NextOp.mk rfl rfl (fun K hK => ?_)) (NextOp.mk rfl rfl (fun K hK => ?_))
    ·((have cX := cellOf hm1.out.boxA); go_simp; (clear cX))
     refine hK.out _ _ ?_ ?_
     ·trivial
     clear hK K hHeld
     intro hHeld
     skip
     try simp only [Act.put, nzA, nzB, nzC]
     refine hHs [7, 8] ?_
     iterate 2
      refine hTn ?_ hHeld (fun w hSw => ?_) ?_
      rotate_left
      ·(try dsimp only at hSw); go_simp; (try with_reducible rfl)
      simp only [Act.put, nzA, nzB, nzC]
     refine hHe ?_
     refine held_next2 (i := 9) (j := 11) (by kernel_rfl) (NextOp.mk rfl rfl (fun K hK => ?_)) (NextOp.mk rfl rfl (fun K hK => ?_))
     ·go_simp
      refine hK.out _ _ ?_ ?_
      ·trivial
      clear hK K hHeld
      intro hHeld
      skip
      try simp only [Act.put, nzA, nzB, nzC]
      refine hHc 11 fun K hK => ?_
      ((have cX := cellOf hm1.out.boxD); (have cX2 := cellOf (alloc_under (o := (.cells #[.int .i64 (r5 : Int), .int .i64 (IntKind.i64.wrap (f.gen.width - (r6 : Int)))] 99)) hm1.out.boxD)); go_simp; (clear cX cX2))
      refine hK.out _ _ ?_ ?_
      ·trivial
      clear hK K hHeld
      intro hHeld
      skip
      try simp only [Act.put, nzA, nzB, nzC]
      refine hHc 12 fun K hK => ?_
      ((refine wp_app _ (.tmp 70) (.tmp 72) 67 rfl w6.heap.size 99 i0 _ 2 16 Tryz.underlying67 hi0 hz0 hz1 hz2 rfl (by omega) (.slice (some ⟨w6.heap.size, 0, none⟩) 1 1) 1 [.int .i64 (r5 : Int), .int .i64 (IntKind.i64.wrap (f.gen.width - (r6 : Int)))] rfl (own_block (alloc_top rfl) rfl) No aq f.copies.length cq (flatC f.copies) rfl ((Row.ofOwns (M := No) hm1.out.own (fun _ _ x => x)).extNo ((Ext.refl No _).alloc _)) (flatC_one f.copies) (by omega) (by omega) (by simp) ?_); (intro v1 w9 hown1 hg1 hv1); (obtain ⟨hm9, hX9⟩ := hm1.out.pre (x := (r5 : Int)) (y := IntKind.i64.wrap (f.gen.width - (r6 : Int))) hown1 hg1); (have HM9 := Lib.hid hm9); (have HX9 := Lib.hid hX9); (obtain ⟨a9, n9, c9, hs9⟩ := hm9.sliceC); (subst hs9); (clear hm9 hX9 hown1 hg1 hv1))
      refine hK.out _ _ ?_ ?_
      ·trivial
      clear hK K hHeld
      intro hHeld
      clear hm1
      try simp only [Act.put, nzA, nzB, nzC]
      refine hTk 13 ?_ hHeld (fun w hSw => ?_) ?_
      rotate_left
      ·(try dsimp only at hSw); go_simp; (try with_reducible rfl)
      simp only [Act.put, nzA, nzB, nzC]
      refine hHc 14 fun K hK => ?_
      ((have cX := cellOf HX9.out); (have fX := freeOf HX9.out); go_simp; (clear cX fX))
      refine hK.out _ _ ?_ ?_
      ·trivial
      clear hK K hHeld
      intro hHeld
      clear HX9
      try simp only [Act.put, nzA, nzB, nzC]
      refine wpAnyH_done (by kernel_rfl) ?_ _
      have hmF := HM9
      have cDF := cellOf hmF.out.boxD
      have cCF := cellOf hmF.out.boxC
      have fCF := freeOf hmF.out.boxC
      go_wp2_with fail
      refine spoilT_end hmF.out ?_ rfl rfl
      rfl
      
     ((have cX := cellOf hm1.out.boxD); go_simp; (clear cX))
     refine hK.out _ _ ?_ ?_
     ·trivial
     clear hK K hHeld
     intro hHeld
     skip
     try simp only [Act.put, nzA, nzB, nzC]
     refine hHc 9 fun K hK => ?_
     go_simp
     refine hK.out _ _ ?_ ?_
     ·trivial
     clear hK K hHeld
     intro hHeld
     skip
     try simp only [Act.put, nzA, nzB, nzC]
     refine hHc 12 fun K hK => ?_
     ((refine wp_app _ (.tmp 70) (.tmp 72) 67 rfl w6.heap.size 99 i0 _ 2 16 Tryz.underlying67 hi0 hz0 hz1 hz2 rfl (by omega) (.slice (some ⟨w6.heap.size, 0, none⟩) 1 1) 1 [.int .i64 (r5 : Int), .int .i64 (IntKind.i64.wrap (f.gen.width - (r6 : Int)))] rfl (own_block (alloc_top rfl) rfl) No aq f.copies.length cq (flatC f.copies) rfl ((Row.ofOwns (M := No) hm1.out.own (fun _ _ x => x)).extNo ((Ext.refl No _).alloc _)) (flatC_one f.copies) (by omega) (by omega) (by simp) ?_); (intro v1 w9 hown1 hg1 hv1); (obtain ⟨hm9, hX9⟩ := hm1.out.pre (x := (r5 : Int)) (y := IntKind.i64.wrap (f.gen.width - (r6 : Int))) hown1 hg1); (have HM9 := Lib.hid hm9); (have HX9 := Lib.hid hX9); (obtain ⟨a9, n9, c9, hs9⟩ := hm9.sliceC); (subst hs9); (clear hm9 hX9 hown1 hg1 hv1))
     refine hK.out _ _ ?_ ?_
     ·trivial
     clear hK K hHeld
     intro hHeld
     clear hm1
     try simp only [Act.put, nzA, nzB, nzC]
     refine hTk 13 ?_ hHeld (fun w hSw => ?_) ?_
     rotate_left
     ·(try dsimp only at hSw); go_simp; (try with_reducible rfl)
     simp only [Act.put, nzA, nzB, nzC]
     refine hHc 14 fun K hK => ?_
     ((have cX := cellOf HX9.out); (have fX := freeOf HX9.out); go_simp; (clear cX fX))
     refine hK.out _ _ ?_ ?_
     ·trivial
     clear hK K hHeld
     intro hHeld
     clear HX9
     try simp only [Act.put, nzA, nzB, nzC]
     refine wpAnyH_done (by kernel_rfl) ?_ _
     have hmF := HM9
     have cDF := cellOf hmF.out.boxD
     have cCF := cellOf hmF.out.boxC
     have fCF := freeOf hmF.out.boxC
     go_wp2_with fail
     refine spoilT_end hmF.out ?_ rfl rfl
     rfl
      
    ((have cX := cellOf hm1.out.boxD); go_simp; (clear cX))
    refine hK.out _ _ ?_ ?_
    ·trivial
    clear hK K hHeld
    intro hHeld
    skip
    try simp only [Act.put, nzA, nzB, nzC]
    refine hHc 4 fun K hK => ?_
    ((have cX := cellOf hm1.out.boxA); go_simp; (clear cX))
    refine hK.out _ _ ?_ ?_
    ·trivial
    clear hK K hHeld
    intro hHeld
    skip
    try simp only [Act.put, nzA, nzB, nzC]
    refine hHs [7, 8] ?_
    iterate 2
     refine hTn ?_ hHeld (fun w hSw => ?_) ?_
     rotate_left
     ·(try dsimp only at hSw); go_simp; (try with_reducible rfl)
     simp only [Act.put, nzA, nzB, nzC]
    refine hHe ?_
    refine hHc 9 fun K hK => ?_
    go_simp
    refine hK.out _ _ ?_ ?_
    ·trivial
    clear hK K hHeld
    intro hHeld
    skip
    try simp only [Act.put, nzA, nzB, nzC]
    refine hHc 12 fun K hK => ?_
    ((refine wp_app _ (.tmp 70) (.tmp 72) 67 rfl w6.heap.size 99 i0 _ 2 16 Tryz.underlying67 hi0 hz0 hz1 hz2 rfl (by omega) (.slice (some ⟨w6.heap.size, 0, none⟩) 1 1) 1 [.int .i64 (r5 : Int), .int .i64 (IntKind.i64.wrap (f.gen.width - (r6 : Int)))] rfl (own_block (alloc_top rfl) rfl) No aq f.copies.length cq (flatC f.copies) rfl ((Row.ofOwns (M := No) hm1.out.own (fun _ _ x => x)).extNo ((Ext.refl No _).alloc _)) (flatC_one f.copies) (by omega) (by omega) (by simp) ?_); (intro v1 w9 hown1 hg1 hv1); (obtain ⟨hm9, hX9⟩ := hm1.out.pre (x := (r5 : Int)) (y := IntKind.i64.wrap (f.gen.width - (r6 : Int))) hown1 hg1); (have HM9 := Lib.hid hm9); (have HX9 := Lib.hid hX9); (obtain ⟨a9, n9, c9, hs9⟩ := hm9.sliceC); (subst hs9); (clear hm9 hX9 hown1 hg1 hv1))
    refine hK.out _ _ ?_ ?_
    ·trivial
    clear hK K hHeld
    intro hHeld
    clear hm1
    try simp only [Act.put, nzA, nzB, nzC]
    refine hTk 13 ?_ hHeld (fun w hSw => ?_) ?_
    rotate_left
    ·(try dsimp only at hSw); go_simp; (try with_reducible rfl)
    simp only [Act.put, nzA, nzB, nzC]
    refine hHc 14 fun K hK => ?_
    ((have cX := cellOf HX9.out); (have fX := freeOf HX9.out); go_simp; (clear cX fX))
    refine hK.out _ _ ?_ ?_
    ·trivial
    clear hK K hHeld
    intro hHeld
    clear HX9
    try simp only [Act.put, nzA, nzB, nzC]
    refine wpAnyH_done (by kernel_rfl) ?_ _
    have hmF := HM9
    have cDF := cellOf hmF.out.boxD
    have cCF := cellOf hmF.out.boxC
    have fCF := freeOf hmF.out.boxC
    go_wp2_with fail
    refine spoilT_end hmF.out ?_ rfl rfl
    rfl
     
   ((have cX := cellOf hm1.out.boxD); go_simp; (clear cX))
   refine hK.out _ _ ?_ ?_
   ·trivial
   clear hK K hHeld
   intro hHeld
   skip
   try simp only [Act.put, nzA, nzB, nzC]
   refine held_next2 (i := 4) (j := 6) (by kernel_rfl) (NextOp.mk rfl rfl (fun K hK => ?_)) (NextOp.mk rfl rfl (fun K hK => ?_))
   ·((have cX := cellOf hm1.out.boxA); go_simp; (clear cX))
    refine hK.out _ _ ?_ ?_
    ·trivial
    clear hK K hHeld
    intro hHeld
    skip
    try simp only [Act.put, nzA, nzB, nzC]
    refine hHc 6 fun K hK => ?_
    (go_simp; go_at_call 23; (with_reducible refine (next_lt tb 2 (by decide) (by decide) _ hm1.out.tape).mono ?_); (rintro e6 w6 ⟨r6, rfl, hr6, ht6, hx6, -⟩); go_simp)
    refine hK.out _ _ ?_ ?_
    ·trivial
    clear hK K hHeld
    intro hHeld
    replace hm1 := Lib.hid (hm1.out.step hx6 ht6)
    clear hx6 ht6
    try simp only [Act.put, nzA, nzB, nzC]
    refine hHs [7, 8] ?_
    iterate 2
     refine hTn ?_ hHeld (fun w hSw => ?_) ?_
     rotate_left
     ·(try dsimp only at hSw); go_simp; (try with_reducible rfl)
     simp only [Act.put, nzA, nzB, nzC]
    refine hHe ?_
    refine hHc 9 fun K hK => ?_
    go_simp
    refine hK.out _ _ ?_ ?_
    ·trivial
    clear hK K hHeld
    intro hHeld
    skip
    try simp only [Act.put, nzA, nzB, nzC]
    refine hHc 12 fun K hK => ?_
    ((refine wp_app _ (.tmp 70) (.tmp 72) 67 rfl w6.heap.size 99 i0 _ 2 16 Tryz.underlying67 hi0 hz0 hz1 hz2 rfl (by omega) (.slice (some ⟨w6.heap.size, 0, none⟩) 1 1) 1 [.int .i64 (r5 : Int), .int .i64 (IntKind.i64.wrap (f.gen.width - (r6 : Int)))] rfl (own_block (alloc_top rfl) rfl) No aq f.copies.length cq (flatC f.copies) rfl ((Row.ofOwns (M := No) hm1.out.own (fun _ _ x => x)).extNo ((Ext.refl No _).alloc _)) (flatC_one f.copies) (by omega) (by omega) (by simp) ?_); (intro v1 w9 hown1 hg1 hv1); (obtain ⟨hm9, hX9⟩ := hm1.out.pre (x := (r5 : Int)) (y := IntKind.i64.wrap (f.gen.width - (r6 : Int))) hown1 hg1); (have HM9 := Lib.hid hm9); (have HX9 := Lib.hid hX9); (obtain ⟨a9, n9, c9, hs9⟩ := hm9.sliceC); (subst hs9); (clear hm9 hX9 hown1 hg1 hv1))
    refine hK.out _ _ ?_ ?_
    ·trivial
    clear hK K hHeld
    intro hHeld
    clear hm1
    try simp only [Act.put, nzA, nzB, nzC]
    refine hTk 13 ?_ hHeld (fun w hSw => ?_) ?_
    rotate_left
    ·(try dsimp only at hSw); go_simp; (try with_reducible rfl)
    simp only [Act.put, nzA, nzB, nzC]
    refine hHc 14 fun K hK => ?_
    ((have cX := cellOf HX9.out); (have fX := freeOf HX9.out); go_simp; (clear cX fX))
    refine hK.out _ _ ?_ ?_
    ·trivial
    clear hK K hHeld
    intro hHeld
    clear HX9
    try simp only [Act.put, nzA, nzB, nzC]
    refine wpAnyH_done (by kernel_rfl) ?_ _
    have hmF := HM9
    have cDF := cellOf hmF.out.boxD
    have cCF := cellOf hmF.out.boxC
    have fCF := freeOf hmF.out.boxC
    go_wp2_with fail
    refine spoilT_end hmF.out ?_ rfl rfl
    rfl
     
   (go_simp; go_at_call 23; (with_reducible refine (next_lt tb 2 (by decide) (by decide) _ hm1.out.tape).mono ?_); (rintro e6 w6 ⟨r6, rfl, hr6, ht6, hx6, -⟩); go_simp)
   refine hK.out _ _ ?_ ?_
   ·trivial
   clear hK K hHeld
   intro hHeld
   replace hm1 := Lib.hid (hm1.out.step hx6 ht6)
   clear hx6 ht6
   try simp only [Act.put, nzA, nzB, nzC]
   refine hHc 4 fun K hK => ?_
   ((have cX := cellOf hm1.out.boxA); go_simp; (clear cX))
   refine hK.out _ _ ?_ ?_
   ·trivial
   clear hK K hHeld
   intro hHeld
   skip
   try simp only [Act.put, nzA, nzB, nzC]
   refine hHs [7, 8] ?_
   iterate 2
    refine hTn ?_ hHeld (fun w hSw => ?_) ?_
    rotate_left
    ·(try dsimp only at hSw); go_simp; (try with_reducible rfl)
    simp only [Act.put, nzA, nzB, nzC]
   refine hHe ?_
   refine hHc 9 fun K hK => ?_
   go_simp
   refine hK.out _ _ ?_ ?_
   ·trivial
   clear hK K hHeld
   intro hHeld
   skip
   try simp only [Act.put, nzA, nzB, nzC]
   refine hHc 12 fun K hK => ?_
   ((refine wp_app _ (.tmp 70) (.tmp 72) 67 rfl w6.heap.size 99 i0 _ 2 16 Tryz.underlying67 hi0 hz0 hz1 hz2 rfl (by omega) (.slice (some ⟨w6.heap.size, 0, none⟩) 1 1) 1 [.int .i64 (r5 : Int), .int .i64 (IntKind.i64.wrap (f.gen.width - (r6 : Int)))] rfl (own_block (alloc_top rfl) rfl) No aq f.copies.length cq (flatC f.copies) rfl ((Row.ofOwns (M := No) hm1.out.own (fun _ _ x => x)).extNo ((Ext.refl No _).alloc _)) (flatC_one f.copies) (by omega) (by omega) (by simp) ?_); (intro v1 w9 hown1 hg1 hv1); (obtain ⟨hm9, hX9⟩ := hm1.out.pre (x := (r5 : Int)) (y := IntKind.i64.wrap (f.gen.width - (r6 : Int))) hown1 hg1); (have HM9 := Lib.hid hm9); (have HX9 := Lib.hid hX9); (obtain ⟨a9, n9, c9, hs9⟩ := hm9.sliceC); (subst hs9); (clear hm9 hX9 hown1 hg1 hv1))
   refine hK.out _ _ ?_ ?_
   ·trivial
   clear hK K hHeld
   intro hHeld
   clear hm1
   try simp only [Act.put, nzA, nzB, nzC]
   refine hTk 13 ?_ hHeld (fun w hSw => ?_) ?_
   rotate_left
   ·(try dsimp only at hSw); go_simp; (try with_reducible rfl)
   simp only [Act.put, nzA, nzB, nzC]
   refine hHc 14 fun K hK => ?_
   ((have cX := cellOf HX9.out); (have fX := freeOf HX9.out); go_simp; (clear cX fX))
   refine hK.out _ _ ?_ ?_
   ·trivial
   clear hK K hHeld
   intro hHeld
   clear HX9
   try simp only [Act.put, nzA, nzB, nzC]
   refine wpAnyH_done (by kernel_rfl) ?_ _
   have hmF := HM9
   have cDF := cellOf hmF.out.boxD
   have cCF := cellOf hmF.out.boxC
   have fCF := freeOf hmF.out.boxC
   go_wp2_with fail
   refine spoilT_end hmF.out ?_ rfl rfl
   rfl
     
  ·((have cX := cellOf hm1.out.boxA); go_simp; (clear cX))
   refine hK.out _ _ ?_ ?_
   ·trivial
   clear hK K hHeld
   intro hHeld
   skip
   try simp only [Act.put, nzA, nzB, nzC]
   refine held_next2 (i := 1) (j := 11) (by kernel_rfl) (NextOp.mk rfl rfl (fun K hK => ?_)) (NextOp.mk rfl rfl (fun K hK => ?_))
   ·(go_simp; go_at_call 23; (with_reducible refine (next_lt tb 4 (by decide) (by decide) _ hm1.out.tape).mono ?_); (rintro e5 w5 ⟨r5, rfl, hr5, ht5, hx5, -⟩); go_simp)
    refine hK.out _ _ ?_ ?_
    ·trivial
    clear hK K hHeld
    intro hHeld
    replace hm1 := Lib.hid (hm1.out.step hx5 ht5)
    clear hx5 ht5
    try simp only [Act.put, nzA, nzB, nzC]
    refine held_next2 (i := 6) (j := 11) (by kernel_rfl) (NextOp.mk rfl rfl (fun K hK => ?_)) (NextOp.mk rfl rfl (fun K hK => ?_))
    ·(go_simp; go_at_call 23; (with_reducible refine (next_lt tb 2 (by decide) (by decide) _ hm1.out.tape).mono ?_); (rintro e6 w6 ⟨r6, rfl, hr6, ht6, hx6, -⟩); go_simp)
     refine hK.out _ _ ?_ ?_
     ·trivial
     clear hK K hHeld
     intro hHeld
     replace hm1 := Lib.hid (hm1.out.step hx6 ht6)
     clear hx6 ht6
     try simp only [Act.put, nzA, nzB, nzC]
     refine hHs [7, 8] ?_
     iterate 2
      refine hTn ?_ hHeld (fun w hSw => ?_) ?_
      rotate_left
      ·(try dsimp only at hSw); go_simp; (try with_reducible rfl)
      simp only [Act.put, nzA, nzB, nzC]
     refine hHe ?_
     refine held_next2 (i := 9) (j := 11) (by kernel_rfl) (NextOp.mk rfl rfl (fun K hK => ?_)) (NextOp.mk rfl rfl (fun K hK => ?_))
     ·go_simp
      refine hK.out _ _ ?_ ?_
      ·trivial
      clear hK K hHeld
      intro hHeld
      skip
      try simp only [Act.put, nzA, nzB, nzC]
      refine hHc 11 fun K hK => ?_
      ((have cX := cellOf hm1.out.boxD); (have cX2 := cellOf (alloc_under (o := (.cells #[.int .i64 (r5 : Int), .int .i64 (IntKind.i64.wrap (f.gen.width - (r6 : Int)))] 99)) hm1.out.boxD)); go_simp; (clear cX cX2))
      refine hK.out _ _ ?_ ?_
      ·trivial
      clear hK K hHeld
      intro hHeld
      skip
      try simp only [Act.put, nzA, nzB, nzC]
      refine hHc 12 fun K hK => ?_
      ((refine wp_app _ (.tmp 70) (.tmp 72) 67 rfl w6.heap.size 99 i0 _ 2 16 Tryz.underlying67 hi0 hz0 hz1 hz2 rfl (by omega) (.slice (some ⟨w6.heap.size, 0, none⟩) 1 1) 1 [.int .i64 (r5 : Int), .int .i64 (IntKind.i64.wrap (f.gen.width - (r6 : Int)))] rfl (own_block (alloc_top rfl) rfl) No aq f.copies.length cq (flatC f.copies) rfl ((Row.ofOwns (M := No) hm1.out.own (fun _ _ x => x)).extNo ((Ext.refl No _).alloc _)) (flatC_one f.copies) (by omega) (by omega) (by simp) ?_); (intro v1 w9 hown1 hg1 hv1); (obtain ⟨hm9, hX9⟩ := hm1.out.pre (x := (r5 : Int)) (y := IntKind.i64.wrap (f.gen.width - (r6 : Int))) hown1 hg1); (have HM9 := Lib.hid hm9); (have HX9 := Lib.hid hX9); (obtain ⟨a9, n9, c9, hs9⟩ := hm9.sliceC); (subst hs9); (clear hm9 hX9 hown1 hg1 hv1))
      refine hK.out _ _ ?_ ?_
      ·trivial
      clear hK K hHeld
      intro hHeld
      clear hm1
      try simp only [Act.put, nzA, nzB, nzC]
      refine hTk 13 ?_ hHeld (fun w hSw => ?_) ?_
      rotate_left
      ·(try dsimp only at hSw); go_simp; (try with_reducible rfl)
      simp only [Act.put, nzA, nzB, nzC]
      refine hHc 14 fun K hK => ?_
      ((have cX := cellOf HX9.out); (have fX := freeOf HX9.out); go_simp; (clear cX fX))
      refine hK.out _ _ ?_ ?_
      ·trivial
      clear hK K hHeld
      intro hHeld
      clear HX9
      try simp only [Act.put, nzA, nzB, nzC]
      refine wpAnyH_done (by kernel_rfl) ?_ _
      have hmF := HM9
      have cDF := cellOf hmF.out.boxD
      have cCF := cellOf hmF.out.boxC
      have fCF := freeOf hmF.out.boxC
      go_wp2_with fail
      refine spoilT_end hmF.out ?_ rfl rfl
      rfl
      
     ((have cX := cellOf hm1.out.boxD); go_simp; (clear cX))
     refine hK.out _ _ ?_ ?_
     ·trivial
     clear hK K hHeld
     intro hHeld
     skip
     try simp only [Act.put, nzA, nzB, nzC]
     refine hHc 9 fun K hK => ?_
     go_simp
     refine hK.out _ _ ?_ ?_
     ·trivial
     clear hK K hHeld
     intro hHeld
     skip
     try simp only [Act.put, nzA, nzB, nzC]
     refine hHc 12 fun K hK => ?_
     ((refine wp_app _ (.tmp 70) (.tmp 72) 67 rfl w6.heap.size 99 i0 _ 2 16 Tryz.underlying67 hi0 hz0 hz1 hz2 rfl (by omega) (.slice (some ⟨w6.heap.size, 0, none⟩) 1 1) 1 [.int .i64 (r5 : Int), .int .i64 (IntKind.i64.wrap (f.gen.width - (r6 : Int)))] rfl (own_block (alloc_top rfl) rfl) No aq f.copies.length cq (flatC f.copies) rfl ((Row.ofOwns (M := No) hm1.out.own (fun _ _ x => x)).extNo ((Ext.refl No _).alloc _)) (flatC_one f.copies) (by omega) (by omega) (by simp) ?_); (intro v1 w9 hown1 hg1 hv1); (obtain ⟨hm9, hX9⟩ := hm1.out.pre (x := (r5 : Int)) (y := IntKind.i64.wrap (f.gen.width - (r6 : Int))) hown1 hg1); (have HM9 := Lib.hid hm9); (have HX9 := Lib.hid hX9); (obtain ⟨a9, n9, c9, hs9⟩ := hm9.sliceC); (subst hs9); (clear hm9 hX9 hown1 hg1 hv1))
     refine hK.out _ _ ?_ ?_
     ·trivial
     clear hK K hHeld
     intro hHeld
     clear hm1
     try simp only [Act.put, nzA, nzB, nzC]
     refine hTk 13 ?_ hHeld (fun w hSw => ?_) ?_
     rotate_left
     ·(try dsimp only at hSw); go_simp; (try with_reducible rfl)
     simp only [Act.put, nzA, nzB, nzC]
     refine hHc 14 fun K hK => ?_
     ((have cX := cellOf HX9.out); (have fX := freeOf HX9.out); go_simp; (clear cX fX))
     refine hK.out _ _ ?_ ?_
     ·trivial
     clear hK K hHeld
     intro hHeld
     clear HX9
     try simp only [Act.put, nzA, nzB, nzC]
     refine wpAnyH_done (by kernel_rfl) ?_ _
     have hmF := HM9
     have cDF := cellOf hmF.out.boxD
     have cCF := cellOf hmF.out.boxC
     have fCF := freeOf hmF.out.boxC
     go_wp2_with fail
     refine spoilT_end hmF.out ?_ rfl rfl
     rfl
      
    ((have cX := cellOf hm1.out.boxD); go_simp; (clear cX))
    refine hK.out _ _ ?_ ?_
    ·trivial
    clear hK K hHeld
    intro hHeld
    skip
    try simp only [Act.put, nzA, nzB, nzC]
    refine hHc 6 fun K hK => ?_
    (go_simp; go_at_call 23; (with_reducible refine (next_lt tb 2 (by decide) (by decide) _ hm1.out.tape).mono ?_); (rintro e6 w6 ⟨r6, rfl, hr6, ht6, hx6, -⟩); go_simp)
    refine hK.out _ _ ?_ ?_
    ·trivial
    clear hK K hHeld
    intro hHeld
    replace hm1 := Lib.hid (hm1.out.step hx6 ht6)
    clear hx6 ht6
    try simp only [Act.put, nzA, nzB, nzC]
    refine hHs [7, 8] ?_
    iterate 2
     refine hTn ?_ hHeld (fun w hSw => ?_) ?_
     rotate_left
     ·(try dsimp only at hSw); go_simp; (try with_reducible rfl)
     simp only [Act.put, nzA, nzB, nzC]
    refine hHe ?_
    refine hHc 9 fun K hK => ?_
    go_simp
    refine hK.out _ _ ?_ ?_
    ·trivial
    clear hK K hHeld
    intro hHeld
    skip
    try simp only [Act.put, nzA, nzB, nzC]
    refine hHc 12 fun K hK => ?_
    ((refine wp_app _ (.tmp 70) (.tmp 72) 67 rfl w6.heap.size 99 i0 _ 2 16 Tryz.underlying67 hi0 hz0 hz1 hz2 rfl (by omega) (.slice (some ⟨w6.heap.size, 0, none⟩) 1 1) 1 [.int .i64 (r5 : Int), .int .i64 (IntKind.i64.wrap (f.gen.width - (r6 : Int)))] rfl (own_block (alloc_top rfl) rfl) No aq f.copies.length cq (flatC f.copies) rfl ((Row.ofOwns (M := No) hm1.out.own (fun _ _ x => x)).extNo ((Ext.refl No _).alloc _)) (flatC_one f.copies) (by omega) (by omega) (by simp) ?_); (intro v1 w9 hown1 hg1 hv1); (obtain ⟨hm9, hX9⟩ := hm1.out.pre (x := (r5 : Int)) (y := IntKind.i64.wrap (f.gen.width - (r6 : Int))) hown1 hg1); (have HM9 := Lib.hid hm9); (have HX9 := Lib.hid hX9); (obtain ⟨a9, n9, c9, hs9⟩ := hm9.sliceC); (subst hs9); (clear hm9 hX9 hown1 hg1 hv1))
    refine hK.out _ _ ?_ ?_
    ·trivial
    clear hK K hHeld
    intro hHeld
    clear hm1
    try simp only [Act.put, nzA, nzB, nzC]
    refine hTk 13 ?_ hHeld (fun w hSw => ?_) ?_
    rotate_left
    ·(try dsimp only at hSw); go_simp; (try with_reducible rfl)
    simp only [Act.put, nzA, nzB, nzC]
    refine hHc 14 fun K hK => ?_
    ((have cX := cellOf HX9.out); (have fX := freeOf HX9.out); go_simp; (clear cX fX))
    refine hK.out _ _ ?_ ?_
    ·trivial
    clear hK K hHeld
    intro hHeld
    clear HX9
    try simp only [Act.put, nzA, nzB, nzC]
    refine wpAnyH_done (by kernel_rfl) ?_ _
    have hmF := HM9
    have cDF := cellOf hmF.out.boxD
    have cCF := cellOf hmF.out.boxC
    have fCF := freeOf hmF.out.boxC
    go_wp2_with fail
    refine spoilT_end hmF.out ?_ rfl rfl
    rfl
     
   ((have cX := cellOf hm1.out.boxD); go_simp; (clear cX))
   refine hK.out _ _ ?_ ?_
   ·trivial
   clear hK K hHeld
   intro hHeld
   skip
   try simp only [Act.put, nzA, nzB, nzC]
   refine hHc 1 fun K hK => ?_
   (go_simp; go_at_call 23; (with_reducible refine (next_lt tb 4 (by decide) (by decide) _ hm1.out.tape).mono ?_); (rintro e5 w5 ⟨r5, rfl, hr5, ht5, hx5, -⟩); go_simp)
   refine hK.out _ _ ?_ ?_
   ·trivial
   clear hK K hHeld
   intro hHeld
   replace hm1 := Lib.hid (hm1.out.step hx5 ht5)
   clear hx5 ht5
   try simp only [Act.put, nzA, nzB, nzC]
   refine hHc 6 fun K hK => ?_
   (go_simp; go_at_call 23; (with_reducible refine (next_lt tb 2 (by decide) (by decide) _ hm1.out.tape).mono ?_); (rintro e6 w6 ⟨r6, rfl, hr6, ht6, hx6, -⟩); go_simp)
   refine hK.out _ _ ?_ ?_
   ·trivial
   clear hK K hHeld
   intro hHeld
   replace hm1 := Lib.hid (hm1.out.step hx6 ht6)
   clear hx6 ht6
   try simp only [Act.put, nzA, nzB, nzC]
   refine hHs [7, 8] ?_
   iterate 2
    refine hTn ?_ hHeld (fun w hSw => ?_) ?_
    rotate_left
    ·(try dsimp only at hSw); go_simp; (try with_reducible rfl)
    simp only [Act.put, nzA, nzB, nzC]
   refine hHe ?_
   refine hHc 9 fun K hK => ?_
   go_simp
   refine hK.out _ _ ?_ ?_
   ·trivial
   clear hK K hHeld
   intro hHeld
   skip
   try simp only [Act.put, nzA, nzB, nzC]
   refine hHc 12 fun K hK => ?_
   ((refine wp_app _ (.tmp 70) (.tmp 72) 67 rfl w6.heap.size 99 i0 _ 2 16 Tryz.underlying67 hi0 hz0 hz1 hz2 rfl (by omega) (.slice (some ⟨w6.heap.size, 0, none⟩) 1 1) 1 [.int .i64 (r5 : Int), .int .i64 (IntKind.i64.wrap (f.gen.width - (r6 : Int)))] rfl (own_block (alloc_top rfl) rfl) No aq f.copies.length cq (flatC f.copies) rfl ((Row.ofOwns (M := No) hm1.out.own (fun _ _ x => x)).extNo ((Ext.refl No _).alloc _)) (flatC_one f.copies) (by omega) (by omega) (by simp) ?_); (intro v1 w9 hown1 hg1 hv1); (obtain ⟨hm9, hX9⟩ := hm1.out.pre (x := (r5 : Int)) (y := IntKind.i64.wrap (f.gen.width - (r6 : Int))) hown1 hg1); (have HM9 := Lib.hid hm9); (have HX9 := Lib.hid hX9); (obtain ⟨a9, n9, c9, hs9⟩ := hm9.sliceC); (subst hs9); (clear hm9 hX9 hown1 hg1 hv1))
   refine hK.out _ _ ?_ ?_
   ·trivial
   clear hK K hHeld
   intro hHeld
   clear hm1
   try simp only [Act.put, nzA, nzB, nzC]
   refine hTk 13 ?_ hHeld (fun w hSw => ?_) ?_
   rotate_left
   ·(try dsimp only at hSw); go_simp; (try with_reducible rfl)
   simp only [Act.put, nzA, nzB, nzC]
   refine hHc 14 fun K hK => ?_
   ((have cX := cellOf HX9.out); (have fX := freeOf HX9.out); go_simp; (clear cX fX))
   refine hK.out _ _ ?_ ?_
   ·trivial
   clear hK K hHeld
   intro hHeld
   clear HX9
   try simp only [Act.put, nzA, nzB, nzC]
   refine wpAnyH_done (by kernel_rfl) ?_ _
   have hmF := HM9
   have cDF := cellOf hmF.out.boxD
   have cCF := cellOf hmF.out.boxC
   have fCF := freeOf hmF.out.boxC
   go_wp2_with fail
   refine spoilT_end hmF.out ?_ rfl rfl
   rfl
    
  ((have cX := cellOf hm1.out.boxD); go_simp; (clear cX))
  refine hK.out _ _ ?_ ?_
  ·trivial
  clear hK K hHeld
  intro hHeld
  skip
  try simp only [Act.put, nzA, nzB, nzC]
  refine held_next2 (i := 1) (j := 4) (by kernel_rfl) (NextOp.mk rfl rfl (fun K hK => ?_)) (NextOp.mk rfl rfl (fun K hK => ?_))
  ·(go_simp; go_at_call 23; (with_reducible refine (next_lt tb 4 (by decide) (by decide) _ hm1.out.tape).mono ?_); (rintro e5 w5 ⟨r5, rfl, hr5, ht5, hx5, -⟩); go_simp)
   refine hK.out _ _ ?_ ?_
   ·trivial
   clear hK K hHeld
   intro hHeld
   replace hm1 := Lib.hid (hm1.out.step hx5 ht5)
   clear hx5 ht5
   try simp only [Act.put, nzA, nzB, nzC]
   refine held_next2 (i := 4) (j := 6) (by kernel_rfl) (NextOp.mk rfl rfl (fun K hK => ?_)) (NextOp.mk rfl rfl (fun K hK => ?_))
   ·((have cX := cellOf hm1.out.boxA); go_simp; (clear cX))
    refine hK.out _ _ ?_ ?_
    ·trivial
    clear hK K hHeld
    intro hHeld
    skip
    try simp only [Act.put, nzA, nzB, nzC]
    refine hHc 6 fun K hK => ?_
    (go_simp; go_at_call 23; (with_reducible refine (next_lt tb 2 (by decide) (by decide) _ hm1.out.tape).mono ?_); (rintro e6 w6 ⟨r6, rfl, hr6, ht6, hx6, -⟩); go_simp)
    refine hK.out _ _ ?_ ?_
    ·trivial
    clear hK K hHeld
    intro hHeld
    replace hm1 := Lib.hid (hm1.out.step hx6 ht6)
    clear hx6 ht6
    try simp only [Act.put, nzA, nzB, nzC]
    refine hHs [7, 8] ?_
    iterate 2
     refine hTn ?_ hHeld (fun w hSw => ?_) ?_
     rotate_left
     ·(try dsimp only at hSw); go_simp; (try with_reducible rfl)
     simp only [Act.put, nzA, nzB, nzC]
    refine hHe ?_
    refine hHc 9 fun K hK => ?_
    go_simp
    refine hK.out _ _ ?_ ?_
    ·trivial
    clear hK K hHeld
    intro hHeld
    skip
    try simp only [Act.put, nzA, nzB, nzC]
    refine hHc 12 fun K hK => ?_
    ((refine wp_app _ (.tmp 70) (.tmp 72) 67 rfl w6.heap.size 99 i0 _ 2 16 Tryz.underlying67 hi0 hz0 hz1 hz2 rfl (by omega) (.slice (some ⟨w6.heap.size, 0, none⟩) 1 1) 1 [.int .i64 (r5 : Int), .int .i64 (IntKind.i64.wrap (f.gen.width - (r6 : Int)))] rfl (own_block (alloc_top rfl) rfl) No aq f.copies.length cq (flatC f.copies) rfl ((Row.ofOwns (M := No) hm1.out.own (fun _ _ x => x)).extNo ((Ext.refl No _).alloc _)) (flatC_one f.copies) (by omega) (by omega) (by simp) ?_); (intro v1 w9 hown1 hg1 hv1); (obtain ⟨hm9, hX9⟩ := hm1.out.pre (x := (r5 : Int)) (y := IntKind.i64.wrap (f.gen.width - (r6 : Int))) hown1 hg1); (have HM9 := Lib.hid hm9); (have HX9 := Lib.hid hX9); (obtain ⟨a9, n9, c9, hs9⟩ := hm9.sliceC); (subst hs9); (clear hm9 hX9 hown1 hg1 hv1))
    refine hK.out _ _ ?_ ?_
    ·trivial
    clear hK K hHeld
    intro hHeld
    clear hm1
    try simp only [Act.put, nzA, nzB, nzC]
    refine hTk 13 ?_ hHeld (fun w hSw => ?_) ?_
    rotate_left
    ·(try dsimp only at hSw); go_simp; (try with_reducible rfl)
    simp only [Act.put, nzA, nzB, nzC]
    refine hHc 14 fun K hK => ?_
    ((have cX := cellOf HX9.out); (have fX := freeOf HX9.out); go_simp; (clear cX fX))
    refine hK.out _ _ ?_ ?_
    ·trivial
    clear hK K hHeld
    intro hHeld
    clear HX9
    try simp only [Act.put, nzA, nzB, nzC]
    refine wpAnyH_done (by kernel_rfl) ?_ _
    have hmF := HM9
    have cDF := cellOf hmF.out.boxD
    have cCF := cellOf hmF.out.boxC
    have fCF := freeOf hmF.out.boxC
    go_wp2_with fail
    refine spoilT_end hmF.out ?_ rfl rfl
    rfl
     
   (go_simp; go_at_call 23; (with_reducible refine (next_lt tb 2 (by decide) (by decide) _ hm1.out.tape).mono ?_); (rintro e6 w6 ⟨r6, rfl, hr6, ht6, hx6, -⟩); go_simp)
   refine hK.out _ _ ?_ ?_
   ·trivial
   clear hK K hHeld
   intro hHeld
   replace hm1 := Lib.hid (hm1.out.step hx6 ht6)
   clear hx6 ht6
   try simp only [Act.put, nzA, nzB, nzC]
   refine hHc 4 fun K hK => ?_
   ((have cX := cellOf hm1.out.boxA); go_simp; (clear cX))
   refine hK.out _ _ ?_ ?_
   ·trivial
   clear hK K hHeld
   intro hHeld
   skip
   try simp only [Act.put, nzA, nzB, nzC]
   refine hHs [7, 8] ?_
   iterate 2
    refine hTn ?_ hHeld (fun w hSw => ?_) ?_
    rotate_left
    ·(try dsimp only at hSw); go_simp; (try with_reducible rfl)
    simp only [Act.put, nzA, nzB, nzC]
   refine hHe ?_
   refine hHc 9 fun K hK => ?_
   go_simp
   refine hK.out _ _ ?_ ?_
   ·trivial
   clear hK K hHeld
   intro hHeld
   skip
   try simp only [Act.put, nzA, nzB, nzC]
   refine hHc 12 fun K hK => ?_
   ((refine wp_app _ (.tmp 70) (.tmp 72) 67 rfl w6.heap.size 99 i0 _ 2 16 Tryz.underlying67 hi0 hz0 hz1 hz2 rfl (by omega) (.slice (some ⟨w6.heap.size, 0, none⟩) 1 1) 1 [.int .i64 (r5 : Int), .int .i64 (IntKind.i64.wrap (f.gen.width - (r6 : Int)))] rfl (own_block (alloc_top rfl) rfl) No aq f.copies.length cq (flatC f.copies) rfl ((Row.ofOwns (M := No) hm1.out.own (fun _ _ x => x)).extNo ((Ext.refl No _).alloc _)) (flatC_one f.copies) (by omega) (by omega) (by simp) ?_); (intro v1 w9 hown1 hg1 hv1); (obtain ⟨hm9, hX9⟩ := hm1.out.pre (x := (r5 : Int)) (y := IntKind.i64.wrap (f.gen.width - (r6 : Int))) hown1 hg1); (have HM9 := Lib.hid hm9); (have HX9 := Lib.hid hX9); (obtain ⟨a9, n9, c9, hs9⟩ := hm9.sliceC); (subst hs9); (clear hm9 hX9 hown1 hg1 hv1))
   refine hK.out _ _ ?_ ?_
   ·trivial
   clear hK K hHeld
   intro hHeld
   clear hm1
   try simp only [Act.put, nzA, nzB, nzC]
   refine hTk 13 ?_ hHeld (fun w hSw => ?_) ?_
   rotate_left
   ·(try dsimp only at hSw); go_simp; (try with_reducible rfl)
   simp only [Act.put, nzA, nzB, nzC]
   refine hHc 14 fun K hK => ?_
   ((have cX := cellOf HX9.out); (have fX := freeOf HX9.out); go_simp; (clear cX fX))
   refine hK.out _ _ ?_ ?_
   ·trivial
   clear hK K hHeld
   intro hHeld
   clear HX9
   try simp only [Act.put, nzA, nzB, nzC]
   refine wpAnyH_done (by kernel_rfl) ?_ _
   have hmF := HM9
   have cDF := cellOf hmF.out.boxD
   have cCF := cellOf hmF.out.boxC
   have fCF := freeOf hmF.out.boxC
   go_wp2_with fail
   refine spoilT_end hmF.out ?_ rfl rfl
   rfl
     
  ((have cX := cellOf hm1.out.boxA); go_simp; (clear cX))
  refine hK.out _ _ ?_ ?_
  ·trivial
  clear hK K hHeld
  intro hHeld
  skip
  try simp only [Act.put, nzA, nzB, nzC]
  refine hHc 1 fun K hK => ?_
  (go_simp; go_at_call 23; (with_reducible refine (next_lt tb 4 (by decide) (by decide) _ hm1.out.tape).mono ?_); (rintro e5 w5 ⟨r5, rfl, hr5, ht5, hx5, -⟩); go_simp)
  refine hK.out _ _ ?_ ?_
  ·trivial
  clear hK K hHeld
  intro hHeld
  replace hm1 := Lib.hid (hm1.out.step hx5 ht5)
  clear hx5 ht5
  try simp only [Act.put, nzA, nzB, nzC]
  refine hHc 6 fun K hK => ?_
  (go_simp; go_at_call 23; (with_reducible refine (next_lt tb 2 (by decide) (by decide) _ hm1.out.tape).mono ?_); (rintro e6 w6 ⟨r6, rfl, hr6, ht6, hx6, -⟩); go_simp)
  refine hK.out _ _ ?_ ?_
  ·trivial
  clear hK K hHeld
  intro hHeld
  replace hm1 := Lib.hid (hm1.out.step hx6 ht6)
  clear hx6 ht6
  try simp only [Act.put, nzA, nzB, nzC]
  refine hHs [7, 8] ?_
  iterate 2
   refine hTn ?_ hHeld (fun w hSw => ?_) ?_
   rotate_left
   ·(try dsimp only at hSw); go_simp; (try with_reducible rfl)
   simp only [Act.put, nzA, nzB, nzC]
  refine hHe ?_
  refine hHc 9 fun K hK => ?_
  go_simp
  refine hK.out _ _ ?_ ?_
  ·trivial
  clear hK K hHeld
  intro hHeld
  skip
  try simp only [Act.put, nzA, nzB, nzC]
  refine hHc 12 fun K hK => ?_
  ((refine wp_app _ (.tmp 70) (.tmp 72) 67 rfl w6.heap.size 99 i0 _ 2 16 Tryz.underlying67 hi0 hz0 hz1 hz2 rfl (by omega) (.slice (some ⟨w6.heap.size, 0, none⟩) 1 1) 1 [.int .i64 (r5 : Int), .int .i64 (IntKind.i64.wrap (f.gen.width - (r6 : Int)))] rfl (own_block (alloc_top rfl) rfl) No aq f.copies.length cq (flatC f.copies) rfl ((Row.ofOwns (M := No) hm1.out.own (fun _ _ x => x)).extNo ((Ext.refl No _).alloc _)) (flatC_one f.copies) (by omega) (by omega) (by simp) ?_); (intro v1 w9 hown1 hg1 hv1); (obtain ⟨hm9, hX9⟩ := hm1.out.pre (x := (r5 : Int)) (y := IntKind.i64.wrap (f.gen.width - (r6 : Int))) hown1 hg1); (have HM9 := Lib.hid hm9); (have HX9 := Lib.hid hX9); (obtain ⟨a9, n9, c9, hs9⟩ := hm9.sliceC); (subst hs9); (clear hm9 hX9 hown1 hg1 hv1))
  refine hK.out _ _ ?_ ?_
  ·trivial
  clear hK K hHeld
  intro hHeld
  clear hm1
  try simp only [Act.put, nzA, nzB, nzC]
  refine hTk 13 ?_ hHeld (fun w hSw => ?_) ?_
  rotate_left
  ·(try dsimp only at hSw); go_simp; (try with_reducible rfl)
  simp only [Act.put, nzA, nzB, nzC]
  refine hHc 14 fun K hK => ?_
  ((have cX := cellOf HX9.out); (have fX := freeOf HX9.out); go_simp; (clear cX fX))
  refine hK.out _ _ ?_ ?_
  ·trivial
  clear hK K hHeld
  intro hHeld
  clear HX9
  try simp only [Act.put, nzA, nzB, nzC]
  refine wpAnyH_done (by kernel_rfl) ?_ _
  have hmF := HM9
  have cDF := cellOf hmF.out.boxD
  have cCF := cellOf hmF.out.boxC
  have fCF := freeOf hmF.out.boxC
  go_wp2_with fail
  refine spoilT_end hmF.out ?_ rfl rfl
  rfl
    
 have cD := cellOf hm1.out.boxD
 by_cases hl0 : f.copies.length = 0
 ·obtain ⟨fc, hF⟩ : ∃ fc, SqM tb N W w1 fc f (.slice ag f.gen.words.length cg) (.slice ak f.kill.words.length ck) (.slice aq 0 cq) := ⟨_, by have h := hm1.out; rw [hl0] at h; exact h⟩
  have hmF := Lib.hid hF
  clear hF
  have cDF := cellOf hmF.out.boxD
  have cCF := cellOf hmF.out.boxC
  have fCF := freeOf hmF.out.boxC
  go_wp2_with fail
  refine spoilT_end hmF.out ?_ rfl rfl
  rfl
 have hz : (0 : Int) < (f.copies.length : Int) := by omega
 obtain ⟨g, hg1, hg2⟩ := hm1.out.shape hl0
 simp only [Value.slice.injEq] at hg1
 obtain ⟨rfl, -, -⟩ := hg1
 have hlm : IntKind.i64.wrap ((f.copies.length : Int) - 1) = ((f.copies.length - 1 : Nat) : Int) := by rw [IntWalk.i64_in _ (by omega)]; omega
 have hlp : 0 ≤ ((f.copies.length - 1 : Nat) : Int) := by omega
 have hlq : ((f.copies.length - 1 : Nat) : Int) < (f.copies.length : Int) := by omega
 have hlq2 : f.copies.length - 1 < f.copies.length := by omega
 go_wp2_with fail
 clear cD
 refine wp_region_held_drew (S := (fun _ => True)) (by kernel_rfl) ?_ (fun hHeld => ?_)
 ·trivial
 replace hm1 := Lib.hid (hm1.out.stepNo (Ext.refl No w1).drew)
 generalize w1.drew = v0 at *
 refine hHs [0, 2, 4] ?_
 iterate 3
  refine hTn ?_ hHeld (fun w hSw => ?_) ?_
  rotate_left
  ·(try dsimp only at hSw); go_simp; (try with_reducible rfl)
  simp only [Act.put, nzA, nzB, nzC]
 refine hHe ?_
 refine held_next3 (i := 1) (j := 3) (k := 5) (by kernel_rfl) (NextOp.mk rfl rfl (fun K hK => ?_)) (NextOp.mk rfl rfl (fun K hK => ?_)) (NextOp.mk rfl rfl (fun K hK => ?_))
 ·((have cX := cellOf hm1.out.boxD); go_simp; (clear cX))
  refine hK.out _ _ ?_ ?_
  ·trivial
  clear hK K hHeld
  intro hHeld
  skip
  try simp only [Act.put, nzA, nzB, nzC]
  refine held_next2 (i := 3) (j := 5) (by kernel_rfl) (NextOp.mk rfl rfl (fun K hK => ?_)) (NextOp.mk rfl rfl (fun K hK => ?_))
  ·((have cX := cellOf hm1.out.boxD); go_simp; (clear cX))
   refine hK.out _ _ ?_ ?_
   ·trivial
   clear hK K hHeld
   intro hHeld
   skip
   try simp only [Act.put, nzA, nzB, nzC]
   refine hHc 5 fun K hK => ?_
   ((have cX := cellOf hm1.out.boxD); go_simp; (clear cX))
   refine hK.out _ _ ?_ ?_
   ·trivial
   clear hK K hHeld
   intro hHeld
   skip
   try simp only [Act.put, nzA, nzB, nzC]
   refine hHs [6, 7, 8] ?_
   iterate 3
    refine hTn ?_ hHeld (fun w hSw => ?_) ?_
    rotate_left
    ·(try dsimp only at hSw); go_simp; (try with_reducible rfl)
    simp only [Act.put, nzA, nzB, nzC]
   refine hHe ?_
   refine hHc 9 fun K hK => ?_
   ((obtain ⟨x, y, cX, cY⟩ := hm1.out.last hl0); go_simp; (clear cX cY))
   refine hK.out _ _ ?_ ?_
   ·trivial
   clear hK K hHeld
   intro hHeld
   skip
   try simp only [Act.put, nzA, nzB, nzC]
   refine hHc 10 fun K hK => ?_
   go_simp
   refine hK.out _ _ ?_ ?_
   ·trivial
   clear hK K hHeld
   intro hHeld
   skip
   try simp only [Act.put, nzA, nzB, nzC]
   refine hHc 11 fun K hK => ?_
   ((refine wp_app _ (.tmp 19) (.tmp 28) 67 rfl (W.heap.size + 3) 99 i0 _ 2 16 Tryz.underlying67 hi0 hz0 hz1 hz2 rfl (by omega) (.slice (some ⟨g, 0, none⟩) f.copies.length cq) f.copies.length (flatC f.copies) rfl (row_keep hm1.out.own ((Ext.refl No _).alloc _) (fun _ _ x => x)) No (some ⟨v0.heap.size, 0, none⟩) 1 1 [.int .i64 x, .int .i64 y] rfl (Row.block (alloc_top rfl) rfl no_no (by omega)) (by simp [Value.oneCell']) (by omega) (by omega) (by have := lt_of_block hm1.out.boxD; simp; omega) ?_); (intro v1 w9 hown1 hg1 hv1); (obtain ⟨hm9, hX9⟩ := hm1.out.app (x := x) (y := y) hown1 hg1 hv1); (have HM9 := Lib.hid hm9); (have HX9 := Lib.hid hX9); (obtain ⟨a9, n9, c9, hs9⟩ := hm9.sliceC); (subst hs9); (clear hm9 hX9 hown1 hg1 hv1))
   refine hK.out _ _ ?_ ?_
   ·trivial
   clear hK K hHeld
   intro hHeld
   clear hm1
   try simp only [Act.put, nzA, nzB, nzC]
   refine hTk 12 ?_ hHeld (fun w hSw => ?_) ?_
   rotate_left
   ·(try dsimp only at hSw); go_simp; (try with_reducible rfl)
   simp only [Act.put, nzA, nzB, nzC]
   refine hHc 13 fun K hK => ?_
   ((have cX := cellOf HX9.out); (have fX := freeOf HX9.out); go_simp; (clear cX fX))
   refine hK.out _ _ ?_ ?_
   ·trivial
   clear hK K hHeld
   intro hHeld
   clear HX9
   try simp only [Act.put, nzA, nzB, nzC]
   refine wpAnyH_done (by kernel_rfl) ?_ _
   have hmF := HM9
   have cDF := cellOf hmF.out.boxD
   have cCF := cellOf hmF.out.boxC
   have fCF := freeOf hmF.out.boxC
   go_wp2_with fail
   refine spoilT_end hmF.out ?_ rfl rfl
   rfl
     
  ((have cX := cellOf hm1.out.boxD); go_simp; (clear cX))
  refine hK.out _ _ ?_ ?_
  ·trivial
  clear hK K hHeld
  intro hHeld
  skip
  try simp only [Act.put, nzA, nzB, nzC]
  refine hHs [6, 7] ?_
  iterate 2
   refine hTn ?_ hHeld (fun w hSw => ?_) ?_
   rotate_left
   ·(try dsimp only at hSw); go_simp; (try with_reducible rfl)
   simp only [Act.put, nzA, nzB, nzC]
  refine hHe ?_
  refine hHc 3 fun K hK => ?_
  ((have cX := cellOf hm1.out.boxD); go_simp; (clear cX))
  refine hK.out _ _ ?_ ?_
  ·trivial
  clear hK K hHeld
  intro hHeld
  skip
  try simp only [Act.put, nzA, nzB, nzC]
  refine hTk 8 ?_ hHeld (fun w hSw => ?_) ?_
  rotate_left
  ·(try dsimp only at hSw); go_simp; (try with_reducible rfl)
  simp only [Act.put, nzA, nzB, nzC]
  refine hHc 9 fun K hK => ?_
  ((obtain ⟨x, y, cX, cY⟩ := hm1.out.last hl0); go_simp; (clear cX cY))
  refine hK.out _ _ ?_ ?_
  ·trivial
  clear hK K hHeld
  intro hHeld
  skip
  try simp only [Act.put, nzA, nzB, nzC]
  refine hHc 10 fun K hK => ?_
  go_simp
  refine hK.out _ _ ?_ ?_
  ·trivial
  clear hK K hHeld
  intro hHeld
  skip
  try simp only [Act.put, nzA, nzB, nzC]
  refine hHc 11 fun K hK => ?_
  ((refine wp_app _ (.tmp 19) (.tmp 28) 67 rfl (W.heap.size + 3) 99 i0 _ 2 16 Tryz.underlying67 hi0 hz0 hz1 hz2 rfl (by omega) (.slice (some ⟨g, 0, none⟩) f.copies.length cq) f.copies.length (flatC f.copies) rfl (row_keep hm1.out.own ((Ext.refl No _).alloc _) (fun _ _ x => x)) No (some ⟨v0.heap.size, 0, none⟩) 1 1 [.int .i64 x, .int .i64 y] rfl (Row.block (alloc_top rfl) rfl no_no (by omega)) (by simp [Value.oneCell']) (by omega) (by omega) (by have := lt_of_block hm1.out.boxD; simp; omega) ?_); (intro v1 w9 hown1 hg1 hv1); (obtain ⟨hm9, hX9⟩ := hm1.out.app (x := x) (y := y) hown1 hg1 hv1); (have HM9 := Lib.hid hm9); (have HX9 := Lib.hid hX9); (obtain ⟨a9, n9, c9, hs9⟩ := hm9.sliceC); (subst hs9); (clear hm9 hX9 hown1 hg1 hv1))
  refine hK.out _ _ ?_ ?_
  ·trivial
  clear hK K hHeld
  intro hHeld
  clear hm1
  try simp only [Act.put, nzA, nzB, nzC]
  refine hTk 12 ?_ hHeld (fun w hSw => ?_) ?_
  rotate_left
  ·(try dsimp only at hSw); go_simp; (try with_reducible rfl)
  simp only [Act.put, nzA, nzB, nzC]
  refine hHc 13 fun K hK => ?_
  ((have cX := cellOf HX9.out); (have fX := freeOf HX9.out); go_simp; (clear cX fX))
  refine hK.out _ _ ?_ ?_
  ·trivial
  clear hK K hHeld
  intro hHeld
  clear HX9
  try simp only [Act.put, nzA, nzB, nzC]
  refine wpAnyH_done (by kernel_rfl) ?_ _
  have hmF := HM9
  have cDF := cellOf hmF.out.boxD
  have cCF := cellOf hmF.out.boxC
  have fCF := freeOf hmF.out.boxC
  go_wp2_with fail
  refine spoilT_end hmF.out ?_ rfl rfl
  rfl
     
 ·((have cX := cellOf hm1.out.boxD); go_simp; (clear cX))
  refine hK.out _ _ ?_ ?_
  ·trivial
  clear hK K hHeld
  intro hHeld
  skip
  try simp only [Act.put, nzA, nzB, nzC]
  refine held_next2 (i := 1) (j := 5) (by kernel_rfl) (NextOp.mk rfl rfl (fun K hK => ?_)) (NextOp.mk rfl rfl (fun K hK => ?_))
  ·((have cX := cellOf hm1.out.boxD); go_simp; (clear cX))
   refine hK.out _ _ ?_ ?_
   ·trivial
   clear hK K hHeld
   intro hHeld
   skip
   try simp only [Act.put, nzA, nzB, nzC]
   refine hHc 5 fun K hK => ?_
   ((have cX := cellOf hm1.out.boxD); go_simp; (clear cX))
   refine hK.out _ _ ?_ ?_
   ·trivial
   clear hK K hHeld
   intro hHeld
   skip
   try simp only [Act.put, nzA, nzB, nzC]
   refine hHs [6, 7, 8] ?_
   iterate 3
    refine hTn ?_ hHeld (fun w hSw => ?_) ?_
    rotate_left
    ·(try dsimp only at hSw); go_simp; (try with_reducible rfl)
    simp only [Act.put, nzA, nzB, nzC]
   refine hHe ?_
   refine hHc 9 fun K hK => ?_
   ((obtain ⟨x, y, cX, cY⟩ := hm1.out.last hl0); go_simp; (clear cX cY))
   refine hK.out _ _ ?_ ?_
   ·trivial
   clear hK K hHeld
   intro hHeld
   skip
   try simp only [Act.put, nzA, nzB, nzC]
   refine hHc 10 fun K hK => ?_
   go_simp
   refine hK.out _ _ ?_ ?_
   ·trivial
   clear hK K hHeld
   intro hHeld
   skip
   try simp only [Act.put, nzA, nzB, nzC]
   refine hHc 11 fun K hK => ?_
   ((refine wp_app _ (.tmp 19) (.tmp 28) 67 rfl (W.heap.size + 3) 99 i0 _ 2 16 Tryz.underlying67 hi0 hz0 hz1 hz2 rfl (by omega) (.slice (some ⟨g, 0, none⟩) f.copies.length cq) f.copies.length (flatC f.copies) rfl (row_keep hm1.out.own ((Ext.refl No _).alloc _) (fun _ _ x => x)) No (some ⟨v0.heap.size, 0, none⟩) 1 1 [.int .i64 x, .int .i64 y] rfl (Row.block (alloc_top rfl) rfl no_no (by omega)) (by simp [Value.oneCell']) (by omega) (by omega) (by have := lt_of_block hm1.out.boxD; simp; omega) ?_); (intro v1 w9 hown1 hg1 hv1); (obtain ⟨hm9, hX9⟩ := hm1.out.app (x := x) (y := y) hown1 hg1 hv1); (have HM9 := Lib.hid hm9); (have HX9 := Lib.hid hX9); (obtain ⟨a9, n9, c9, hs9⟩ := hm9.sliceC); (subst hs9); (clear hm9 hX9 hown1 hg1 hv1))
   refine hK.out _ _ ?_ ?_
   ·trivial
   clear hK K hHeld
   intro hHeld
   clear hm1
   try simp only [Act.put, nzA, nzB, nzC]
   refine hTk 12 ?_ hHeld (fun w hSw => ?_) ?_
   rotate_left
   ·(try dsimp only at hSw); go_simp; (try with_reducible rfl)
   simp only [Act.put, nzA, nzB, nzC]
   refine hHc 13 fun K hK => ?_
   ((have cX := cellOf HX9.out); (have fX := freeOf HX9.out); go_simp; (clear cX fX))
   refine hK.out _ _ ?_ ?_
   ·trivial
   clear hK K hHeld
   intro hHeld
   clear HX9
   try simp only [Act.put, nzA, nzB, nzC]
   refine wpAnyH_done (by kernel_rfl) ?_ _
   have hmF := HM9
   have cDF := cellOf hmF.out.boxD
   have cCF := cellOf hmF.out.boxC
   have fCF := freeOf hmF.out.boxC
   go_wp2_with fail
   refine spoilT_end hmF.out ?_ rfl rfl
   rfl
     
  ((have cX := cellOf hm1.out.boxD); go_simp; (clear cX))
  refine hK.out _ _ ?_ ?_
  ·trivial
  clear hK K hHeld
  intro hHeld
  skip
  try simp only [Act.put, nzA, nzB, nzC]
  refine hHs [6, 7, 8] ?_
  iterate 3
   refine hTn ?_ hHeld (fun w hSw => ?_) ?_
   rotate_left
   ·(try dsimp only at hSw); go_simp; (try with_reducible rfl)
   simp only [Act.put, nzA, nzB, nzC]
  refine hHe ?_
  refine held_next2 (i := 1) (j := 9) (by kernel_rfl) (NextOp.mk rfl rfl (fun K hK => ?_)) (NextOp.mk rfl rfl (fun K hK => ?_))
  ·((have cX := cellOf hm1.out.boxD); go_simp; (clear cX))
   refine hK.out _ _ ?_ ?_
   ·trivial
   clear hK K hHeld
   intro hHeld
   skip
   try simp only [Act.put, nzA, nzB, nzC]
   refine hHc 9 fun K hK => ?_
   ((obtain ⟨x, y, cX, cY⟩ := hm1.out.last hl0); go_simp; (clear cX cY))
   refine hK.out _ _ ?_ ?_
   ·trivial
   clear hK K hHeld
   intro hHeld
   skip
   try simp only [Act.put, nzA, nzB, nzC]
   refine hHc 10 fun K hK => ?_
   go_simp
   refine hK.out _ _ ?_ ?_
   ·trivial
   clear hK K hHeld
   intro hHeld
   skip
   try simp only [Act.put, nzA, nzB, nzC]
   refine hHc 11 fun K hK => ?_
   ((refine wp_app _ (.tmp 19) (.tmp 28) 67 rfl (W.heap.size + 3) 99 i0 _ 2 16 Tryz.underlying67 hi0 hz0 hz1 hz2 rfl (by omega) (.slice (some ⟨g, 0, none⟩) f.copies.length cq) f.copies.length (flatC f.copies) rfl (row_keep hm1.out.own ((Ext.refl No _).alloc _) (fun _ _ x => x)) No (some ⟨v0.heap.size, 0, none⟩) 1 1 [.int .i64 x, .int .i64 y] rfl (Row.block (alloc_top rfl) rfl no_no (by omega)) (by simp [Value.oneCell']) (by omega) (by omega) (by have := lt_of_block hm1.out.boxD; simp; omega) ?_); (intro v1 w9 hown1 hg1 hv1); (obtain ⟨hm9, hX9⟩ := hm1.out.app (x := x) (y := y) hown1 hg1 hv1); (have HM9 := Lib.hid hm9); (have HX9 := Lib.hid hX9); (obtain ⟨a9, n9, c9, hs9⟩ := hm9.sliceC); (subst hs9); (clear hm9 hX9 hown1 hg1 hv1))
   refine hK.out _ _ ?_ ?_
   ·trivial
   clear hK K hHeld
   intro hHeld
   clear hm1
   try simp only [Act.put, nzA, nzB, nzC]
   refine hTk 12 ?_ hHeld (fun w hSw => ?_) ?_
   rotate_left
   ·(try dsimp only at hSw); go_simp; (try with_reducible rfl)
   simp only [Act.put, nzA, nzB, nzC]
   refine hHc 13 fun K hK => ?_
   ((have cX := cellOf HX9.out); (have fX := freeOf HX9.out); go_simp; (clear cX fX))
   refine hK.out _ _ ?_ ?_
   ·trivial
   clear hK K hHeld
   intro hHeld
   clear HX9
   try simp only [Act.put, nzA, nzB, nzC]
   refine wpAnyH_done (by kernel_rfl) ?_ _
   have hmF := HM9
   have cDF := cellOf hmF.out.boxD
   have cCF := cellOf hmF.out.boxC
   have fCF := freeOf hmF.out.boxC
   go_wp2_with fail
   refine spoilT_end hmF.out ?_ rfl rfl
   rfl
      
  ((obtain ⟨x, y, cX, cY⟩ := hm1.out.last hl0); go_simp; (clear cX cY))
  refine hK.out _ _ ?_ ?_
  ·trivial
  clear hK K hHeld
  intro hHeld
  skip
  try simp only [Act.put, nzA, nzB, nzC]
  refine held_next2 (i := 1) (j := 10) (by kernel_rfl) (NextOp.mk rfl rfl (fun K hK => ?_)) (NextOp.mk rfl rfl (fun K hK => ?_))
  ·((have cX := cellOf hm1.out.boxD); go_simp; (clear cX))
   refine hK.out _ _ ?_ ?_
   ·trivial
   clear hK K hHeld
   intro hHeld
   skip
   try simp only [Act.put, nzA, nzB, nzC]
   refine hHc 10 fun K hK => ?_
   go_simp
   refine hK.out _ _ ?_ ?_
   ·trivial
   clear hK K hHeld
   intro hHeld
   skip
   try simp only [Act.put, nzA, nzB, nzC]
   refine hHc 11 fun K hK => ?_
   ((refine wp_app _ (.tmp 19) (.tmp 28) 67 rfl (W.heap.size + 3) 99 i0 _ 2 16 Tryz.underlying67 hi0 hz0 hz1 hz2 rfl (by omega) (.slice (some ⟨g, 0, none⟩) f.copies.length cq) f.copies.length (flatC f.copies) rfl (row_keep hm1.out.own ((Ext.refl No _).alloc _) (fun _ _ x => x)) No (some ⟨v0.heap.size, 0, none⟩) 1 1 [.int .i64 x, .int .i64 y] rfl (Row.block (alloc_top rfl) rfl no_no (by omega)) (by simp [Value.oneCell']) (by omega) (by omega) (by have := lt_of_block hm1.out.boxD; simp; omega) ?_); (intro v1 w9 hown1 hg1 hv1); (obtain ⟨hm9, hX9⟩ := hm1.out.app (x := x) (y := y) hown1 hg1 hv1); (have HM9 := Lib.hid hm9); (have HX9 := Lib.hid hX9); (obtain ⟨a9, n9, c9, hs9⟩ := hm9.sliceC); (subst hs9); (clear hm9 hX9 hown1 hg1 hv1))
   refine hK.out _ _ ?_ ?_
   ·trivial
   clear hK K hHeld
   intro hHeld
   clear hm1
   try simp only [Act.put, nzA, nzB, nzC]
   refine hTk 12 ?_ hHeld (fun w hSw => ?_) ?_
   rotate_left
   ·(try dsimp only at hSw); go_simp; (try with_reducible rfl)
   simp only [Act.put, nzA, nzB, nzC]
   refine hHc 13 fun K hK => ?_
   ((have cX := cellOf HX9.out); (have fX := freeOf HX9.out); go_simp; (clear cX fX))
   refine hK.out _ _ ?_ ?_
   ·trivial
   clear hK K hHeld
   intro hHeld
   clear HX9
   try simp only [Act.put, nzA, nzB, nzC]
   refine wpAnyH_done (by kernel_rfl) ?_ _
   have hmF := HM9
   have cDF := cellOf hmF.out.boxD
   have cCF := cellOf hmF.out.boxC
   have fCF := freeOf hmF.out.boxC
   go_wp2_with fail
   refine spoilT_end hmF.out ?_ rfl rfl
   rfl
       
  go_simp
  refine hK.out _ _ ?_ ?_
  ·trivial
  clear hK K hHeld
  intro hHeld
  skip
  try simp only [Act.put, nzA, nzB, nzC]
  refine hHc 1 fun K hK => ?_
  ((have cX := cellOf hm1.out.boxD); (have cX2 := cellOf (alloc_under (o := (.cells #[.int .i64 x, .int .i64 y] 99)) hm1.out.boxD)); go_simp; (clear cX cX2))
  refine hK.out _ _ ?_ ?_
  ·trivial
  clear hK K hHeld
  intro hHeld
  skip
  try simp only [Act.put, nzA, nzB, nzC]
  refine hHc 11 fun K hK => ?_
  ((refine wp_app _ (.tmp 19) (.tmp 28) 67 rfl (W.heap.size + 3) 99 i0 _ 2 16 Tryz.underlying67 hi0 hz0 hz1 hz2 rfl (by omega) (.slice (some ⟨g, 0, none⟩) f.copies.length cq) f.copies.length (flatC f.copies) rfl (row_keep hm1.out.own ((Ext.refl No _).alloc _) (fun _ _ x => x)) No (some ⟨v0.heap.size, 0, none⟩) 1 1 [.int .i64 x, .int .i64 y] rfl (Row.block (alloc_top rfl) rfl no_no (by omega)) (by simp [Value.oneCell']) (by omega) (by omega) (by have := lt_of_block hm1.out.boxD; simp; omega) ?_); (intro v1 w9 hown1 hg1 hv1); (obtain ⟨hm9, hX9⟩ := hm1.out.app (x := x) (y := y) hown1 hg1 hv1); (have HM9 := Lib.hid hm9); (have HX9 := Lib.hid hX9); (obtain ⟨a9, n9, c9, hs9⟩ := hm9.sliceC); (subst hs9); (clear hm9 hX9 hown1 hg1 hv1))
  refine hK.out _ _ ?_ ?_
  ·trivial
  clear hK K hHeld
  intro hHeld
  clear hm1
  try simp only [Act.put, nzA, nzB, nzC]
  refine hTk 12 ?_ hHeld (fun w hSw => ?_) ?_
  rotate_left
  ·(try dsimp only at hSw); go_simp; (try with_reducible rfl)
  simp only [Act.put, nzA, nzB, nzC]
  refine hHc 13 fun K hK => ?_
  ((have cX := cellOf HX9.out); (have fX := freeOf HX9.out); go_simp; (clear cX fX))
  refine hK.out _ _ ?_ ?_
  ·trivial
  clear hK K hHeld
  intro hHeld
  clear HX9
  try simp only [Act.put, nzA, nzB, nzC]
  refine wpAnyH_done (by kernel_rfl) ?_ _
  have hmF := HM9
  have cDF := cellOf hmF.out.boxD
  have cCF := cellOf hmF.out.boxC
  have fCF := freeOf hmF.out.boxC
  go_wp2_with fail
  refine spoilT_end hmF.out ?_ rfl rfl
  rfl
       
 ((have cX := cellOf hm1.out.boxD); go_simp; (clear cX))
 refine hK.out _ _ ?_ ?_
 ·trivial
 clear hK K hHeld
 intro hHeld
 skip
 try simp only [Act.put, nzA, nzB, nzC]
 refine hHs [6, 7] ?_
 iterate 2
  refine hTn ?_ hHeld (fun w hSw => ?_) ?_
  rotate_left
  ·(try dsimp only at hSw); go_simp; (try with_reducible rfl)
  simp only [Act.put, nzA, nzB, nzC]
 refine hHe ?_
 refine held_next2 (i := 1) (j := 3) (by kernel_rfl) (NextOp.mk rfl rfl (fun K hK => ?_)) (NextOp.mk rfl rfl (fun K hK => ?_))
 ·((have cX := cellOf hm1.out.boxD); go_simp; (clear cX))
  refine hK.out _ _ ?_ ?_
  ·trivial
  clear hK K hHeld
  intro hHeld
  skip
  try simp only [Act.put, nzA, nzB, nzC]
  refine hHc 3 fun K hK => ?_
  ((have cX := cellOf hm1.out.boxD); go_simp; (clear cX))
  refine hK.out _ _ ?_ ?_
  ·trivial
  clear hK K hHeld
  intro hHeld
  skip
  try simp only [Act.put, nzA, nzB, nzC]
  refine hTk 8 ?_ hHeld (fun w hSw => ?_) ?_
  rotate_left
  ·(try dsimp only at hSw); go_simp; (try with_reducible rfl)
  simp only [Act.put, nzA, nzB, nzC]
  refine hHc 9 fun K hK => ?_
  ((obtain ⟨x, y, cX, cY⟩ := hm1.out.last hl0); go_simp; (clear cX cY))
  refine hK.out _ _ ?_ ?_
  ·trivial
  clear hK K hHeld
  intro hHeld
  skip
  try simp only [Act.put, nzA, nzB, nzC]
  refine hHc 10 fun K hK => ?_
  go_simp
  refine hK.out _ _ ?_ ?_
  ·trivial
  clear hK K hHeld
  intro hHeld
  skip
  try simp only [Act.put, nzA, nzB, nzC]
  refine hHc 11 fun K hK => ?_
  ((refine wp_app _ (.tmp 19) (.tmp 28) 67 rfl (W.heap.size + 3) 99 i0 _ 2 16 Tryz.underlying67 hi0 hz0 hz1 hz2 rfl (by omega) (.slice (some ⟨g, 0, none⟩) f.copies.length cq) f.copies.length (flatC f.copies) rfl (row_keep hm1.out.own ((Ext.refl No _).alloc _) (fun _ _ x => x)) No (some ⟨v0.heap.size, 0, none⟩) 1 1 [.int .i64 x, .int .i64 y] rfl (Row.block (alloc_top rfl) rfl no_no (by omega)) (by simp [Value.oneCell']) (by omega) (by omega) (by have := lt_of_block hm1.out.boxD; simp; omega) ?_); (intro v1 w9 hown1 hg1 hv1); (obtain ⟨hm9, hX9⟩ := hm1.out.app (x := x) (y := y) hown1 hg1 hv1); (have HM9 := Lib.hid hm9); (have HX9 := Lib.hid hX9); (obtain ⟨a9, n9, c9, hs9⟩ := hm9.sliceC); (subst hs9); (clear hm9 hX9 hown1 hg1 hv1))
  refine hK.out _ _ ?_ ?_
  ·trivial
  clear hK K hHeld
  intro hHeld
  clear hm1
  try simp only [Act.put, nzA, nzB, nzC]
  refine hTk 12 ?_ hHeld (fun w hSw => ?_) ?_
  rotate_left
  ·(try dsimp only at hSw); go_simp; (try with_reducible rfl)
  simp only [Act.put, nzA, nzB, nzC]
  refine hHc 13 fun K hK => ?_
  ((have cX := cellOf HX9.out); (have fX := freeOf HX9.out); go_simp; (clear cX fX))
  refine hK.out _ _ ?_ ?_
  ·trivial
  clear hK K hHeld
  intro hHeld
  clear HX9
  try simp only [Act.put, nzA, nzB, nzC]
  refine wpAnyH_done (by kernel_rfl) ?_ _
  have hmF := HM9
  have cDF := cellOf hmF.out.boxD
  have cCF := cellOf hmF.out.boxC
  have fCF := freeOf hmF.out.boxC
  go_wp2_with fail
  refine spoilT_end hmF.out ?_ rfl rfl
  rfl
     
 ((have cX := cellOf hm1.out.boxD); go_simp; (clear cX))
 refine hK.out _ _ ?_ ?_
 ·trivial
 clear hK K hHeld
 intro hHeld
 skip
 try simp only [Act.put, nzA, nzB, nzC]
 refine hTk 8 ?_ hHeld (fun w hSw => ?_) ?_
 rotate_left
 ·(try dsimp only at hSw); go_simp; (try with_reducible rfl)
 simp only [Act.put, nzA, nzB, nzC]
 refine held_next2 (i := 1) (j := 9) (by kernel_rfl) (NextOp.mk rfl rfl (fun K hK => ?_)) (NextOp.mk rfl rfl (fun K hK => ?_))
 ·((have cX := cellOf hm1.out.boxD); go_simp; (clear cX))
  refine hK.out _ _ ?_ ?_
  ·trivial
  clear hK K hHeld
  intro hHeld
  skip
  try simp only [Act.put, nzA, nzB, nzC]
  refine hHc 9 fun K hK => ?_
  ((obtain ⟨x, y, cX, cY⟩ := hm1.out.last hl0); go_simp; (clear cX cY))
  refine hK.out _ _ ?_ ?_
  ·trivial
  clear hK K hHeld
  intro hHeld
  skip
  try simp only [Act.put, nzA, nzB, nzC]
  refine hHc 10 fun K hK => ?_
  go_simp
  refine hK.out _ _ ?_ ?_
  ·trivial
  clear hK K hHeld
  intro hHeld
  skip
  try simp only [Act.put, nzA, nzB, nzC]
  refine hHc 11 fun K hK => ?_
  ((refine wp_app _ (.tmp 19) (.tmp 28) 67 rfl (W.heap.size + 3) 99 i0 _ 2 16 Tryz.underlying67 hi0 hz0 hz1 hz2 rfl (by omega) (.slice (some ⟨g, 0, none⟩) f.copies.length cq) f.copies.length (flatC f.copies) rfl (row_keep hm1.out.own ((Ext.refl No _).alloc _) (fun _ _ x => x)) No (some ⟨v0.heap.size, 0, none⟩) 1 1 [.int .i64 x, .int .i64 y] rfl (Row.block (alloc_top rfl) rfl no_no (by omega)) (by simp [Value.oneCell']) (by omega) (by omega) (by have := lt_of_block hm1.out.boxD; simp; omega) ?_); (intro v1 w9 hown1 hg1 hv1); (obtain ⟨hm9, hX9⟩ := hm1.out.app (x := x) (y := y) hown1 hg1 hv1); (have HM9 := Lib.hid hm9); (have HX9 := Lib.hid hX9); (obtain ⟨a9, n9, c9, hs9⟩ := hm9.sliceC); (subst hs9); (clear hm9 hX9 hown1 hg1 hv1))
  refine hK.out _ _ ?_ ?_
  ·trivial
  clear hK K hHeld
  intro hHeld
  clear hm1
  try simp only [Act.put, nzA, nzB, nzC]
  refine hTk 12 ?_ hHeld (fun w hSw => ?_) ?_
  rotate_left
  ·(try dsimp only at hSw); go_simp; (try with_reducible rfl)
  simp only [Act.put, nzA, nzB, nzC]
  refine hHc 13 fun K hK => ?_
  ((have cX := cellOf HX9.out); (have fX := freeOf HX9.out); go_simp; (clear cX fX))
  refine hK.out _ _ ?_ ?_
  ·trivial
  clear hK K hHeld
  intro hHeld
  clear HX9
  try simp only [Act.put, nzA, nzB, nzC]
  refine wpAnyH_done (by kernel_rfl) ?_ _
  have hmF := HM9
  have cDF := cellOf hmF.out.boxD
  have cCF := cellOf hmF.out.boxC
  have fCF := freeOf hmF.out.boxC
  go_wp2_with fail
  refine spoilT_end hmF.out ?_ rfl rfl
  rfl
      
 ((obtain ⟨x, y, cX, cY⟩ := hm1.out.last hl0); go_simp; (clear cX cY))
 refine hK.out _ _ ?_ ?_
 ·trivial
 clear hK K hHeld
 intro hHeld
 skip
 try simp only [Act.put, nzA, nzB, nzC]
 refine held_next2 (i := 1) (j := 10) (by kernel_rfl) (NextOp.mk rfl rfl (fun K hK => ?_)) (NextOp.mk rfl rfl (fun K hK => ?_))
 ·((have cX := cellOf hm1.out.boxD); go_simp; (clear cX))
  refine hK.out _ _ ?_ ?_
  ·trivial
  clear hK K hHeld
  intro hHeld
  skip
  try simp only [Act.put, nzA, nzB, nzC]
  refine hHc 10 fun K hK => ?_
  go_simp
  refine hK.out _ _ ?_ ?_
  ·trivial
  clear hK K hHeld
  intro hHeld
  skip
  try simp only [Act.put, nzA, nzB, nzC]
  refine hHc 11 fun K hK => ?_
  ((refine wp_app _ (.tmp 19) (.tmp 28) 67 rfl (W.heap.size + 3) 99 i0 _ 2 16 Tryz.underlying67 hi0 hz0 hz1 hz2 rfl (by omega) (.slice (some ⟨g, 0, none⟩) f.copies.length cq) f.copies.length (flatC f.copies) rfl (row_keep hm1.out.own ((Ext.refl No _).alloc _) (fun _ _ x => x)) No (some ⟨v0.heap.size, 0, none⟩) 1 1 [.int .i64 x, .int .i64 y] rfl (Row.block (alloc_top rfl) rfl no_no (by omega)) (by simp [Value.oneCell']) (by omega) (by omega) (by have := lt_of_block hm1.out.boxD; simp; omega) ?_); (intro v1 w9 hown1 hg1 hv1); (obtain ⟨hm9, hX9⟩ := hm1.out.app (x := x) (y := y) hown1 hg1 hv1); (have HM9 := Lib.hid hm9); (have HX9 := Lib.hid hX9); (obtain ⟨a9, n9, c9, hs9⟩ := hm9.sliceC); (subst hs9); (clear hm9 hX9 hown1 hg1 hv1))
  refine hK.out _ _ ?_ ?_
  ·trivial
  clear hK K hHeld
  intro hHeld
  clear hm1
  try simp only [Act.put, nzA, nzB, nzC]
  refine hTk 12 ?_ hHeld (fun w hSw => ?_) ?_
  rotate_left
  ·(try dsimp only at hSw); go_simp; (try with_reducible rfl)
  simp only [Act.put, nzA, nzB, nzC]
  refine hHc 13 fun K hK => ?_
  ((have cX := cellOf HX9.out); (have fX := freeOf HX9.out); go_simp; (clear cX fX))
  refine hK.out _ _ ?_ ?_
  ·trivial
  clear hK K hHeld
  intro hHeld
  clear HX9
  try simp only [Act.put, nzA, nzB, nzC]
  refine wpAnyH_done (by kernel_rfl) ?_ _
  have hmF := HM9
  have cDF := cellOf hmF.out.boxD
  have cCF := cellOf hmF.out.boxC
  have fCF := freeOf hmF.out.boxC
  go_wp2_with fail
  refine spoilT_end hmF.out ?_ rfl rfl
  rfl
       
 go_simp
 refine hK.out _ _ ?_ ?_
 ·trivial
 clear hK K hHeld
 intro hHeld
 skip
 try simp only [Act.put, nzA, nzB, nzC]
 refine hHc 1 fun K hK => ?_
 ((have cX := cellOf hm1.out.boxD); (have cX2 := cellOf (alloc_under (o := (.cells #[.int .i64 x, .int .i64 y] 99)) hm1.out.boxD)); go_simp; (clear cX cX2))
 refine hK.out _ _ ?_ ?_
 ·trivial
 clear hK K hHeld
 intro hHeld
 skip
 try simp only [Act.put, nzA, nzB, nzC]
 refine hHc 11 fun K hK => ?_
 ((refine wp_app _ (.tmp 19) (.tmp 28) 67 rfl (W.heap.size + 3) 99 i0 _ 2 16 Tryz.underlying67 hi0 hz0 hz1 hz2 rfl (by omega) (.slice (some ⟨g, 0, none⟩) f.copies.length cq) f.copies.length (flatC f.copies) rfl (row_keep hm1.out.own ((Ext.refl No _).alloc _) (fun _ _ x => x)) No (some ⟨v0.heap.size, 0, none⟩) 1 1 [.int .i64 x, .int .i64 y] rfl (Row.block (alloc_top rfl) rfl no_no (by omega)) (by simp [Value.oneCell']) (by omega) (by omega) (by have := lt_of_block hm1.out.boxD; simp; omega) ?_); (intro v1 w9 hown1 hg1 hv1); (obtain ⟨hm9, hX9⟩ := hm1.out.app (x := x) (y := y) hown1 hg1 hv1); (have HM9 := Lib.hid hm9); (have HX9 := Lib.hid hX9); (obtain ⟨a9, n9, c9, hs9⟩ := hm9.sliceC); (subst hs9); (clear hm9 hX9 hown1 hg1 hv1))
 refine hK.out _ _ ?_ ?_
 ·trivial
 clear hK K hHeld
 intro hHeld
 clear hm1
 try simp only [Act.put, nzA, nzB, nzC]
 refine hTk 12 ?_ hHeld (fun w hSw => ?_) ?_
 rotate_left
 ·(try dsimp only at hSw); go_simp; (try with_reducible rfl)
 simp only [Act.put, nzA, nzB, nzC]
 refine hHc 13 fun K hK => ?_
 ((have cX := cellOf HX9.out); (have fX := freeOf HX9.out); go_simp; (clear cX fX))
 refine hK.out _ _ ?_ ?_
 ·trivial
 clear hK K hHeld
 intro hHeld
 clear HX9
 try simp only [Act.put, nzA, nzB, nzC]
 refine wpAnyH_done (by kernel_rfl) ?_ _
 have hmF := HM9
 have cDF := cellOf hmF.out.boxD
 have cCF := cellOf hmF.out.boxC
 have fCF := freeOf hmF.out.boxC
 go_wp2_with fail
 refine spoilT_end hmF.out ?_ rfl rfl
 rfl

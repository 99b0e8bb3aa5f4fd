/- A table of the program beside one of the reference. -/
import Derived.Test.YtfejidihocoboaaN36
import Derived.Test.YtfejidihocoboaaN37
set_option linter.unusedVariables false
set_option linter.unusedSimpArgs false
namespace Go.Proofs.Ytfejidihocoboaa
open Go Go.RowKit
structure Two (M : Nat → Prop) (w : World) (T D : Nat) (cap clkP clkR : Int) (bm : Nat) (vk v : Value) (L : List PE) (LL : List EV) : Prop where
  p : PTab (fun b => M b ∨ ROwnT D v b) w T cap clkP bm vk L
  r : RTab (fun b => M b ∨ POwn T bm vk L b) w D cap clkR v LL
section
variable {M : Nat → Prop} {w w' : World} {T D bm bm' : Nat} {cap clk clk' clkP clkR : Int} {vk vk' v v' : Value} {L L' : List PE} {LL LL' : List EV}
theorem Two.ext {M' : Nat → Prop} (h : Two M w T D cap clkP clkR bm vk v L LL) (hx : Ext M' w w') (hm : ∀ i, i < w.heap.size → M' i → M i) : Two M w' T D cap clkP clkR bm vk v L LL :=
  ⟨h.p.ext hx (fun i hi e => .inl (hm i hi e)), h.r.ext hx (fun i hi e => .inl (hm i hi e))⟩
theorem Two.stepNo (h : Two M w T D cap clkP clkR bm vk v L LL) (hx : Ext No w w') : Two M w' T D cap clkP clkR bm vk v L LL := h.ext hx (fun _ _ e => e.elim)
theorem Two.mono {M' : Nat → Prop} (h : Two M w T D cap clkP clkR bm vk v L LL) (hm : ∀ i, i < w.heap.size → M' i → M i) : Two M' w T D cap clkP clkR bm vk v L LL :=
  ⟨h.p.mono (fun i hi e => e.imp (hm i hi) id), h.r.mono (fun i hi e => e.imp (hm i hi) id)⟩
theorem Two.stepP (h : Two M w T D cap clkP clkR bm vk v L LL) (hP : PTab (fun b => M b ∨ ROwnT D v b) w' T cap clk' bm' vk' L') (hX : Ext (POwn T bm vk L) w w') (hO : ∀ b, POwn T bm' vk' L' b → POwn T bm vk L b ∨ w.heap.size ≤ b) : Two M w' T D cap clk' clkR bm' vk' v L' LL := by
  refine ⟨hP, ?_⟩
  have h1 : RTab (fun b => (M b ∨ POwn T bm vk L b) ∨ w.heap.size ≤ b) w D cap clkR v LL := h.r.mono (fun i hi e => e.elim id (fun e => by omega))
  refine (h1.ext hX (fun i _ e => .inl (.inr e))).mono (fun i _ e => ?_)
  rcases e with e | e
  · exact .inl (.inl e)
  · exact (hO i e).elim (fun e => .inl (.inr e)) .inr
theorem Two.stepR (h : Two M w T D cap clkP clkR bm vk v L LL) (hR : RTab (fun b => M b ∨ POwn T bm vk L b) w' D cap clk' v' LL') (hX : Ext (ROwnT D v) w w') (hO : ∀ b, ROwnT D v' b → ROwnT D v b ∨ w.heap.size ≤ b) : Two M w' T D cap clkP clk' bm vk v' L LL' := by
  refine ⟨?_, hR⟩
  have h1 : PTab (fun b => (M b ∨ ROwnT D v b) ∨ w.heap.size ≤ b) w T cap clkP bm vk L := h.p.mono (fun i hi e => e.elim id (fun e => by omega))
  refine (h1.ext hX (fun i _ e => .inl (.inr e))).mono (fun i _ e => ?_)
  rcases e with e | e
  · exact .inl (.inl e)
  · exact (hO i e).elim (fun e => .inl (.inr e)) .inr
def TOwn (T D bm : Nat) (vk v : Value) (L : List PE) : Nat → Prop := fun b => POwn T bm vk L b ∨ ROwnT D v b
theorem Two.ownLt (h : Two M w T D cap clkP clkR bm vk v L LL) {b : Nat} (hb : TOwn T D bm vk v L b) : b < w.heap.size := hb.elim (fun e => h.p.ownLt e) (fun e => h.r.ownLt e)
theorem Two.out (h : Two M w T D cap clkP clkR bm vk v L LL) {b : Nat} (hb : TOwn T D bm vk v L b) : ¬ M b := hb.elim (fun e e2 => h.p.t.out b e (.inl e2)) (fun e e2 => h.r.out b e (.inl e2))
theorem Two.maskP (h : Two M w T D cap clkP clkR bm vk v L LL) (hM : ∀ b, M b → b < w.heap.size) : ∀ b, (M b ∨ ROwnT D v b) → b < w.heap.size := fun b e => e.elim (hM b) (fun e => h.r.ownLt e)
theorem Two.maskR (h : Two M w T D cap clkP clkR bm vk v L LL) (hM : ∀ b, M b → b < w.heap.size) : ∀ b, (M b ∨ POwn T bm vk L b) → b < w.heap.size := fun b e => e.elim (hM b) (fun e => h.p.ownLt e)
end
/-! the contracts in terms of what the table holds -/
section
variable {M : Nat → Prop} {W : World} {T D bm : Nat} {cap clk : Int} {vk v : Value} {L : List PE} {LL : List EV} {es : List Ent}
theorem mtouchE (x : Key3) (hx : KeyOk x) (h : PTab M W T cap clk bm vk L) (he : L.map Prod.fst = es) :
    Calls Try.prog 27 #[ptrV T, .int .i64 x.1, .int .i64 x.2.1, .int .i64 x.2.2] W (TabPost M T cap (POwn T bm vk L) (.bool (decide (x ∈ keysE es))) (touchC x clk es) (touchE x clk es) W) := by subst he; exact mtouch_any x hx h
theorem rtouchE (x : Key3) (h : RTab M W D cap clk v LL) (he : LL.map Prod.fst = es) (hn : (keysE es).Nodup) :
    Calls Try.prog 28 #[ptrV D, .int .i64 x.1, .int .i64 x.2.1, .int .i64 x.2.2] W (RPost M D cap (ROwnT D v) (.returned (.bool (decide (x ∈ keysE es)))) (touchC x clk es) (touchE x clk es) W) := by subst he; exact rtouch_any x h hn
def dropE (p : Int) (es : List Ent) : List Ent := es.filter (fun e => !decide (e.key.1 = p))
theorem mdropE (p : Int) (h : PTab M W T cap clk bm vk L) (he : L.map Prod.fst = es) (hn : es.length ≤ 1000) :
    Calls Try.prog 13 #[ptrV T, .int .i64 p] W (TabPost M T cap (POwn T bm vk L) (.int .i64 ((es.length : Int) - ((dropE p es).length : Int))) clk (dropE p es) W) := by
  subst he
  have h1 := mdrop_any p h (by simpa using hn)
  have e1 : (L.filter (fun e => !decide (e.1.key.1 = p))).length = (dropE p (L.map Prod.fst)).length := by
    unfold dropE
    rw [List.filter_map, List.length_map]
    rfl
  rw [e1] at h1
  rw [List.length_map]
  exact h1
theorem rdropE (p : Int) (h : RTab M W D cap clk v LL) (he : LL.map Prod.fst = es) (hn : es.length ≤ 1000) (hM : ∀ b, M b → b < W.heap.size) :
    Calls Try.prog 29 #[ptrV D, .int .i64 p] W (RPost M D cap (ROwnT D v) (.returned (.int .i64 ((es.length : Int) - ((dropE p es).length : Int)))) clk (dropE p es) W) := by
  subst he
  have h1 := rdrop_any p h (by simpa using hn) hM
  have e1 : (LL.filter (fun e => !decide (e.1.key.1 = p))).length = (dropE p (LL.map Prod.fst)).length := by
    unfold dropE
    rw [List.filter_map, List.length_map]
    rfl
  rw [e1] at h1
  rw [List.length_map]
  exact h1
theorem mevictE (z : Int) (h : PTab M W T cap clk bm vk L) (he : L.map Prod.fst = es) (hS : (keysE es).Pairwise ltK) (hn : es.length ≤ 19) :
    Calls Try.prog 14 #[ptrV T, .int .i64 z] W (TabPost M T cap (POwn T bm vk L) (.int .i64 ((es.length : Int) - ((evE z.toNat es).length : Int))) clk (evE z.toNat es) W) := by
  subst he
  have h1 := mevict_any z h (by rw [← keysOf_fst]; exact hS) (by simpa using hn)
  rw [List.length_map]
  exact h1
theorem revictE (z : Int) (h : RTab M W D cap clk v LL) (he : LL.map Prod.fst = es) (hS : (keysE es).Pairwise ltK) (hn : es.length ≤ 1000) (hM : ∀ b, M b → b < W.heap.size) :
    Calls Try.prog 30 #[ptrV D, .int .i64 z] W (RPost M D cap (ROwnT D v) (.returned (.int .i64 ((es.length : Int) - ((evE z.toNat es).length : Int)))) clk (evE z.toNat es) W) := by
  subst he
  have h1 := revict_any z h hS (by simpa using hn) hM
  rw [List.length_map]
  exact h1
theorem mputE {sl : Value} (x : Key3) (s : RawSet) (hx : KeyOk x) (hs : WordsAt (POwn T bm vk L) W sl s.words) (hM : ∀ b, M b → b < W.heap.size) (h : PTab M W T cap clk bm vk L) (he : L.map Prod.fst = es) (hS : (keysE es).Pairwise ltK) (hn : es.length ≤ 19) :
    Calls Try.prog 16 #[ptrV T, .int .i64 x.1, .int .i64 x.2.1, .int .i64 x.2.2, .agg #[.int .i64 s.width, sl]] W (TabPost M T cap (POwn T bm vk L) (.int .i64 (putM cap clk es x s).err) (putM cap clk es x s).clk (putM cap clk es x s).es W) := by
  subst he
  exact mput_any x s hx hs hM h (by rw [← keysOf_fst]; exact hS) (by simpa using hn)
theorem rputE {sl : Value} (x : Key3) (s : RawSet) (hs : WordsAt (fun b => M b ∨ ROwnT D v b) W sl s.words) (hM : ∀ b, M b → b < W.heap.size) (h : RTab M W D cap clk v LL) (he : LL.map Prod.fst = es) (hS : (keysE es).Pairwise ltK) (hn : es.length ≤ 1000) :
    Calls Try.prog 31 #[ptrV D, .int .i64 x.1, .int .i64 x.2.1, .int .i64 x.2.2, .agg #[.int .i64 s.width, sl]] W (RPost M D cap (ROwnT D v) (.returned (.int .i64 (putM cap clk es x s).err)) (putM cap clk es x s).clk (putM cap clk es x s).es W) := by
  subst he
  exact rtput_any x s hs hM h hS (by simpa using hn)
end
end Go.Proofs.Ytfejidihocoboaa

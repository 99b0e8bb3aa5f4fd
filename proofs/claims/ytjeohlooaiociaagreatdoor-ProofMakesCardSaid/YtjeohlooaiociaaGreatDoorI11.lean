
import Derived.Test.YtjeohlooaiociaaGreatDoorI9
import Derived.Test.YtjeohlooaiociaaGreatDoorP20
import Derived.Test.YtjeohlooaiociaaGreatDoorSp3
set_option linter.unusedVariables false
set_option linter.unusedSimpArgs false
namespace Go.Proofs.YtjeohlooaiociaaGreatDoor
open Go Go.RowKit
theorem infoI11 : (Tryz.prog.info? 3).map (fun i => (i.zero, i.size, i.bytes)) = some (some (.int .i64 0), 1, 8) := by kernel_rfl
theorem infoD11 : (Tryz.prog.info? 22).map (fun i => (i.zero, i.size, i.bytes)) = some (some (.slice none 0 0), 1, 24) := by kernel_rfl
theorem infoT11 : (Tryz.prog.info? 69).map (fun i => (i.zero, i.size, i.bytes)) = some (some (.agg #[.int .i64 0, .slice none 0 0, .int .i64 0, .slice none 0 0, .slice none 0 0]), 5, 88) := by kernel_rfl
section
variable {P : Program} {md : Region.Mode} {ops : Array Oper} {Q : Exit → Act → World → Prop} {S : World → Prop}
theorem listed_eq {fuel : Nat} {listed : Array Bool} (L : Array Bool) {a : Act} {w : World} (he : listed = L) (h : wpAnyH P md ops Q S fuel L a w) : wpAnyH P md ops Q S fuel listed a w := he ▸ h
end
theorem lt_of_getD {L : Array Bool} {i : Nat} (h : L.getD i true = false) : i < L.size := by
 rcases Nat.lt_or_ge i L.size with h1 | h1
 ·exact h1
 rw [Array.getD_eq_getD_getElem?, Array.getElem?_eq_none h1] at h; cases h
section
variable {P : Program} (w : World)
theorem wp_app_ful2 {o : Oper} {a : Act} {K : Act → World → Prop} {Q : Exit → Act → World → Prop} (s x : Operand) (t : TypeId)
  (ho : o.op = .call { callee := .builtin .append, args := #[s, x], argTypes := #[t, t] })
  (e : TypeId) (i : TypeInfo) (z : Value) (size bytes : Nat) (ht : P.underlying t = some (.slice e)) (hi : P.info? e = some i) (hz : i.zero = some z)
  (hsize : i.size = size) (hby : i.bytes = bytes) (hzs : z.cells.size = size) (hsz : 0 < size)
  (M0 : Nat → Prop) (b0 : Addr) (n : Nat) (olds : List Value) (hs : a.eval s = .slice (some b0) n n) (hro : Row M0 w size (.slice (some b0) n n) n olds)
  (M : Nat → Prop) (A : Option Addr) (m c : Nat) (news : List Value) (hx : a.eval x = .slice A m c) (hr : Row M w size (.slice A m c) m news)
  (hm : 0 < m) (h63 : n + m ≤ 9223372036854775807) (hbytes : (n + m) * bytes ≤ 140737488355328)
  (h : ∀ v' w', w'.ownsRow w.heap.size e size v' (n + m) (olds ++ news) → w.grownBy w' none → K (a.put o.dst v') w') : o.wp P a w K Q := by
 obtain ⟨hl, hc⟩ := hr.src
 obtain ⟨hlo, hco⟩ := hro.src
 rcases hc with ⟨h0, _⟩ | ⟨ad, rfl, hcells⟩
 ·omega
 have holds : ∀ j u, olds[j]? = some u → w.cell? (b0.add j) = some u := by
  intro j u hj
  rcases hco with ⟨_, h0⟩ | ⟨ad', h0, h2⟩
  ·rw [h0] at hj; simp at hj
  cases h0; exact h2 j u hj
 obtain ⟨v', w', hrun, r1, r2⟩ := run_append_arg_grows (P := P) w t o.type e i z size bytes ht hi hz hsize hby hzs hsz b0 n n olds hlo holds ad m c news hl hcells (by omega) (by simp only [maxLen]; omega) hbytes
 unfold Oper.wp execOp
 simp only [ho, resolve, invoke, builtin, Sem.run_bind, Sem.run_pure, Result.andThen_ok, List.map_toArray, List.map_cons, List.map_nil, hs, hx, hrun]
 exact h v' w' r1 r2
end
def HiB (W : World) (tb : Nat) : Nat → Prop := fun b => b = tb ∨ W.heap.size ≤ b
structure SyM (tb : Nat) (W wr : World) (Q : Nat) (cQ : Array Value) (vd vt vb : Value) (Ld : LD) (Lt : LT) (Lb : LS) : Prop where
 ext : Ext (At tb) W wr
 tape : TapeOk wr tb
 boxC : wr.heap[W.heap.size + 1]? = some (.cells #[.int .i64 0, .slice none 0 0, .slice none 0 0, .slice none 0 0] 27 (0, 0))
 boxQ : wr.heap[Q]? = some (.cells cQ 27 (0, 0))
 d : LOwn kD (HiB W tb) wr (W.heap.size + 2) vd Ld
 t : LOwn kT (HiB W tb) wr (W.heap.size + 2) vt Lt
 b : LOwn kS (HiB W tb) wr (W.heap.size + 2) vb Lb
 dn : ∀ k, vd.ownBlock = some k → vt.ownBlock ≠ some k ∧ vb.ownBlock ≠ some k ∧ k ≠ Q
 tn : ∀ k, vt.ownBlock = some k → vb.ownBlock ≠ some k ∧ k ≠ Q
 bn : ∀ k, vb.ownBlock = some k → k ≠ Q
 low : W.heap.size + 1 < Q
 tb1 : tb < W.heap.size
section
variable {tb : Nat} {W wr w' : World} {Q : Nat} {cQ : Array Value} {vd vt vb v' : Value} {Ld : LD} {Lt : LT} {Lb : LS}
theorem SyM.step (h : SyM tb W wr Q cQ vd vt vb Ld Lt Lb) (hx : Ext (At tb) wr w') (ht : TapeOk w' tb) : SyM tb W w' Q cQ vd vt vb Ld Lt Lb := by
 have h1 := h.low
 have h2 := h.tb1
 exact ⟨h.ext.trans hx, ht, hx.blk h.boxC (by unfold At; omega), hx.blk h.boxQ (by unfold At; omega), h.d.ext hx (fun i hi e => by unfold At at e; omega) (fun i e => .inl e), h.t.ext hx (fun i hi e => by unfold At at e; omega) (fun i e => .inl e), h.b.ext hx (fun i hi e => by unfold At at e; omega) (fun i e => .inl e), h.dn, h.tn, h.bn, h1, h2⟩
theorem SyM.stepNo (h : SyM tb W wr Q cQ vd vt vb Ld Lt Lb) (hx : Ext No wr w') : SyM tb W w' Q cQ vd vt vb Ld Lt Lb := h.step hx.ofNo (h.tape.ext hx)
structure SyE (tb : Nat) (W wr : World) (Q : Nat) (x : Int) (vd vt vb : Value) (Ld : LD) (Lt : LT) (Lb : LS) : Prop where
 ext : Ext (At tb) W wr
 tape : TapeOk wr tb
 boxC : wr.heap[W.heap.size + 1]? = some (.cells #[.int .i64 0, .slice none 0 0, .slice none 0 0, .slice none 0 0] 27 (0, 0))
 boxQ : wr.heap[Q]? = some (.cells #[.int .i64 x, vd, vt, vb] 27 (0, 0))
 y : YAt (At (W.heap.size + 1)) wr vd vt vb Ld Lt Lb
 tb1 : tb < W.heap.size
theorem SyM.yq (h : SyM tb W wr Q cQ vd vt vb Ld Lt Lb) : YAt (fun b => b = W.heap.size + 1 ∨ b = Q) wr vd vt vb Ld Lt Lb := by
 have hl := h.low
 have hA : ∀ b, (b = W.heap.size + 1 ∨ b = Q) → HiB W tb b := fun b e => .inr (by omega)
 exact ⟨h.d.list2 (fun b hb e => by have := (h.d.lt _ hb).1; have := (h.dn _ hb).2.2; omega) hA, h.t.list2 (fun b hb e => by have := (h.t.lt _ hb).1; have := (h.tn _ hb).2; omega) hA, h.b.list2 (fun b hb e => by have := (h.b.lt _ hb).1; have := h.bn _ hb; omega) hA⟩
theorem SyM.putQ (h : SyM tb W wr Q cQ vd vt vb Ld Lt Lb) {x' : Int} {vd' vt' vb' : Value} {Ld' : LD} {Lt' : LT} {Lb' : LS} (j : Nat) (u : Value) (hc : cQ.setIfInBounds j u = #[.int .i64 x', vd', vt', vb']) (hy : YAt (fun b => b = W.heap.size + 1 ∨ b = Q) wr vd' vt' vb' Ld' Lt' Lb') :
  SyE tb W (wr.setCell ⟨Q, j, none⟩ u) Q x' vd' vt' vb' Ld' Lt' Lb' := by
 have hE : Ext (At Q) wr (wr.setCell ⟨Q, j, none⟩ u) := (Ext.refl (At Q) _).setAt _ _
 have hl := h.low
 have h1 := h.tb1
 exact ⟨h.ext.trans2 hE (fun i hi e => by unfold At at e; omega), h.tape.extAbove hE (fun i hi e => by unfold At at e; omega), hE.blk h.boxC (by unfold At; omega), hc ▸ set_same h.boxQ, (hy.ext hE (fun i _ e => .inr e)).mono (fun i _ e => .inl e), h1⟩
theorem SyM.appT (h : SyM tb W wr Q cQ vd vt vb Ld Lt Lb) {p : RawT × Value × Value × Value} (hp : p ∈ Lt) (hown : w'.ownsRow (W.heap.size + 2) kT.T kT.s v' (Lt.length + 1) (Lt.flatMap kT.cells ++ kT.cells p)) (hg : wr.grownBy w' vt.ownBlock) (hv : v'.ownBlock = vt.ownBlock ∨ v'.ownBlock = some wr.heap.size) :
  SyM tb W w' Q cQ vd v' vb Ld (Lt ++ [p]) Lb := by
 have hE : Ext (fun k => vt.ownBlock = some k) wr w' := (Ext.refl _ wr).grown hg (fun k hk _ => hk)
 have hlo : ∀ i, vt.ownBlock = some i → W.heap.size + 2 ≤ i := fun i hi => (h.t.lt i hi).1
 have hl := h.low
 have h1 := h.tb1
 have hqs := lt_of_block h.boxQ
 refine ⟨h.ext.trans2 hE (fun i hi e => by have := hlo i e; omega), h.tape.extAbove hE (fun i hi e => by have := hlo i e; omega), hE.blk h.boxC (fun e => by have := hlo _ e; omega), hE.blk h.boxQ (fun e => (h.tn _ e).2 rfl), h.d.ext2 hE (fun i hi e => (h.dn i hi).1 e) (fun i _ e => .inr (by have := hlo i e; omega)), h.t.app (h.t.ok p hp) hown hE (fun _ e => e) (hv.imp id (fun hv k hk => by rw [hv] at hk; simp only [Option.some.injEq] at hk; omega)), h.b.ext2 hE (fun i hi e => (h.tn i e).1 hi) (fun i _ e => .inr (by have := hlo i e; omega)), fun k hk => ⟨fun e => ?_, (h.dn k hk).2.1, (h.dn k hk).2.2⟩, fun k hk => ?_, h.bn, hl, h1⟩
 ·rcases hv with hv | hv
  ·rw [hv] at e; exact (h.dn k hk).1 e
  rw [hv] at e; simp only [Option.some.injEq] at e; have := (h.d.lt k hk).2; omega
 rcases hv with hv | hv
 ·rw [hv] at hk; exact h.tn k hk
 rw [hv] at hk; simp only [Option.some.injEq] at hk; exact ⟨fun e => by have := (h.b.lt k e).2; omega, by omega⟩
theorem SyM.putD {x : Int} {g cap i : Nat} {p : List Int × Value} (h : SyM tb W wr Q #[.int .i64 x, .slice (some ⟨g, 0, none⟩) Ld.length cap, vt, vb] (.slice (some ⟨g, 0, none⟩) Ld.length cap) vt vb Ld Lt Lb) (hi : i < Ld.length) (hp : kD.ok (fun b => b = W.heap.size + 1 ∨ b = g) wr p) :
  SyE tb W (storeAll wr g (i * kD.s) (kD.cells p)) Q x (.slice (some ⟨g, 0, none⟩) Ld.length cap) vt vb (Ld.set i p) Lt Lb := by
 have hE := storeAll_ext (kD.cells p) wr g (i * kD.s)
 have hl := h.low
 have h1 := h.tb1
 have hg := (h.d.lt g rfl).1
 have hq : g ≠ Q := (h.dn g rfl).2.2
 have hA : ∀ b, b = W.heap.size + 1 → HiB W tb b := fun b e => .inr (by omega)
 have hO : LOwn kD (fun b => b = W.heap.size + 1) wr (W.heap.size + 2) (.slice (some ⟨g, 0, none⟩) Ld.length cap) Ld := h.d.mono (fun i _ e => hA i e)
 have hP := hO.putAll hi hp
 have hB : ∀ b, (b = W.heap.size + 1 ∨ b = g) → HiB W tb b := fun b e => .inr (by omega)
 refine ⟨h.ext.trans2 hE (fun i hi e => by unfold At at e; omega), h.tape.extAbove hE (fun i hi e => by unfold At at e; omega), hE.blk h.boxC (by unfold At; omega), hE.blk h.boxQ (fun e => hq e.symm), ⟨hP.list2 (fun b hb e => by have := (hP.lt b hb).1; unfold At at e; omega) (fun _ e => e), ((h.t.list2 (fun b hb e => by have h2 := (h.t.lt b hb).1; have h3 : b ≠ g := fun e => (h.dn g rfl).1 (e ▸ hb); omega) hB).ext hE (fun i _ e => .inr e)).mono (fun i _ e => .inl e), ((h.b.list2 (fun b hb e => by have h2 := (h.b.lt b hb).1; have h3 : b ≠ g := fun e => (h.dn g rfl).2.1 (e ▸ hb); omega) hB).ext hE (fun i _ e => .inr e)).mono (fun i _ e => .inl e)⟩, h1⟩
theorem SyM.putT {x : Int} {g cap i : Nat} {p : RawT × Value × Value × Value} (h : SyM tb W wr Q #[.int .i64 x, vd, .slice (some ⟨g, 0, none⟩) Lt.length cap, vb] vd (.slice (some ⟨g, 0, none⟩) Lt.length cap) vb Ld Lt Lb) (hi : i < Lt.length) (hp : kT.ok (fun b => b = W.heap.size + 1 ∨ b = g) wr p) :
  SyE tb W (storeAll wr g (i * kT.s) (kT.cells p)) Q x vd (.slice (some ⟨g, 0, none⟩) Lt.length cap) vb Ld (Lt.set i p) Lb := by
 have hE := storeAll_ext (kT.cells p) wr g (i * kT.s)
 have hl := h.low
 have h1 := h.tb1
 have hg := (h.t.lt g rfl).1
 have hq : g ≠ Q := (h.tn g rfl).2
 have hA : ∀ b, b = W.heap.size + 1 → HiB W tb b := fun b e => .inr (by omega)
 have hO : LOwn kT (fun b => b = W.heap.size + 1) wr (W.heap.size + 2) (.slice (some ⟨g, 0, none⟩) Lt.length cap) Lt := h.t.mono (fun i _ e => hA i e)
 have hP := hO.putAll hi hp
 have hB : ∀ b, (b = W.heap.size + 1 ∨ b = g) → HiB W tb b := fun b e => .inr (by omega)
 refine ⟨h.ext.trans2 hE (fun i hi e => by unfold At at e; omega), h.tape.extAbove hE (fun i hi e => by unfold At at e; omega), hE.blk h.boxC (by unfold At; omega), hE.blk h.boxQ (fun e => hq e.symm), ⟨((h.d.list2 (fun b hb e => by have h2 := (h.d.lt b hb).1; have h3 : b ≠ g := fun e => (h.dn b hb).1 (e ▸ rfl); omega) hB).ext hE (fun i _ e => .inr e)).mono (fun i _ e => .inl e), hP.list2 (fun b hb e => by have := (hP.lt b hb).1; unfold At at e; omega) (fun _ e => e), ((h.b.list2 (fun b hb e => by have h2 := (h.b.lt b hb).1; have h3 : b ≠ g := fun e => (h.tn g rfl).1 (e ▸ hb); omega) hB).ext hE (fun i _ e => .inr e)).mono (fun i _ e => .inl e)⟩, h1⟩
theorem SyM.putS {x : Int} {g cap i : Nat} {p : RawSet × Value} (h : SyM tb W wr Q #[.int .i64 x, vd, vt, .slice (some ⟨g, 0, none⟩) Lb.length cap] vd vt (.slice (some ⟨g, 0, none⟩) Lb.length cap) Ld Lt Lb) (hi : i < Lb.length) (hp : kS.ok (fun b => b = W.heap.size + 1 ∨ b = g) wr p) :
  SyE tb W (storeAll wr g (i * kS.s) (kS.cells p)) Q x vd vt (.slice (some ⟨g, 0, none⟩) Lb.length cap) Ld Lt (Lb.set i p) := by
 have hE := storeAll_ext (kS.cells p) wr g (i * kS.s)
 have hl := h.low
 have h1 := h.tb1
 have hg := (h.b.lt g rfl).1
 have hq : g ≠ Q := h.bn g rfl
 have hA : ∀ b, b = W.heap.size + 1 → HiB W tb b := fun b e => .inr (by omega)
 have hO : LOwn kS (fun b => b = W.heap.size + 1) wr (W.heap.size + 2) (.slice (some ⟨g, 0, none⟩) Lb.length cap) Lb := h.b.mono (fun i _ e => hA i e)
 have hP := hO.putAll hi hp
 have hB : ∀ b, (b = W.heap.size + 1 ∨ b = g) → HiB W tb b := fun b e => .inr (by omega)
 refine ⟨h.ext.trans2 hE (fun i hi e => by unfold At at e; omega), h.tape.extAbove hE (fun i hi e => by unfold At at e; omega), hE.blk h.boxC (by unfold At; omega), hE.blk h.boxQ (fun e => hq e.symm), ⟨((h.d.list2 (fun b hb e => by have h2 := (h.d.lt b hb).1; have h3 : b ≠ g := fun e => (h.dn b hb).2.1 (e ▸ rfl); omega) hB).ext hE (fun i _ e => .inr e)).mono (fun i _ e => .inl e), ((h.t.list2 (fun b hb e => by have h2 := (h.t.lt b hb).1; have h3 : b ≠ g := fun e => (h.tn b hb).1 (e ▸ rfl); omega) hB).ext hE (fun i _ e => .inr e)).mono (fun i _ e => .inl e), hP.list2 (fun b hb e => by have := (hP.lt b hb).1; unfold At at e; omega) (fun _ e => e)⟩, h1⟩
theorem SyE.fin {x : Int} (h : SyE tb W wr Q x vd vt vb Ld Lt Lb) {WF : World} (hE : Ext (At (W.heap.size + 1)) wr WF) : Hid (YAt No WF vd vt vb Ld Lt Lb) ∧ TapeOk WF tb ∧ Ext (At tb) W WF := by
 have h1 := h.tb1
 exact ⟨Lib.hid (h.y.ext hE (fun i _ e => e)).no, h.tape.extAbove hE (fun i hi e => by unfold At at e; omega), h.ext.trans2 hE (fun i hi e => by unfold At at e; omega)⟩
theorem fitS_small {x : Int} {r : RawSet} (h : FitS x r) (hl : ∀ n ∈ r.words, n < 2 ^ 64) : r.words.length ≤ 4 := by
 obtain ⟨w, m, hw, _, rfl⟩ := (validB_iff hl).1 h.1
 show (wordsN w m).length ≤ 4
 rw [wordsN_len]; unfold nw; omega
theorem fitT_small {x : Int} {r : RawT} (h : FitT x r) (hl : ∀ n ∈ r.gen.words, n < 2 ^ 64) (hk : ∀ n ∈ r.kill.words, n < 2 ^ 64) : r.gen.words.length ≤ 4 ∧ r.kill.words.length ≤ 4 ∧ r.copies.length ≤ 64 := by
 obtain ⟨t, ho, rfl⟩ := validT_ex h.1 hl hk
 have hw := ho.w
 refine ⟨?_, ?_, ho.len⟩
 ·show (wordsN t.w t.gen).length ≤ 4
  rw [wordsN_len]; unfold nw; omega
 show (wordsN t.w t.kill).length ≤ 4
 rw [wordsN_len]; unfold nw; omega
theorem own_spoil {β : Type} {K : EK β} {L : List β} {v v0 : Value} {g : Nat} (h : LAt K (At tb) W v0 L) (hx : Ext No W wr) (hown : wr.ownsRow g K.T K.s v L.length (L.flatMap K.cells)) (hg : W.heap.size + 2 ≤ g) (hl : ∀ k, v.ownBlock = some k → g ≤ k) : LOwn K (HiB W tb) wr (W.heap.size + 2) v L :=
 ⟨row_base hown hg, fun p hp => K.ext (K.mono (M' := fun b => HiB W tb b ∨ v.ownBlock = some b) (h.ok p hp) (fun i hi e => by
  rcases e with (e | e) | e
  ·exact e
  ·omega
  have := hl i e; omega)) hx (fun _ _ x => x.elim)⟩
end
structure ApM {β : Type} (K : EK β) (V w : World) (v : Value) (L : List β) (g g2 : Nat) : Prop where
 own : w.ownsRow g K.T K.s v L.length (L.flatMap K.cells)
 val : ∃ a c, v = .slice a L.length c
 rng : ∀ k, v.ownBlock = some k → g ≤ k ∧ k < g2
 low : V.heap.size ≤ g
 mid : g ≤ g2
 top : g2 ≤ w.heap.size
theorem ApM.step {β : Type} {K : EK β} {V w w' : World} {v : Value} {L : List β} {g g2 : Nat} (h : ApM K V w v L g g2) (hx : Ext No w w') : ApM K V w' v L g g2 := ⟨row_keep h.own hx (fun _ _ x => x), h.val, h.rng, h.low, h.mid, Nat.le_trans h.top hx.size⟩
theorem ApM.mk2 {β : Type} {K : EK β} {V w w' : World} {v : Value} {L : List β} {n : Nat} {xs : List Value} (hn : n = L.length) (hxs : xs = L.flatMap K.cells) (hown : w'.ownsRow w.heap.size K.T K.s v n xs) (hx : Ext No w w') (hl : V.heap.size ≤ w.heap.size) : ApM K V w' v L w.heap.size w'.heap.size := by
 subst hn hxs
 obtain ⟨a, c, e⟩ := (Row.ofOwns (M := No) hown (fun _ _ x => x)).slice
 exact ⟨hown, ⟨a, c, e⟩, World.ownsRow.lt hown, hl, hx.size, Nat.le_refl _⟩
structure SpF (V w : World) (x : Int) (Ld : LD) (Lt : LT) (Lb : LS) (l2 l6 l10 l15 l5 l9 l13 l14 : Bool) (x5 x9 x12 x13 x16 x17 x20 x21 : Value) (gD gD2 gT gT2 gS gS2 Qb : Nat) : Prop where
 e : Ext No V w
 f2 : l2 = true → ∃ E, x9 = .slice (some ⟨E, 0, none⟩) 0 0
 f6 : l6 = true → ∃ E, x13 = .slice (some ⟨E, 0, none⟩) 0 0
 f10 : l10 = true → ∃ E, x17 = .slice (some ⟨E, 0, none⟩) 0 0
 f5 : l5 = true → l2 = true ∧ ApM kD V w x12 Ld gD gD2
 f9 : l9 = true → (l5 = true ∧ l6 = true) ∧ ApM kT V w x16 Lt gT gT2 ∧ gD2 ≤ gT
 f13 : l13 = true → (l9 = true ∧ l10 = true) ∧ ApM kS V w x20 Lb gS gS2 ∧ gT2 ≤ gS
 f14 : l14 = true → l13 = true ∧ x21 = .agg #[.int .i64 x, x12, x16, x20]
 f15 : l15 = true → x5 = .pointer (some ⟨Qb, 0, none⟩) ∧ V.heap.size ≤ Qb ∧ Qb < w.heap.size ∧ w.heap[Qb]? = some (.cells #[.int .i64 0, .slice none 0 0, .slice none 0 0, .slice none 0 0] 27 (0, 0))
 q5 : l5 = true → l15 = true → gD2 ≤ Qb ∨ Qb < gD
 q9 : l9 = true → l15 = true → gT2 ≤ Qb ∨ Qb < gT
 q13 : l13 = true → l15 = true → gS2 ≤ Qb ∨ Qb < gS
theorem SpF.step {V w w' : World} {x : Int} {Ld : LD} {Lt : LT} {Lb : LS} {l2 l6 l10 l15 l5 l9 l13 l14 : Bool} {x5 x9 x12 x13 x16 x17 x20 x21 : Value} {gD gD2 gT gT2 gS gS2 Qb : Nat} (h : SpF V w x Ld Lt Lb l2 l6 l10 l15 l5 l9 l13 l14 x5 x9 x12 x13 x16 x17 x20 x21 gD gD2 gT gT2 gS gS2 Qb) (hx : Ext No w w') : SpF V w' x Ld Lt Lb l2 l6 l10 l15 l5 l9 l13 l14 x5 x9 x12 x13 x16 x17 x20 x21 gD gD2 gT gT2 gS gS2 Qb :=
 ⟨h.e.transNo hx, h.f2, h.f6, h.f10, fun e => ⟨(h.f5 e).1, (h.f5 e).2.step hx⟩, fun e => ⟨(h.f9 e).1, (h.f9 e).2.1.step hx, (h.f9 e).2.2⟩, fun e => ⟨(h.f13 e).1, (h.f13 e).2.1.step hx, (h.f13 e).2.2⟩, h.f14, fun e => ⟨(h.f15 e).1, (h.f15 e).2.1, Nat.lt_of_lt_of_le (h.f15 e).2.2.1 hx.size, hx.blk (h.f15 e).2.2.2 no_no⟩, h.q5, h.q9, h.q13⟩
def SpPost (tb : Nat) (W : World) (e : Ending) (w' : World) : Prop :=
 ∃ (x : Int) (vd vt vb : Value) (Ld : LD) (Lt : LT) (Lb : LS), e = .returned (.agg #[.int .i64 x, vd, vt, vb]) ∧ Hid (YAt No w' vd vt vb Ld Lt Lb) ∧ TapeOk w' tb ∧ Ext (At tb) W w'
set_option maxRecDepth 100000 in
set_option maxHeartbeats 32000000 in
theorem spoilSys_any (tb : Nat) (x : Int) (vd vt vb : Value) (Ld : LD) (Lt : LT) (Lb : LS) (W : World) (h : YAt (At tb) W vd vt vb Ld Lt Lb) (hV : VS x Ld Lt Lb) (ht : TapeOk W tb) :
  Calls Tryz.prog 13 #[.pointer (some ⟨tb, 0, none⟩), .agg #[.int .i64 x, vd, vt, vb]] W (SpPost tb W) := by
 obtain ⟨iD, hiD, hD0, hD1, hD2⟩ := info_parts infoD11
 obtain ⟨iT, hiT, hT0, hT1, hT2⟩ := info_parts infoT11
 obtain ⟨iS, hiS, hS0, hS1, hS2⟩ := info_parts infoS
 obtain ⟨i0, hi0, hz0, hz1, hz2⟩ := info_parts infoI11
 have H := Lib.hid h
 have HV := Lib.hid hV
 have HT := Lib.hid ht
 have HTB := ht.lt
 have hn1 := hV.n.1
 have hn2 := hV.n.2
 have hm1 : 1 ≤ Lt.length := by rw [hV.lt]; exact hn1
 have hm2 : Lt.length ≤ 256 := by rw [hV.lt]; exact hn2
 have hk1 : 1 ≤ Lb.length := by rw [hV.lb]; exact hn1
 have hk2 : Lb.length ≤ 256 := by rw [hV.lb]; exact hn2
 obtain ⟨ad, cd, rfl⟩ := h.d.slice
 obtain ⟨at1, ct, rfl⟩ := h.t.slice
 obtain ⟨ab, cb, rfl⟩ := h.b.slice
 clear h hV ht
 go_enter Tryz.func13, Tryz.ntmps13
 go_upto_region 1 with (fail)
 have HX := Lib.hid (show Ext No W ((W.alloc (.cells #[.int .i64 x, .slice ad Ld.length cd, .slice at1 Lt.length ct, .slice ab Lb.length cb] 27)).alloc (.cells #[.int .i64 0, .slice none 0 0, .slice none 0 0, .slice none 0 0] 27)) from ((Ext.refl _ _).alloc _).alloc _)
 have HA := Lib.hid (show ((W.alloc (.cells #[.int .i64 x, .slice ad Ld.length cd, .slice at1 Lt.length ct, .slice ab Lb.length cb] 27)).alloc (.cells #[.int .i64 0, .slice none 0 0, .slice none 0 0, .slice none 0 0] 27)).heap[W.heap.size]? = some (.cells #[.int .i64 x, .slice ad Ld.length cd, .slice at1 Lt.length ct, .slice ab Lb.length cb] 27 (0, 0)) from alloc_under (alloc_top rfl))
 have HC := Lib.hid (show ((W.alloc (.cells #[.int .i64 x, .slice ad Ld.length cd, .slice at1 Lt.length ct, .slice ab Lb.length cb] 27)).alloc (.cells #[.int .i64 0, .slice none 0 0, .slice none 0 0, .slice none 0 0] 27)).heap[W.heap.size + 1]? = some (.cells #[.int .i64 0, .slice none 0 0, .slice none 0 0, .slice none 0 0] 27 (0, 0)) from alloc_top (by simp))
 have hVs : ((W.alloc (.cells #[.int .i64 x, .slice ad Ld.length cd, .slice at1 Lt.length ct, .slice ab Lb.length cb] 27)).alloc (.cells #[.int .i64 0, .slice none 0 0, .slice none 0 0, .slice none 0 0] 27)).heap.size = W.heap.size + 2 := by simp
 generalize ((W.alloc (.cells #[.int .i64 x, .slice ad Ld.length cd, .slice at1 Lt.length ct, .slice ab Lb.length cb] 27)).alloc (.cells #[.int .i64 0, .slice none 0 0, .slice none 0 0, .slice none 0 0] 27)) = V at *
 go_cut [5] (fun s5 wx => ∃ (Q : Nat) (aD aT aS : Option Addr) (cD cT cS : Nat), s5 = .pointer (some ⟨Q, 0, none⟩) ∧ Hid (SyM tb W wx Q #[.int .i64 x, .slice aD Ld.length cD, .slice aT Lt.length cT, .slice aS Lb.length cS] (.slice aD Ld.length cD) (.slice aT Lt.length cT) (.slice aS Lb.length cS) Ld Lt Lb))
 case first =>
  refine wp_region_held_drew (S := (fun w' => Ext No V w')) (by kernel_rfl) ?_ (fun hHeld => ?_)
  ·exact (Ext.refl _ _).drew
  have HE := Lib.hid (show Ext No V V.drew from (Ext.refl _ _).drew)
  generalize V.drew = v0 at *
  refine hHs [0, 1, 3, 4, 7, 8, 11, 12] ?_
  iterate 8
   refine hTn ?_ hHeld (fun w hSw => ?_) ?_
   rotate_left
   ·(have q0 := cellOf ((show Ext No V _ from hSw).blk HA.out no_no)); go_simp; (try with_reducible rfl)
   simp only [Act.put, nzA, nzB, nzC]
  refine hHe ?_
  refine listed_eq #[true, true, false, true, true, false, false, true, true, false, false, true, true, false, false, false, false] (by kernel_rfl) ?_
  clear hHeld
  refine wpAnyH_inv (fun L a w => ∃ (l2 l6 l10 l15 l5 l9 l13 l14 : Bool) (x5 x9 x12 x13 x16 x17 x20 x21 : Value) (gD gD2 gT gT2 gS gS2 Qb : Nat), L = #[true, true, l2, true, true, l5, l6, true, true, l9, l10, true, true, l13, l14, l15, false] ∧ a = ⟨#[.pointer (some ⟨tb, 0, none⟩), .agg #[.int .i64 x, .slice ad Ld.length cd, .slice at1 Lt.length ct, .slice ab Lb.length cb], undef, .pointer (some ⟨W.heap.size, 0, none⟩), .pointer (some ⟨W.heap.size + 1, 0, none⟩), x5, undef, .pointer (some ⟨W.heap.size, 0, none⟩), .int .i64 x, x9, .pointer (some ⟨W.heap.size, 1, none⟩), .slice ad Ld.length cd, x12, x13, .pointer (some ⟨W.heap.size, 2, none⟩), .slice at1 Lt.length ct, x16, x17, .pointer (some ⟨W.heap.size, 3, none⟩), .slice ab Lb.length cb, x20, x21, undef, undef, undef, undef, undef, undef, undef, undef, undef, undef, undef, undef, undef, undef, undef, undef, undef, undef, undef, undef, undef, undef, undef, undef, undef, undef, undef, undef, undef, undef, undef, undef, undef, undef, undef, undef, undef, undef, undef, undef, undef, undef, undef, undef, undef, undef, undef, undef, undef, undef, undef, undef, undef, undef, undef, undef, undef, undef, undef, undef, undef, undef, undef, undef, undef, undef, undef, undef, undef, undef, undef, undef, undef, undef, undef, undef, undef], []⟩ ∧ SpF V w x Ld Lt Lb l2 l6 l10 l15 l5 l9 l13 l14 x5 x9 x12 x13 x16 x17 x20 x21 gD gD2 gT gT2 gS gS2 Qb) (fun L => L.getD 14 false && L.getD 15 false) ?_ ?_ (by kernel_rfl) ?_ _ _ _ _ ?_ (by decide)
  ·intro L a w hI hs i h1 hall
   obtain ⟨l2, l6, l10, l15, l5, l9, l13, l14, x5, x9, x12, x13, x16, x17, x20, x21, gD, gD2, gT, gT2, gS, gS2, Qb, rfl, rfl, hf⟩ := hI
   have hi : i < 17 := lt_of_getD h1
   obtain rfl | rfl | rfl | rfl | rfl | rfl | rfl | rfl | rfl | rfl | rfl | rfl | rfl | rfl | rfl | rfl | rfl : i = 0 ∨ i = 1 ∨ i = 2 ∨ i = 3 ∨ i = 4 ∨ i = 5 ∨ i = 6 ∨ i = 7 ∨ i = 8 ∨ i = 9 ∨ i = 10 ∨ i = 11 ∨ i = 12 ∨ i = 13 ∨ i = 14 ∨ i = 15 ∨ i = 16 := by omega
   ·exact absurd (show true = false from h1) (by decide)
   ·exact absurd (show true = false from h1) (by decide)
   ·obtain rfl : l2 = false := h1
    refine StepI.mk rfl rfl (fun K hK => ?_)
    go_simp
    refine hK.out _ _ ?_ (fun hNew => ?_)
    ·exact hf.e.alloc _
    have h := hf.step ((Ext.refl No w).alloc (.cells #[] 22))
    exact ⟨true, l6, l10, l15, l5, l9, l13, l14, x5, _, x12, x13, x16, x17, x20, x21, gD, gD2, gT, gT2, gS, gS2, Qb, rfl, rfl, ⟨h.e, fun _ => ⟨_, rfl⟩, h.f6, h.f10, fun e => ⟨rfl, (h.f5 e).2⟩, h.f9, h.f13, h.f14, h.f15, h.q5, h.q9, h.q13⟩⟩
   ·exact absurd (show true = false from h1) (by decide)
   ·exact absurd (show true = false from h1) (by decide)
   ·obtain rfl : l5 = false := h1
    obtain rfl : l2 = true := hall _ rfl _ (Array.mem_of_getElem? (i := 0) rfl) rfl
    obtain ⟨E, rfl⟩ := hf.f2 rfl
    refine StepI.mk rfl rfl (fun K hK => ?_)
    refine wp_app_ful2 _ (.tmp 9) (.tmp 11) 23 rfl 22 iD _ 1 24 Tryz.underlying23 hiD hD0 hD1 hD2 rfl (by omega) No ⟨E, 0, none⟩ 0 [] rfl (Row.nil _ _ _ _ _ (Nat.zero_le _)) No ad Ld.length cd (Ld.flatMap kD.cells) rfl (H.out.no.extNo (HX.out.transNo hf.e)).d.row (by omega) (by omega) (by omega) ?_
    intro v9 w9 hown1 hg1
    have hy : Ext No w w9 := (Ext.refl _ _).grown hg1 (fun k hk _ => by cases hk)
    have hA := ApM.mk2 (K := kD) (V := V) (L := Ld) (by omega) (by simp) hown1 hy hf.e.size
    have h := hf.step hy
    refine hK.out _ _ ?_ (fun hNew => ?_)
    ·exact hf.e.transNo hy
    exact ⟨true, l6, l10, l15, true, l9, l13, l14, x5, _, v9, x13, x16, x17, x20, x21, w.heap.size, w9.heap.size, gT, gT2, gS, gS2, Qb, rfl, rfl, ⟨h.e, h.f2, h.f6, h.f10, fun _ => ⟨rfl, hA⟩, fun e => absurd (hf.f9 e).1.1 (by decide), h.f13, fun e => absurd (hf.f9 (hf.f13 (hf.f14 e).1).1.1).1.1 (by decide), h.f15, fun _ e => .inr (hf.f15 e).2.2.1, h.q9, h.q13⟩⟩
   ·obtain rfl : l6 = false := h1
    refine StepI.mk rfl rfl (fun K hK => ?_)
    go_simp
    refine hK.out _ _ ?_ (fun hNew => ?_)
    ·exact hf.e.alloc _
    have h := hf.step ((Ext.refl No w).alloc (.cells #[] 69))
    exact ⟨l2, true, l10, l15, l5, l9, l13, l14, x5, x9, x12, _, x16, x17, x20, x21, gD, gD2, gT, gT2, gS, gS2, Qb, rfl, rfl, ⟨h.e, h.f2, fun _ => ⟨_, rfl⟩, h.f10, h.f5, fun e => ⟨⟨(h.f9 e).1.1, rfl⟩, (h.f9 e).2⟩, h.f13, h.f14, h.f15, h.q5, h.q9, h.q13⟩⟩
   ·exact absurd (show true = false from h1) (by decide)
   ·exact absurd (show true = false from h1) (by decide)
   ·obtain rfl : l9 = false := h1
    obtain rfl : l6 = true := hall _ rfl _ (Array.mem_of_getElem? (i := 0) rfl) rfl
    obtain rfl : l5 = true := hall _ rfl _ (Array.mem_of_getElem? (i := 2) rfl) rfl
    obtain ⟨E, rfl⟩ := hf.f6 rfl
    refine StepI.mk rfl rfl (fun K hK => ?_)
    refine wp_app_ful2 _ (.tmp 13) (.tmp 15) 24 rfl 69 iT _ 5 88 Tryz.underlying24 hiT hT0 hT1 hT2 rfl (by omega) No ⟨E, 0, none⟩ 0 [] rfl (Row.nil _ _ _ _ _ (Nat.zero_le _)) No at1 Lt.length ct (Lt.flatMap kT.cells) rfl (H.out.no.extNo (HX.out.transNo hf.e)).t.row (by omega) (by omega) (by omega) ?_
    intro v9 w9 hown1 hg1
    have hy : Ext No w w9 := (Ext.refl _ _).grown hg1 (fun k hk _ => by cases hk)
    have hA := ApM.mk2 (K := kT) (V := V) (L := Lt) (by omega) (by simp) hown1 hy hf.e.size
    have h := hf.step hy
    refine hK.out _ _ ?_ (fun hNew => ?_)
    ·exact hf.e.transNo hy
    exact ⟨l2, true, l10, l15, true, true, l13, l14, x5, x9, x12, _, v9, x17, x20, x21, gD, gD2, w.heap.size, w9.heap.size, gS, gS2, Qb, rfl, rfl, ⟨h.e, h.f2, h.f6, h.f10, h.f5, fun _ => ⟨⟨rfl, rfl⟩, hA, (hf.f5 rfl).2.top⟩, fun e => absurd (hf.f13 e).1.1 (by decide), fun e => absurd (hf.f13 (hf.f14 e).1).1.1 (by decide), h.f15, h.q5, fun _ e => .inr (hf.f15 e).2.2.1, h.q13⟩⟩
   ·obtain rfl : l10 = false := h1
    refine StepI.mk rfl rfl (fun K hK => ?_)
    go_simp
    refine hK.out _ _ ?_ (fun hNew => ?_)
    ·exact hf.e.alloc _
    have h := hf.step ((Ext.refl No w).alloc (.cells #[] 50))
    exact ⟨l2, l6, true, l15, l5, l9, l13, l14, x5, x9, x12, x13, x16, _, x20, x21, gD, gD2, gT, gT2, gS, gS2, Qb, rfl, rfl, ⟨h.e, h.f2, h.f6, fun _ => ⟨_, rfl⟩, h.f5, h.f9, fun e => ⟨⟨(h.f13 e).1.1, rfl⟩, (h.f13 e).2⟩, h.f14, h.f15, h.q5, h.q9, h.q13⟩⟩
   ·exact absurd (show true = false from h1) (by decide)
   ·exact absurd (show true = false from h1) (by decide)
   ·obtain rfl : l13 = false := h1
    obtain rfl : l10 = true := hall _ rfl _ (Array.mem_of_getElem? (i := 0) rfl) rfl
    obtain rfl : l9 = true := hall _ rfl _ (Array.mem_of_getElem? (i := 2) rfl) rfl
    obtain ⟨E, rfl⟩ := hf.f10 rfl
    refine StepI.mk rfl rfl (fun K hK => ?_)
    refine wp_app_ful2 _ (.tmp 17) (.tmp 19) 25 rfl 50 iS _ 2 32 Tryz.underlying25 hiS hS0 hS1 hS2 rfl (by omega) No ⟨E, 0, none⟩ 0 [] rfl (Row.nil _ _ _ _ _ (Nat.zero_le _)) No ab Lb.length cb (Lb.flatMap kS.cells) rfl (H.out.no.extNo (HX.out.transNo hf.e)).b.row (by omega) (by omega) (by omega) ?_
    intro v9 w9 hown1 hg1
    have hy : Ext No w w9 := (Ext.refl _ _).grown hg1 (fun k hk _ => by cases hk)
    have hA := ApM.mk2 (K := kS) (V := V) (L := Lb) (by omega) (by simp) hown1 hy hf.e.size
    have h := hf.step hy
    refine hK.out _ _ ?_ (fun hNew => ?_)
    ·exact hf.e.transNo hy
    exact ⟨l2, l6, true, l15, l5, true, true, l14, x5, x9, x12, x13, x16, _, v9, x21, gD, gD2, gT, gT2, w.heap.size, w9.heap.size, Qb, rfl, rfl, ⟨h.e, h.f2, h.f6, h.f10, h.f5, h.f9, fun _ => ⟨⟨rfl, rfl⟩, hA, (hf.f9 rfl).2.1.top⟩, fun e => absurd (hf.f14 e).1 (by decide), h.f15, h.q5, h.q9, fun _ e => .inr (hf.f15 e).2.2.1⟩⟩
   ·obtain rfl : l14 = false := h1
    obtain rfl : l13 = true := hall _ rfl _ (Array.mem_of_getElem? (i := 3) rfl) rfl
    obtain ⟨aD, cD, e1⟩ := (hf.f5 (hf.f9 (hf.f13 rfl).1.1).1.1).2.val
    obtain ⟨aT, cT, e2⟩ := (hf.f9 (hf.f13 rfl).1.1).2.1.val
    obtain ⟨aS, cS, e3⟩ := (hf.f13 rfl).2.1.val
    subst e1 e2 e3
    refine StepI.mk rfl rfl (fun K hK => ?_)
    go_simp
    refine hK.out _ _ ?_ (fun hNew => ?_)
    ·exact hf.e
    have h := hf
    exact ⟨l2, l6, l10, l15, l5, l9, true, true, x5, x9, _, x13, _, x17, _, _, gD, gD2, gT, gT2, gS, gS2, Qb, rfl, rfl, ⟨h.e, h.f2, h.f6, h.f10, h.f5, h.f9, h.f13, fun _ => ⟨rfl, rfl⟩, h.f15, h.q5, h.q9, h.q13⟩⟩
   ·obtain rfl : l15 = false := h1
    refine StepI.mk rfl rfl (fun K hK => ?_)
    go_simp
    refine hK.out _ _ ?_ (fun hNew => ?_)
    ·exact hf.e.alloc _
    have h := hf.step ((Ext.refl No w).alloc (.cells #[.int .i64 0, .slice none 0 0, .slice none 0 0, .slice none 0 0] 27))
    exact ⟨l2, l6, l10, true, l5, l9, l13, l14, _, x9, x12, x13, x16, x17, x20, x21, gD, gD2, gT, gT2, gS, gS2, w.heap.size, rfl, rfl, ⟨h.e, h.f2, h.f6, h.f10, h.f5, h.f9, h.f13, h.f14, fun _ => ⟨rfl, hf.e.size, lt_of_block (alloc_top rfl), alloc_top rfl⟩, fun e _ => .inl (hf.f5 e).2.top, fun e _ => .inl (hf.f9 e).2.1.top, fun e _ => .inl (hf.f13 e).2.1.top⟩⟩
   have e1 : l14 = true := hall _ rfl _ (Array.mem_of_getElem? (i := 1) rfl) rfl
   have e2 : l15 = true := hall _ rfl _ (Array.mem_of_getElem? (i := 0) rfl) rfl
   subst e1 e2
   exact absurd (show true = false from hs) (by decide)
  ·intro fuel L a v0 hI hs
   obtain ⟨l2, l6, l10, l15, l5, l9, l13, l14, x5, x9, x12, x13, x16, x17, x20, x21, gD, gD2, gT, gT2, gS, gS2, Qb, rfl, rfl, hf⟩ := hI
   obtain ⟨e14, e15⟩ := (Bool.and_eq_true _ _ ▸ hs : l14 = true ∧ l15 = true)
   subst e14 e15
   obtain ⟨rfl, e21⟩ := hf.f14 rfl
   obtain ⟨⟨rfl, rfl⟩, hS, hTS⟩ := hf.f13 rfl
   obtain ⟨⟨rfl, rfl⟩, hT, hDT⟩ := hf.f9 rfl
   obtain ⟨rfl, hD⟩ := hf.f5 rfl
   obtain ⟨rfl, hVQ, hQl, hQb⟩ := hf.f15 rfl
   have hq5 := hf.q5 rfl rfl
   have hq9 := hf.q9 rfl rfl
   have hq13 := hf.q13 rfl rfl
   obtain ⟨aD, cD, e1⟩ := hD.val
   obtain ⟨aT, cT, e2⟩ := hT.val
   obtain ⟨aS, cS, e3⟩ := hS.val
   subst e1 e2 e3
   subst e21
   have hDm := hD.mid
   have hTm := hT.mid
   have hSm := hS.mid
   have hDw := hD.low
   have hTw := hT.low
   have hSw0 := hS.low
   refine hHc 16 fun K hK => ?_
   ((have cS9 := cellOf hQb); (have fS9 := freeOf hQb); go_simp; (clear cS9 fS9))
   refine hK.out _ _ ?_ (fun hHeld => ?_)
   ·exact (((hf.e.own hVQ _).own hVQ _).own hVQ _).own hVQ _
   generalize Qb = Q at *
   refine wpAnyH_done (by kernel_rfl) ?_ _
   have hEx : Ext No V _ := hHeld
   go_wp2_with fail
   go_meet
   have hx : Ext No W v0 := HX.out.transNo hf.e
   have hE2 := set4 v0 Q (.int .i64 x) (.slice aD Ld.length cD) (.slice aT Lt.length cT) (.slice aS Lb.length cS)
   have hd : LOwn kD (HiB W tb) v0 (W.heap.size + 2) (.slice aD Ld.length cD) Ld := own_spoil H.out.d hx hD.own (by omega) (fun k hk => (hD.rng k hk).1)
   have ht : LOwn kT (HiB W tb) v0 (W.heap.size + 2) (.slice aT Lt.length cT) Lt := own_spoil H.out.t hx hT.own (by omega) (fun k hk => (hT.rng k hk).1)
   have hs : LOwn kS (HiB W tb) v0 (W.heap.size + 2) (.slice aS Lb.length cS) Lb := own_spoil H.out.b hx hS.own (by omega) (fun k hk => (hS.rng k hk).1)
   have nD : ∀ k, Value.ownBlock (.slice aD Ld.length cD) = some k → k ≠ Q := fun k hk => by have := hD.rng k hk; omega
   have nT : ∀ k, Value.ownBlock (.slice aT Lt.length cT) = some k → k ≠ Q := fun k hk => by have := hT.rng k hk; omega
   have nS : ∀ k, Value.ownBlock (.slice aS Lb.length cS) = some k → k ≠ Q := fun k hk => by have := hS.rng k hk; omega
   have hq : HiB W tb Q := .inr (by omega)
   exact ⟨Q, aD, aT, aS, cD, cT, cS, rfl, Lib.hid ⟨(HX.out.transNo hEx).ofNo, HT.out.ext (HX.out.transNo hEx), hEx.blk HC.out no_no, fin4 hQb (.int .i64 x) (.slice aD Ld.length cD) (.slice aT Lt.length cT) (.slice aS Lb.length cS), hd.ext2 hE2 (fun i hi => nD i hi) (fun i _ e => by unfold At at e; rw [e]; exact hq), ht.ext2 hE2 (fun i hi => nT i hi) (fun i _ e => by unfold At at e; rw [e]; exact hq), hs.ext2 hE2 (fun i hi => nS i hi) (fun i _ e => by unfold At at e; rw [e]; exact hq), fun k hk => ⟨fun e => by have h1 := hD.rng k hk; have h2 := hT.rng k e; omega, fun e => by have h1 := hD.rng k hk; have h2 := hS.rng k e; omega, nD k hk⟩, fun k hk => ⟨fun e => by have h1 := hT.rng k hk; have h2 := hS.rng k e; omega, nT k hk⟩, nS, by omega, HTB⟩⟩
  ·intro L a w hI
   obtain ⟨l2, l6, l10, l15, l5, l9, l13, l14, x5, x9, x12, x13, x16, x17, x20, x21, gD, gD2, gT, gT2, gS, gS2, Qb, rfl, rfl, hf⟩ := hI
   exact ⟨16, Nat.lt_of_lt_of_eq (by decide : 16 < 17) rfl, rfl⟩
  exact ⟨false, false, false, false, false, false, false, false, undef, undef, undef, undef, undef, undef, undef, undef, 0, 0, 0, 0, 0, 0, 0, rfl, rfl, ⟨HE.out, fun e => absurd e (by decide), fun e => absurd e (by decide), fun e => absurd e (by decide), fun e => absurd e (by decide), fun e => absurd e (by decide), fun e => absurd e (by decide), fun e => absurd e (by decide), fun e => absurd e (by decide), fun e => absurd e (by decide), fun e => absurd e (by decide), fun e => absurd e (by decide)⟩⟩
 case rest =>
  obtain ⟨Q, aD, aT, aS, cD, cT, cS, rfl, hm⟩ := hcut
  rename World => wq
  clear HA HC HX hVs HT
  obtain ⟨gD, c0, e0, -, -⟩ := hm.out.d.shape (by omega)
  simp only [Value.slice.injEq] at e0
  obtain ⟨rfl, -, rfl⟩ := e0
  obtain ⟨gT, c0, e0, -, -⟩ := hm.out.t.shape (by omega)
  simp only [Value.slice.injEq] at e0
  obtain ⟨rfl, -, rfl⟩ := e0
  obtain ⟨gS, c0, e0, -, -⟩ := hm.out.b.shape (by omega)
  simp only [Value.slice.injEq] at e0
  obtain ⟨rfl, -, rfl⟩ := e0
  have cQ := cellOf hm.out.boxQ
  go_wp2_with fail
  clear cQ
  refine (next_lt tb (Ld.length : Int) (by omega) (by omega) _ hm.out.tape).mono ?_
  rintro e1 w1 ⟨k, rfl, hr, ht1, hx1, -⟩
  have hk : k < Ld.length := by omega
  have hkz : (k : Int) < (Ld.length : Int) := by omega
  have hkT : k < Lt.length := by rw [HV.out.lt]; exact hk
  have hkS : k < Lb.length := by rw [HV.out.lb]; exact hk
  have hkTz : (k : Int) < (Lt.length : Int) := by omega
  have hkSz : (k : Int) < (Lb.length : Int) := by omega
  have hm1 := Lib.hid (hm.out.step hx1 ht1)
  clear hm hx1 ht1 hr
  go_wp2_with fail
  refine (next_lt tb 6 (by decide) (by decide) _ hm1.out.tape).mono ?_
  rintro e2 w2 ⟨q, rfl, hq, ht2, hx2, -⟩
  have hm2 := Lib.hid (hm1.out.step hx2 ht2)
  clear hm1 hx2 ht2
  have hq6 : q = 0 ∨ q = 1 ∨ q = 2 ∨ q = 3 ∨ q = 4 ∨ q = 5 := by omega
  clear hq
  rcases hq6 with rfl | rfl | rfl | rfl | rfl | rfl
  ·have cQ := cellOf hm2.out.boxQ
   have fQ := freeOf hm2.out.boxQ
   have hxw := HV.out.w
   have hwr : IntKind.i64.wrap (x + 1) = x + 1 := IntWalk.i64_in _ (by omega)
   have hme := Lib.hid (show SyE tb W (w2.setCell ⟨Q, 0, none⟩ (.int .i64 (x + 1))) Q (x + 1) (.slice (some ⟨gD, 0, none⟩) Ld.length cD) (.slice (some ⟨gT, 0, none⟩) Lt.length cT) (.slice (some ⟨gS, 0, none⟩) Lb.length cS) Ld Lt Lb from hm2.out.putQ 0 _ rfl hm2.out.yq)
   go_upto_region 15 with (fail)
   generalize (w2.setCell ⟨Q, 0, none⟩ (.int .i64 (x + 1))) = w3 at *
   clear cQ fQ
   have cQ := cellOf hme.out.boxQ
   have cC := cellOf hme.out.boxC
   have fC := freeOf hme.out.boxC
   have hE4 := set4 w3 (W.heap.size + 1) (.int .i64 (x + 1)) (.slice (some ⟨gD, 0, none⟩) Ld.length cD) (.slice (some ⟨gT, 0, none⟩) Lt.length cT) (.slice (some ⟨gS, 0, none⟩) Lb.length cS)
   have hbF := fin4 hme.out.boxC (.int .i64 (x + 1)) (.slice (some ⟨gD, 0, none⟩) Ld.length cD) (.slice (some ⟨gT, 0, none⟩) Lt.length cT) (.slice (some ⟨gS, 0, none⟩) Lb.length cS)
   go_wp2_with fail
   generalize ((((w3.setCell ⟨W.heap.size + 1, 0, none⟩ (.int .i64 (x + 1))).setCell ⟨W.heap.size + 1, 1, none⟩ (.slice (some ⟨gD, 0, none⟩) Ld.length cD)).setCell ⟨W.heap.size + 1, 2, none⟩ (.slice (some ⟨gT, 0, none⟩) Lt.length cT)).setCell ⟨W.heap.size + 1, 3, none⟩ (.slice (some ⟨gS, 0, none⟩) Lb.length cS)) = WF at *
   have cF := cellOf hbF
   refine ret_ex rfl ?_
   simp [results, Tryz.results13, go_sem, cF]
   obtain ⟨y1, y2, y3⟩ := hme.out.fin hE4
   exact ⟨_, _, _, _, _, _, _, rfl, y1, y2, y3⟩
  ·have cQ := cellOf hm2.out.boxQ
   have HQb := Lib.hid hm2.out.boxQ
   have HNQ : Hid (¬ At tb Q) := Lib.hid (by unfold At; have := hm2.out.low; have := hm2.out.tb1; omega)
   have HND : Hid (¬ At tb gD) := Lib.hid (by unfold At; have := (hm2.out.d.lt gD rfl).1; have := hm2.out.tb1; omega)
   have HNT : Hid (¬ At tb gT) := Lib.hid (by unfold At; have := (hm2.out.t.lt gT rfl).1; have := hm2.out.tb1; omega)
   have HNS : Hid (¬ At tb gS) := Lib.hid (by unfold At; have := (hm2.out.b.lt gS rfl).1; have := hm2.out.tb1; omega)
   have hmE : Ints (fun b => HiB W tb b ∨ Value.ownBlock (.slice (some ⟨gD, 0, none⟩) Ld.length cD) = some b) w2 .i64 Ld[k].2 Ld[k].1 := hm2.out.d.ok Ld[k] (List.getElem_mem hk)
   have hdc := hm2.out.d.cellAt (i := k) (j := 0) hk (by decide) (u := Ld[k].2) rfl
   have hasc := HV.out.asc _ (List.getElem_mem hk)
   obtain ⟨d, hd⟩ : ∃ d, d = Ld[k] := ⟨_, rfl⟩
   rw [← hd] at hdc hmE hasc
   have hdl : d.1.length ≤ 256 := by
    rcases Nat.eq_zero_or_pos d.1.length with h0 | h0
    ·omega
    have := asc_len hasc h0; omega
   obtain ⟨ae, ce, hde⟩ := Row.slice hmE
   rw [hde] at hdc hmE
   have HDC := Lib.hid (show w2.cell? ⟨gD, k, none⟩ = some (.slice ae d.1.length ce) from by have h := hdc; rwa [show k * kD.s + 0 = k from Nat.mul_one k] at h)
   have HDI := Lib.hid (Row.mono (M' := At tb) hmE (fun i _ e => .inl (.inl e)))
   clear hmE hdc hasc hd hde
   have hw2 : IntKind.i64.wrap ((Ld.length : Int) + 2) = (Ld.length : Int) + 2 := IntWalk.i64_in _ (by omega)
   go_upto_region 8 with (fail)
   clear cQ
   refine wp_region_heldL [20] (fun w' => Ext (At tb) w2 w') (by kernel_rfl) ?_ (fun hHeld => ?_)
   ·exact (Ext.refl No _).drew.ofNo
   have HE := Lib.hid (show Ext (At tb) w2 w2.drew from (Ext.refl No _).drew.ofNo)
   have HTP := Lib.hid (hm2.out.tape.ext (show Ext No w2 w2.drew from (Ext.refl No _).drew))
   generalize w2.drew = v0 at *
   refine hHs [0] (hHl hHeld ?_)
   clear hHeld
   refine hFn ?_ (fun w => ?_) ?_
   rotate_left
   ·go_simp; (try with_reducible rfl)
   simp only [Act.put, nzA, nzB, nzC]
   refine hHe fun hHeld => ?_
   refine hHs [1] (hHl hHeld ?_)
   clear hHeld
   refine hHn ?_ (fun w hSw => ?_) ?_
   rotate_left
   ·(have q0 := cellOf ((show Ext (At tb) w2 _ from hSw).blk HQb.out HNQ.out)); go_simp; (try with_reducible rfl)
   simp only [Act.put, nzA, nzB, nzC]
   refine hHe fun hHeld => ?_
   refine hHs [2, 4] (hHl hHeld ?_)
   clear hHeld
   iterate 2
    refine hFn ?_ (fun w => ?_) ?_
    rotate_left
    ·go_simp; (try with_reducible rfl)
    simp only [Act.put, nzA, nzB, nzC]
   refine hHe fun hHeld => ?_
   refine hHs [5] (hHl hHeld ?_)
   clear hHeld
   refine hHn ?_ (fun w hSw => ?_) ?_
   rotate_left
   ·(have q0 := cellOf ((show Ext (At tb) w2 _ from hSw).blk HQb.out HNQ.out)); go_simp; (try with_reducible rfl)
   simp only [Act.put, nzA, nzB, nzC]
   refine hHe fun hHeld => ?_
   refine hHs [6, 7] (hHl hHeld ?_)
   clear hHeld
   iterate 2
    refine hFn ?_ (fun w => ?_) ?_
    rotate_left
    ·go_simp; (try with_reducible rfl)
    simp only [Act.put, nzA, nzB, nzC]
   refine hHe fun hHeld => ?_
   refine hHs [8] (hHl hHeld ?_)
   clear hHeld
   refine hHn ?_ (fun w hSw => ?_) ?_
   rotate_left
   ·(have q0 := (show Ext (At tb) w2 _ from hSw).keepM HDC.out HND.out); go_simp; (try with_reducible rfl)
   simp only [Act.put, nzA, nzB, nzC]
   refine hHe fun hHeld => ?_
   refine hHs [10, 11] (hHl hHeld ?_)
   clear hHeld
   iterate 2
    refine hFn ?_ (fun w => ?_) ?_
    rotate_left
    ·go_simp; (try with_reducible rfl)
    simp only [Act.put, nzA, nzB, nzC]
   refine hHe fun hHeld => ?_
   refine hHs [12] (hHl hHeld ?_)
   clear hHeld
   refine hHn ?_ (fun w hSw => ?_) ?_
   rotate_left
   ·(have q0 := cellOf ((show Ext (At tb) w2 _ from hSw).blk HQb.out HNQ.out)); go_simp; (try with_reducible rfl)
   simp only [Act.put, nzA, nzB, nzC]
   refine hHe fun hHeld => ?_
   refine hHs [13, 14] (hHl hHeld ?_)
   clear hHeld
   iterate 2
    refine hFn ?_ (fun w => ?_) ?_
    rotate_left
    ·go_simp; (try with_reducible rfl)
    simp only [Act.put, nzA, nzB, nzC]
   refine hHe fun hHeld => ?_
   refine heldL_next1 (i := 3) (by kernel_rfl) (NextL.mk rfl rfl (fun K hK => ?_))
   go_simp
   refine hK.out _ _ ?_ (fun hNew => ?_)
   ·intro _; exact HE.out.alloc _
   clear hK K hHeld
   have hHeld := hNew
   clear hNew
   have hEV : w2.heap.size ≤ v0.heap.size := HE.out.size
   have hO := Lib.hid (show (v0.alloc (.cells #[] 3)).ownsRow v0.heap.size 3 1 (.slice (some ⟨v0.heap.size, 0, none⟩) 0 0) 0 [] from World.ownsRow_made v0 #[] 0 (Nat.le_refl _) (Nat.zero_le _) rfl)
   have hEBl : v0.heap.size < (v0.alloc (.cells #[] 3)).heap.size := by simp
   replace HE := Lib.hid (HE.out.alloc (.cells #[] 3))
   replace HTP := Lib.hid (HTP.out.ext ((Ext.refl No v0).alloc (.cells #[] 3)))
   generalize (v0.alloc (.cells #[] 3)) = v1 at *
   generalize v0.heap.size = EB at *
   try simp only [Act.put, nzA, nzB, nzC]
   refine heldL_next1 (i := 9) (by kernel_rfl) (NextL.mk rfl rfl (fun K hK => ?_))
   ((have htB : EB ≤ v1.heap.size := by have := (World.ownsRow.lt hO.out EB rfl).2; omega); (refine wp_app _ (.tmp 49) (.tmp 54) 22 rfl EB 3 i0 _ 1 8 Tryz.underlying22 hi0 hz0 hz1 hz2 rfl (by omega) (.slice (some ⟨EB, 0, none⟩) 0 0) 0 [] rfl hO.out (At tb) ae d.1.length ce (d.1.map (.int .i64)) rfl (Row.ext HDI.out HE.out (fun _ _ e => e)) (fun u hu => by obtain ⟨y, _, rfl⟩ := List.mem_map.1 hu; rfl) (by omega) (by omega) htB ?_); (intro v8 w8 hown1 hg1 hv1))
   refine hK.out _ _ ?_ (fun hNew => ?_)
   ·intro _; exact HE.out.trans2 ((Ext.refl _ _).grown hg1 (fun bq hk _ => hk)) (fun i hi e => by simp only [Value.ownBlock, Option.some.injEq] at e; omega)
   clear hK K hHeld
   have hHeld := hNew
   clear hNew
   have hE8 : Ext (fun bq => Value.ownBlock (.slice (some ⟨EB, 0, none⟩) 0 0) = some bq) v1 w8 := (Ext.refl _ _).grown hg1 (fun bq hk _ => hk)
   replace HTP := Lib.hid (HTP.out.extAbove hE8 (fun i hi e => by simp only [Value.ownBlock, Option.some.injEq] at e; have := hm2.out.tb1; have := hm2.out.ext.size; omega))
   replace HE := Lib.hid (HE.out.trans2 hE8 (fun i hi e => by simp only [Value.ownBlock, Option.some.injEq] at e; omega))
   simp only [Nat.zero_add, List.nil_append] at hown1
   replace hO := Lib.hid hown1
   obtain ⟨aO, cO, hs8⟩ := (Row.ofOwns (M := No) hown1 (fun _ _ x => x)).slice
   subst hs8
   replace hEBl := Nat.lt_of_lt_of_le hEBl hE8.size
   clear hE8 hown1 hg1 hv1 htB
   generalize w8 = v2 at *
   try simp only [Act.put, nzA, nzB, nzC]
   refine heldL_next1 (i := 15) (by kernel_rfl) (NextL.mk rfl rfl (fun K hK => ?_))
   (go_simp; (go_at_call 23); (refine (next_lt tb ((Ld.length : Int) + 2) (by omega) (by omega) _ HTP.out).mono ?_); (rintro e5 v3 ⟨r1, rfl, hr1, htA, hyA, -⟩); go_simp)
   refine hK.out _ _ ?_ (fun hNew => ?_)
   ·intro _; exact HE.out.trans hyA
   clear hK K hHeld
   have hHeld := hNew
   clear hNew
   replace hO := Lib.hid (row_keep hO.out hyA (fun i hi e => by unfold At at e; have := hm2.out.tb1; have := hm2.out.ext.size; omega))
   replace HTP := Lib.hid htA
   replace HE := Lib.hid (HE.out.trans hyA)
   replace hEBl := Nat.lt_of_lt_of_le hEBl hyA.size
   have hw5 : IntKind.i64.wrap ((r1 : Int) - 1) = (r1 : Int) - 1 := IntWalk.i64_in _ (by omega)
   clear htA hyA
   try simp only [Act.put, nzA, nzB, nzC]
   refine hHs [16] (hHl hHeld ?_)
   clear hHeld
   refine hFn ?_ (fun w => ?_) ?_
   rotate_left
   ·go_simp; (try with_reducible rfl)
   simp only [Act.put, nzA, nzB, nzC]
   refine hHe fun hHeld => ?_
   refine heldL_next1 (i := 17) (by kernel_rfl) (NextL.mk rfl rfl (fun K hK => ?_))
   go_simp
   refine hK.out _ _ ?_ (fun hNew => ?_)
   ·intro _; exact HE.out.alloc _
   clear hK K hHeld
   have hHeld := hNew
   clear hNew
   have hLb := Lib.hid (alloc_top (w := v3) (o := (.cells #[.int .i64 ((r1 : Int) - 1)] 3)) rfl)
   replace hEBl := Nat.lt_of_lt_of_le hEBl ((Ext.refl No v3).alloc (.cells #[.int .i64 ((r1 : Int) - 1)] 3)).size
   replace hO := Lib.hid (row_keep hO.out ((Ext.refl No v3).alloc (.cells #[.int .i64 ((r1 : Int) - 1)] 3)) (fun _ _ x => x))
   replace HE := Lib.hid (HE.out.alloc (.cells #[.int .i64 ((r1 : Int) - 1)] 3))
   replace HTP := Lib.hid (HTP.out.ext ((Ext.refl No v3).alloc (.cells #[.int .i64 ((r1 : Int) - 1)] 3)))
   have hBs := lt_of_block hLb.out
   generalize (v3.alloc (.cells #[.int .i64 ((r1 : Int) - 1)] 3)) = v4 at *
   generalize v3.heap.size = BL at *
   try simp only [Act.put, nzA, nzB, nzC]
   refine heldL_next1 (i := 18) (by kernel_rfl) (NextL.mk rfl rfl (fun K hK => ?_))
   ((have htB : EB ≤ v4.heap.size := by omega); (refine wp_app _ (.tmp 55) (.tmp 63) 22 rfl EB 3 i0 _ 1 8 Tryz.underlying22 hi0 hz0 hz1 hz2 rfl (by omega) (.slice aO d.1.length cO) d.1.length (d.1.map (.int .i64)) rfl hO.out No (some ⟨BL, 0, none⟩) 1 1 [.int .i64 ((r1 : Int) - 1)] rfl (Row.block hLb.out rfl no_no (by omega)) (by simp [Value.oneCell']) (by omega) (by omega) htB ?_); (intro v9 w9 hown1 hg1 hv1))
   refine hK.out _ _ ?_ (fun hNew => ?_)
   ·intro _; exact HE.out.trans2 ((Ext.refl _ _).grown hg1 (fun bq hk _ => hk)) (fun i hi e => by have := (World.ownsRow.lt hO.out i e).1; omega)
   clear hK K hHeld
   have hHeld := hNew
   clear hNew
   have hE9 : Ext (fun bq => Value.ownBlock (.slice aO d.1.length cO) = some bq) v4 w9 := (Ext.refl _ _).grown hg1 (fun bq hk _ => hk)
   have hOl := World.ownsRow.lt hO.out
   replace HTP := Lib.hid (HTP.out.extAbove hE9 (fun i hi e => by have := (hOl i e).1; have := hm2.out.tb1; have := hm2.out.ext.size; omega))
   replace HE := Lib.hid (HE.out.trans2 hE9 (fun i hi e => by have := (hOl i e).1; omega))
   have hO9 := Lib.hid hown1
   obtain ⟨aR, cR, hs9⟩ := (Row.ofOwns (M := No) hown1 (fun _ _ x => x)).slice
   subst hs9
   clear hE9 hOl hO hown1 hg1 hv1 hLb hBs htB
   generalize w9 = v5 at *
   have hmv := Lib.hid (hm2.out.step HE.out HTP.out)
   have HIN := Lib.hid (show Ints (fun b => b = W.heap.size + 1 ∨ b = gD) v5 .i64 (.slice aR (d.1.length + 1) cR) (d.1 ++ [(r1 : Int) - 1]) from by
    have h0 := Row.ofOwns (M := fun b => b = W.heap.size + 1 ∨ b = gD) hO9.out (fun b hb e => by have h1 := (hm2.out.d.lt gD rfl).2; have h2 := lt_of_block hm2.out.boxC; omega)
    unfold Ints
    rw [List.length_append, List.map_append]
    exact h0)
   clear hO9
   try simp only [Act.put, nzA, nzB, nzC]
   refine hHs [19] (hHl hHeld ?_)
   clear hHeld
   refine hFn ?_ (fun w => ?_) ?_
   rotate_left
   ·go_simp; (try with_reducible rfl)
   simp only [Act.put, nzA, nzB, nzC]
   refine hHe fun hHeld => ?_
   refine heldL_next1 (i := 20) (by kernel_rfl) (NextL.mk rfl rfl (fun K hK => ?_))
   ((have hc9 : v5.cell? ⟨gD, k, none⟩ = some (.slice ae d.1.length ce) := HE.out.keepM HDC.out HND.out); (have hf9 : v5.frozen? ⟨gD, k, none⟩ = false := World.ownsRow.frozenAt hmv.out.d.own k); go_simp; (clear hc9 hf9))
   refine hK.out _ _ ?_ (fun hNew => ?_)
   ·exact fun h => absurd h (by decide)
   clear hK K hHeld
   have hHeld := hNew
   clear hNew
   try simp only [Act.put, nzA, nzB, nzC]
   refine heldL_done (by kernel_rfl) ?_ _
   have hme := Lib.hid (show SyE tb W (v5.setCell ⟨gD, k, none⟩ (.slice aR (d.1.length + 1) cR)) Q x (.slice (some ⟨gD, 0, none⟩) Ld.length cD) (.slice (some ⟨gT, 0, none⟩) Lt.length cT) (.slice (some ⟨gS, 0, none⟩) Lb.length cS) (Ld.set k (d.1 ++ [(r1 : Int) - 1], .slice aR (d.1.length + 1) cR)) Lt Lb from by
    have h := hmv.out.putD (i := k) (p := (d.1 ++ [(r1 : Int) - 1], .slice aR (d.1.length + 1) cR)) hk HIN.out
    rw [show k * kD.s = k from Nat.mul_one k] at h
    exact h)
   go_upto_region 15 with (fail)
   generalize (v5.setCell ⟨gD, k, none⟩ (.slice aR (d.1.length + 1) cR)) = w3 at *
   have cQ := cellOf hme.out.boxQ
   have cC := cellOf hme.out.boxC
   have fC := freeOf hme.out.boxC
   have hE4 := set4 w3 (W.heap.size + 1) (.int .i64 x) (.slice (some ⟨gD, 0, none⟩) Ld.length cD) (.slice (some ⟨gT, 0, none⟩) Lt.length cT) (.slice (some ⟨gS, 0, none⟩) Lb.length cS)
   have hbF := fin4 hme.out.boxC (.int .i64 x) (.slice (some ⟨gD, 0, none⟩) Ld.length cD) (.slice (some ⟨gT, 0, none⟩) Lt.length cT) (.slice (some ⟨gS, 0, none⟩) Lb.length cS)
   go_wp2_with fail
   generalize ((((w3.setCell ⟨W.heap.size + 1, 0, none⟩ (.int .i64 x)).setCell ⟨W.heap.size + 1, 1, none⟩ (.slice (some ⟨gD, 0, none⟩) Ld.length cD)).setCell ⟨W.heap.size + 1, 2, none⟩ (.slice (some ⟨gT, 0, none⟩) Lt.length cT)).setCell ⟨W.heap.size + 1, 3, none⟩ (.slice (some ⟨gS, 0, none⟩) Lb.length cS)) = WF at *
   have cF := cellOf hbF
   refine ret_ex rfl ?_
   simp [results, Tryz.results13, go_sem, cF]
   obtain ⟨y1, y2, y3⟩ := hme.out.fin hE4
   exact ⟨_, _, _, _, _, _, _, rfl, y1, y2, y3⟩
  ·have cQ := cellOf hm2.out.boxQ
   have HQb := Lib.hid hm2.out.boxQ
   have HNQ : Hid (¬ At tb Q) := Lib.hid (by unfold At; have := hm2.out.low; have := hm2.out.tb1; omega)
   have HND : Hid (¬ At tb gD) := Lib.hid (by unfold At; have := (hm2.out.d.lt gD rfl).1; have := hm2.out.tb1; omega)
   have HNT : Hid (¬ At tb gT) := Lib.hid (by unfold At; have := (hm2.out.t.lt gT rfl).1; have := hm2.out.tb1; omega)
   have HNS : Hid (¬ At tb gS) := Lib.hid (by unfold At; have := (hm2.out.b.lt gS rfl).1; have := hm2.out.tb1; omega)
   have hmE : RawTAt (fun b => HiB W tb b ∨ Value.ownBlock (.slice (some ⟨gT, 0, none⟩) Lt.length cT) = some b) w2 (Lt[k]'hkT).2.1 (Lt[k]'hkT).2.2.1 (Lt[k]'hkT).2.2.2 (Lt[k]'hkT).1 := hm2.out.t.ok (Lt[k]'hkT) (List.getElem_mem hkT)
   have hfit := HV.out.trs (Lt[k]'hkT) (List.getElem_mem hkT)
   have c0 : w2.cell? ⟨gT, k * 5, none⟩ = some (.int .i64 (Lt[k]'hkT).1.gen.width) := hm2.out.t.cellAt (i := k) (j := 0) hkT (by decide) rfl
   have c1 : w2.cell? ⟨gT, k * 5 + 1, none⟩ = some (Lt[k]'hkT).2.1 := hm2.out.t.cellAt (i := k) (j := 1) hkT (by decide) rfl
   have c2 : w2.cell? ⟨gT, k * 5 + 2, none⟩ = some (.int .i64 (Lt[k]'hkT).1.kill.width) := hm2.out.t.cellAt (i := k) (j := 2) hkT (by decide) rfl
   have c3 : w2.cell? ⟨gT, k * 5 + 3, none⟩ = some (Lt[k]'hkT).2.2.1 := hm2.out.t.cellAt (i := k) (j := 3) hkT (by decide) rfl
   have c4 : w2.cell? ⟨gT, k * 5 + 4, none⟩ = some (Lt[k]'hkT).2.2.2 := hm2.out.t.cellAt (i := k) (j := 4) hkT (by decide) rfl
   have hmem : (Lt[k]'hkT) ∈ Lt := List.getElem_mem hkT
   obtain ⟨t, hte⟩ : ∃ t, t = (Lt[k]'hkT) := ⟨_, rfl⟩
   rw [← hte] at hmE c0 c1 c2 c3 c4 hfit hmem
   obtain ⟨f1, f2, he2⟩ := hmE.gen.slice
   obtain ⟨f3, f4, he3⟩ := hmE.kill.slice
   obtain ⟨f5, f6, he4⟩ := Row.slice hmE.copies
   have hsm := fitT_small hfit hmE.gen.lt hmE.kill.lt
   rw [he2] at c1 hmE
   rw [he3] at c3 hmE
   rw [he4] at c4 hmE
   have HTC := Lib.hid (And.intro c0 (And.intro c1 (And.intro c2 (And.intro c3 c4))))
   have HTR := Lib.hid (hmE.mono (M' := (fun b => b = tb ∨ b = W.heap.size + 1 ∨ b = gT)) (fun i hi e => by
    rcases e with e | e | e
    ·exact .inl (.inl e)
    ·exact .inl (.inr (by omega))
    exact .inr (by rw [e]; rfl)))
   clear hmE hfit c0 c1 c2 c3 c4 hte
   go_upto_region 10 with (fail)
   clear cQ
   refine wp_region_heldL [11] (fun w' => Ext (At tb) w2 w') (by kernel_rfl) ?_ (fun hHeld => ?_)
   ·exact (Ext.refl No _).drew.ofNo
   have HE := Lib.hid (show Ext (At tb) w2 w2.drew from (Ext.refl No _).drew.ofNo)
   have HTP := Lib.hid (hm2.out.tape.ext (show Ext No w2 w2.drew from (Ext.refl No _).drew))
   generalize w2.drew = v0 at *
   refine hHs [0] (hHl hHeld ?_)
   clear hHeld
   refine hFn ?_ (fun w => ?_) ?_
   rotate_left
   ·go_simp; (try with_reducible rfl)
   simp only [Act.put, nzA, nzB, nzC]
   refine hHe fun hHeld => ?_
   refine hHs [1] (hHl hHeld ?_)
   clear hHeld
   refine hHn ?_ (fun w hSw => ?_) ?_
   rotate_left
   ·(have q0 := cellOf ((show Ext (At tb) w2 _ from hSw).blk HQb.out HNQ.out)); go_simp; (try with_reducible rfl)
   simp only [Act.put, nzA, nzB, nzC]
   refine hHe fun hHeld => ?_
   refine hHs [2, 3, 4] (hHl hHeld ?_)
   clear hHeld
   iterate 3
    refine hFn ?_ (fun w => ?_) ?_
    rotate_left
    ·go_simp; (try with_reducible rfl)
    simp only [Act.put, nzA, nzB, nzC]
   refine hHe fun hHeld => ?_
   refine hHs [5] (hHl hHeld ?_)
   clear hHeld
   refine hHn ?_ (fun w hSw => ?_) ?_
   rotate_left
   ·(have q0 := cellOf ((show Ext (At tb) w2 _ from hSw).blk HQb.out HNQ.out)); go_simp; (try with_reducible rfl)
   simp only [Act.put, nzA, nzB, nzC]
   refine hHe fun hHeld => ?_
   refine hHs [6, 7] (hHl hHeld ?_)
   clear hHeld
   iterate 2
    refine hFn ?_ (fun w => ?_) ?_
    rotate_left
    ·go_simp; (try with_reducible rfl)
    simp only [Act.put, nzA, nzB, nzC]
   refine hHe fun hHeld => ?_
   refine hHs [8] (hHl hHeld ?_)
   clear hHeld
   refine hHn ?_ (fun w hSw => ?_) ?_
   rotate_left
   ·(obtain ⟨p0, p1, p2, p3, p4⟩ := HTC.out); (have q0 := (show Ext (At tb) w2 _ from hSw).keepM p0 HNT.out); (have q1 := (show Ext (At tb) w2 _ from hSw).keepM p1 HNT.out); (have q2 := (show Ext (At tb) w2 _ from hSw).keepM p2 HNT.out); (have q3 := (show Ext (At tb) w2 _ from hSw).keepM p3 HNT.out); (have q4 := (show Ext (At tb) w2 _ from hSw).keepM p4 HNT.out); go_simp; (try with_reducible rfl)
   simp only [Act.put, nzA, nzB, nzC]
   refine hHe fun hHeld => ?_
   refine heldL_next1 (i := 9) (by kernel_rfl) (NextL.mk rfl rfl (fun K hK => ?_))
   (go_simp; (go_at_call 47); (refine (spoilT_any tb (fun b => b = tb ∨ b = W.heap.size + 1 ∨ b = gT) t.1 _ _ _ _ (.inl rfl) (fun i e => by have h1 := HE.out.size; have h2 := hm2.out.tb1; have h3 := lt_of_block hm2.out.boxC; have h4 := (hm2.out.t.lt gT rfl).2; omega) (HTR.out.ext HE.out (fun i _ e => .inl e)) (by omega) (by omega) (by omega) HTP.out).mono ?_); (rintro e5 v1 ⟨r5, sg, sk, sc, rfl, hr5, htA, hyA⟩); (obtain ⟨g1, g2, rfl⟩ := hr5.out.gen.slice); (obtain ⟨g3, g4, rfl⟩ := hr5.out.kill.slice); (obtain ⟨g5, g6, rfl⟩ := Row.slice hr5.out.copies); go_simp)
   refine hK.out _ _ ?_ (fun hNew => ?_)
   ·intro _; exact HE.out.trans hyA
   clear hK K hHeld
   have hHeld := hNew
   clear hNew
   replace HTP := Lib.hid htA
   replace HE := Lib.hid (HE.out.trans hyA)
   have hmv := Lib.hid (hm2.out.step HE.out HTP.out)
   have HRN := Lib.hid (hr5.out.mono (M' := fun b => b = W.heap.size + 1 ∨ b = gT) (fun i _ e => .inr e))
   clear htA hyA hr5
   try simp only [Act.put, nzA, nzB, nzC]
   refine hHs [10] (hHl hHeld ?_)
   clear hHeld
   refine hFn ?_ (fun w => ?_) ?_
   rotate_left
   ·go_simp; (try with_reducible rfl)
   simp only [Act.put, nzA, nzB, nzC]
   refine hHe fun hHeld => ?_
   refine heldL_next1 (i := 11) (by kernel_rfl) (NextL.mk rfl rfl (fun K hK => ?_))
   ((obtain ⟨p0, p1, p2, p3, p4⟩ := HTC.out); (have x0 := HE.out.keepM p0 HNT.out); (have x1 := HE.out.keepM p1 HNT.out); (have x2 := HE.out.keepM p2 HNT.out); (have x3 := HE.out.keepM p3 HNT.out); (have x4 := HE.out.keepM p4 HNT.out); (have hf9 : ∀ j, v1.frozen? ⟨gT, j, none⟩ = false := fun j => World.ownsRow.frozenAt hmv.out.t.own j); go_simp; (clear p0 p1 p2 p3 p4 x0 x1 x2 x3 x4 hf9))
   refine hK.out _ _ ?_ (fun hNew => ?_)
   ·exact fun h => absurd h (by decide)
   clear hK K hHeld
   have hHeld := hNew
   clear hNew
   try simp only [Act.put, nzA, nzB, nzC]
   refine heldL_done (by kernel_rfl) ?_ _
   have hme := Lib.hid (show SyE tb W (((((v1.setCell ⟨gT, k * 5, none⟩ (.int .i64 r5.gen.width)).setCell ⟨gT, k * 5 + 1, none⟩ (.slice g1 r5.gen.words.length g2)).setCell ⟨gT, k * 5 + 2, none⟩ (.int .i64 r5.kill.width)).setCell ⟨gT, k * 5 + 3, none⟩ (.slice g3 r5.kill.words.length g4)).setCell ⟨gT, k * 5 + 4, none⟩ (.slice g5 r5.copies.length g6)) Q x (.slice (some ⟨gD, 0, none⟩) Ld.length cD) (.slice (some ⟨gT, 0, none⟩) Lt.length cT) (.slice (some ⟨gS, 0, none⟩) Lb.length cS) Ld (Lt.set k (r5, .slice g1 r5.gen.words.length g2, .slice g3 r5.kill.words.length g4, .slice g5 r5.copies.length g6)) Lb from hmv.out.putT (i := k) (p := (r5, .slice g1 r5.gen.words.length g2, .slice g3 r5.kill.words.length g4, .slice g5 r5.copies.length g6)) hkT HRN.out)
   go_upto_region 15 with (fail)
   generalize (((((v1.setCell ⟨gT, k * 5, none⟩ (.int .i64 r5.gen.width)).setCell ⟨gT, k * 5 + 1, none⟩ (.slice g1 r5.gen.words.length g2)).setCell ⟨gT, k * 5 + 2, none⟩ (.int .i64 r5.kill.width)).setCell ⟨gT, k * 5 + 3, none⟩ (.slice g3 r5.kill.words.length g4)).setCell ⟨gT, k * 5 + 4, none⟩ (.slice g5 r5.copies.length g6)) = w3 at *
   have cQ := cellOf hme.out.boxQ
   have cC := cellOf hme.out.boxC
   have fC := freeOf hme.out.boxC
   have hE4 := set4 w3 (W.heap.size + 1) (.int .i64 x) (.slice (some ⟨gD, 0, none⟩) Ld.length cD) (.slice (some ⟨gT, 0, none⟩) Lt.length cT) (.slice (some ⟨gS, 0, none⟩) Lb.length cS)
   have hbF := fin4 hme.out.boxC (.int .i64 x) (.slice (some ⟨gD, 0, none⟩) Ld.length cD) (.slice (some ⟨gT, 0, none⟩) Lt.length cT) (.slice (some ⟨gS, 0, none⟩) Lb.length cS)
   go_wp2_with fail
   generalize ((((w3.setCell ⟨W.heap.size + 1, 0, none⟩ (.int .i64 x)).setCell ⟨W.heap.size + 1, 1, none⟩ (.slice (some ⟨gD, 0, none⟩) Ld.length cD)).setCell ⟨W.heap.size + 1, 2, none⟩ (.slice (some ⟨gT, 0, none⟩) Lt.length cT)).setCell ⟨W.heap.size + 1, 3, none⟩ (.slice (some ⟨gS, 0, none⟩) Lb.length cS)) = WF at *
   have cF := cellOf hbF
   refine ret_ex rfl ?_
   simp [results, Tryz.results13, go_sem, cF]
   obtain ⟨y1, y2, y3⟩ := hme.out.fin hE4
   exact ⟨_, _, _, _, _, _, _, rfl, y1, y2, y3⟩
  ·have cQ := cellOf hm2.out.boxQ
   have HQb := Lib.hid hm2.out.boxQ
   have HNQ : Hid (¬ At tb Q) := Lib.hid (by unfold At; have := hm2.out.low; have := hm2.out.tb1; omega)
   have HND : Hid (¬ At tb gD) := Lib.hid (by unfold At; have := (hm2.out.d.lt gD rfl).1; have := hm2.out.tb1; omega)
   have HNT : Hid (¬ At tb gT) := Lib.hid (by unfold At; have := (hm2.out.t.lt gT rfl).1; have := hm2.out.tb1; omega)
   have HNS : Hid (¬ At tb gS) := Lib.hid (by unfold At; have := (hm2.out.b.lt gS rfl).1; have := hm2.out.tb1; omega)
   have hmE : WordsAt (fun b => HiB W tb b ∨ Value.ownBlock (.slice (some ⟨gS, 0, none⟩) Lb.length cS) = some b) w2 Lb[k].2 Lb[k].1.words := hm2.out.b.ok Lb[k] (List.getElem_mem hkS)
   have hfit := HV.out.sets Lb[k] (List.getElem_mem hkS)
   have c0 : w2.cell? ⟨gS, k * 2, none⟩ = some (.int .i64 Lb[k].1.width) := hm2.out.b.cellAt (i := k) (j := 0) hkS (by decide) rfl
   have c1 : w2.cell? ⟨gS, k * 2 + 1, none⟩ = some Lb[k].2 := hm2.out.b.cellAt (i := k) (j := 1) hkS (by decide) rfl
   obtain ⟨t, hte⟩ : ∃ t, t = Lb[k] := ⟨_, rfl⟩
   rw [← hte] at hmE c0 c1 hfit
   obtain ⟨f1, f2, he2⟩ := hmE.slice
   have hsm := fitS_small hfit hmE.lt
   rw [he2] at c1 hmE
   have HTC := Lib.hid (And.intro c0 c1)
   have HTR := Lib.hid (hmE.mono (M' := At tb) (fun i hi e => .inl (.inl e)))
   clear hmE hfit c0 c1 hte
   go_upto_region 12 with (fail)
   clear cQ
   refine wp_region_heldL [11] (fun w' => Ext (At tb) w2 w') (by kernel_rfl) ?_ (fun hHeld => ?_)
   ·exact (Ext.refl No _).drew.ofNo
   have HE := Lib.hid (show Ext (At tb) w2 w2.drew from (Ext.refl No _).drew.ofNo)
   have HTP := Lib.hid (hm2.out.tape.ext (show Ext No w2 w2.drew from (Ext.refl No _).drew))
   generalize w2.drew = v0 at *
   refine hHs [0] (hHl hHeld ?_)
   clear hHeld
   refine hFn ?_ (fun w => ?_) ?_
   rotate_left
   ·go_simp; (try with_reducible rfl)
   simp only [Act.put, nzA, nzB, nzC]
   refine hHe fun hHeld => ?_
   refine hHs [1] (hHl hHeld ?_)
   clear hHeld
   refine hHn ?_ (fun w hSw => ?_) ?_
   rotate_left
   ·(have q0 := cellOf ((show Ext (At tb) w2 _ from hSw).blk HQb.out HNQ.out)); go_simp; (try with_reducible rfl)
   simp only [Act.put, nzA, nzB, nzC]
   refine hHe fun hHeld => ?_
   refine hHs [2, 3, 4] (hHl hHeld ?_)
   clear hHeld
   iterate 3
    refine hFn ?_ (fun w => ?_) ?_
    rotate_left
    ·go_simp; (try with_reducible rfl)
    simp only [Act.put, nzA, nzB, nzC]
   refine hHe fun hHeld => ?_
   refine hHs [5] (hHl hHeld ?_)
   clear hHeld
   refine hHn ?_ (fun w hSw => ?_) ?_
   rotate_left
   ·(have q0 := cellOf ((show Ext (At tb) w2 _ from hSw).blk HQb.out HNQ.out)); go_simp; (try with_reducible rfl)
   simp only [Act.put, nzA, nzB, nzC]
   refine hHe fun hHeld => ?_
   refine hHs [6, 7] (hHl hHeld ?_)
   clear hHeld
   iterate 2
    refine hFn ?_ (fun w => ?_) ?_
    rotate_left
    ·go_simp; (try with_reducible rfl)
    simp only [Act.put, nzA, nzB, nzC]
   refine hHe fun hHeld => ?_
   refine hHs [8] (hHl hHeld ?_)
   clear hHeld
   refine hHn ?_ (fun w hSw => ?_) ?_
   rotate_left
   ·(obtain ⟨p0, p1⟩ := HTC.out); (have q0 := (show Ext (At tb) w2 _ from hSw).keepM p0 HNS.out); (have q1 := (show Ext (At tb) w2 _ from hSw).keepM p1 HNS.out); go_simp; (try with_reducible rfl)
   simp only [Act.put, nzA, nzB, nzC]
   refine hHe fun hHeld => ?_
   refine heldL_next1 (i := 9) (by kernel_rfl) (NextL.mk rfl rfl (fun K hK => ?_))
   (go_simp; (go_at_call 46); (refine (spoilS_any tb t.1 _ _ (WordsAt.mono (HTR.out.ext HE.out (fun i _ e => e)) (fun _ _ x => x.elim)) (by omega) HTP.out).mono ?_); (rintro e5 v1 ⟨z5, g1, g2, l5, rfl, hr5, htA, hyA⟩); go_simp)
   refine hK.out _ _ ?_ (fun hNew => ?_)
   ·intro _; exact HE.out.trans hyA
   clear hK K hHeld
   have hHeld := hNew
   clear hNew
   have HRN := Lib.hid (hr5.out.mono (M' := fun b => b = W.heap.size + 1 ∨ b = gS) (fun i _ e => by unfold Lo; have h1 := HE.out.size; have h3 := lt_of_block hm2.out.boxC; have h4 := (hm2.out.b.lt gS rfl).2; omega))
   replace HTP := Lib.hid htA
   replace HE := Lib.hid (HE.out.trans hyA)
   have hmv := Lib.hid (hm2.out.step HE.out HTP.out)
   clear htA hyA hr5
   try simp only [Act.put, nzA, nzB, nzC]
   refine hHs [10] (hHl hHeld ?_)
   clear hHeld
   refine hFn ?_ (fun w => ?_) ?_
   rotate_left
   ·go_simp; (try with_reducible rfl)
   simp only [Act.put, nzA, nzB, nzC]
   refine hHe fun hHeld => ?_
   refine heldL_next1 (i := 11) (by kernel_rfl) (NextL.mk rfl rfl (fun K hK => ?_))
   ((obtain ⟨p0, p1⟩ := HTC.out); (have x0 := HE.out.keepM p0 HNS.out); (have x1 := HE.out.keepM p1 HNS.out); (have hf9 : ∀ j, v1.frozen? ⟨gS, j, none⟩ = false := fun j => World.ownsRow.frozenAt hmv.out.b.own j); go_simp; (clear p0 p1 x0 x1 hf9))
   refine hK.out _ _ ?_ (fun hNew => ?_)
   ·exact fun h => absurd h (by decide)
   clear hK K hHeld
   have hHeld := hNew
   clear hNew
   try simp only [Act.put, nzA, nzB, nzC]
   refine heldL_done (by kernel_rfl) ?_ _
   have hme := Lib.hid (show SyE tb W ((v1.setCell ⟨gS, k * 2, none⟩ (.int .i64 z5)).setCell ⟨gS, k * 2 + 1, none⟩ (.slice g1 l5.length g2)) Q x (.slice (some ⟨gD, 0, none⟩) Ld.length cD) (.slice (some ⟨gT, 0, none⟩) Lt.length cT) (.slice (some ⟨gS, 0, none⟩) Lb.length cS) Ld Lt (Lb.set k (⟨z5, l5⟩, .slice g1 l5.length g2)) from hmv.out.putS (i := k) (p := (⟨z5, l5⟩, .slice g1 l5.length g2)) hkS HRN.out)
   go_upto_region 15 with (fail)
   generalize ((v1.setCell ⟨gS, k * 2, none⟩ (.int .i64 z5)).setCell ⟨gS, k * 2 + 1, none⟩ (.slice g1 l5.length g2)) = w3 at *
   have cQ := cellOf hme.out.boxQ
   have cC := cellOf hme.out.boxC
   have fC := freeOf hme.out.boxC
   have hE4 := set4 w3 (W.heap.size + 1) (.int .i64 x) (.slice (some ⟨gD, 0, none⟩) Ld.length cD) (.slice (some ⟨gT, 0, none⟩) Lt.length cT) (.slice (some ⟨gS, 0, none⟩) Lb.length cS)
   have hbF := fin4 hme.out.boxC (.int .i64 x) (.slice (some ⟨gD, 0, none⟩) Ld.length cD) (.slice (some ⟨gT, 0, none⟩) Lt.length cT) (.slice (some ⟨gS, 0, none⟩) Lb.length cS)
   go_wp2_with fail
   generalize ((((w3.setCell ⟨W.heap.size + 1, 0, none⟩ (.int .i64 x)).setCell ⟨W.heap.size + 1, 1, none⟩ (.slice (some ⟨gD, 0, none⟩) Ld.length cD)).setCell ⟨W.heap.size + 1, 2, none⟩ (.slice (some ⟨gT, 0, none⟩) Lt.length cT)).setCell ⟨W.heap.size + 1, 3, none⟩ (.slice (some ⟨gS, 0, none⟩) Lb.length cS)) = WF at *
   have cF := cellOf hbF
   refine ret_ex rfl ?_
   simp [results, Tryz.results13, go_sem, cF]
   obtain ⟨y1, y2, y3⟩ := hme.out.fin hE4
   exact ⟨_, _, _, _, _, _, _, rfl, y1, y2, y3⟩
  ·have cQ := cellOf hm2.out.boxQ
   have fQ := freeOf hm2.out.boxQ
   have hrow := (hm2.out.yq.d).row
   have hcap : Ld.length ≤ cD := by
    obtain ⟨_, _, a', c', h3, h9, _⟩ := hrow
    simp only [Value.slice.injEq] at h3
    obtain ⟨_, _, rfl⟩ := h3
    exact h9.1
   have hcz : (Ld.length : Int) ≤ (cD : Int) := by omega
   have h1z : (1 : Int) ≤ (Ld.length : Int) := by omega
   have h1c : (1 : Int) ≤ (cD : Int) := by omega
   have HROW := Lib.hid (Row.drop hrow (k := 1) hn1)
   clear hrow
   go_upto_region 15 with (fail)
   obtain ⟨aX, haX⟩ : ∃ aX : Option Addr, aX = (if cD = 1 then some ⟨gD, 0, none⟩ else some ⟨gD, 1, none⟩) := ⟨_, rfl⟩
   have hyd : LAt kD (fun b => b = W.heap.size + 1 ∨ b = Q) w2 (.slice aX (Ld.length - 1) (cD - 1)) (Ld.drop 1) := by
    rw [haX]
    by_cases hc1 : cD = 1
    ·rw [if_pos hc1, show Ld.length - 1 = 0 by omega, List.drop_eq_nil_of_le (by omega), hc1]
     exact LAt.nil _ _ (Nat.zero_le _)
    rw [if_neg hc1]
    refine ⟨?_, fun p hp => hm2.out.yq.d.ok p (List.mem_of_mem_drop hp)⟩
    have h := HROW.out
    rw [List.length_drop]
    have e : (Ld.drop 1).flatMap kD.cells = (Ld.flatMap kD.cells).drop (1 * kD.s) := by
     cases Ld with
     | nil => rfl
     | cons q L => simp [kD]
    rw [e]
    exact h
   rw [← haX]
   clear haX
   have hme := Lib.hid (show SyE tb W (w2.setCell ⟨Q, 1, none⟩ (.slice aX (Ld.length - 1) (cD - 1))) Q x (.slice aX (Ld.length - 1) (cD - 1)) (.slice (some ⟨gT, 0, none⟩) Lt.length cT) (.slice (some ⟨gS, 0, none⟩) Lb.length cS) (Ld.drop 1) Lt Lb from hm2.out.putQ 1 _ rfl ⟨hyd, hm2.out.yq.t, hm2.out.yq.b⟩)
   generalize (w2.setCell ⟨Q, 1, none⟩ (.slice aX (Ld.length - 1) (cD - 1))) = w3 at *
   clear cQ fQ
   have cQ := cellOf hme.out.boxQ
   have cC := cellOf hme.out.boxC
   have fC := freeOf hme.out.boxC
   have hE4 := set4 w3 (W.heap.size + 1) (.int .i64 x) (.slice aX (Ld.length - 1) (cD - 1)) (.slice (some ⟨gT, 0, none⟩) Lt.length cT) (.slice (some ⟨gS, 0, none⟩) Lb.length cS)
   have hbF := fin4 hme.out.boxC (.int .i64 x) (.slice aX (Ld.length - 1) (cD - 1)) (.slice (some ⟨gT, 0, none⟩) Lt.length cT) (.slice (some ⟨gS, 0, none⟩) Lb.length cS)
   go_wp2_with fail
   generalize ((((w3.setCell ⟨W.heap.size + 1, 0, none⟩ (.int .i64 x)).setCell ⟨W.heap.size + 1, 1, none⟩ (.slice aX (Ld.length - 1) (cD - 1))).setCell ⟨W.heap.size + 1, 2, none⟩ (.slice (some ⟨gT, 0, none⟩) Lt.length cT)).setCell ⟨W.heap.size + 1, 3, none⟩ (.slice (some ⟨gS, 0, none⟩) Lb.length cS)) = WF at *
   have cF := cellOf hbF
   refine ret_ex rfl ?_
   simp [results, Tryz.results13, go_sem, cF]
   obtain ⟨y1, y2, y3⟩ := hme.out.fin hE4
   exact ⟨_, _, _, _, _, _, _, rfl, y1, y2, y3⟩
  have cQ := cellOf hm2.out.boxQ
  have hTz : 0 < Lt.length := by omega
  have hTzz : (0 : Int) < (Lt.length : Int) := by omega
  have HQb := Lib.hid hm2.out.boxQ
  have HNQ : Hid (¬ At tb Q) := Lib.hid (by unfold At; have := hm2.out.low; have := hm2.out.tb1; omega)
  have HND : Hid (¬ At tb gD) := Lib.hid (by unfold At; have := (hm2.out.d.lt gD rfl).1; have := hm2.out.tb1; omega)
  have HNT : Hid (¬ At tb gT) := Lib.hid (by unfold At; have := (hm2.out.t.lt gT rfl).1; have := hm2.out.tb1; omega)
  have HNS : Hid (¬ At tb gS) := Lib.hid (by unfold At; have := (hm2.out.b.lt gS rfl).1; have := hm2.out.tb1; omega)
  have hmE : RawTAt (fun b => HiB W tb b ∨ Value.ownBlock (.slice (some ⟨gT, 0, none⟩) Lt.length cT) = some b) w2 (Lt[0]'hTz).2.1 (Lt[0]'hTz).2.2.1 (Lt[0]'hTz).2.2.2 (Lt[0]'hTz).1 := hm2.out.t.ok (Lt[0]'hTz) (List.getElem_mem hTz)
  have hfit := HV.out.trs (Lt[0]'hTz) (List.getElem_mem hTz)
  have c0 : w2.cell? ⟨gT, 0, none⟩ = some (.int .i64 (Lt[0]'hTz).1.gen.width) := hm2.out.t.cellAt (i := 0) (j := 0) hTz (by decide) rfl
  have c1 : w2.cell? ⟨gT, 1, none⟩ = some (Lt[0]'hTz).2.1 := hm2.out.t.cellAt (i := 0) (j := 1) hTz (by decide) rfl
  have c2 : w2.cell? ⟨gT, 2, none⟩ = some (.int .i64 (Lt[0]'hTz).1.kill.width) := hm2.out.t.cellAt (i := 0) (j := 2) hTz (by decide) rfl
  have c3 : w2.cell? ⟨gT, 3, none⟩ = some (Lt[0]'hTz).2.2.1 := hm2.out.t.cellAt (i := 0) (j := 3) hTz (by decide) rfl
  have c4 : w2.cell? ⟨gT, 4, none⟩ = some (Lt[0]'hTz).2.2.2 := hm2.out.t.cellAt (i := 0) (j := 4) hTz (by decide) rfl
  have hmem : (Lt[0]'hTz) ∈ Lt := List.getElem_mem hTz
  obtain ⟨t, hte⟩ : ∃ t, t = (Lt[0]'hTz) := ⟨_, rfl⟩
  rw [← hte] at hmE c0 c1 c2 c3 c4 hfit hmem
  obtain ⟨f1, f2, he2⟩ := hmE.gen.slice
  obtain ⟨f3, f4, he3⟩ := hmE.kill.slice
  obtain ⟨f5, f6, he4⟩ := Row.slice hmE.copies
  have HSH := Lib.hid (And.intro he2 (And.intro he3 he4))
  have hsm := fitT_small hfit hmE.gen.lt hmE.kill.lt
  rw [he2] at c1 hmE
  rw [he3] at c3 hmE
  rw [he4] at c4 hmE
  have HTC := Lib.hid (And.intro c0 (And.intro c1 (And.intro c2 (And.intro c3 c4))))
  have HTR := Lib.hid (hmE.mono (M' := (fun b => b = tb ∨ b = W.heap.size + 1 ∨ b = gT)) (fun i hi e => by
   rcases e with e | e | e
   ·exact .inl (.inl e)
   ·exact .inl (.inr (by omega))
   exact .inr (by rw [e]; rfl)))
  clear hmE hfit c0 c1 c2 c3 c4 hte
  go_upto_region 4 with (fail)
  clear cQ
  refine wp_region_heldL [7, 9] (fun w' => Ext (At tb) w2 w') (by kernel_rfl) ?_ (fun hHeld => ?_)
  ·exact (Ext.refl No _).drew.ofNo
  have HE := Lib.hid (show Ext (At tb) w2 w2.drew from (Ext.refl No _).drew.ofNo)
  have HTP := Lib.hid (hm2.out.tape.ext (show Ext No w2 w2.drew from (Ext.refl No _).drew))
  generalize w2.drew = v0 at *
  refine hHs [0] (hHl hHeld ?_)
  clear hHeld
  refine hFn ?_ (fun w => ?_) ?_
  rotate_left
  ·go_simp; (try with_reducible rfl)
  simp only [Act.put, nzA, nzB, nzC]
  refine hHe fun hHeld => ?_
  refine hHs [1] (hHl hHeld ?_)
  clear hHeld
  refine hHn ?_ (fun w hSw => ?_) ?_
  rotate_left
  ·(have q0 := cellOf ((show Ext (At tb) w2 _ from hSw).blk HQb.out HNQ.out)); go_simp; (try with_reducible rfl)
  simp only [Act.put, nzA, nzB, nzC]
  refine hHe fun hHeld => ?_
  refine hHs [2] (hHl hHeld ?_)
  clear hHeld
  refine hFn ?_ (fun w => ?_) ?_
  rotate_left
  ·go_simp; (try with_reducible rfl)
  simp only [Act.put, nzA, nzB, nzC]
  refine hHe fun hHeld => ?_
  refine hHs [3] (hHl hHeld ?_)
  clear hHeld
  refine hHn ?_ (fun w hSw => ?_) ?_
  rotate_left
  ·(have q0 := cellOf ((show Ext (At tb) w2 _ from hSw).blk HQb.out HNQ.out)); go_simp; (try with_reducible rfl)
  simp only [Act.put, nzA, nzB, nzC]
  refine hHe fun hHeld => ?_
  refine hHs [4] (hHl hHeld ?_)
  clear hHeld
  refine hFn ?_ (fun w => ?_) ?_
  rotate_left
  ·go_simp; (try with_reducible rfl)
  simp only [Act.put, nzA, nzB, nzC]
  refine hHe fun hHeld => ?_
  refine hHs [5] (hHl hHeld ?_)
  clear hHeld
  refine hHn ?_ (fun w hSw => ?_) ?_
  rotate_left
  ·(obtain ⟨p0, p1, p2, p3, p4⟩ := HTC.out); (have q0 := (show Ext (At tb) w2 _ from hSw).keepM p0 HNT.out); (have q1 := (show Ext (At tb) w2 _ from hSw).keepM p1 HNT.out); (have q2 := (show Ext (At tb) w2 _ from hSw).keepM p2 HNT.out); (have q3 := (show Ext (At tb) w2 _ from hSw).keepM p3 HNT.out); (have q4 := (show Ext (At tb) w2 _ from hSw).keepM p4 HNT.out); go_simp; (try with_reducible rfl)
  simp only [Act.put, nzA, nzB, nzC]
  refine hHe fun hHeld => ?_
  refine heldL_next1 (i := 6) (by kernel_rfl) (NextL.mk rfl rfl (fun K hK => ?_))
  go_simp
  refine hK.out _ _ ?_ (fun hNew => ?_)
  ·intro _; exact HE.out.alloc _
  clear hK K hHeld
  have hHeld := hNew
  clear hNew
  have hLb := Lib.hid (alloc_top (w := v0) (o := (.cells #[.int .i64 t.1.gen.width, .slice f1 t.1.gen.words.length f2, .int .i64 t.1.kill.width, .slice f3 t.1.kill.words.length f4, .slice f5 t.1.copies.length f6] 69)) rfl)
  replace HE := Lib.hid (HE.out.alloc (.cells #[.int .i64 t.1.gen.width, .slice f1 t.1.gen.words.length f2, .int .i64 t.1.kill.width, .slice f3 t.1.kill.words.length f4, .slice f5 t.1.copies.length f6] 69))
  replace HTP := Lib.hid (HTP.out.ext ((Ext.refl No v0).alloc (.cells #[.int .i64 t.1.gen.width, .slice f1 t.1.gen.words.length f2, .int .i64 t.1.kill.width, .slice f3 t.1.kill.words.length f4, .slice f5 t.1.copies.length f6] 69)))
  have hmv := Lib.hid (hm2.out.step HE.out HTP.out)
  have hWs : W.heap.size + 2 ≤ (v0.alloc (.cells #[.int .i64 t.1.gen.width, .slice f1 t.1.gen.words.length f2, .int .i64 t.1.kill.width, .slice f3 t.1.kill.words.length f4, .slice f5 t.1.copies.length f6] 69)).heap.size := by have h3 := lt_of_block hmv.out.boxC; omega
  generalize (v0.alloc (.cells #[.int .i64 t.1.gen.width, .slice f1 t.1.gen.words.length f2, .int .i64 t.1.kill.width, .slice f3 t.1.kill.words.length f4, .slice f5 t.1.copies.length f6] 69)) = v1 at *
  generalize v0.heap.size = BL at *
  try simp only [Act.put, nzA, nzB, nzC]
  refine heldL_next1 (i := 7) (by kernel_rfl) (NextL.mk rfl rfl (fun K hK => ?_))
  ((refine wp_app _ (.tmp 30) (.tmp 35) 24 rfl (W.heap.size + 2) 69 iT _ 5 88 Tryz.underlying24 hiT hT0 hT1 hT2 rfl (by omega) (.slice (some ⟨gT, 0, none⟩) Lt.length cT) Lt.length (Lt.flatMap kT.cells) rfl hmv.out.t.own No (some ⟨BL, 0, none⟩) 1 1 [.int .i64 t.1.gen.width, .slice f1 t.1.gen.words.length f2, .int .i64 t.1.kill.width, .slice f3 t.1.kill.words.length f4, .slice f5 t.1.copies.length f6] rfl (Row.block hLb.out rfl no_no (by omega)) (by simp [Value.oneCell']) (by omega) (by omega) hWs ?_); (intro v9 w9 hown1 hg1 hv1))
  refine hK.out _ _ ?_ (fun hNew => ?_)
  ·exact fun h => absurd h (by decide)
  clear hK K hHeld
  have hHeld := hNew
  clear hNew
  have hkc : kT.cells t = [.int .i64 t.1.gen.width, .slice f1 t.1.gen.words.length f2, .int .i64 t.1.kill.width, .slice f3 t.1.kill.words.length f4, .slice f5 t.1.copies.length f6] := by
   show [Value.int .i64 t.1.gen.width, t.2.1, .int .i64 t.1.kill.width, t.2.2.1, t.2.2.2] = _
   rw [HSH.out.1, HSH.out.2.1, HSH.out.2.2]
  have hm9 := Lib.hid (hmv.out.appT (p := t) hmem (by rw [hkc]; exact hown1) hg1 hv1)
  obtain ⟨aR, cR, hs9⟩ := hm9.out.t.slice
  rw [List.length_append] at hs9
  subst hs9
  clear hkc hown1 hg1 hv1 hmv hLb hWs
  generalize w9 = v2 at *
  try simp only [Act.put, nzA, nzB, nzC]
  refine hHs [8] (hHl hHeld ?_)
  clear hHeld
  refine hFn ?_ (fun w => ?_) ?_
  rotate_left
  ·go_simp; (try with_reducible rfl)
  simp only [Act.put, nzA, nzB, nzC]
  refine hHe fun hHeld => ?_
  refine heldL_next1 (i := 9) (by kernel_rfl) (NextL.mk rfl rfl (fun K hK => ?_))
  ((have cX := cellOf hm9.out.boxQ); (have fX := freeOf hm9.out.boxQ); go_simp; (clear cX fX))
  refine hK.out _ _ ?_ (fun hNew => ?_)
  ·exact fun h => absurd h (by decide)
  clear hK K hHeld
  have hHeld := hNew
  clear hNew
  try simp only [Act.put, nzA, nzB, nzC]
  refine heldL_done (by kernel_rfl) ?_ _
  have hme := Lib.hid (show SyE tb W (v2.setCell ⟨Q, 2, none⟩ (.slice aR (Lt.length + 1) cR)) Q x (.slice (some ⟨gD, 0, none⟩) Ld.length cD) (.slice aR (Lt.length + 1) cR) (.slice (some ⟨gS, 0, none⟩) Lb.length cS) Ld (Lt ++ [t]) Lb from hm9.out.putQ 2 _ rfl hm9.out.yq)
  go_upto_region 15 with (fail)
  generalize (v2.setCell ⟨Q, 2, none⟩ (.slice aR (Lt.length + 1) cR)) = w3 at *
  have cQ := cellOf hme.out.boxQ
  have cC := cellOf hme.out.boxC
  have fC := freeOf hme.out.boxC
  have hE4 := set4 w3 (W.heap.size + 1) (.int .i64 x) (.slice (some ⟨gD, 0, none⟩) Ld.length cD) (.slice aR (Lt.length + 1) cR) (.slice (some ⟨gS, 0, none⟩) Lb.length cS)
  have hbF := fin4 hme.out.boxC (.int .i64 x) (.slice (some ⟨gD, 0, none⟩) Ld.length cD) (.slice aR (Lt.length + 1) cR) (.slice (some ⟨gS, 0, none⟩) Lb.length cS)
  go_wp2_with fail
  generalize ((((w3.setCell ⟨W.heap.size + 1, 0, none⟩ (.int .i64 x)).setCell ⟨W.heap.size + 1, 1, none⟩ (.slice (some ⟨gD, 0, none⟩) Ld.length cD)).setCell ⟨W.heap.size + 1, 2, none⟩ (.slice aR (Lt.length + 1) cR)).setCell ⟨W.heap.size + 1, 3, none⟩ (.slice (some ⟨gS, 0, none⟩) Lb.length cS)) = WF at *
  have cF := cellOf hbF
  refine ret_ex rfl ?_
  simp [results, Tryz.results13, go_sem, cF]
  obtain ⟨y1, y2, y3⟩ := hme.out.fin hE4
  exact ⟨_, _, _, _, _, _, _, rfl, y1, y2, y3⟩

/- FixpointJoins: the plain law; two lists of sets under way. -/
import Derived.Test.YtkdjdhflhlbelaaF10
import Derived.Test.YtkdjdhflhlbelaaHeldL
set_option linter.unusedVariables false
set_option linter.unusedSimpArgs false
namespace Go.Proofs.Ytkdjdhflhlbelaa
open Go Go.RowKit
def withB (S : SysD) (bs : List Nat) : SysD := ⟨S.w, S.deps, S.trs, bs⟩
theorem SysOk.withB {S : SysD} {bs : List Nat} (h : SysOk S) (hl : bs.length = S.deps.length) (hm : ∀ m ∈ bs, m < 2 ^ S.w) : SysOk (withB S bs) := ⟨h.w, h.n1, h.n2, h.lt, hl, h.asc, h.tot, h.trs, hm⟩
def orV (xs ys : List Nat) (k : Nat) : List Nat := (List.range k).map fun i => orN (rowD xs i) (rowD ys i)
theorem orV_len (xs ys : List Nat) (k : Nat) : (orV xs ys k).length = k := by simp [orV]
theorem orV_snoc (xs ys : List Nat) (k : Nat) : orV xs ys (k + 1) = orV xs ys k ++ [orN (rowD xs k) (rowD ys k)] := by simp [orV, List.range_succ]
theorem orV_row {xs ys : List Nat} {k i : Nat} (hi : i < k) : rowD (orV xs ys k) i = orN (rowD xs i) (rowD ys i) := by
  rw [rowD_get (by rw [orV_len]; exact hi)]; simp [orV]
theorem iter_fix_all {S : SysD} {R : Nat} (h : FixAt S R) : nextD S (iterD S R) = iterD S R := h.fix
theorem next_row {S : SysD} {vs : List Nat} {i : Nat} (hi : i < S.deps.length) : rowD (nextD S vs) i = rightD S vs i := nextTo_row hi
/-- the least solution of the union of the boundaries is the union of the least solutions -/
theorem joins_law {S : SysD} {xs : List Nat} {R1 R2 R3 : Nat} (hS : SysOk S) (hl : xs.length = S.deps.length) (hm : ∀ m ∈ xs, m < 2 ^ S.w) (h1 : FixAt S R1) (h2 : FixAt (withB S xs) R2) (h3 : FixAt (withB S (orV xs S.bnd S.deps.length)) R3) :
    ∀ i, i < S.deps.length → orN (rowD (iterD S R1) i) (rowD (iterD (withB S xs) R2) i) = rowD (iterD (withB S (orV xs S.bnd S.deps.length)) R3) i := by
  have hX := hS.withB hl hm
  have hrow : ∀ i, rowD xs i < 2 ^ S.w := fun i => hX.bn i
  have hmo : ∀ m ∈ orV xs S.bnd S.deps.length, m < 2 ^ S.w := fun m hm2 => by
    obtain ⟨i, _, rfl⟩ := List.mem_map.1 hm2
    exact orN_lt' (hrow i) (hS.bn i)
  have hO := hS.withB (orV_len xs S.bnd S.deps.length) hmo
  have g1 := good_iter hS R1
  have g2 : GoodV S (iterD (withB S xs) R2) := ⟨(good_iter hX R2).len, (good_iter hX R2).lt⟩
  have g3 : GoodV S (iterD (withB S (orV xs S.bnd S.deps.length)) R3) := ⟨(good_iter hO R3).len, (good_iter hO R3).lt⟩
  -- each solution lies in the third
  have f3 : LeV (withB S (orV xs S.bnd S.deps.length)) (nextD (withB S (orV xs S.bnd S.deps.length)) (iterD (withB S (orV xs S.bnd S.deps.length)) R3)) (iterD (withB S (orV xs S.bnd S.deps.length)) R3) := by rw [iter_fix_all h3]; exact LeV.refl _ _
  have a1 : LeV S (iterD S R1) (iterD (withB S (orV xs S.bnd S.deps.length)) R3) := by
    refine iter_least hS (fun i hi => fun b hb => f3 i hi b ?_) R1
    rw [next_row hi] at hb
    rw [next_row (show i < (withB S (orV xs S.bnd S.deps.length)).deps.length from hi)]
    rcases (right_bit S _ i b).1 hb with h | h
    · exact (right_bit (withB S (orV xs S.bnd S.deps.length)) _ i b).2 (.inl (by show (rowD (orV xs S.bnd S.deps.length) i).testBit b = true; rw [orV_row hi]; exact (orN_bit _ _ b).2 (.inr h)))
    · exact (right_bit (withB S (orV xs S.bnd S.deps.length)) _ i b).2 (.inr h)
  have a2 : LeV (withB S xs) (iterD (withB S xs) R2) (iterD (withB S (orV xs S.bnd S.deps.length)) R3) := by
    refine iter_least hX (fun i hi => fun b hb => f3 i hi b ?_) R2
    rw [next_row (show i < (withB S xs).deps.length from hi)] at hb
    rw [next_row (show i < (withB S (orV xs S.bnd S.deps.length)).deps.length from hi)]
    rcases (right_bit (withB S xs) _ i b).1 hb with h | h
    · exact (right_bit (withB S (orV xs S.bnd S.deps.length)) _ i b).2 (.inl (by show (rowD (orV xs S.bnd S.deps.length) i).testBit b = true; rw [orV_row (show i < S.deps.length from hi)]; exact (orN_bit _ _ b).2 (.inl h)))
    · exact (right_bit (withB S (orV xs S.bnd S.deps.length)) _ i b).2 (.inr h)
  -- the union is closed
  let U := orV (iterD S R1) (iterD (withB S xs) R2) S.deps.length
  have hU : GoodV S U := ⟨orV_len _ _ _, fun m hm2 => by
    obtain ⟨i, _, rfl⟩ := List.mem_map.1 hm2
    exact orN_lt' (g1.row i) (g2.row i)⟩
  have a3 : LeV (withB S (orV xs S.bnd S.deps.length)) (iterD (withB S (orV xs S.bnd S.deps.length)) R3) U := by
    refine iter_least hO (fun i hi => fun b hb => ?_) R3
    have hi' : i < S.deps.length := hi
    rw [next_row (show i < (withB S (orV xs S.bnd S.deps.length)).deps.length from hi)] at hb
    show (rowD (orV (iterD S R1) (iterD (withB S xs) R2) S.deps.length) i).testBit b = true
    rw [orV_row hi', orN_bit]
    have k1 : rowD (iterD S R1) i = rightD S (iterD S R1) i := by
      have := congrArg (fun l => rowD l i) (iter_fix_all h1)
      rw [next_row hi'] at this
      exact this.symm
    have k2 : rowD (iterD (withB S xs) R2) i = rightD (withB S xs) (iterD (withB S xs) R2) i := by
      have := congrArg (fun l => rowD l i) (iter_fix_all h2)
      rw [next_row (show i < (withB S xs).deps.length from hi)] at this
      exact this.symm
    rcases (right_bit (withB S (orV xs S.bnd S.deps.length)) _ i b).1 hb with h | ⟨m, hm2, h⟩
    · have h' : (rowD (orV xs S.bnd S.deps.length) i).testBit b = true := h
      rw [orV_row hi', orN_bit] at h'
      rcases h' with h' | h'
      · exact .inr (by rw [k2]; exact (right_bit (withB S xs) _ i b).2 (.inl h'))
      · exact .inl (by rw [k1]; exact (right_bit S _ i b).2 (.inl h'))
    · have hml : m < S.deps.length := hS.dep hm2
      obtain ⟨t1, t2⟩ := hS.tr hml
      have h' : (applyT (trD S m) (rowD (orV (iterD S R1) (iterD (withB S xs) R2) S.deps.length) m)).testBit b = true := h
      rw [orV_row hml, app_or t1 (by rw [t2]; exact g1.row m) (by rw [t2]; exact g2.row m), orN_bit] at h'
      rcases h' with h' | h'
      · exact .inl (by rw [k1]; exact (right_bit S _ i b).2 (.inr ⟨m, hm2, h'⟩))
      · exact .inr (by rw [k2]; exact (right_bit (withB S xs) _ i b).2 (.inr ⟨m, hm2, h'⟩))
  intro i hi
  refine LeB.anti (LeB.or (a1 i hi) (a2 i hi)) ?_
  have := a3 i hi
  rw [show rowD U i = orN (rowD (iterD S R1) i) (rowD (iterD (withB S xs) R2) i) from orV_row hi] at this
  exact this
/-! ### two lists under way -/
def HA (X : Nat) (vB vC : Value) : Nat → Prop := fun b => b ≤ X ∨ vB.ownBlock = some b ∨ vC.ownBlock = some b
structure TwL (wr : World) (X : Nat) (vB vC : Value) (LB LC : LS) : Prop where
  b : LOwn kS (HA X vB vC) wr (X + 1) vB LB
  c : LOwn kS (HA X vB vC) wr (X + 1) vC LC
  bc : ∀ k, vB.ownBlock = some k → vC.ownBlock ≠ some k
section
variable {wr w' : World} {X : Nat} {vB vC v' : Value} {LB LC : LS} {p : RawSet × Value}
theorem TwL.step {M : Nat → Prop} (h : TwL wr X vB vC LB LC) (hx : Ext M wr w') (hM : ∀ i, i < wr.heap.size → M i → i ≤ X) : TwL w' X vB vC LB LC :=
  ⟨h.b.ext2 hx (fun i hi e => by have h1 := h.b.lt i hi; have := hM i h1.2 e; omega) (fun i hi e => .inl (hM i hi e)), h.c.ext2 hx (fun i hi e => by have h1 := h.c.lt i hi; have := hM i h1.2 e; omega) (fun i hi e => .inl (hM i hi e)), h.bc⟩
theorem TwL.hM (h : TwL wr X vB vC LB LC) (hX : X < wr.heap.size) : ∀ b, HA X vB vC b → b < wr.heap.size := fun b hb => by
  rcases hb with hb | hb | hb
  · omega
  · exact (h.b.lt b hb).2
  · exact (h.c.lt b hb).2
theorem TwL.appB (h : TwL wr X vB vC LB LC) (hX : X < wr.heap.size) (hp : kS.ok (HA X vB vC) wr p) (hown : w'.ownsRow (X + 1) kS.T kS.s v' (LB.length + 1) (LB.flatMap kS.cells ++ kS.cells p)) (hg : wr.grownBy w' vB.ownBlock) (hv : v'.ownBlock = vB.ownBlock ∨ v'.ownBlock = some wr.heap.size) : TwL w' X v' vC (LB ++ [p]) LC := by
  have hE : Ext (fun k => vB.ownBlock = some k) wr w' := (Ext.refl _ wr).grown hg (fun k hk _ => hk)
  have hmA : ∀ i, i < wr.heap.size → HA X v' vC i → HA X vB vC i := fun i hi e => by
    rcases e with e | e | e
    · exact .inl e
    · rcases hv with hv | hv
      · rw [hv] at e; exact .inr (.inl e)
      · rw [hv] at e; simp only [Option.some.injEq] at e; omega
    · exact .inr (.inr e)
  have h2 : LOwn kS (HA X vB vC) w' (X + 1) v' (LB ++ [p]) := h.b.app (E := fun k => vB.ownBlock = some k) (kS.mono hp (fun i _ e => by
    rcases e with e | e
    · exact e
    · exact .inr (.inl e))) hown hE (fun _ e => e) (hv.imp id (fun hv k hk => by rw [hv] at hk; simp only [Option.some.injEq] at hk; omega))
  have h3 : LOwn kS (HA X v' vC) w' (X + 1) v' (LB ++ [p]) := ⟨h2.own, fun q hq => kS.mono (h2.ok q hq) (fun i _ e => by
    rcases e with (e | e | e) | e
    · exact .inl (.inl e)
    · exact .inr e
    · exact .inl (.inr (.inr e))
    · exact .inr e)⟩
  have h4 : LOwn kS (fun b => HA X v' vC b ∨ vB.ownBlock = some b) wr (X + 1) vC LC := h.c.mono (fun i hi e => by
    rcases e with e | e
    · exact hmA i hi e
    · exact .inr (.inl e))
  refine ⟨h3, (h4.ext2 hE (fun i hi e => h.bc i e hi) (fun i _ e => .inr e)).mono (fun i _ e => .inl e), fun k hk e => ?_⟩
  rcases hv with hv | hv
  · rw [hv] at hk; exact h.bc k hk e
  · rw [hv] at hk; simp only [Option.some.injEq] at hk; have := (h.c.lt k e).2; omega
theorem TwL.swap (h : TwL wr X vB vC LB LC) : TwL wr X vC vB LC LB :=
  ⟨h.c.mono (fun i _ e => by rcases e with e | e | e; exact .inl e; exact .inr (.inr e); exact .inr (.inl e)), h.b.mono (fun i _ e => by rcases e with e | e | e; exact .inl e; exact .inr (.inr e); exact .inr (.inl e)), fun k hk e => h.bc k e hk⟩
theorem HA_swap {X : Nat} {vB vC : Value} {b : Nat} (h : HA X vB vC b) : HA X vC vB b := by
  rcases h with e | e | e
  · exact .inl e
  · exact .inr (.inr e)
  · exact .inr (.inl e)
theorem TwL.appC (h : TwL wr X vB vC LB LC) (hX : X < wr.heap.size) (hp : kS.ok (HA X vB vC) wr p) (hown : w'.ownsRow (X + 1) kS.T kS.s v' (LC.length + 1) (LC.flatMap kS.cells ++ kS.cells p)) (hg : wr.grownBy w' vC.ownBlock) (hv : v'.ownBlock = vC.ownBlock ∨ v'.ownBlock = some wr.heap.size) : TwL w' X vB v' LB (LC ++ [p]) :=
  (h.swap.appB hX (kS.mono hp (fun _ _ e => HA_swap e)) hown hg hv).swap
/-- what was clear of both lists stays so behind an append onto the first -/
theorem TwL.carryS {sl : Value} {w0 m : Nat} (hs : SetAt (HA X vB vC) wr sl w0 m) (hg : wr.grownBy w' vB.ownBlock) (hv : v'.ownBlock = vB.ownBlock ∨ v'.ownBlock = some wr.heap.size) : SetAt (HA X v' vC) w' sl w0 m := by
  have hE : Ext (fun k => vB.ownBlock = some k) wr w' := (Ext.refl _ wr).grown hg (fun k hk _ => hk)
  refine ((hs.mono (M' := fun b => HA X v' vC b ∨ vB.ownBlock = some b) (fun i hi e => ?_)).ext hE (fun i _ e => .inr e)).mono (fun i _ e => .inl e)
  rcases e with (e | e | e) | e
  · exact .inl e
  · rcases hv with hv | hv
    · rw [hv] at e; exact .inr (.inl e)
    · rw [hv] at e; simp only [Option.some.injEq] at e; omega
  · exact .inr (.inr e)
  · exact .inr (.inl e)
end
end Go.Proofs.Ytkdjdhflhlbelaa

/- Two lists of any kinds under way; slices.Clone of copies. -/
import Derived.Test.YtkdjdhflhlbelaaH7
import Derived.Test.YtkdjdhflhlbelaaF11
set_option linter.unusedVariables false
set_option linter.unusedSimpArgs false
namespace Go.Proofs.Ytkdjdhflhlbelaa
open Go Go.RowKit
theorem infoA8 : (Try.prog.info? 92).map (fun i => (i.zero, i.size, i.bytes)) = some (some (.agg #[.int .i64 0, .int .i64 0, .slice none 0 0, .int .i64 0, .slice none 0 0, .slice none 0 0]), 6, 96) := by kernel_rfl
theorem infoL8 : (Try.prog.info? 87).map (fun i => (i.zero, i.size, i.bytes)) = some (some (.slice none 0 0), 1, 24) := by kernel_rfl
structure Tw2 {β γ : Type} (K1 : EK β) (K2 : EK γ) (wr : World) (X : Nat) (vB vC : Value) (LB : List β) (LC : List γ) : Prop where
  b : LOwn K1 (HA X vB vC) wr (X + 1) vB LB
  c : LOwn K2 (HA X vB vC) wr (X + 1) vC LC
  bc : ∀ k, vB.ownBlock = some k → vC.ownBlock ≠ some k
section
variable {β γ : Type} {K1 : EK β} {K2 : EK γ} {wr w' : World} {X : Nat} {vB vC v' : Value} {LB : List β} {LC : List γ} {p : β} {q : γ}
theorem Tw2.step {M : Nat → Prop} (h : Tw2 K1 K2 wr X vB vC LB LC) (hx : Ext M wr w') (hM : ∀ i, i < wr.heap.size → M i → i ≤ X) : Tw2 K1 K2 w' X vB vC LB LC :=
  ⟨h.b.ext2 hx (fun i hi e => by have h1 := h.b.lt i hi; have := hM i h1.2 e; omega) (fun i hi e => .inl (hM i hi e)), h.c.ext2 hx (fun i hi e => by have h1 := h.c.lt i hi; have := hM i h1.2 e; omega) (fun i hi e => .inl (hM i hi e)), h.bc⟩
theorem Tw2.hM (h : Tw2 K1 K2 wr X vB vC LB LC) (hX : X < wr.heap.size) : ∀ b, HA X vB vC b → b < wr.heap.size := fun b hb => by
  rcases hb with hb | hb | hb
  · omega
  · exact (h.b.lt b hb).2
  · exact (h.c.lt b hb).2
theorem Tw2.appB (h : Tw2 K1 K2 wr X vB vC LB LC) (hX : X < wr.heap.size) (hp : K1.ok (HA X vB vC) wr p) (hown : w'.ownsRow (X + 1) K1.T K1.s v' (LB.length + 1) (LB.flatMap K1.cells ++ K1.cells p)) (hg : wr.grownBy w' vB.ownBlock) (hv : v'.ownBlock = vB.ownBlock ∨ v'.ownBlock = some wr.heap.size) : Tw2 K1 K2 w' X v' vC (LB ++ [p]) LC := by
  have hE : Ext (fun k => vB.ownBlock = some k) wr w' := (Ext.refl _ wr).grown hg (fun k hk _ => hk)
  have hmA : ∀ i, i < wr.heap.size → HA X v' vC i → HA X vB vC i := fun i hi e => by
    rcases e with e | e | e
    · exact .inl e
    · rcases hv with hv | hv
      · rw [hv] at e; exact .inr (.inl e)
      · rw [hv] at e; simp only [Option.some.injEq] at e; omega
    · exact .inr (.inr e)
  have h2 : LOwn K1 (HA X vB vC) w' (X + 1) v' (LB ++ [p]) := h.b.app (E := fun k => vB.ownBlock = some k) (K1.mono hp (fun i _ e => by
    rcases e with e | e
    · exact e
    · exact .inr (.inl e))) hown hE (fun _ e => e) (hv.imp id (fun hv k hk => by rw [hv] at hk; simp only [Option.some.injEq] at hk; omega))
  have h3 : LOwn K1 (HA X v' vC) w' (X + 1) v' (LB ++ [p]) := ⟨h2.own, fun q hq => K1.mono (h2.ok q hq) (fun i _ e => by
    rcases e with (e | e | e) | e
    · exact .inl (.inl e)
    · exact .inr e
    · exact .inl (.inr (.inr e))
    · exact .inr e)⟩
  have h4 : LOwn K2 (fun b => HA X v' vC b ∨ vB.ownBlock = some b) wr (X + 1) vC LC := h.c.mono (fun i hi e => by
    rcases e with e | e
    · exact hmA i hi e
    · exact .inr (.inl e))
  refine ⟨h3, (h4.ext2 hE (fun i hi e => h.bc i e hi) (fun i _ e => .inr e)).mono (fun i _ e => .inl e), fun k hk e => ?_⟩
  rcases hv with hv | hv
  · rw [hv] at hk; exact h.bc k hk e
  · rw [hv] at hk; simp only [Option.some.injEq] at hk; have := (h.c.lt k e).2; omega
theorem Tw2.swap (h : Tw2 K1 K2 wr X vB vC LB LC) : Tw2 K2 K1 wr X vC vB LC LB :=
  ⟨h.c.mono (fun i _ e => by rcases e with e | e | e; exact .inl e; exact .inr (.inr e); exact .inr (.inl e)), h.b.mono (fun i _ e => by rcases e with e | e | e; exact .inl e; exact .inr (.inr e); exact .inr (.inl e)), fun k hk e => h.bc k e hk⟩
theorem Tw2.appC (h : Tw2 K1 K2 wr X vB vC LB LC) (hX : X < wr.heap.size) (hp : K2.ok (HA X vB vC) wr q) (hown : w'.ownsRow (X + 1) K2.T K2.s v' (LC.length + 1) (LC.flatMap K2.cells ++ K2.cells q)) (hg : wr.grownBy w' vC.ownBlock) (hv : v'.ownBlock = vC.ownBlock ∨ v'.ownBlock = some wr.heap.size) : Tw2 K1 K2 w' X vB v' LB (LC ++ [q]) :=
  (h.swap.appB hX (K2.mono hp (fun _ _ e => HA_swap e)) hown hg hv).swap
theorem Tw2.carryA {β γ : Type} {K1 : EK β} {K : EK γ} {wr w' : World} {X : Nat} {vB vC v' sl : Value} {L : List γ} (hs : LAt K (HA X vB vC) wr sl L) (hg : wr.grownBy w' vB.ownBlock) (hv : v'.ownBlock = vB.ownBlock ∨ v'.ownBlock = some wr.heap.size) : LAt K (HA X v' vC) w' sl L := by
  have hE : Ext (fun k => vB.ownBlock = some k) wr w' := (Ext.refl _ wr).grown hg (fun k hk _ => hk)
  refine ((hs.mono (M' := fun b => HA X v' vC b ∨ vB.ownBlock = some b) (fun i hi e => ?_)).ext hE (fun i _ e => .inr e)).mono (fun i _ e => .inl e)
  rcases e with (e | e | e) | e
  · exact .inl e
  · rcases hv with hv | hv
    · rw [hv] at e; exact .inr (.inl e)
    · rw [hv] at e; simp only [Option.some.injEq] at e; omega
  · exact .inr (.inr e)
  · exact .inr (.inl e)
end
theorem copies_one (l : List (Int × Int)) : ∀ u ∈ flatC l, u.oneCell' = true := fun u hu => by
  obtain ⟨p, _, h⟩ := List.mem_flatMap.1 hu
  simp only [CopyC, List.mem_cons, List.not_mem_nil, or_false] at h
  rcases h with rfl | rfl <;> rfl
def ClonCPost (l : List (Int × Int)) (W : World) (e : Ending) (w' : World) : Prop := ∃ a c, e = .returned (.slice a l.length c) ∧ Hid (CopiesAt (Lo W.heap.size) w' (.slice a l.length c) l) ∧ Ext No W w'
set_option maxRecDepth 100000 in
set_option maxHeartbeats 1000000 in
theorem cloneC_any (sl : Value) (l : List (Int × Int)) (W : World) (h : CopiesAt No W sl l) (hn : l.length ≤ 1048576) :
    Calls Try.prog 70 #[sl] W (ClonCPost l W) := by
  obtain ⟨i0, hi, hz0, hz1, hz2⟩ := info_parts infoC
  have H := Lib.hid h
  obtain ⟨a, cap, rfl⟩ := Row.slice h
  clear h
  have ke := fun (w : World) (a : Option Addr) (n c : Nat) => Lib.run_eql_slice_nil (P := Try.prog) w 68 90 a n c 0 0 Try.underlying68
  cases a with
  | none =>
    have h0 : l.length = 0 := by
      rcases H.out.2.2 with ⟨a, c, h1, _, h2 | ⟨b, off, h2, _⟩⟩
      · exact h2
      · simp only [Value.slice.injEq] at h1; rw [h2] at h1; exact absurd h1.1 (by simp)
    have HL := Lib.hid (List.eq_nil_of_length_eq_zero h0)
    clear h0
    go_enter Try.func70, Try.ntmps70
    go_wp2
    go_ret
    refine ⟨none, 0, by rw [HL.out]; rfl, Lib.hid ?_, Ext.refl _ _⟩
    rw [HL.out]
    exact Row.nil _ _ _ _ _ (Nat.zero_le _)
  | some ad =>
    go_enter Try.func70, Try.ntmps70
    go_wp2_with (at_builtin; refine wpList_app _ rfl (.tmp 5) (.tmp 6) 68 rfl W.heap.size 90 i0 _ 2 16 Try.underlying68 hi hz0 hz1 hz2 rfl (by omega) _ 0 [] rfl (World.ownsRow_made W #[] 0 (Nat.le_refl _) (Nat.zero_le _) rfl) No (some ad) l.length cap (flatC l) rfl (Row.extNo H.out ((Ext.refl _ _).alloc _)) (copies_one l) (by omega) (by omega) (by simp) ?_; intro v1 w1 hown hg hat)
    go_ret
    simp only [Nat.zero_add, List.nil_append] at hown
    obtain ⟨a, c, rfl⟩ := (Row.ofOwns (M := No) hown (fun _ _ x => x)).slice
    exact ⟨a, c, rfl, Lib.hid (Row.ofOwns hown (fun b hb e => by unfold Lo at e; omega)), ((Ext.refl _ _).alloc _).grown hg (fun k hk hlt => by cases hk; exact absurd hlt (Nat.lt_irrefl _))⟩
end Go.Proofs.Ytkdjdhflhlbelaa

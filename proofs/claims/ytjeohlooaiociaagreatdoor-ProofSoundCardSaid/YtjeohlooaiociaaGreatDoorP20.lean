/- Rows of numbers, each in a block of its own. -/
import Derived.Test.YtjeohlooaiociaaGreatDoorP19
import Derived.Test.YtjeohlooaiociaaGreatDoorK9
set_option linter.unusedVariables false
set_option linter.unusedSimpArgs false
namespace Go.Proofs.YtjeohlooaiociaaGreatDoor
open Go Go.RowKit
def RwIn (vr : Value) (R : LD) (b : Nat) : Prop := vr.ownBlock = some b ∨ ∃ p ∈ R, p.2.ownBlock = some b
/-- a list of rows under way: each row, and the list itself, in a block of its own from base on -/
structure RwM (w : World) (base : Nat) (vr : Value) (R : LD) : Prop where
 own : w.ownsRow base 22 1 vr R.length (R.flatMap kD.cells)
 row : ∀ p ∈ R, w.ownsRow base 3 1 p.2 p.1.length (p.1.map (.int .i64))
 dis : ∀ i j (hi : i < R.length) (hj : j < R.length), i ≠ j → ∀ b, R[i].2.ownBlock = some b → R[j].2.ownBlock ≠ some b
 out : ∀ p ∈ R, ∀ b, p.2.ownBlock = some b → vr.ownBlock ≠ some b
theorem flat_kD : ∀ R : LD, R.flatMap kD.cells = R.map Prod.snd
 | [] => rfl
 | p :: R => by rw [List.flatMap_cons, flat_kD R]; rfl
section
variable {w w' : World} {base : Nat} {vr v' : Value} {R : LD} {M : Nat → Prop}
theorem RwM.lt (h : RwM w base vr R) (b : Nat) (hb : RwIn vr R b) : base ≤ b ∧ b < w.heap.size := by
 rcases hb with hb | ⟨p, hp, hb⟩
 ·exact World.ownsRow.lt h.own b hb
 ·exact World.ownsRow.lt (h.row p hp) b hb
theorem RwM.ext (h : RwM w base vr R) (hx : Ext M w w') (hm : ∀ b, RwIn vr R b → ¬ M b) : RwM w' base vr R :=
 ⟨row_keep2 h.own hx (fun k hk => hm k (.inl hk)), fun p hp => row_keep2 (h.row p hp) hx (fun k hk => hm k (.inr ⟨p, hp, hk⟩)), h.dis, h.out⟩
theorem RwM.extNo (h : RwM w base vr R) (hx : Ext No w w') : RwM w' base vr R := h.ext hx (fun _ _ x => x)
theorem ints_own {b : Nat} {v : Value} {l : List Int} (h : w.ownsRow b 3 1 v l.length (l.map (.int .i64))) (hm : ∀ k, v.ownBlock = some k → ¬ M k) : Ints M w .i64 v l := by
 have h0 : Row No w 1 v l.length (l.map (.int .i64)) := Row.ofOwns h (fun _ _ x => x)
 obtain ⟨h1, h2, a, c, rfl, hcp, h4⟩ := h0
 refine ⟨h1, h2, a, c, rfl, hcp, ?_⟩
 rcases h4 with h4 | ⟨b, off, h5, h6, _, h8⟩
 ·exact .inl h4
 ·refine .inr ⟨b, off, h5, h6, hm b ?_, h8⟩
  rw [h5]; rfl
theorem RwM.list (h : RwM w base vr R) (hm : ∀ b, RwIn vr R b → ¬ M b) : LAt kD M w vr R := by
 refine ⟨?_, fun p hp => ints_own (h.row p hp) (fun k hk => hm k (.inr ⟨p, hp, hk⟩))⟩
 have h0 : Row No w 1 vr R.length (R.flatMap kD.cells) := Row.ofOwns h.own (fun _ _ x => x)
 obtain ⟨h1, h2, a, c, rfl, hcp, h4⟩ := h0
 refine ⟨h1, h2, a, c, rfl, hcp, ?_⟩
 rcases h4 with h4 | ⟨b, off, h5, h6, _, h8⟩
 ·exact .inl h4
 ·refine .inr ⟨b, off, h5, h6, hm b (.inl ?_), h8⟩
  rw [h5]; rfl
theorem own_shape20 {b n : Nat} {T : TypeId} {v : Value} {xs : List Value} (h : w.ownsRow b T 1 v n xs) (hn : n ≠ 0) : ∃ g cap, v = .slice (some ⟨g, 0, none⟩) n cap ∧ b ≤ g ∧ g < w.heap.size := by
 obtain ⟨h1, h2⟩ := h
 rcases h2 with ⟨_, h3⟩ | ⟨g, cap, cur, rfl, hb, hg, _⟩
 ·exact absurd h3 hn
 ·exact ⟨g, cap, rfl, hb, lt_of_block hg⟩
theorem RwM.shape (h : RwM w base vr R) (hn : R.length ≠ 0) : ∃ g cap, vr = .slice (some ⟨g, 0, none⟩) R.length cap ∧ base ≤ g ∧ g < w.heap.size := own_shape20 h.own hn
theorem RwM.cell {g cap : Nat} (h : RwM w base (.slice (some ⟨g, 0, none⟩) R.length cap) R) {i : Nat} (hi : i < R.length) : w.cell? ⟨g, i, none⟩ = some R[i].2 := by
 have h1 := World.ownsRow.cellAt h.own i (by omega)
 rw [h1, flat_kD]
 simp [hi]
theorem RwM.nil (w : World) (base : Nat) : RwM w base (.slice none 0 0) [] := ⟨⟨by simp, .inl ⟨rfl, rfl⟩⟩, (fun _ h => by cases h), (fun _ _ hi => absurd hi (Nat.not_lt_zero _)), (fun _ h => by cases h)⟩
theorem RwM.slice (h : RwM w base vr R) : ∃ a c, vr = .slice a R.length c := (Row.ofOwns (M := No) h.own (fun _ _ x => x)).slice
/-- a row is appended -/
theorem RwM.add {p : List Int × Value} (h : RwM w base vr R) (hp : w.ownsRow base 3 1 p.2 p.1.length (p.1.map (.int .i64))) (hpn : ∀ b, p.2.ownBlock = some b → ¬ RwIn vr R b)
  (hown : w'.ownsRow base 22 1 v' (R.length + 1) (R.flatMap kD.cells ++ [p.2])) (hx : Ext (fun k => vr.ownBlock = some k) w w') (hv : v'.ownBlock = vr.ownBlock ∨ ∀ k, v'.ownBlock = some k → w.heap.size ≤ k) : RwM w' base v' (R ++ [p]) := by
 have hrow : ∀ q ∈ R ++ [p], w.ownsRow base 3 1 q.2 q.1.length (q.1.map (.int .i64)) ∧ ∀ b, q.2.ownBlock = some b → vr.ownBlock ≠ some b := fun q hq => by
  rcases List.mem_append.1 hq with hq | hq
  ·exact ⟨h.row q hq, h.out q hq⟩
  ·rw [List.mem_singleton.1 hq]; exact ⟨hp, fun b hb e => hpn b hb (.inl e)⟩
 refine ⟨?_, fun q hq => row_keep2 (hrow q hq).1 hx (fun k hk e => (hrow q hq).2 k hk e), fun i j hi hj hij b hb => ?_, fun q hq b hb e => ?_⟩
 ·rw [List.length_append, List.flatMap_append, List.flatMap_cons, List.flatMap_nil, List.append_nil]; exact hown
 ·simp only [List.length_append, List.length_singleton] at hi hj
  rw [List.getElem_append] at hb ⊢
  by_cases h1 : i < R.length
  ·rw [dif_pos h1] at hb
   by_cases h2 : j < R.length
   ·rw [dif_pos h2]; exact h.dis i j h1 h2 hij b hb
   ·rw [dif_neg h2]
    simp only [List.getElem_singleton]
    exact fun e => hpn b e (.inr ⟨_, List.getElem_mem h1, hb⟩)
  ·rw [dif_neg h1] at hb
   simp only [List.getElem_singleton] at hb
   by_cases h2 : j < R.length
   ·rw [dif_pos h2]
    exact fun e => hpn b hb (.inr ⟨_, List.getElem_mem h2, e⟩)
   ·omega
 ·rcases hv with hv | hv
  ·rw [hv] at e; exact (hrow q hq).2 b hb e
  ·have h1 := hv b e
   have h2 := (World.ownsRow.lt (hrow q hq).1 b hb).2
   omega
/-- a number of a row is stored -/
theorem RwM.put {g cap i j : Nat} {l : List Int} (h : RwM w base vr R) (hi : i < R.length) (hg : R[i] = (l, .slice (some ⟨g, 0, none⟩) l.length cap)) (z : Int) :
  RwM (w.setCell ⟨g, j, none⟩ (.int .i64 z)) base vr (R.set i (l.set j z, .slice (some ⟨g, 0, none⟩) l.length cap)) := by
 have hE : Ext (At g) w (w.setCell ⟨g, j, none⟩ (.int .i64 z)) := (Ext.refl (At g) w).setAt _ _
 have hgi : R[i].2.ownBlock = some g := by rw [hg]; rfl
 have hm := List.getElem_mem hi
 have hfl : (R.set i (l.set j z, Value.slice (some ⟨g, 0, none⟩) l.length cap)).flatMap kD.cells = R.flatMap kD.cells := by
  rw [flat_kD, flat_kD, List.map_set]
  refine List.ext_getElem? (fun n => ?_)
  by_cases e : i = n
  ·subst e
   rw [List.getElem?_set_self (by simpa using hi)]
   simp [hi, hg]
  ·rw [List.getElem?_set_ne e]
 have hget : ∀ n (hn : n < R.length) (hn2 : n < (R.set i (l.set j z, Value.slice (some ⟨g, 0, none⟩) l.length cap)).length), ((R.set i (l.set j z, Value.slice (some ⟨g, 0, none⟩) l.length cap))[n]).2 = R[n].2 := fun n hn hn2 => by
  rw [List.getElem_set]
  split
  ·next e => subst e; rw [hg]
  ·rfl
 refine ⟨?_, fun p hp => ?_, fun a b ha hb hab k hk => ?_, fun p hp k hk => ?_⟩
 ·rw [List.length_set, hfl]
  exact row_keep2 h.own hE (fun k hk e => h.out _ hm g hgi (by rw [← show k = g from e]; exact hk))
 ·obtain ⟨n, hn, rfl⟩ := List.getElem_of_mem hp
  have hn' : n < R.length := by simpa using hn
  by_cases e : i = n
  ·subst e
   rw [List.getElem_set_self]
   have h1 := h.row _ hm
   rw [hg] at h1
   have h2 := (World.ownsRow.stored (w := w) h1 j (.int .i64 z)).1
   simp only [List.length_set]
   rw [← List.map_set] at h2
   exact h2
  ·rw [List.getElem_set_ne e]
   exact row_keep2 (h.row _ (List.getElem_mem hn')) hE (fun k hk e2 => h.dis i n hi hn' e g hgi (by rw [← show k = g from e2]; exact hk))
 ·have ha' : a < R.length := by simpa using ha
  have hb' : b < R.length := by simpa using hb
  rw [hget a ha' ha] at hk
  rw [hget b hb' hb]
  exact h.dis a b ha' hb' hab k hk
 ·obtain ⟨n, hn, rfl⟩ := List.getElem_of_mem hp
  have hn' : n < R.length := by simpa using hn
  rw [hget n hn' hn] at hk
  exact h.out _ (List.getElem_mem hn') k hk
/-- a row has grown, and is stored in its place -/
theorem RwM.putRow {go cap i : Nat} {l : List Int} {p : List Int × Value} (h : RwM w base (.slice (some ⟨go, 0, none⟩) R.length cap) R) (hi : i < R.length) (hg : R[i] = p)
  (hown : w'.ownsRow base 3 1 v' l.length (l.map (.int .i64))) (hx : Ext (fun k => p.2.ownBlock = some k) w w') (hv : v'.ownBlock = p.2.ownBlock ∨ ∀ k, v'.ownBlock = some k → w.heap.size ≤ k) :
  RwM (w'.setCell ⟨go, i, none⟩ v') base (.slice (some ⟨go, 0, none⟩) R.length cap) (R.set i (l, v')) := by
 have hE : Ext (At go) w' (w'.setCell ⟨go, i, none⟩ v') := (Ext.refl (At go) w').setAt _ _
 have hm := List.getElem_mem hi
 have hgo : base ≤ go ∧ go < w.heap.size := World.ownsRow.lt h.own go rfl
 have hpo : p.2.ownBlock ≠ some go := fun e => h.out _ hm go (by rw [hg]; exact e) rfl
 have hvg : v'.ownBlock ≠ some go := fun e => by
  rcases hv with hv | hv
  ·exact hpo (hv ▸ e)
  ·have := hv go e; omega
 have hoth : ∀ n (hn : n < R.length), n ≠ i → ∀ k, R[n].2.ownBlock = some k → v'.ownBlock ≠ some k := fun n hn hni k hk e => by
  rcases hv with hv | hv
  ·exact h.dis n i hn hi hni k hk (by rw [hg]; exact hv ▸ e)
  ·have h1 := hv k e
   have h2 := (World.ownsRow.lt (h.row _ (List.getElem_mem hn)) k hk).2
   omega
 refine ⟨?_, fun q hq => ?_, fun a b ha hb hab k hk => ?_, fun q hq k hk => ?_⟩
 ·have h1 := row_keep2 h.own hx (fun k hk e => hpo (by rw [← show go = k from by simpa [Value.ownBlock] using hk] at e; exact e))
  have h2 := (World.ownsRow.stored (w := w') h1 i v').1
  rw [List.length_set, flat_kD, List.map_set, ← flat_kD]
  exact h2
 ·obtain ⟨n, hn, rfl⟩ := List.getElem_of_mem hq
  have hn' : n < R.length := by simpa using hn
  by_cases e : i = n
  ·subst e
   rw [List.getElem_set_self]
   exact row_keep2 hown hE (fun k hk e2 => hvg (by rw [← show k = go from e2]; exact hk))
  ·rw [List.getElem_set_ne e]
   refine row_keep2 (row_keep2 (h.row _ (List.getElem_mem hn')) hx (fun k hk e2 => h.dis n i hn' hi (fun x => e x.symm) k hk (by rw [hg]; exact e2))) hE (fun k hk e2 => ?_)
   exact h.out _ (List.getElem_mem hn') k hk (by rw [show k = go from e2]; rfl)
 ·have ha' : a < R.length := by simpa using ha
  have hb' : b < R.length := by simpa using hb
  rw [List.getElem_set] at hk ⊢
  by_cases e1 : i = a
  ·rw [if_pos e1] at hk
   rw [if_neg (by omega)]
   exact fun e => hoth b hb' (by omega) k e hk
  ·rw [if_neg e1] at hk
   by_cases e2 : i = b
   ·rw [if_pos e2]; exact hoth a ha' (fun x => e1 x.symm) k hk
   ·rw [if_neg e2]; exact h.dis a b ha' hb' hab k hk
 ·obtain ⟨n, hn, rfl⟩ := List.getElem_of_mem hq
  have hn' : n < R.length := by simpa using hn
  rw [List.getElem_set] at hk
  by_cases e : i = n
  ·rw [if_pos e] at hk
   exact fun e2 => hvg (by rw [show go = k from by simpa [Value.ownBlock] using e2]; exact hk)
  ·rw [if_neg e] at hk
   exact h.out _ (List.getElem_mem hn') k hk
end
end Go.Proofs.YtjeohlooaiociaaGreatDoor

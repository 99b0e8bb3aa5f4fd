
import Derived.Shelf.Bits.Mul64
import Derived.Laws.CopyOwn
import Derived.Deep.LoopGhost
import Derived.Test.YtjeohlooaiociaaGreatDoorP19
set_option linter.unusedVariables false
set_option linter.unusedSimpArgs false
namespace Go.Proofs.YtjeohlooaiociaaGreatDoor
open Go Go.RowKit Tj
theorem BlkF.congr {w : World} {b N : Nat} {T : TypeId} {f f' : Nat → Value} (h : BlkF w b T N f) (he : ∀ i, i < N → f i = f' i) : BlkF w b T N f' := by
 unfold BlkF at h ⊢
 rw [← List.map_congr_left (f := f) (g := f') (fun i hi => he i (List.mem_range.1 hi))]
 exact h
theorem BlkF.ints {w : World} {b N : Nat} {g : Nat → Nat} (h : BlkF w b 3 N (fun i => .int .i64 (g i : Int))) (hN : N ≤ 1000) : Ints No w .i64 (.slice (some ⟨b, 0, none⟩) N N) (natsZ ((List.range N).map g)) := by
 have h1 : w.ownsRow 0 3 1 (.slice (some ⟨b, 0, none⟩) N N) N ((natsZ ((List.range N).map g)).map (.int .i64)) :=
  ⟨by simp [natsZ], .inr ⟨b, N, _, rfl, Nat.zero_le _, h, Nat.le_refl _, by simp only [maxLen]; omega, by simp, by
   rw [List.take_of_length_le (by simp)]
   simp [natsZ, Function.comp_def]⟩⟩
 have h2 := Row.ofOwns (M := No) h1 (fun _ _ x => x)
 unfold Ints
 rw [nats_len, List.length_map, List.length_range]
 exact h2
end Go.Proofs.YtjeohlooaiociaaGreatDoor

namespace Go.Proofs.YtjeohlooaiociaaGreatDoor
open Go Go.RowKit
theorem mul_in {i n s : Nat} (hi : i < n) : i * s + s ≤ n * s := by
 have := Nat.mul_le_mul_right s (Nat.succ_le_of_lt hi)
 rwa [Nat.succ_mul] at this
section
variable {β : Type} {K : EK β} {A : Nat → Prop} {w : World} {base g cap : Nat} {v : Value} {L : List β}
theorem LOwn.shape (h : LOwn K A w base v L) (hn : L.length ≠ 0) : ∃ g cap, v = .slice (some ⟨g, 0, none⟩) L.length cap ∧ base ≤ g ∧ g < w.heap.size := by
 obtain ⟨h1, h2⟩ := h.own
 rcases h2 with ⟨_, h3⟩ | ⟨g, cap, cur, rfl, hb, hg, _⟩
 ·exact absurd h3 hn
 exact ⟨g, cap, rfl, hb, lt_of_block hg⟩
theorem LOwn.cellAt (h : LOwn K A w base (.slice (some ⟨g, 0, none⟩) L.length cap) L) {i j : Nat} (hi : i < L.length) (hj : j < K.s) {u : Value} (hu : (K.cells L[i])[j]? = some u) : w.cell? ⟨g, i * K.s + j, none⟩ = some u := by
 have := mul_in (s := K.s) hi
 rw [World.ownsRow.cellAt h.own _ (by omega), flat_get2 K L i j hi hj]; exact hu
end
end Go.Proofs.YtjeohlooaiociaaGreatDoor

namespace Go.Proofs.YtjeohlooaiociaaGreatDoor
open Go Go.RowKit Tj
theorem ld_at {w : World} {so : Value} {Ld : LD} {L : List (List Nat)} (h : LAt kD No w so Ld) (he : Ld.map Prod.fst = L.map natsZ) {i : Nat} (hi : i < L.length) :
  ∃ b off cap a c, so = .slice (some ⟨b, off, none⟩) L.length cap ∧ w.cell? ⟨b, off + i, none⟩ = some (.slice a L[i].length c) ∧ Hid (Ints No w .i64 (.slice a L[i].length c) (natsZ L[i])) := by
 have hl : Ld.length = L.length := by have := congrArg List.length he; simpa using this
 have hi2 : i < Ld.length := by omega
 obtain ⟨b, off, cap, h1, -, -, h4⟩ := h.at hi2
 have h5 := h4 i hi2 0 Ld[i].2 (by decide) rfl
 have h6 : Ints No w .i64 Ld[i].2 Ld[i].1 := h.ok Ld[i] (List.getElem_mem hi2)
 have e : Ld[i].1 = natsZ L[i] := by
  have := congrArg (fun l => l[i]?) he
  simp only [List.getElem?_map, List.getElem?_eq_getElem hi2, List.getElem?_eq_getElem hi, Option.map_some, Option.some.injEq] at this
  exact this
 rw [e] at h6
 obtain ⟨a, c, e2⟩ := IntsN.slice h6
 rw [e2] at h5 h6
 refine ⟨b, off, cap, a, c, by rw [h1, hl], ?_, Lib.hid h6⟩
 rw [show i * kD.s + 0 = i from by show i * 1 + 0 = i; omega] at h5
 exact h5
end Go.Proofs.YtjeohlooaiociaaGreatDoor

namespace Go.Proofs.YtjeohlooaiociaaGreatDoor
open Go Go.RowKit
def RwIn (vr : Value) (R : LD) (b : Nat) : Prop := vr.ownBlock = some b ∨ ∃ p ∈ R, p.2.ownBlock = some b
structure RwM (w : World) (base : Nat) (vr : Value) (R : LD) : Prop where
 own : w.ownsRow base 22 1 vr R.length (R.flatMap kD.cells)
 row : ∀ p ∈ R, w.ownsRow base 3 1 p.2 p.1.length (p.1.map (.int .i64))
 dis : ∀ i j (hi : i < R.length) (hj : j < R.length), i ≠ j → ∀ b, R[i].2.ownBlock = some b → R[j].2.ownBlock ≠ some b
 out : ∀ p ∈ R, ∀ b, p.2.ownBlock = some b → vr.ownBlock ≠ some b
theorem flat_kD : ∀ R : LD, R.flatMap kD.cells = R.map Prod.snd
 | [] => rfl
 | p :: R => by rw [List.flatMap_cons, flat_kD R]; rfl
section
variable {w w' : World} {base : Nat} {vr v' : Value} {R : LD} {M : Nat → Prop}
theorem RwM.lt (h : RwM w base vr R) (b : Nat) (hb : RwIn vr R b) : base ≤ b ∧ b < w.heap.size := by
 rcases hb with hb | ⟨p, hp, hb⟩
 ·exact World.ownsRow.lt h.own b hb
 exact World.ownsRow.lt (h.row p hp) b hb
theorem RwM.ext (h : RwM w base vr R) (hx : Ext M w w') (hm : ∀ b, RwIn vr R b → ¬ M b) : RwM w' base vr R :=
 ⟨row_keep2 h.own hx (fun k hk => hm k (.inl hk)), fun p hp => row_keep2 (h.row p hp) hx (fun k hk => hm k (.inr ⟨p, hp, hk⟩)), h.dis, h.out⟩
theorem RwM.extNo (h : RwM w base vr R) (hx : Ext No w w') : RwM w' base vr R := h.ext hx (fun _ _ x => x)
theorem ints_own {b : Nat} {v : Value} {l : List Int} (h : w.ownsRow b 3 1 v l.length (l.map (.int .i64))) (hm : ∀ k, v.ownBlock = some k → ¬ M k) : Ints M w .i64 v l := by
 have h0 : Row No w 1 v l.length (l.map (.int .i64)) := Row.ofOwns h (fun _ _ x => x)
 obtain ⟨h1, h2, a, c, rfl, hcp, h4⟩ := h0
 refine ⟨h1, h2, a, c, rfl, hcp, ?_⟩
 rcases h4 with h4 | ⟨b, off, h5, h6, _, h8⟩
 ·exact .inl h4
 refine .inr ⟨b, off, h5, h6, hm b ?_, h8⟩
 rw [h5]; rfl
theorem RwM.list (h : RwM w base vr R) (hm : ∀ b, RwIn vr R b → ¬ M b) : LAt kD M w vr R := by
 refine ⟨?_, fun p hp => ints_own (h.row p hp) (fun k hk => hm k (.inr ⟨p, hp, hk⟩))⟩
 have h0 : Row No w 1 vr R.length (R.flatMap kD.cells) := Row.ofOwns h.own (fun _ _ x => x)
 obtain ⟨h1, h2, a, c, rfl, hcp, h4⟩ := h0
 refine ⟨h1, h2, a, c, rfl, hcp, ?_⟩
 rcases h4 with h4 | ⟨b, off, h5, h6, _, h8⟩
 ·exact .inl h4
 refine .inr ⟨b, off, h5, h6, hm b (.inl ?_), h8⟩
 rw [h5]; rfl
theorem own_shape20 {b n : Nat} {T : TypeId} {v : Value} {xs : List Value} (h : w.ownsRow b T 1 v n xs) (hn : n ≠ 0) : ∃ g cap, v = .slice (some ⟨g, 0, none⟩) n cap ∧ b ≤ g ∧ g < w.heap.size := by
 obtain ⟨h1, h2⟩ := h
 rcases h2 with ⟨_, h3⟩ | ⟨g, cap, cur, rfl, hb, hg, _⟩
 ·exact absurd h3 hn
 exact ⟨g, cap, rfl, hb, lt_of_block hg⟩
theorem RwM.shape (h : RwM w base vr R) (hn : R.length ≠ 0) : ∃ g cap, vr = .slice (some ⟨g, 0, none⟩) R.length cap ∧ base ≤ g ∧ g < w.heap.size := own_shape20 h.own hn
theorem RwM.cell {g cap : Nat} (h : RwM w base (.slice (some ⟨g, 0, none⟩) R.length cap) R) {i : Nat} (hi : i < R.length) : w.cell? ⟨g, i, none⟩ = some R[i].2 := by
 have h1 := World.ownsRow.cellAt h.own i (by omega)
 rw [h1, flat_kD]
 simp [hi]
theorem RwM.nil (w : World) (base : Nat) : RwM w base (.slice none 0 0) [] := ⟨⟨by simp, .inl ⟨rfl, rfl⟩⟩, (fun _ h => by cases h), (fun _ _ hi => absurd hi (Nat.not_lt_zero _)), (fun _ h => by cases h)⟩
theorem RwM.slice (h : RwM w base vr R) : ∃ a c, vr = .slice a R.length c := (Row.ofOwns (M := No) h.own (fun _ _ x => x)).slice
theorem RwM.add {p : List Int × Value} (h : RwM w base vr R) (hp : w.ownsRow base 3 1 p.2 p.1.length (p.1.map (.int .i64))) (hpn : ∀ b, p.2.ownBlock = some b → ¬ RwIn vr R b)
  (hown : w'.ownsRow base 22 1 v' (R.length + 1) (R.flatMap kD.cells ++ [p.2])) (hx : Ext (fun k => vr.ownBlock = some k) w w') (hv : v'.ownBlock = vr.ownBlock ∨ ∀ k, v'.ownBlock = some k → w.heap.size ≤ k) : RwM w' base v' (R ++ [p]) := by
 have hrow : ∀ q ∈ R ++ [p], w.ownsRow base 3 1 q.2 q.1.length (q.1.map (.int .i64)) ∧ ∀ b, q.2.ownBlock = some b → vr.ownBlock ≠ some b := fun q hq => by
  rcases List.mem_append.1 hq with hq | hq
  ·exact ⟨h.row q hq, h.out q hq⟩
  rw [List.mem_singleton.1 hq]; exact ⟨hp, fun b hb e => hpn b hb (.inl e)⟩
 refine ⟨?_, fun q hq => row_keep2 (hrow q hq).1 hx (fun k hk e => (hrow q hq).2 k hk e), fun i j hi hj hij b hb => ?_, fun q hq b hb e => ?_⟩
 ·rw [List.length_append, List.flatMap_append, List.flatMap_cons, List.flatMap_nil, List.append_nil]; exact hown
 ·simp only [List.length_append, List.length_singleton] at hi hj
  rw [List.getElem_append] at hb ⊢
  by_cases h1 : i < R.length
  ·rw [dif_pos h1] at hb
   by_cases h2 : j < R.length
   ·rw [dif_pos h2]; exact h.dis i j h1 h2 hij b hb
   rw [dif_neg h2]
   simp only [List.getElem_singleton]
   exact fun e => hpn b e (.inr ⟨_, List.getElem_mem h1, hb⟩)
  rw [dif_neg h1] at hb
  simp only [List.getElem_singleton] at hb
  by_cases h2 : j < R.length
  ·rw [dif_pos h2]
   exact fun e => hpn b hb (.inr ⟨_, List.getElem_mem h2, e⟩)
  omega
 rcases hv with hv | hv
 ·rw [hv] at e; exact (hrow q hq).2 b hb e
 have h1 := hv b e
 have h2 := (World.ownsRow.lt (hrow q hq).1 b hb).2
 omega
theorem RwM.put {g cap i j : Nat} {l : List Int} (h : RwM w base vr R) (hi : i < R.length) (hg : R[i] = (l, .slice (some ⟨g, 0, none⟩) l.length cap)) (z : Int) :
  RwM (w.setCell ⟨g, j, none⟩ (.int .i64 z)) base vr (R.set i (l.set j z, .slice (some ⟨g, 0, none⟩) l.length cap)) := by
 have hE : Ext (At g) w (w.setCell ⟨g, j, none⟩ (.int .i64 z)) := (Ext.refl (At g) w).setAt _ _
 have hgi : R[i].2.ownBlock = some g := by rw [hg]; rfl
 have hm := List.getElem_mem hi
 have hfl : (R.set i (l.set j z, Value.slice (some ⟨g, 0, none⟩) l.length cap)).flatMap kD.cells = R.flatMap kD.cells := by
  rw [flat_kD, flat_kD, List.map_set]
  refine List.ext_getElem? (fun n => ?_)
  by_cases e : i = n
  ·subst e
   rw [List.getElem?_set_self (by simpa using hi)]
   simp [hi, hg]
  rw [List.getElem?_set_ne e]
 have hget : ∀ n (hn : n < R.length) (hn2 : n < (R.set i (l.set j z, Value.slice (some ⟨g, 0, none⟩) l.length cap)).length), ((R.set i (l.set j z, Value.slice (some ⟨g, 0, none⟩) l.length cap))[n]).2 = R[n].2 := fun n hn hn2 => by
  rw [List.getElem_set]
  split
  ·next e => subst e; rw [hg]
  rfl
 refine ⟨?_, fun p hp => ?_, fun a b ha hb hab k hk => ?_, fun p hp k hk => ?_⟩
 ·rw [List.length_set, hfl]
  exact row_keep2 h.own hE (fun k hk e => h.out _ hm g hgi (by rw [← show k = g from e]; exact hk))
 ·obtain ⟨n, hn, rfl⟩ := List.getElem_of_mem hp
  have hn' : n < R.length := by simpa using hn
  by_cases e : i = n
  ·subst e
   rw [List.getElem_set_self]
   have h1 := h.row _ hm
   rw [hg] at h1
   have h2 := (World.ownsRow.stored (w := w) h1 j (.int .i64 z)).1
   simp only [List.length_set]
   rw [← List.map_set] at h2
   exact h2
  rw [List.getElem_set_ne e]
  exact row_keep2 (h.row _ (List.getElem_mem hn')) hE (fun k hk e2 => h.dis i n hi hn' e g hgi (by rw [← show k = g from e2]; exact hk))
 ·have ha' : a < R.length := by simpa using ha
  have hb' : b < R.length := by simpa using hb
  rw [hget a ha' ha] at hk
  rw [hget b hb' hb]
  exact h.dis a b ha' hb' hab k hk
 obtain ⟨n, hn, rfl⟩ := List.getElem_of_mem hp
 have hn' : n < R.length := by simpa using hn
 rw [hget n hn' hn] at hk
 exact h.out _ (List.getElem_mem hn') k hk
end

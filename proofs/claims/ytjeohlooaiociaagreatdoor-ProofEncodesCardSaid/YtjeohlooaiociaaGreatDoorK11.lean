
import Derived.Shelf.Bits.Mul64
import Derived.Laws.CopyOwn
import Derived.Deep.LoopGhost
import Derived.Test.YtjeohlooaiociaaGreatDoorP19
set_option linter.unusedVariables false
set_option linter.unusedSimpArgs false
namespace Go.Proofs.YtjeohlooaiociaaGreatDoor
open Go Go.RowKit Tj
theorem BlkF.congr {w : World} {b N : Nat} {T : TypeId} {f f' : Nat → Value} (h : BlkF w b T N f) (he : ∀ i, i < N → f i = f' i) : BlkF w b T N f' := by
 unfold BlkF at h ⊢
 rw [← List.map_congr_left (f := f) (g := f') (fun i hi => he i (List.mem_range.1 hi))]
 exact h
theorem BlkF.ints {w : World} {b N : Nat} {g : Nat → Nat} (h : BlkF w b 3 N (fun i => .int .i64 (g i : Int))) (hN : N ≤ 1000) : Ints No w .i64 (.slice (some ⟨b, 0, none⟩) N N) (natsZ ((List.range N).map g)) := by
 have h1 : w.ownsRow 0 3 1 (.slice (some ⟨b, 0, none⟩) N N) N ((natsZ ((List.range N).map g)).map (.int .i64)) :=
  ⟨by simp [natsZ], .inr ⟨b, N, _, rfl, Nat.zero_le _, h, Nat.le_refl _, by simp only [maxLen]; omega, by simp, by
   rw [List.take_of_length_le (by simp)]
   simp [natsZ, Function.comp_def]⟩⟩
 have h2 := Row.ofOwns (M := No) h1 (fun _ _ x => x)
 unfold Ints
 rw [nats_len, List.length_map, List.length_range]
 exact h2
end Go.Proofs.YtjeohlooaiociaaGreatDoor

namespace Go.Proofs.YtjeohlooaiociaaGreatDoor
open Go Go.RowKit
theorem mul_in {i n s : Nat} (hi : i < n) : i * s + s ≤ n * s := by
 have := Nat.mul_le_mul_right s (Nat.succ_le_of_lt hi)
 rwa [Nat.succ_mul] at this
section
variable {β : Type} {K : EK β} {A : Nat → Prop} {w : World} {base g cap : Nat} {v : Value} {L : List β}
theorem LOwn.shape (h : LOwn K A w base v L) (hn : L.length ≠ 0) : ∃ g cap, v = .slice (some ⟨g, 0, none⟩) L.length cap ∧ base ≤ g ∧ g < w.heap.size := by
 obtain ⟨h1, h2⟩ := h.own
 rcases h2 with ⟨_, h3⟩ | ⟨g, cap, cur, rfl, hb, hg, _⟩
 ·exact absurd h3 hn
 exact ⟨g, cap, rfl, hb, lt_of_block hg⟩
theorem LOwn.cellAt (h : LOwn K A w base (.slice (some ⟨g, 0, none⟩) L.length cap) L) {i j : Nat} (hi : i < L.length) (hj : j < K.s) {u : Value} (hu : (K.cells L[i])[j]? = some u) : w.cell? ⟨g, i * K.s + j, none⟩ = some u := by
 have := mul_in (s := K.s) hi
 rw [World.ownsRow.cellAt h.own _ (by omega), flat_get2 K L i j hi hj]; exact hu
end
end Go.Proofs.YtjeohlooaiociaaGreatDoor

namespace Go.Proofs.YtjeohlooaiociaaGreatDoor
open Go Go.RowKit Tj
theorem ld_at {w : World} {so : Value} {Ld : LD} {L : List (List Nat)} (h : LAt kD No w so Ld) (he : Ld.map Prod.fst = L.map natsZ) {i : Nat} (hi : i < L.length) :
  ∃ b off cap a c, so = .slice (some ⟨b, off, none⟩) L.length cap ∧ w.cell? ⟨b, off + i, none⟩ = some (.slice a L[i].length c) ∧ Hid (Ints No w .i64 (.slice a L[i].length c) (natsZ L[i])) := by
 have hl : Ld.length = L.length := by have := congrArg List.length he; simpa using this
 have hi2 : i < Ld.length := by omega
 obtain ⟨b, off, cap, h1, -, -, h4⟩ := h.at hi2
 have h5 := h4 i hi2 0 Ld[i].2 (by decide) rfl
 have h6 : Ints No w .i64 Ld[i].2 Ld[i].1 := h.ok Ld[i] (List.getElem_mem hi2)
 have e : Ld[i].1 = natsZ L[i] := by
  have := congrArg (fun l => l[i]?) he
  simp only [List.getElem?_map, List.getElem?_eq_getElem hi2, List.getElem?_eq_getElem hi, Option.map_some, Option.some.injEq] at this
  exact this
 rw [e] at h6
 obtain ⟨a, c, e2⟩ := IntsN.slice h6
 rw [e2] at h5 h6
 refine ⟨b, off, cap, a, c, by rw [h1, hl], ?_, Lib.hid h6⟩
 rw [show i * kD.s + 0 = i from by show i * 1 + 0 = i; omega] at h5
 exact h5
end Go.Proofs.YtjeohlooaiociaaGreatDoor

namespace Go.Proofs.YtjeohlooaiociaaGreatDoor
open Go Go.RowKit
def RwIn (vr : Value) (R : LD) (b : Nat) : Prop := vr.ownBlock = some b ∨ ∃ p ∈ R, p.2.ownBlock = some b
structure RwM (w : World) (base : Nat) (vr : Value) (R : LD) : Prop where
 own : w.ownsRow base 22 1 vr R.length (R.flatMap kD.cells)
 row : ∀ p ∈ R, w.ownsRow base 3 1 p.2 p.1.length (p.1.map (.int .i64))
 dis : ∀ i j (hi : i < R.length) (hj : j < R.length), i ≠ j → ∀ b, R[i].2.ownBlock = some b → R[j].2.ownBlock ≠ some b
 out : ∀ p ∈ R, ∀ b, p.2.ownBlock = some b → vr.ownBlock ≠ some b
theorem flat_kD : ∀ R : LD, R.flatMap kD.cells = R.map Prod.snd
 | [] => rfl
 | p :: R => by rw [List.flatMap_cons, flat_kD R]; rfl
section
variable {w w' : World} {base : Nat} {vr v' : Value} {R : LD} {M : Nat → Prop}
theorem RwM.lt (h : RwM w base vr R) (b : Nat) (hb : RwIn vr R b) : base ≤ b ∧ b < w.heap.size := by
 rcases hb with hb | ⟨p, hp, hb⟩
 ·exact World.ownsRow.lt h.own b hb
 exact World.ownsRow.lt (h.row p hp) b hb
theorem RwM.ext (h : RwM w base vr R) (hx : Ext M w w') (hm : ∀ b, RwIn vr R b → ¬ M b) : RwM w' base vr R :=
 ⟨row_keep2 h.own hx (fun k hk => hm k (.inl hk)), fun p hp => row_keep2 (h.row p hp) hx (fun k hk => hm k (.inr ⟨p, hp, hk⟩)), h.dis, h.out⟩
theorem RwM.extNo (h : RwM w base vr R) (hx : Ext No w w') : RwM w' base vr R := h.ext hx (fun _ _ x => x)
theorem ints_own {b : Nat} {v : Value} {l : List Int} (h : w.ownsRow b 3 1 v l.length (l.map (.int .i64))) (hm : ∀ k, v.ownBlock = some k → ¬ M k) : Ints M w .i64 v l := by
 have h0 : Row No w 1 v l.length (l.map (.int .i64)) := Row.ofOwns h (fun _ _ x => x)
 obtain ⟨h1, h2, a, c, rfl, hcp, h4⟩ := h0
 refine ⟨h1, h2, a, c, rfl, hcp, ?_⟩
 rcases h4 with h4 | ⟨b, off, h5, h6, _, h8⟩
 ·exact .inl h4
 refine .inr ⟨b, off, h5, h6, hm b ?_, h8⟩
 rw [h5]; rfl
theorem RwM.list (h : RwM w base vr R) (hm : ∀ b, RwIn vr R b → ¬ M b) : LAt kD M w vr R := by
 refine ⟨?_, fun p hp => ints_own (h.row p hp) (fun k hk => hm k (.inr ⟨p, hp, hk⟩))⟩
 have h0 : Row No w 1 vr R.length (R.flatMap kD.cells) := Row.ofOwns h.own (fun _ _ x => x)
 obtain ⟨h1, h2, a, c, rfl, hcp, h4⟩ := h0
 refine ⟨h1, h2, a, c, rfl, hcp, ?_⟩
 rcases h4 with h4 | ⟨b, off, h5, h6, _, h8⟩
 ·exact .inl h4
 refine .inr ⟨b, off, h5, h6, hm b (.inl ?_), h8⟩
 rw [h5]; rfl
theorem own_shape20 {b n : Nat} {T : TypeId} {v : Value} {xs : List Value} (h : w.ownsRow b T 1 v n xs) (hn : n ≠ 0) : ∃ g cap, v = .slice (some ⟨g, 0, none⟩) n cap ∧ b ≤ g ∧ g < w.heap.size := by
 obtain ⟨h1, h2⟩ := h
 rcases h2 with ⟨_, h3⟩ | ⟨g, cap, cur, rfl, hb, hg, _⟩
 ·exact absurd h3 hn
 exact ⟨g, cap, rfl, hb, lt_of_block hg⟩
theorem RwM.shape (h : RwM w base vr R) (hn : R.length ≠ 0) : ∃ g cap, vr = .slice (some ⟨g, 0, none⟩) R.length cap ∧ base ≤ g ∧ g < w.heap.size := own_shape20 h.own hn
theorem RwM.cell {g cap : Nat} (h : RwM w base (.slice (some ⟨g, 0, none⟩) R.length cap) R) {i : Nat} (hi : i < R.length) : w.cell? ⟨g, i, none⟩ = some R[i].2 := by
 have h1 := World.ownsRow.cellAt h.own i (by omega)
 rw [h1, flat_kD]
 simp [hi]
theorem RwM.nil (w : World) (base : Nat) : RwM w base (.slice none 0 0) [] := ⟨⟨by simp, .inl ⟨rfl, rfl⟩⟩, (fun _ h => by cases h), (fun _ _ hi => absurd hi (Nat.not_lt_zero _)), (fun _ h => by cases h)⟩
theorem RwM.slice (h : RwM w base vr R) : ∃ a c, vr = .slice a R.length c := (Row.ofOwns (M := No) h.own (fun _ _ x => x)).slice
theorem RwM.add {p : List Int × Value} (h : RwM w base vr R) (hp : w.ownsRow base 3 1 p.2 p.1.length (p.1.map (.int .i64))) (hpn : ∀ b, p.2.ownBlock = some b → ¬ RwIn vr R b)
  (hown : w'.ownsRow base 22 1 v' (R.length + 1) (R.flatMap kD.cells ++ [p.2])) (hx : Ext (fun k => vr.ownBlock = some k) w w') (hv : v'.ownBlock = vr.ownBlock ∨ ∀ k, v'.ownBlock = some k → w.heap.size ≤ k) : RwM w' base v' (R ++ [p]) := by
 have hrow : ∀ q ∈ R ++ [p], w.ownsRow base 3 1 q.2 q.1.length (q.1.map (.int .i64)) ∧ ∀ b, q.2.ownBlock = some b → vr.ownBlock ≠ some b := fun q hq => by
  rcases List.mem_append.1 hq with hq | hq
  ·exact ⟨h.row q hq, h.out q hq⟩
  rw [List.mem_singleton.1 hq]; exact ⟨hp, fun b hb e => hpn b hb (.inl e)⟩
 refine ⟨?_, fun q hq => row_keep2 (hrow q hq).1 hx (fun k hk e => (hrow q hq).2 k hk e), fun i j hi hj hij b hb => ?_, fun q hq b hb e => ?_⟩
 ·rw [List.length_append, List.flatMap_append, List.flatMap_cons, List.flatMap_nil, List.append_nil]; exact hown
 ·simp only [List.length_append, List.length_singleton] at hi hj
  rw [List.getElem_append] at hb ⊢
  by_cases h1 : i < R.length
  ·rw [dif_pos h1] at hb
   by_cases h2 : j < R.length
   ·rw [dif_pos h2]; exact h.dis i j h1 h2 hij b hb
   rw [dif_neg h2]
   simp only [List.getElem_singleton]
   exact fun e => hpn b e (.inr ⟨_, List.getElem_mem h1, hb⟩)
  rw [dif_neg h1] at hb
  simp only [List.getElem_singleton] at hb
  by_cases h2 : j < R.length
  ·rw [dif_pos h2]
   exact fun e => hpn b hb (.inr ⟨_, List.getElem_mem h2, e⟩)
  omega
 rcases hv with hv | hv
 ·rw [hv] at e; exact (hrow q hq).2 b hb e
 have h1 := hv b e
 have h2 := (World.ownsRow.lt (hrow q hq).1 b hb).2
 omega
theorem RwM.put {g cap i j : Nat} {l : List Int} (h : RwM w base vr R) (hi : i < R.length) (hg : R[i] = (l, .slice (some ⟨g, 0, none⟩) l.length cap)) (z : Int) :
  RwM (w.setCell ⟨g, j, none⟩ (.int .i64 z)) base vr (R.set i (l.set j z, .slice (some ⟨g, 0, none⟩) l.length cap)) := by
 have hE : Ext (At g) w (w.setCell ⟨g, j, none⟩ (.int .i64 z)) := (Ext.refl (At g) w).setAt _ _
 have hgi : R[i].2.ownBlock = some g := by rw [hg]; rfl
 have hm := List.getElem_mem hi
 have hfl : (R.set i (l.set j z, Value.slice (some ⟨g, 0, none⟩) l.length cap)).flatMap kD.cells = R.flatMap kD.cells := by
  rw [flat_kD, flat_kD, List.map_set]
  refine List.ext_getElem? (fun n => ?_)
  by_cases e : i = n
  ·subst e
   rw [List.getElem?_set_self (by simpa using hi)]
   simp [hi, hg]
  rw [List.getElem?_set_ne e]
 have hget : ∀ n (hn : n < R.length) (hn2 : n < (R.set i (l.set j z, Value.slice (some ⟨g, 0, none⟩) l.length cap)).length), ((R.set i (l.set j z, Value.slice (some ⟨g, 0, none⟩) l.length cap))[n]).2 = R[n].2 := fun n hn hn2 => by
  rw [List.getElem_set]
  split
  ·next e => subst e; rw [hg]
  rfl
 refine ⟨?_, fun p hp => ?_, fun a b ha hb hab k hk => ?_, fun p hp k hk => ?_⟩
 ·rw [List.length_set, hfl]
  exact row_keep2 h.own hE (fun k hk e => h.out _ hm g hgi (by rw [← show k = g from e]; exact hk))
 ·obtain ⟨n, hn, rfl⟩ := List.getElem_of_mem hp
  have hn' : n < R.length := by simpa using hn
  by_cases e : i = n
  ·subst e
   rw [List.getElem_set_self]
   have h1 := h.row _ hm
   rw [hg] at h1
   have h2 := (World.ownsRow.stored (w := w) h1 j (.int .i64 z)).1
   simp only [List.length_set]
   rw [← List.map_set] at h2
   exact h2
  rw [List.getElem_set_ne e]
  exact row_keep2 (h.row _ (List.getElem_mem hn')) hE (fun k hk e2 => h.dis i n hi hn' e g hgi (by rw [← show k = g from e2]; exact hk))
 ·have ha' : a < R.length := by simpa using ha
  have hb' : b < R.length := by simpa using hb
  rw [hget a ha' ha] at hk
  rw [hget b hb' hb]
  exact h.dis a b ha' hb' hab k hk
 obtain ⟨n, hn, rfl⟩ := List.getElem_of_mem hp
 have hn' : n < R.length := by simpa using hn
 rw [hget n hn' hn] at hk
 exact h.out _ (List.getElem_mem hn') k hk
theorem RwM.putRow {go cap i : Nat} {l : List Int} {p : List Int × Value} (h : RwM w base (.slice (some ⟨go, 0, none⟩) R.length cap) R) (hi : i < R.length) (hg : R[i] = p)
  (hown : w'.ownsRow base 3 1 v' l.length (l.map (.int .i64))) (hx : Ext (fun k => p.2.ownBlock = some k) w w') (hv : v'.ownBlock = p.2.ownBlock ∨ ∀ k, v'.ownBlock = some k → w.heap.size ≤ k) :
  RwM (w'.setCell ⟨go, i, none⟩ v') base (.slice (some ⟨go, 0, none⟩) R.length cap) (R.set i (l, v')) := by
 have hE : Ext (At go) w' (w'.setCell ⟨go, i, none⟩ v') := (Ext.refl (At go) w').setAt _ _
 have hm := List.getElem_mem hi
 have hgo : base ≤ go ∧ go < w.heap.size := World.ownsRow.lt h.own go rfl
 have hpo : p.2.ownBlock ≠ some go := fun e => h.out _ hm go (by rw [hg]; exact e) rfl
 have hvg : v'.ownBlock ≠ some go := fun e => by
  rcases hv with hv | hv
  ·exact hpo (hv ▸ e)
  have := hv go e; omega
 have hoth : ∀ n (hn : n < R.length), n ≠ i → ∀ k, R[n].2.ownBlock = some k → v'.ownBlock ≠ some k := fun n hn hni k hk e => by
  rcases hv with hv | hv
  ·exact h.dis n i hn hi hni k hk (by rw [hg]; exact hv ▸ e)
  have h1 := hv k e
  have h2 := (World.ownsRow.lt (h.row _ (List.getElem_mem hn)) k hk).2
  omega
 refine ⟨?_, fun q hq => ?_, fun a b ha hb hab k hk => ?_, fun q hq k hk => ?_⟩
 ·have h1 := row_keep2 h.own hx (fun k hk e => hpo (by rw [← show go = k from by simpa [Value.ownBlock] using hk] at e; exact e))
  have h2 := (World.ownsRow.stored (w := w') h1 i v').1
  rw [List.length_set, flat_kD, List.map_set, ← flat_kD]
  exact h2
 ·obtain ⟨n, hn, rfl⟩ := List.getElem_of_mem hq
  have hn' : n < R.length := by simpa using hn
  by_cases e : i = n
  ·subst e
   rw [List.getElem_set_self]
   exact row_keep2 hown hE (fun k hk e2 => hvg (by rw [← show k = go from e2]; exact hk))
  rw [List.getElem_set_ne e]
  refine row_keep2 (row_keep2 (h.row _ (List.getElem_mem hn')) hx (fun k hk e2 => h.dis n i hn' hi (fun x => e x.symm) k hk (by rw [hg]; exact e2))) hE (fun k hk e2 => ?_)
  exact h.out _ (List.getElem_mem hn') k hk (by rw [show k = go from e2]; rfl)
 ·have ha' : a < R.length := by simpa using ha
  have hb' : b < R.length := by simpa using hb
  rw [List.getElem_set] at hk ⊢
  by_cases e1 : i = a
  ·rw [if_pos e1] at hk
   rw [if_neg (by omega)]
   exact fun e => hoth b hb' (by omega) k e hk
  rw [if_neg e1] at hk
  by_cases e2 : i = b
  ·rw [if_pos e2]; exact hoth a ha' (fun x => e1 x.symm) k hk
  rw [if_neg e2]; exact h.dis a b ha' hb' hab k hk
 obtain ⟨n, hn, rfl⟩ := List.getElem_of_mem hq
 have hn' : n < R.length := by simpa using hn
 rw [List.getElem_set] at hk
 by_cases e : i = n
 ·rw [if_pos e] at hk
  exact fun e2 => hvg (by rw [show go = k from by simpa [Value.ownBlock] using e2]; exact hk)
 rw [if_neg e] at hk
 exact h.out _ (List.getElem_mem hn') k hk
end
end Go.Proofs.YtjeohlooaiociaaGreatDoor

namespace Go.Proofs.YtjeohlooaiociaaGreatDoor
open Go Go.RowKit Tj
set_option maxRecDepth 100000 in
set_option maxHeartbeats 2000000 in
theorem rints_any (s1 s2 : Value) (l1 l2 : List Nat) (W : World) (h1 : Ints No W .i64 s1 (natsZ l1)) (h2 : Ints No W .i64 s2 (natsZ l2)) :
  Calls Tryz.prog 83 #[s1, s2] W (BoolPost (decide (l1 = l2)) W) := by
 have H1 := Lib.hid h1
 have H2 := Lib.hid h2
 obtain ⟨a1, c1, rfl⟩ := IntsN.slice h1
 obtain ⟨a2, c2, rfl⟩ := IntsN.slice h2
 have hlen := IntsN.len h1
 clear h1 h2
 by_cases hl : l1.length = l2.length
 ·obtain ⟨m, hm⟩ : ∃ m, m = l1.length := ⟨_, rfl⟩
  have HM1 := Lib.hid hm
  have HM2 := Lib.hid (show m = l2.length by omega)
  rw [show l2.length = m by omega, show l1.length = m from hm.symm]
  rw [← hm] at hlen
  clear hl hm
  go_enter Tryz.func83, Tryz.ntmps83
  go_wp2_with fail
  go_loopw [5] (fun i wr => ∃ k : Nat, i = .int .i64 k ∧ k ≤ m ∧ Hid (Ext No W wr) ∧ Hid (∀ j (hj : j < l1.length) (hj2 : j < l2.length), j < k → l1[j] = l2[j])) (fun i _ => m - (intOf i).toNat)
  case atStart => exact ⟨0, rfl, Nat.zero_le _, Lib.hid (Ext.refl _ _), Lib.hid (fun j _ _ hj => absurd hj (Nat.not_lt_zero _))⟩
  obtain ⟨k, rfl, hk, hx, hm⟩ := hrel
  rename World => wr
  by_cases hkl : k < m
  ·have hlz : (k : Int) < (m : Int) := by omega
   have HKK : Hid (Value.int .i64 ((k : Int) + 1) = .int .i64 ((k + 1 : Nat) : Int)) := Lib.hid (by rw [show ((k + 1 : Nat) : Int) = (k : Int) + 1 from by omega])
   have hk1 : k < l1.length := by rw [← HM1.out]; exact hkl
   have hk2 : k < l2.length := by rw [← HM2.out]; exact hkl
   obtain ⟨b, off, cap', hsl, hb1, _, hcell⟩ := IntsN.at H1.out hk1
   rw [← HM1.out] at hsl
   simp only [Value.slice.injEq] at hsl
   obtain ⟨rfl, _, rfl⟩ := hsl
   have HQ1 := Lib.hid (hx.out.keep (hcell k hk1))
   obtain ⟨b', off', cap', hsl, hb2, _, hcell'⟩ := IntsN.at H2.out hk2
   rw [← HM2.out] at hsl
   simp only [Value.slice.injEq] at hsl
   obtain ⟨rfl, _, rfl⟩ := hsl
   have HQ2 := Lib.hid (hx.out.keep (hcell' k hk2))
   obtain ⟨y, hy⟩ : ∃ y, y = l1[k] := ⟨_, rfl⟩
   obtain ⟨z, hz⟩ : ∃ z, z = l2[k] := ⟨_, rfl⟩
   rw [← hy] at HQ1
   rw [← hz] at HQ2
   have HY := Lib.hid (And.intro hy hz)
   clear hcell hb1 hy hcell' hb2 hz
   by_cases he : y = z
   ·have he1 : ((y : Int) != (z : Int)) = false := by simp [he]
    have HE := Lib.hid he
    subst he
    go_upto_region 6 with (fail)
    refine wp_region_held_drew (S := (fun w' => Ext No wr w')) (by kernel_rfl) ?_ (fun hHeld => ?_)
    ·exact (Ext.refl _ _).drew
    refine hHs [0, 1, 2, 3, 4, 5, 6] ?_
    iterate 7
     refine hTn ?_ hHeld (fun w hSw => ?_) ?_
     rotate_left
     ·(have hEs : Ext No wr _ := hSw); (have q0 := hEs.keep HQ1.out); go_simp; (try with_reducible rfl)
     simp only [Act.put, nzA, nzB, nzC]
    refine hHe ?_
    refine hHs [7, 8] ?_
    iterate 2
     refine hTn ?_ hHeld (fun w hSw => ?_) ?_
     rotate_left
     ·(have hEs : Ext No wr _ := hSw); (have q0 := hEs.keep HQ2.out); go_simp; (try with_reducible rfl)
     simp only [Act.put, nzA, nzB, nzC]
    refine hHe ?_
    refine wpAnyH_done (by kernel_rfl) ?_ _
    have hEx : Ext No wr _ := hHeld
    go_wp2_with fail
    go_roundw
    case rel => exact ⟨k + 1, HKK.out, by omega, Lib.hid (hx.out.transNo hEx), Lib.hid (fun j hj hj2 hjk => by
     by_cases e : j = k
     ·subst e; rw [← HY.out.1, ← HY.out.2]
     exact hm.out j hj hj2 (by omega))⟩
    case measure => simp [intOf]; omega
   have he1 : ((y : Int) != (z : Int)) = true := by simp; omega
   have he2 : ¬ ((y : Int) = (z : Int)) := by omega
   have HE := Lib.hid he
   clear he
   go_upto_region 6 with (fail)
   refine wp_region_held_drew (S := (fun w' => Ext No wr w')) (by kernel_rfl) ?_ (fun hHeld => ?_)
   ·exact (Ext.refl _ _).drew
   refine hHs [0, 1, 2, 3, 4, 5, 6] ?_
   iterate 7
    refine hTn ?_ hHeld (fun w hSw => ?_) ?_
    rotate_left
    ·(have hEs : Ext No wr _ := hSw); (have q0 := hEs.keep HQ1.out); go_simp; (try with_reducible rfl)
    simp only [Act.put, nzA, nzB, nzC]
   refine hHe ?_
   refine hHs [7, 8] ?_
   iterate 2
    refine hTn ?_ hHeld (fun w hSw => ?_) ?_
    rotate_left
    ·(have hEs : Ext No wr _ := hSw); (have q0 := hEs.keep HQ2.out); go_simp; (try with_reducible rfl)
    simp only [Act.put, nzA, nzB, nzC]
   refine hHe ?_
   refine wpAnyH_done (by kernel_rfl) ?_ _
   have hEx : Ext No wr _ := hHeld
   go_wp2_with fail
   go_ret
   refine ⟨?_, hx.out.transNo hEx⟩
   rw [decide_eq_false (fun e => HE.out (by rw [HY.out.1, HY.out.2]; simp only [e]))]
   rfl
  have hge : ¬ (k : Int) < (m : Int) := by omega
  go_wp2_with fail
  go_ret
  refine ⟨?_, hx.out⟩
  rw [decide_eq_true (List.ext_getElem (by rw [← HM1.out, ← HM2.out]) (fun j h1 h2 => hm.out j h1 h2 (by have := HM1.out; omega)))]
  rfl
 have hne : ((l1.length : Int) != (l2.length : Int)) = true := by simp; omega
 have hne2 : ¬ ((l1.length : Int) = (l2.length : Int)) := by omega
 have HL := Lib.hid hl
 clear hl
 go_enter Tryz.func83, Tryz.ntmps83
 go_wp2_with fail
 go_ret
 exact ⟨by rw [decide_eq_false (fun e => HL.out (by rw [e]))]; rfl, Ext.refl _ _⟩
set_option maxRecDepth 100000 in
set_option maxHeartbeats 4000000 in
theorem rsameLists_any (s1 s2 : Value) (L1 L2 : List (List Nat)) (D1 D2 : LD) (W : World) (h1 : LAt kD No W s1 D1) (e1 : D1.map Prod.fst = L1.map natsZ) (h2 : LAt kD No W s2 D2) (e2 : D2.map Prod.fst = L2.map natsZ) :
  Calls Tryz.prog 48 #[s1, s2] W (BoolPost (decide (L1 = L2)) W) := by
 have H1 := Lib.hid h1
 have H2 := Lib.hid h2
 have E1 := Lib.hid e1
 have E2 := Lib.hid e2
 have hl1 : D1.length = L1.length := by have := congrArg List.length e1; simpa using this
 have hl2 : D2.length = L2.length := by have := congrArg List.length e2; simpa using this
 have hlen := h1.row.2.1
 obtain ⟨a1, c1, rfl⟩ := h1.slice
 obtain ⟨a2, c2, rfl⟩ := h2.slice
 rw [hl1] at H1 hlen ⊢
 rw [hl2] at H2 ⊢
 clear h1 h2 e1 e2 hl1 hl2
 by_cases hl : L1.length = L2.length
 ·obtain ⟨m, hm⟩ : ∃ m, m = L1.length := ⟨_, rfl⟩
  have HM1 := Lib.hid hm
  have HM2 := Lib.hid (show m = L2.length by omega)
  rw [show L2.length = m by omega] at H2 ⊢
  rw [show L1.length = m from hm.symm] at H1 hlen ⊢
  clear hl hm
  go_enter Tryz.func48, Tryz.ntmps48
  go_wp2_with fail
  go_loopw [5] (fun i wr => ∃ k : Nat, i = .int .i64 k ∧ k ≤ m ∧ Hid (Ext No W wr) ∧ Hid (∀ j (hj : j < L1.length) (hj2 : j < L2.length), j < k → L1[j] = L2[j])) (fun i _ => m - (intOf i).toNat)
  case atStart => exact ⟨0, rfl, Nat.zero_le _, Lib.hid (Ext.refl _ _), Lib.hid (fun j _ _ hj => absurd hj (Nat.not_lt_zero _))⟩
  obtain ⟨k, rfl, hk, hx, hm⟩ := hrel
  rename World => wr
  by_cases hkl : k < m
  ·have hlz : (k : Int) < (m : Int) := by omega
   have HKK : Hid (Value.int .i64 ((k : Int) + 1) = .int .i64 ((k + 1 : Nat) : Int)) := Lib.hid (by rw [show ((k + 1 : Nat) : Int) = (k : Int) + 1 from by omega])
   have hk1 : k < L1.length := by rw [← HM1.out]; exact hkl
   have hk2 : k < L2.length := by rw [← HM2.out]; exact hkl
   obtain ⟨b, off, cap', a3, c3, hsl, hq1, hi1⟩ := ld_at (H1.out.extNo hx.out) E1.out hk1
   rw [← HM1.out] at hsl
   simp only [Value.slice.injEq] at hsl
   obtain ⟨rfl, _, rfl⟩ := hsl
   obtain ⟨b', off', cap', a4, c4, hsl, hq2, hi2⟩ := ld_at (H2.out.extNo hx.out) E2.out hk2
   rw [← HM2.out] at hsl
   simp only [Value.slice.injEq] at hsl
   obtain ⟨rfl, _, rfl⟩ := hsl
   have HQ1 := Lib.hid hq1
   have HQ2 := Lib.hid hq2
   clear hq1 hq2
   by_cases he : L1[k] = L2[k]
   ·have HD := Lib.hid (decide_eq_true he)
    have HE := Lib.hid he
    clear he
    go_upto_region 6 with (fail)
    refine wp_region_held_drew (S := (fun w' => Ext No wr w')) (by kernel_rfl) ?_ (fun hHeld => ?_)
    ·exact (Ext.refl _ _).drew
    refine hHs [0, 1, 2, 3, 4, 5, 6] ?_
    iterate 7
     refine hTn ?_ hHeld (fun w hSw => ?_) ?_
     rotate_left
     ·(have hEs : Ext No wr _ := hSw); (have q0 := hEs.keep HQ1.out); go_simp; (try with_reducible rfl)
     simp only [Act.put, nzA, nzB, nzC]
    refine hHe ?_
    refine hTk 7 ?_ hHeld (fun w hSw => ?_) ?_
    rotate_left
    ·(have hEs : Ext No wr _ := hSw); (have x0 := hEs.keep HQ2.out); go_simp; (try with_reducible rfl)
    simp only [Act.put, nzA, nzB, nzC]
    refine hHc 8 fun K hK => ?_
    ((have hEx : Ext No wr _ := hHeld); go_simp; (go_at_call 83); (refine (rints_any _ _ L1[k] L2[k] _ (Row.extNo hi1.out hEx) (Row.extNo hi2.out hEx)).mono ?_); (rintro e9 w9 ⟨rfl, hyA⟩); (rw [HD.out]); go_simp)
    refine hK.out _ _ ?_ ?_
    ·exact Ext.transNo (show Ext No wr _ from hHeld) hyA
    clear hK K hHeld
    intro hHeld
    try simp only [Act.put, nzA, nzB, nzC]
    refine hTk 9 ?_ hHeld (fun w hSw => ?_) ?_
    rotate_left
    ·go_simp; (try with_reducible rfl)
    simp only [Act.put, nzA, nzB, nzC]
    refine wpAnyH_done (by kernel_rfl) ?_ _
    have hEx : Ext No wr _ := hHeld
    go_wp2_with fail
    go_roundw
    case rel => exact ⟨k + 1, HKK.out, by omega, Lib.hid (hx.out.transNo hEx), Lib.hid (fun j hj hj2 hjk => by
     by_cases e : j = k
     ·subst e; exact HE.out
     exact hm.out j hj hj2 (by omega))⟩
    case measure => simp [intOf]; omega
   have HD := Lib.hid (decide_eq_false he)
   have HE := Lib.hid he
   clear he
   go_upto_region 6 with (fail)
   refine wp_region_held_drew (S := (fun w' => Ext No wr w')) (by kernel_rfl) ?_ (fun hHeld => ?_)
   ·exact (Ext.refl _ _).drew
   refine hHs [0, 1, 2, 3, 4, 5, 6] ?_
   iterate 7
    refine hTn ?_ hHeld (fun w hSw => ?_) ?_
    rotate_left
    ·(have hEs : Ext No wr _ := hSw); (have q0 := hEs.keep HQ1.out); go_simp; (try with_reducible rfl)
    simp only [Act.put, nzA, nzB, nzC]
   refine hHe ?_
   refine hTk 7 ?_ hHeld (fun w hSw => ?_) ?_
   rotate_left
   ·(have hEs : Ext No wr _ := hSw); (have x0 := hEs.keep HQ2.out); go_simp; (try with_reducible rfl)
   simp only [Act.put, nzA, nzB, nzC]
   refine hHc 8 fun K hK => ?_
   ((have hEx : Ext No wr _ := hHeld); go_simp; (go_at_call 83); (refine (rints_any _ _ L1[k] L2[k] _ (Row.extNo hi1.out hEx) (Row.extNo hi2.out hEx)).mono ?_); (rintro e9 w9 ⟨rfl, hyA⟩); (rw [HD.out]); go_simp)
   refine hK.out _ _ ?_ ?_
   ·exact Ext.transNo (show Ext No wr _ from hHeld) hyA
   clear hK K hHeld
   intro hHeld
   try simp only [Act.put, nzA, nzB, nzC]
   refine hTk 9 ?_ hHeld (fun w hSw => ?_) ?_
   rotate_left
   ·go_simp; (try with_reducible rfl)
   simp only [Act.put, nzA, nzB, nzC]
   refine wpAnyH_done (by kernel_rfl) ?_ _
   have hEx : Ext No wr _ := hHeld
   go_wp2_with fail
   go_ret
   refine ⟨?_, hx.out.transNo hEx⟩
   rw [decide_eq_false (fun e => HE.out (by simp only [e]))]
   rfl
  have hge : ¬ (k : Int) < (m : Int) := by omega
  go_wp2_with fail
  go_ret
  refine ⟨?_, hx.out⟩
  rw [decide_eq_true (List.ext_getElem (by rw [← HM1.out, ← HM2.out]) (fun j h1 h2 => hm.out j h1 h2 (by have := HM1.out; omega)))]
  rfl
 have hne : ((L1.length : Int) != (L2.length : Int)) = true := by simp; omega
 have hne2 : ¬ ((L1.length : Int) = (L2.length : Int)) := by omega
 have HL := Lib.hid hl
 clear hl
 go_enter Tryz.func48, Tryz.ntmps48
 go_wp2_with fail
 go_ret
 exact ⟨by rw [decide_eq_false (fun e => HL.out (by rw [e]))]; rfl, Ext.refl _ _⟩

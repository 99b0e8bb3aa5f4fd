
import Derived.Test.YtjeohlooaiociaaGreatDoorP14
set_option linter.unusedVariables false
set_option linter.unusedSimpArgs false
namespace Go.Proofs.YtjeohlooaiociaaGreatDoor
open Go Go.RowKit
def RMemL (M : Nat → Prop) (m w : Nat) (W : World) (e : Ending) (w' : World) : Prop := ∃ a c, e = .returned (.slice a (rmT m w).length c) ∧ Hid (Ints M w' .i64 (.slice a (rmT m w).length c) (rmT m w)) ∧ Ext No W w'
set_option maxRecDepth 100000 in
set_option maxHeartbeats 4000000 in
theorem rmemL_any (M : Nat → Prop) (w m : Nat) (sl : Value) (W : World) (hM : ∀ b, M b → b < W.heap.size) (h : SetAt No W sl w m) :
  Calls Tryz.prog 22 #[.agg #[.int .i64 (w : Int), sl]] W (RMemL M m w W) := by
 obtain ⟨i0, hi0, hz0, hz1, hz2⟩ := info_parts infoI6m
 have H := Lib.hid h
 have hww := h.hw
 have HM := Lib.hid hM
 have HMM := Lib.hid h.hm
 have hval := validB_set h.hw h.hm
 obtain ⟨a1, c1, rfl⟩ := h.slice
 clear h hM
 go_enter Tryz.func22, Tryz.ntmps22
 go_upto_region 1 with (fail)
 have HX := Lib.hid (show Ext No W (W.alloc (.cells #[.int .i64 (w : Int), .slice a1 (nw w) c1] 50)) from (Ext.refl _ _).alloc _)
 have HA := Lib.hid (alloc_top (w := W) (o := (.cells #[.int .i64 (w : Int), .slice a1 (nw w) c1] 50)) rfl)
 generalize (W.alloc (.cells #[.int .i64 (w : Int), .slice a1 (nw w) c1] 50)) = V at *
 have hVs := lt_of_block HA.out
 go_wp2_with fail
 go_loopw [3, 4] (fun s3 i wr => ∃ k : Nat, i = .int .i64 k ∧ k ≤ w ∧ Hid (wr.ownsRow V.heap.size 3 1 s3 (rmT m k).length ((rmT m k).map (.int .i64))) ∧ Hid (Ext No V wr)) (fun _ i _ => w - (intOf i).toNat)
 case atStart => exact ⟨0, rfl, Nat.zero_le _, Lib.hid (by simpa [rmT] using World.ownsRow_nil _ _ _ _), Lib.hid (Ext.refl _ _)⟩
 obtain ⟨k, rfl, hk, hown, hx⟩ := hrel
 rename World => wr
 obtain ⟨s1, t1, hs3⟩ := (Row.ofOwns (M := No) hown.out (fun _ _ x => x)).slice
 subst hs3
 have cA := cellOf (hx.out.blk HA.out no_no)
 have hlen := rmT_len m k
 by_cases hlt : k < w
 ·have hlz : (k : Int) < (w : Int) := by omega
  go_wp2_with ((go_at_call 61); (refine (rvalid_any _ (setN w m) _ ⟨_, rfl, (H.out.extNo (HX.out.transNo hx.out)).words⟩).mono ?_); (rintro e7 w7 ⟨rfl, hx7⟩); (rw [hval]); (have hE7 := Lib.hid (hx.out.transNo hx7)); (have HO7 := Lib.hid (row_keep hown.out hx7 (fun _ _ x => x))); (clear cA); (have cA := cellOf (hE7.out.blk HA.out no_no)); (clear hx7))
  refine (rhas_any w m _ _ _ (H.out.extNo (HX.out.transNo hE7.out))).mono ?_
  rintro e8 w8 ⟨rfl, hx8⟩
  rw [hasZ_nat hlt]
  have HE8 := Lib.hid (hE7.out.transNo hx8)
  have HO8 := Lib.hid (row_keep HO7.out hx8 (fun _ _ x => x))
  have hsn := rmT_snoc m k
  have hsz8 := HE8.out.size
  clear cA hx8 HO7 hE7
  cases hb : m.testBit k with
  | true =>
   have HSN := Lib.hid (show (rmT m (k + 1)) = rmT m k ++ [(k : Int)] from by rw [hsn, hb]; rfl)
   clear hb hsn
   go_wp2_with (at_builtin; (refine wpList_app _ rfl (.tmp 18) (.tmp 20) 22 rfl V.heap.size 3 i0 _ 1 8 Tryz.underlying22 hi0 hz0 hz1 hz2 rfl (by omega) (.slice s1 (rmT m k).length t1) (rmT m k).length ((rmT m k).map (.int .i64)) rfl (row_keep HO8.out ((Ext.refl No _).alloc _) (fun _ _ x => x)) No (some ⟨w8.heap.size, 0, none⟩) 1 1 [.int .i64 (k : Int)] rfl (Row.block (alloc_top rfl) rfl no_no (by omega)) (by simp [Value.oneCell']) (by omega) (by omega) (by simp; omega) ?_); (intro v1 w9 hown1 hg1 hv1); (have hm9 := Lib.hid (own_ext HE8.out hg1 (fun b hb => (World.ownsRow.lt HO8.out b hb).1) (Nat.le_refl _))); (have ho9 := Lib.hid hown1); (clear hown1 hg1 hv1))
   go_roundw
   case rel => exact ⟨k + 1, by go_num, by omega, Lib.hid (by rw [HSN.out, List.length_append, List.map_append]; exact ho9.out), hm9⟩
   case measure => simp [intOf]; omega
  | false =>
   have HSN := Lib.hid (show (rmT m (k + 1)) = rmT m k from by rw [hsn, hb]; simp)
   clear hb hsn
   go_wp2_with fail
   go_roundw
   case rel => exact ⟨k + 1, by go_num, by omega, Lib.hid (by rw [HSN.out]; exact HO8.out), HE8⟩
   case measure => simp [intOf]; omega
 have hge : ¬ (k : Int) < (w : Int) := by omega
 have hkw : k = w := by omega
 have HKW := Lib.hid hkw
 clear hkw
 go_wp2_with ((go_at_call 61); (refine (rvalid_any _ (setN w m) _ ⟨_, rfl, (H.out.extNo (HX.out.transNo hx.out)).words⟩).mono ?_); (rintro e7 w7 ⟨rfl, hx7⟩); (rw [hval]); (have hE7 := Lib.hid (hx.out.transNo hx7)); (clear cA); (have cA := cellOf (hE7.out.blk HA.out no_no)); (have hx7' := hx7); (clear hx7))
 go_ret
 exact ⟨s1, t1, by rw [← HKW.out]; rfl, by rw [← HKW.out]; exact Lib.hid (Row.extNo (Row.ofOwns (M := M) hown.out (fun b hb e => by have h1 := HM.out b e; have h2 := HX.out.size; omega)) hx7'), HX.out.transNo hE7.out⟩
def memR (s : RawSet) : List Int := if validB s = true then membersN s.width.toNat (joinN s.words) else []
theorem memR_set {w m : Nat} (hw : w ≤ 256) (hm : m < 2 ^ w) : memR (setN w m) = membersN w m := by
 unfold memR
 rw [if_pos (validB_set hw hm)]
 show membersN ((w : Int)).toNat (joinN (wordsN w m)) = _
 rw [Int.toNat_natCast, joinN_words _ _ hm]
theorem memR_len (s : RawSet) : (memR s).length ≤ 256 := by
 unfold memR
 split
 ·next h =>
  have : s.width.toNat ≤ 256 := by
   simp only [validB, cleanB, Bool.and_eq_true, decide_eq_true_eq] at h
   omega
  exact Nat.le_trans (rmT_len _ _) this
 simp
def RMemR (M : Nat → Prop) (l : List Int) (W : World) (e : Ending) (w' : World) : Prop := ∃ a c, e = .returned (.slice a l.length c) ∧ Hid (Ints M w' .i64 (.slice a l.length c) l) ∧ Ext No W w'
set_option maxRecDepth 100000 in
set_option maxHeartbeats 4000000 in
theorem rmemR_any (M : Nat → Prop) (s : RawSet) (sl : Value) (W : World) (hM : ∀ b, M b → b < W.heap.size) (h : WordsAt No W sl s.words) :
  Calls Tryz.prog 22 #[.agg #[.int .i64 s.width, sl]] W (RMemR M (memR s) W) := by
 by_cases hv : validB s = true
 ·obtain ⟨w, m, hw, hm, rfl⟩ := (validB_iff h.lt).1 hv
  rw [memR_set hw hm]
  exact rmemL_any M w m sl W hM ⟨h, hw, hm⟩
 have hv0 : validB s = false := by simpa using hv
 have e0 : memR s = [] := by unfold memR; rw [if_neg hv]
 rw [e0]
 have H := Lib.hid h
 have HV := Lib.hid hv0
 obtain ⟨a, c, rfl⟩ := h.slice
 clear h hv hv0 e0
 go_enter Tryz.func22, Tryz.ntmps22
 go_upto_region 1 with (fail)
 have HX := Lib.hid (show Ext No W (W.alloc (.cells #[.int .i64 s.width, .slice a s.words.length c] 50)) from (Ext.refl _ _).alloc _)
 have HA := Lib.hid (alloc_top (w := W) (o := (.cells #[.int .i64 s.width, .slice a s.words.length c] 50)) rfl)
 generalize (W.alloc (.cells #[.int .i64 s.width, .slice a s.words.length c] 50)) = V at *
 go_wp2_with fail
 go_loopw [3, 4] (fun s3 i wr => s3 = .slice none 0 0 ∧ i = .int .i64 ((0 : Nat) : Int) ∧ wr = V) (fun _ _ _ => 0)
 case atStart => exact ⟨rfl, rfl, rfl⟩
 obtain ⟨rfl, rfl, rfl⟩ := hrel
 have cA := cellOf HA.out
 have hv0 := HV.out
 clear HV
 go_wp2_with ((go_at_call 61); (refine (rvalid_any _ s _ ⟨_, rfl, H.out.extNo HX.out⟩).mono ?_); (rintro e7 w7 ⟨rfl, hx7⟩); (rw [hv0]))
 go_ret
 exact ⟨none, 0, rfl, Lib.hid (Row.nil _ _ _ _ _ (by omega)), HX.out.transNo hx7⟩
end Go.Proofs.YtjeohlooaiociaaGreatDoor

namespace Go.Proofs.YtjeohlooaiociaaGreatDoor
open Go Go.RowKit
theorem flat_set_get {β : Type} (K : EK β) (p : β) : ∀ (L : List β) (i n : Nat), i < L.length → ((L.set i p).flatMap K.cells)[n]? = if i * K.s ≤ n ∧ n < i * K.s + K.s then (K.cells p)[n - i * K.s]? else (L.flatMap K.cells)[n]?
 | [], _, _, h => absurd h (Nat.not_lt_zero _)
 | q :: L, 0, n, _ => by
  rw [List.set_cons_zero, List.flatMap_cons, List.flatMap_cons, List.getElem?_append, List.getElem?_append, K.len, K.len]
  by_cases h : n < K.s
  ·rw [if_pos h, if_pos ⟨by omega, by omega⟩]; simp
  rw [if_neg h, if_neg (by omega), if_neg h]
 | q :: L, i + 1, n, h => by
  have ih := flat_set_get K p L i (n - K.s) (by simpa using h)
  rw [List.set_cons_succ, List.flatMap_cons, List.flatMap_cons, List.getElem?_append, List.getElem?_append, K.len]
  have e : (i + 1) * K.s = i * K.s + K.s := Nat.succ_mul _ _
  by_cases h2 : n < K.s
  ·rw [if_pos h2, if_pos h2, if_neg (by omega)]
  rw [if_neg h2, if_neg h2, ih]
  by_cases h3 : i * K.s ≤ n - K.s ∧ n - K.s < i * K.s + K.s
  ·rw [if_pos h3, if_pos (by omega), e, show n - K.s - i * K.s = n - (i * K.s + K.s) by omega]
  rw [if_neg h3, if_neg (by omega)]
def setAll (xs : List Value) (o : Nat) : List Value → List Value
 | [] => xs
 | u :: us => setAll (xs.set o u) (o + 1) us
theorem setAll_get : ∀ (us xs : List Value) (o n : Nat), o + us.length ≤ xs.length → (setAll xs o us)[n]? = if o ≤ n ∧ n < o + us.length then us[n - o]? else xs[n]?
 | [], xs, o, n, _ => by rw [setAll, if_neg (by simp)]
 | u :: us, xs, o, n, h => by
  simp only [List.length_cons] at h ⊢
  rw [setAll, setAll_get us (xs.set o u) (o + 1) n (by rw [List.length_set]; omega)]
  by_cases h1 : o + 1 ≤ n ∧ n < o + 1 + us.length
  ·rw [if_pos h1, if_pos (by omega), show n - o = (n - (o + 1)) + 1 by omega, List.getElem?_cons_succ]
  rw [if_neg h1]
  by_cases h2 : n = o
  ·subst h2
   rw [if_pos (by omega), List.getElem?_set_self (by omega)]; simp
  rw [if_neg (by omega), List.getElem?_set_ne (by omega)]
theorem flat_len2 {β : Type} (K : EK β) : ∀ L : List β, (L.flatMap K.cells).length = L.length * K.s
 | [] => by simp
 | q :: L => by rw [List.flatMap_cons, List.length_append, K.len, flat_len2 K L, List.length_cons, Nat.succ_mul]; omega
theorem mul_in {i n s : Nat} (hi : i < n) : i * s + s ≤ n * s := by
 have := Nat.mul_le_mul_right s (Nat.succ_le_of_lt hi)
 rwa [Nat.succ_mul] at this
theorem flat_setAll {β : Type} (K : EK β) (L : List β) (i : Nat) (p : β) (hi : i < L.length) : setAll (L.flatMap K.cells) (i * K.s) (K.cells p) = (L.set i p).flatMap K.cells := by
 refine List.ext_getElem? (fun n => ?_)
 rw [flat_set_get K p L i n hi, setAll_get _ _ _ _ (by rw [K.len, flat_len2]; exact mul_in hi), K.len]
def storeAll (w : World) (g o : Nat) : List Value → World
 | [] => w
 | u :: us => storeAll (w.setCell ⟨g, o, none⟩ u) g (o + 1) us
theorem storeAll_ext : ∀ (us : List Value) (w : World) (g o : Nat), Ext (At g) w (storeAll w g o us)
 | [], w, g, o => Ext.refl _ _
 | u :: us, w, g, o => ((Ext.refl (At g) w).setAt o u).trans (storeAll_ext us _ g (o + 1))
theorem storeAll_own {e : TypeId} {size n base g cap : Nat} : ∀ (us xs : List Value) (w : World) (o : Nat), w.ownsRow base e size (.slice (some ⟨g, 0, none⟩) n cap) n xs → (storeAll w g o us).ownsRow base e size (.slice (some ⟨g, 0, none⟩) n cap) n (setAll xs o us)
 | [], _, _, _, h => h
 | u :: us, xs, w, o, h => storeAll_own us _ _ (o + 1) (World.ownsRow.stored (w := w) h o u).1
section
variable {β : Type} {K : EK β} {A : Nat → Prop} {w : World} {base g cap : Nat} {v : Value} {L : List β}
theorem LOwn.shape (h : LOwn K A w base v L) (hn : L.length ≠ 0) : ∃ g cap, v = .slice (some ⟨g, 0, none⟩) L.length cap ∧ base ≤ g ∧ g < w.heap.size := by
 obtain ⟨h1, h2⟩ := h.own
 rcases h2 with ⟨_, h3⟩ | ⟨g, cap, cur, rfl, hb, hg, _⟩
 ·exact absurd h3 hn
 exact ⟨g, cap, rfl, hb, lt_of_block hg⟩
theorem LOwn.cellAt (h : LOwn K A w base (.slice (some ⟨g, 0, none⟩) L.length cap) L) {i j : Nat} (hi : i < L.length) (hj : j < K.s) {u : Value} (hu : (K.cells L[i])[j]? = some u) : w.cell? ⟨g, i * K.s + j, none⟩ = some u := by
 have := mul_in (s := K.s) hi
 rw [World.ownsRow.cellAt h.own _ (by omega), flat_get2 K L i j hi hj]; exact hu
theorem LOwn.putAll (h : LOwn K A w base (.slice (some ⟨g, 0, none⟩) L.length cap) L) {i : Nat} (hi : i < L.length) {p : β} (hp : K.ok (fun b => A b ∨ b = g) w p) : LOwn K A (storeAll w g (i * K.s) (K.cells p)) base (.slice (some ⟨g, 0, none⟩) L.length cap) (L.set i p) := by
 refine ⟨?_, fun q hq => ?_⟩
 ·rw [List.length_set, ← flat_setAll K L i p hi]
  exact storeAll_own _ _ _ _ h.own
 have hq2 : K.ok (fun b => A b ∨ b = g) w q := by
  rcases List.mem_or_eq_of_mem_set hq with hq | rfl
  ·exact K.mono (h.ok q hq) (fun i _ e => by
    rcases e with e | rfl
    ·exact .inl e
    exact .inr rfl)
  exact hp
 refine K.mono (K.ext hq2 (storeAll_ext _ w g _) (fun i _ e => .inr e)) (fun i _ e => ?_)
 rcases e with e | e
 ·exact .inl e
 simp only [Value.ownBlock, Option.some.injEq] at e; exact .inr e.symm
end
end Go.Proofs.YtjeohlooaiociaaGreatDoor

namespace Go.Proofs.YtjeohlooaiociaaGreatDoor
open Go Go.RowKit
def RwIn (vr : Value) (R : LD) (b : Nat) : Prop := vr.ownBlock = some b ∨ ∃ p ∈ R, p.2.ownBlock = some b
structure RwM (w : World) (base : Nat) (vr : Value) (R : LD) : Prop where
 own : w.ownsRow base 22 1 vr R.length (R.flatMap kD.cells)
 row : ∀ p ∈ R, w.ownsRow base 3 1 p.2 p.1.length (p.1.map (.int .i64))
 dis : ∀ i j (hi : i < R.length) (hj : j < R.length), i ≠ j → ∀ b, R[i].2.ownBlock = some b → R[j].2.ownBlock ≠ some b
 out : ∀ p ∈ R, ∀ b, p.2.ownBlock = some b → vr.ownBlock ≠ some b
theorem flat_kD : ∀ R : LD, R.flatMap kD.cells = R.map Prod.snd
 | [] => rfl
 | p :: R => by rw [List.flatMap_cons, flat_kD R]; rfl
section
variable {w w' : World} {base : Nat} {vr v' : Value} {R : LD} {M : Nat → Prop}
theorem RwM.lt (h : RwM w base vr R) (b : Nat) (hb : RwIn vr R b) : base ≤ b ∧ b < w.heap.size := by
 rcases hb with hb | ⟨p, hp, hb⟩
 ·exact World.ownsRow.lt h.own b hb
 exact World.ownsRow.lt (h.row p hp) b hb
theorem RwM.ext (h : RwM w base vr R) (hx : Ext M w w') (hm : ∀ b, RwIn vr R b → ¬ M b) : RwM w' base vr R :=
 ⟨row_keep2 h.own hx (fun k hk => hm k (.inl hk)), fun p hp => row_keep2 (h.row p hp) hx (fun k hk => hm k (.inr ⟨p, hp, hk⟩)), h.dis, h.out⟩
theorem RwM.extNo (h : RwM w base vr R) (hx : Ext No w w') : RwM w' base vr R := h.ext hx (fun _ _ x => x)
theorem ints_own {b : Nat} {v : Value} {l : List Int} (h : w.ownsRow b 3 1 v l.length (l.map (.int .i64))) (hm : ∀ k, v.ownBlock = some k → ¬ M k) : Ints M w .i64 v l := by
 have h0 : Row No w 1 v l.length (l.map (.int .i64)) := Row.ofOwns h (fun _ _ x => x)
 obtain ⟨h1, h2, a, c, rfl, hcp, h4⟩ := h0
 refine ⟨h1, h2, a, c, rfl, hcp, ?_⟩
 rcases h4 with h4 | ⟨b, off, h5, h6, _, h8⟩
 ·exact .inl h4
 refine .inr ⟨b, off, h5, h6, hm b ?_, h8⟩
 rw [h5]; rfl
theorem RwM.list (h : RwM w base vr R) (hm : ∀ b, RwIn vr R b → ¬ M b) : LAt kD M w vr R := by
 refine ⟨?_, fun p hp => ints_own (h.row p hp) (fun k hk => hm k (.inr ⟨p, hp, hk⟩))⟩
 have h0 : Row No w 1 vr R.length (R.flatMap kD.cells) := Row.ofOwns h.own (fun _ _ x => x)
 obtain ⟨h1, h2, a, c, rfl, hcp, h4⟩ := h0
 refine ⟨h1, h2, a, c, rfl, hcp, ?_⟩
 rcases h4 with h4 | ⟨b, off, h5, h6, _, h8⟩
 ·exact .inl h4
 refine .inr ⟨b, off, h5, h6, hm b (.inl ?_), h8⟩
 rw [h5]; rfl
theorem own_shape20 {b n : Nat} {T : TypeId} {v : Value} {xs : List Value} (h : w.ownsRow b T 1 v n xs) (hn : n ≠ 0) : ∃ g cap, v = .slice (some ⟨g, 0, none⟩) n cap ∧ b ≤ g ∧ g < w.heap.size := by
 obtain ⟨h1, h2⟩ := h
 rcases h2 with ⟨_, h3⟩ | ⟨g, cap, cur, rfl, hb, hg, _⟩
 ·exact absurd h3 hn
 exact ⟨g, cap, rfl, hb, lt_of_block hg⟩
theorem RwM.shape (h : RwM w base vr R) (hn : R.length ≠ 0) : ∃ g cap, vr = .slice (some ⟨g, 0, none⟩) R.length cap ∧ base ≤ g ∧ g < w.heap.size := own_shape20 h.own hn
theorem RwM.cell {g cap : Nat} (h : RwM w base (.slice (some ⟨g, 0, none⟩) R.length cap) R) {i : Nat} (hi : i < R.length) : w.cell? ⟨g, i, none⟩ = some R[i].2 := by
 have h1 := World.ownsRow.cellAt h.own i (by omega)
 rw [h1, flat_kD]
 simp [hi]
theorem RwM.nil (w : World) (base : Nat) : RwM w base (.slice none 0 0) [] := ⟨⟨by simp, .inl ⟨rfl, rfl⟩⟩, (fun _ h => by cases h), (fun _ _ hi => absurd hi (Nat.not_lt_zero _)), (fun _ h => by cases h)⟩
theorem RwM.slice (h : RwM w base vr R) : ∃ a c, vr = .slice a R.length c := (Row.ofOwns (M := No) h.own (fun _ _ x => x)).slice
theorem RwM.add {p : List Int × Value} (h : RwM w base vr R) (hp : w.ownsRow base 3 1 p.2 p.1.length (p.1.map (.int .i64))) (hpn : ∀ b, p.2.ownBlock = some b → ¬ RwIn vr R b)
  (hown : w'.ownsRow base 22 1 v' (R.length + 1) (R.flatMap kD.cells ++ [p.2])) (hx : Ext (fun k => vr.ownBlock = some k) w w') (hv : v'.ownBlock = vr.ownBlock ∨ ∀ k, v'.ownBlock = some k → w.heap.size ≤ k) : RwM w' base v' (R ++ [p]) := by
 have hrow : ∀ q ∈ R ++ [p], w.ownsRow base 3 1 q.2 q.1.length (q.1.map (.int .i64)) ∧ ∀ b, q.2.ownBlock = some b → vr.ownBlock ≠ some b := fun q hq => by
  rcases List.mem_append.1 hq with hq | hq
  ·exact ⟨h.row q hq, h.out q hq⟩
  rw [List.mem_singleton.1 hq]; exact ⟨hp, fun b hb e => hpn b hb (.inl e)⟩
 refine ⟨?_, fun q hq => row_keep2 (hrow q hq).1 hx (fun k hk e => (hrow q hq).2 k hk e), fun i j hi hj hij b hb => ?_, fun q hq b hb e => ?_⟩
 ·rw [List.length_append, List.flatMap_append, List.flatMap_cons, List.flatMap_nil, List.append_nil]; exact hown
 ·simp only [List.length_append, List.length_singleton] at hi hj
  rw [List.getElem_append] at hb ⊢
  by_cases h1 : i < R.length
  ·rw [dif_pos h1] at hb
   by_cases h2 : j < R.length
   ·rw [dif_pos h2]; exact h.dis i j h1 h2 hij b hb
   rw [dif_neg h2]
   simp only [List.getElem_singleton]
   exact fun e => hpn b e (.inr ⟨_, List.getElem_mem h1, hb⟩)
  rw [dif_neg h1] at hb
  simp only [List.getElem_singleton] at hb
  by_cases h2 : j < R.length
  ·rw [dif_pos h2]
   exact fun e => hpn b hb (.inr ⟨_, List.getElem_mem h2, e⟩)
  omega
 rcases hv with hv | hv
 ·rw [hv] at e; exact (hrow q hq).2 b hb e
 have h1 := hv b e
 have h2 := (World.ownsRow.lt (hrow q hq).1 b hb).2
 omega
theorem RwM.put {g cap i j : Nat} {l : List Int} (h : RwM w base vr R) (hi : i < R.length) (hg : R[i] = (l, .slice (some ⟨g, 0, none⟩) l.length cap)) (z : Int) :
  RwM (w.setCell ⟨g, j, none⟩ (.int .i64 z)) base vr (R.set i (l.set j z, .slice (some ⟨g, 0, none⟩) l.length cap)) := by
 have hE : Ext (At g) w (w.setCell ⟨g, j, none⟩ (.int .i64 z)) := (Ext.refl (At g) w).setAt _ _
 have hgi : R[i].2.ownBlock = some g := by rw [hg]; rfl
 have hm := List.getElem_mem hi
 have hfl : (R.set i (l.set j z, Value.slice (some ⟨g, 0, none⟩) l.length cap)).flatMap kD.cells = R.flatMap kD.cells := by
  rw [flat_kD, flat_kD, List.map_set]
  refine List.ext_getElem? (fun n => ?_)
  by_cases e : i = n
  ·subst e
   rw [List.getElem?_set_self (by simpa using hi)]
   simp [hi, hg]
  rw [List.getElem?_set_ne e]
 have hget : ∀ n (hn : n < R.length) (hn2 : n < (R.set i (l.set j z, Value.slice (some ⟨g, 0, none⟩) l.length cap)).length), ((R.set i (l.set j z, Value.slice (some ⟨g, 0, none⟩) l.length cap))[n]).2 = R[n].2 := fun n hn hn2 => by
  rw [List.getElem_set]
  split
  ·next e => subst e; rw [hg]
  rfl
 refine ⟨?_, fun p hp => ?_, fun a b ha hb hab k hk => ?_, fun p hp k hk => ?_⟩
 ·rw [List.length_set, hfl]
  exact row_keep2 h.own hE (fun k hk e => h.out _ hm g hgi (by rw [← show k = g from e]; exact hk))
 ·obtain ⟨n, hn, rfl⟩ := List.getElem_of_mem hp
  have hn' : n < R.length := by simpa using hn
  by_cases e : i = n
  ·subst e
   rw [List.getElem_set_self]
   have h1 := h.row _ hm
   rw [hg] at h1
   have h2 := (World.ownsRow.stored (w := w) h1 j (.int .i64 z)).1
   simp only [List.length_set]
   rw [← List.map_set] at h2
   exact h2
  rw [List.getElem_set_ne e]
  exact row_keep2 (h.row _ (List.getElem_mem hn')) hE (fun k hk e2 => h.dis i n hi hn' e g hgi (by rw [← show k = g from e2]; exact hk))
 ·have ha' : a < R.length := by simpa using ha
  have hb' : b < R.length := by simpa using hb
  rw [hget a ha' ha] at hk
  rw [hget b hb' hb]
  exact h.dis a b ha' hb' hab k hk
 obtain ⟨n, hn, rfl⟩ := List.getElem_of_mem hp
 have hn' : n < R.length := by simpa using hn
 rw [hget n hn' hn] at hk
 exact h.out _ (List.getElem_mem hn') k hk
theorem RwM.putRow {go cap i : Nat} {l : List Int} {p : List Int × Value} (h : RwM w base (.slice (some ⟨go, 0, none⟩) R.length cap) R) (hi : i < R.length) (hg : R[i] = p)
  (hown : w'.ownsRow base 3 1 v' l.length (l.map (.int .i64))) (hx : Ext (fun k => p.2.ownBlock = some k) w w') (hv : v'.ownBlock = p.2.ownBlock ∨ ∀ k, v'.ownBlock = some k → w.heap.size ≤ k) :
  RwM (w'.setCell ⟨go, i, none⟩ v') base (.slice (some ⟨go, 0, none⟩) R.length cap) (R.set i (l, v')) := by
 have hE : Ext (At go) w' (w'.setCell ⟨go, i, none⟩ v') := (Ext.refl (At go) w').setAt _ _
 have hm := List.getElem_mem hi
 have hgo : base ≤ go ∧ go < w.heap.size := World.ownsRow.lt h.own go rfl
 have hpo : p.2.ownBlock ≠ some go := fun e => h.out _ hm go (by rw [hg]; exact e) rfl
 have hvg : v'.ownBlock ≠ some go := fun e => by
  rcases hv with hv | hv
  ·exact hpo (hv ▸ e)
  have := hv go e; omega
 have hoth : ∀ n (hn : n < R.length), n ≠ i → ∀ k, R[n].2.ownBlock = some k → v'.ownBlock ≠ some k := fun n hn hni k hk e => by
  rcases hv with hv | hv
  ·exact h.dis n i hn hi hni k hk (by rw [hg]; exact hv ▸ e)
  have h1 := hv k e
  have h2 := (World.ownsRow.lt (h.row _ (List.getElem_mem hn)) k hk).2
  omega
 refine ⟨?_, fun q hq => ?_, fun a b ha hb hab k hk => ?_, fun q hq k hk => ?_⟩
 ·have h1 := row_keep2 h.own hx (fun k hk e => hpo (by rw [← show go = k from by simpa [Value.ownBlock] using hk] at e; exact e))
  have h2 := (World.ownsRow.stored (w := w') h1 i v').1
  rw [List.length_set, flat_kD, List.map_set, ← flat_kD]
  exact h2
 ·obtain ⟨n, hn, rfl⟩ := List.getElem_of_mem hq
  have hn' : n < R.length := by simpa using hn
  by_cases e : i = n
  ·subst e
   rw [List.getElem_set_self]
   exact row_keep2 hown hE (fun k hk e2 => hvg (by rw [← show k = go from e2]; exact hk))
  rw [List.getElem_set_ne e]
  refine row_keep2 (row_keep2 (h.row _ (List.getElem_mem hn')) hx (fun k hk e2 => h.dis n i hn' hi (fun x => e x.symm) k hk (by rw [hg]; exact e2))) hE (fun k hk e2 => ?_)
  exact h.out _ (List.getElem_mem hn') k hk (by rw [show k = go from e2]; rfl)
 ·have ha' : a < R.length := by simpa using ha
  have hb' : b < R.length := by simpa using hb
  rw [List.getElem_set] at hk ⊢
  by_cases e1 : i = a
  ·rw [if_pos e1] at hk
   rw [if_neg (by omega)]
   exact fun e => hoth b hb' (by omega) k e hk
  rw [if_neg e1] at hk
  by_cases e2 : i = b
  ·rw [if_pos e2]; exact hoth a ha' (fun x => e1 x.symm) k hk
  rw [if_neg e2]; exact h.dis a b ha' hb' hab k hk
 obtain ⟨n, hn, rfl⟩ := List.getElem_of_mem hq
 have hn' : n < R.length := by simpa using hn
 rw [List.getElem_set] at hk
 by_cases e : i = n
 ·rw [if_pos e] at hk
  exact fun e2 => hvg (by rw [show go = k from by simpa [Value.ownBlock] using e2]; exact hk)
 rw [if_neg e] at hk
 exact h.out _ (List.getElem_mem hn') k hk
end

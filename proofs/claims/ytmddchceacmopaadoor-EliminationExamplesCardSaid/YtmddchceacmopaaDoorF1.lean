
import Derived.Test.YtmddchceacmopaaDoorRefC
set_option linter.unusedVariables false
set_option linter.unusedSimpArgs false
namespace Go.Proofs.YtmddchceacmopaaDoor
open Go Go.RowKit
structure EK (β : Type) where
 s : Nat
 T : TypeId
 cells : β → List Value
 ok : (Nat → Prop) → World → β → Prop
 len : ∀ b, (cells b).length = s
 ext : ∀ {M M' : Nat → Prop} {w w' : World} {b : β}, ok M w b → Ext M' w w' → (∀ i, i < w.heap.size → M' i → M i) → ok M w' b
 mono : ∀ {M M' : Nat → Prop} {w : World} {b : β}, ok M w b → (∀ i, i < w.heap.size → M' i → M i) → ok M' w b
structure LAt {β : Type} (K : EK β) (M : Nat → Prop) (w : World) (sl : Value) (L : List β) : Prop where
 row : Row M w K.s sl L.length (L.flatMap K.cells)
 ok : ∀ p ∈ L, K.ok M w p
structure LOwn {β : Type} (K : EK β) (A : Nat → Prop) (w : World) (base : Nat) (v : Value) (L : List β) : Prop where
 own : w.ownsRow base K.T K.s v L.length (L.flatMap K.cells)
 ok : ∀ p ∈ L, K.ok (fun b => A b ∨ v.ownBlock = some b) w p
section
variable {β : Type} {K : EK β} {M M' A : Nat → Prop} {w w' : World} {sl v v' : Value} {L : List β} {base g cap : Nat} {p : β}
theorem flat_get2 (K : EK β) (L : List β) (i j : Nat) (hi : i < L.length) (hj : j < K.s) : (L.flatMap K.cells)[i * K.s + j]? = (K.cells L[i])[j]? := by
 rw [Nat.mul_comm]
 exact flat_get K.cells K.s K.len L i j hi hj
theorem LAt.ext (h : LAt K M w sl L) (hx : Ext M' w w') (hm : ∀ i, i < w.heap.size → M' i → M i) : LAt K M w' sl L := ⟨h.row.ext hx hm, fun p hp => K.ext (h.ok p hp) hx hm⟩
theorem LAt.extNo (h : LAt K M w sl L) (hx : Ext No w w') : LAt K M w' sl L := h.ext hx (fun _ _ x => x.elim)
theorem LAt.mono (h : LAt K M w sl L) (hm : ∀ i, i < w.heap.size → M' i → M i) : LAt K M' w sl L := ⟨h.row.mono hm, fun p hp => K.mono (h.ok p hp) hm⟩
theorem LAt.no (h : LAt K M w sl L) : LAt K No w sl L := h.mono (fun _ _ x => x.elim)
theorem LAt.slice (h : LAt K M w sl L) : ∃ a c, sl = .slice a L.length c := h.row.slice
theorem LAt.at (h : LAt K M w sl L) {i : Nat} (hi : i < L.length) : ∃ b off cap, sl = .slice (some ⟨b, off, none⟩) L.length cap ∧ b < w.heap.size ∧ ¬ M b ∧
  ∀ k (hk : k < L.length) j u, j < K.s → (K.cells L[k])[j]? = some u → w.cell? ⟨b, off + (k * K.s + j), none⟩ = some u := by
 obtain ⟨b, off, cap, h1, h2, h3, h4⟩ := h.row.shape (by omega)
 exact ⟨b, off, cap, h1, h2, h3, fun k hk j u hj hu => h4 _ u (by rw [flat_get2 K L k j hk hj]; exact hu)⟩
theorem LAt.nil (a : Option Addr) (c : Nat) (hc : c ≤ 9223372036854775807) : LAt K M w (.slice a 0 c) [] := ⟨Row.nil _ _ _ _ _ hc, fun _ h => by cases h⟩
theorem LOwn.nil (K : EK β) (A : Nat → Prop) (w : World) (base : Nat) : LOwn K A w base (.slice none 0 0) [] := ⟨⟨by simp, .inl ⟨rfl, rfl⟩⟩, fun _ h => by cases h⟩
theorem LOwn.ext (h : LOwn K A w base v L) (hx : Ext M w w') (h1 : ∀ i, base ≤ i → ¬ M i) (h2 : ∀ i, M i → A i) : LOwn K A w' base v L :=
 ⟨row_keep h.own hx h1, fun p hp => K.ext (h.ok p hp) hx (fun i _ e => .inl (h2 i e))⟩
theorem LOwn.ext2 (h : LOwn K A w base v L) (hx : Ext M w w') (h1 : ∀ i, v.ownBlock = some i → ¬ M i) (h2 : ∀ i, i < w.heap.size → M i → A i) : LOwn K A w' base v L :=
 ⟨row_keep2 h.own hx h1, fun p hp => K.ext (h.ok p hp) hx (fun i hi e => .inl (h2 i hi e))⟩
theorem LOwn.extNo (h : LOwn K A w base v L) (hx : Ext No w w') : LOwn K A w' base v L := h.ext hx (fun _ _ x => x) (fun _ x => x.elim)
theorem LOwn.mono {A' : Nat → Prop} (h : LOwn K A w base v L) (hm : ∀ i, i < w.heap.size → A' i → A i) : LOwn K A' w base v L := ⟨h.own, fun p hp => K.mono (h.ok p hp) (fun i hi e => by
 rcases e with e | e
 ·exact .inl (hm i hi e)
 exact .inr e)⟩
theorem LOwn.lower {base' : Nat} (h : LOwn K A w base v L) (hb : base' ≤ base) : LOwn K A w base' v L := ⟨row_base h.own hb, h.ok⟩
theorem LOwn.slice (h : LOwn K A w base v L) : ∃ a c, v = .slice a L.length c := (Row.ofOwns (M := No) h.own (fun _ _ x => x)).slice
theorem LOwn.lt (h : LOwn K A w base v L) (k : Nat) (hk : v.ownBlock = some k) : base ≤ k ∧ k < w.heap.size := World.ownsRow.lt h.own k hk
theorem LOwn.app {E : Nat → Prop} (h : LOwn K A w base v L) (hp : K.ok (fun b => A b ∨ v.ownBlock = some b) w p) (hown : w'.ownsRow base K.T K.s v' (L.length + 1) (L.flatMap K.cells ++ K.cells p))
  (hE : Ext E w w') (hE2 : ∀ i, E i → v.ownBlock = some i) (hv : v'.ownBlock = v.ownBlock ∨ ∀ k, v'.ownBlock = some k → w.heap.size ≤ k) : LOwn K A w' base v' (L ++ [p]) := by
 refine ⟨?_, fun q hq => ?_⟩
 ·rw [List.length_append, List.flatMap_append, List.flatMap_cons, List.flatMap_nil, List.append_nil]; exact hown
 have hq2 : K.ok (fun b => A b ∨ v.ownBlock = some b) w q := by
  rcases List.mem_append.1 hq with hq | hq
  ·exact h.ok q hq
  rw [List.mem_singleton.1 hq]; exact hp
 have hq3 : K.ok (fun b => (A b ∨ v.ownBlock = some b) ∨ w.heap.size ≤ b) w q := K.mono hq2 (fun i hi e => by
  rcases e with e | e
  ·exact e
  omega)
 refine K.mono (K.ext hq3 hE (fun i _ e => .inl (.inr (hE2 i e)))) (fun i _ e => ?_)
 rcases e with e | e
 ·exact .inl (.inl e)
 rcases hv with hv | hv
 ·rw [hv] at e; exact .inl (.inr e)
 exact .inr (hv i e)
theorem LOwn.list (h : LOwn K A w base v L) (hb : ∀ b, base ≤ b → ¬ M b) (hA : ∀ b, M b → A b) : LAt K M w v L :=
 ⟨Row.ofOwns h.own hb, fun p hp => K.mono (h.ok p hp) (fun i _ e => .inl (hA i e))⟩
theorem LOwn.list2 (h : LOwn K A w base v L) (hb : ∀ b, v.ownBlock = some b → ¬ M b) (hA : ∀ b, M b → A b) : LAt K M w v L := by
 have h0 : Row No w K.s v L.length (L.flatMap K.cells) := Row.ofOwns h.own (fun _ _ x => x)
 refine ⟨?_, fun p hp => K.mono (h.ok p hp) (fun i _ e => .inl (hA i e))⟩
 obtain ⟨h1, h2, a, c, rfl, hcp, h4⟩ := h0
 refine ⟨h1, h2, a, c, rfl, hcp, ?_⟩
 rcases h4 with h4 | ⟨b, off, h5, h6, _, h8⟩
 ·exact .inl h4
 refine .inr ⟨b, off, h5, h6, hb b ?_, h8⟩
 rw [h5]; rfl
end
def kS : EK (RawSet × Value) where
 s := 2
 T := 24
 cells := fun p => [.int .i64 p.1.width, p.2]
 ok := fun M w p => WordsAt M w p.2 p.1.words
 len := fun _ => rfl
 ext := fun h hx hm => h.ext hx hm
 mono := fun h hm => h.mono hm
theorem LAt.atS {M : Nat → Prop} {w : World} {sl : Value} {L : List (RawSet × Value)} (h : LAt kS M w sl L) {i : Nat} (hi : i < L.length) : ∃ b off cap, sl = .slice (some ⟨b, off, none⟩) L.length cap ∧ b < w.heap.size ∧ ¬ M b ∧
  ∀ k (hk : k < L.length), w.cell? ⟨b, off + k * 2, none⟩ = some (.int .i64 L[k].1.width) ∧ w.cell? ⟨b, off + k * 2 + 1, none⟩ = some L[k].2 := by
 obtain ⟨b, off, cap, h1, h2, h3, h4⟩ := h.at hi
 exact ⟨b, off, cap, h1, h2, h3, fun k hk => ⟨h4 k hk 0 _ (by decide) rfl, h4 k hk 1 _ (by decide) rfl⟩⟩
theorem Ints.at {M : Nat → Prop} {w : World} {sl : Value} {l : List Int} (h : Ints M w .i64 sl l) {i : Nat} (hi : i < l.length) : ∃ b off cap, sl = .slice (some ⟨b, off, none⟩) l.length cap ∧ b < w.heap.size ∧ ¬ M b ∧
  ∀ k (hk : k < l.length), w.cell? ⟨b, off + k, none⟩ = some (.int .i64 l[k]) := by
 obtain ⟨b, off, cap, h1, h2, h3, h4⟩ := Row.shape h (by omega)
 exact ⟨b, off, cap, h1, h2, h3, fun k hk => h4 k _ (by simp [hk])⟩
abbrev LS := List (RawSet × Value)
def AscL (l : List Int) (n : Int) : Prop := ∀ i (h : i < l.length), 0 ≤ l[i] ∧ l[i] < n ∧ (0 < i → l[i - 1]'(by omega) < l[i])
def FitT (x : Int) (r : RawT) : Prop := validT r = true ∧ r.gen.width = x
def FitS (x : Int) (r : RawSet) : Prop := validB r = true ∧ r.width = x
def Tells (p : Prop) (W : World) (e : Ending) (w' : World) : Prop := ∃ b : Bool, e = .returned (.bool b) ∧ (b = true ↔ p) ∧ Ext No W w'
end Go.Proofs.YtmddchceacmopaaDoor

namespace Go.Proofs.YtmddchceacmopaaDoor
open Go Go.RowKit
theorem tells_true {p : Prop} {W w' : World} (h : p) (hx : Ext No W w') : Tells p W (.returned (.bool true)) w' := ⟨true, rfl, ⟨fun _ => h, fun _ => rfl⟩, hx⟩
theorem tells_yes {p : Prop} (h : true = true ↔ p) : p := h.1 rfl
theorem tells_no {p : Prop} (h : false = true ↔ p) : ¬ p := fun e => by cases h.2 e
theorem tells_false {p : Prop} {W w' : World} (h : ¬ p) (hx : Ext No W w') : Tells p W (.returned (.bool false)) w' := ⟨false, rfl, ⟨fun e => (by cases e), fun e => absurd e h⟩, hx⟩
set_option maxRecDepth 100000 in
set_option maxHeartbeats 2000000 in
theorem ascending_any (sl : Value) (l : List Int) (n : Int) (W : World) (h : Ints No W .i64 sl l) :
  Calls Tryd.prog 38 #[sl, .int .i64 n] W (Tells (AscL l n) W) := by
 have H := Lib.hid h
 obtain ⟨a, cap, rfl⟩ := Row.slice h
 have hlen := h.2.1
 clear h
 go_enter Tryd.func38, Tryd.ntmps38
 go_wp2_with fail
 go_loopw [5, 6, 9] (fun _ _ i wr => ∃ k : Nat, k ≤ l.length ∧ i = .int .i64 k ∧ Ext No W wr ∧ Hid (∀ j (hj : j < l.length), j < k → 0 ≤ l[j] ∧ l[j] < n ∧ (0 < j → l[j - 1]'(by omega) < l[j]))) (fun _ _ i _ => l.length - (intOf i).toNat)
 case atStart => exact ⟨0, Nat.zero_le _, rfl, Ext.refl _ _, Lib.hid (fun j _ hj => absurd hj (Nat.not_lt_zero _))⟩
 obtain ⟨k, hk, rfl, hx, hm⟩ := hrel
 by_cases hlt : k < l.length
 ·obtain ⟨b, off, cap', hsl, hb1, _, hcell⟩ := H.out.at hlt
  simp only [Value.slice.injEq] at hsl
  obtain ⟨rfl, _, rfl⟩ := hsl
  have q0 := hx.keep (hcell k hlt)
  have HK := Lib.hid hcell
  clear hcell
  obtain ⟨y, hy⟩ : ∃ y, y = l[k] := ⟨_, rfl⟩
  rw [← hy] at q0
  have HY := Lib.hid hy
  clear hy
  by_cases h1 : y < 0
  ·go_wp2_with fail
   go_ret
   exact tells_false (fun e => by have := (e k hlt).1; rw [← HY.out] at this; omega) hx
  by_cases h2 : n ≤ y
  ·go_wp2_with fail
   go_ret
   exact tells_false (fun e => by have := (e k hlt).2.1; rw [← HY.out] at this; omega) hx
  by_cases h3 : k = 0
  ·subst h3
   rw [Nat.add_zero] at q0
   go_wp2_with fail
   go_roundw
   case rel => exact ⟨1, by omega, by go_num, hx, Lib.hid (fun j hj hjk => by
    obtain rfl : j = 0 := by omega
    rw [← HY.out]
    exact ⟨by omega, by omega, fun e => absurd e (Nat.lt_irrefl _)⟩)⟩
   case measure => simp [intOf]; omega
  have hk1 : k - 1 < l.length := by omega
  have q1 := hx.keep (HK.out (k - 1) hk1)
  obtain ⟨z, hz⟩ : ∃ z, z = l[k - 1] := ⟨_, rfl⟩
  rw [← hz] at q1
  have HZ := Lib.hid hz
  clear hz
  have hpos : (0 : Int) < (k : Int) := by omega
  have hlm : IntKind.i64.wrap ((k : Int) - 1) = ((k - 1 : Nat) : Int) := by rw [IntWalk.i64_in _ (by omega)]; omega
  have hlp : 0 ≤ ((k - 1 : Nat) : Int) := by omega
  have hlq : ((k - 1 : Nat) : Int) < (l.length : Int) := by omega
  by_cases h4 : y ≤ z
  ·go_wp2_with fail
   go_ret
   exact tells_false (fun e => by have := (e k hlt).2.2 (by omega); rw [← HY.out, ← HZ.out] at this; omega) hx
  go_wp2_with fail
  go_roundw
  case rel => exact ⟨k + 1, by omega, by go_num, hx, Lib.hid (fun j hj hjk => by
   by_cases e : j = k
   ·subst e
    rw [← HY.out, ← HZ.out]
    exact ⟨by omega, by omega, fun _ => by omega⟩
   exact hm.out j hj (by omega))⟩
  case measure => simp [intOf]; omega
 go_wp2_with fail
 go_ret
 exact tells_true (fun j hj => hm.out j hj (by omega)) hx
theorem sized_any (x n : Int) (W : World) : Calls Tryd.prog 36 #[.int .i64 x, .int .i64 n] W (Tells ((0 ≤ x ∧ x ≤ 256) ∧ 1 ≤ n ∧ n ≤ 256) W) := by
 by_cases h1 : 0 ≤ x
 ·by_cases h2 : x ≤ 256
  ·by_cases h3 : 1 ≤ n
   ·by_cases h4 : n ≤ 256
    ·go_enter Tryd.func36, Tryd.ntmps36
     go_wp2_with fail
     go_ret
     exact tells_true ⟨⟨h1, h2⟩, h3, h4⟩ (Ext.refl _ _)
    go_enter Tryd.func36, Tryd.ntmps36
    go_wp2_with fail
    go_ret
    exact tells_false (by omega) (Ext.refl _ _)
   go_enter Tryd.func36, Tryd.ntmps36
   go_wp2_with fail
   go_ret
   exact tells_false (by omega) (Ext.refl _ _)
  go_enter Tryd.func36, Tryd.ntmps36
  go_wp2_with fail
  go_ret
  exact tells_false (by omega) (Ext.refl _ _)
 go_enter Tryd.func36, Tryd.ntmps36
 go_wp2_with fail
 go_ret
 exact tells_false (by omega) (Ext.refl _ _)
set_option maxHeartbeats 1000000 in
theorem sets1_any (x : Int) (p : RawSet) (v : Value) (g : Nat) (W : World) (h : WordsAt No W v p.words) (h0 : W.cell? ⟨g, 0, none⟩ = some (.int .i64 x)) :
  Calls Tryd.prog 65 #[.agg #[.int .i64 p.width, v], .pointer (some ⟨g, 0, none⟩)] W (Tells (¬ FitS x p) W) := by
 have HR : Hid (RawV No W (.agg #[.int .i64 p.width, v]) p) := Lib.hid ⟨_, rfl, h⟩
 obtain ⟨a, n, c, rfl⟩ := h.shaped
 clear h
 have hx0 : Ext No W (W.alloc (.cells #[.int .i64 p.width, .slice a n c] 24)) := (Ext.refl _ _).alloc _
 have HX := Lib.hid hx0
 clear hx0
 go_enter Tryd.func65, Tryd.ntmps65
 go_wp2_with fail
 refine (valid_any _ p _ (HR.out.extNo HX.out)).mono ?_
 rintro e1 w1 ⟨rfl, hx1⟩
 have hB := hx1.blk (alloc_top (w := W) (o := .cells #[.int .i64 p.width, .slice a n c] 24) rfl) no_no
 have hy := HX.out.transNo hx1
 have c0 := hy.keep h0
 have cB := cellOf hB
 have HY := Lib.hid hy
 clear hy hx1 hB h0
 cases hv : validB p with
 | false =>
  go_wp2_with fail
  go_ret
  exact tells_true (fun e => by have := e.1; rw [hv] at this; cases this) HY.out
 | true =>
  have HV := Lib.hid hv
  clear hv
  obtain ⟨y, hy⟩ : ∃ y, y = p.width := ⟨_, rfl⟩
  rw [← hy] at cB
  have HP := Lib.hid hy
  clear hy
  go_wp2_with fail
  go_ret
  exact ⟨_, rfl, ⟨fun e h => (by have := HP.out.trans h.2; simp [this] at e), fun e => by have : ¬ y = x := fun q => e ⟨HV.out, HP.out.symm.trans q⟩; simp [this]⟩, HY.out⟩
set_option maxRecDepth 100000 in
set_option maxHeartbeats 2000000 in
theorem indexS_any (x : Int) (g : Nat) (sl : Value) (L : List (RawSet × Value)) (W : World) (h : LAt kS No W sl L) (h0 : W.cell? ⟨g, 0, none⟩ = some (.int .i64 x)) :
  Calls Tryd.prog 94 #[sl, .func (.func 65) #[] #[.pointer (some ⟨g, 0, none⟩)]] W fun e w' => (∃ z : Int, e = .returned (.int .i64 z) ∧ (0 ≤ z ↔ ∃ (k : Nat) (hk : k < L.length), ¬ FitS x L[k].1)) ∧ Ext No W w' := by
 have H := Lib.hid h
 obtain ⟨a, cap, rfl⟩ := h.slice
 have hlen := h.row.2.1
 clear h
 go_enter Tryd.func94, Tryd.ntmps94
 go_wp2_with fail
 go_loopw [5, 8] (fun _ i wr => ∃ k : Nat, k ≤ L.length ∧ i = .int .i64 k ∧ Ext No W wr ∧ Hid (∀ j (hj : j < L.length), j < k → ¬ ¬ FitS x L[j].1)) (fun _ i _ => L.length - (intOf i).toNat)
 case atStart => exact ⟨0, Nat.zero_le _, rfl, Ext.refl _ _, Lib.hid (fun j _ hj => absurd hj (Nat.not_lt_zero _))⟩
 obtain ⟨k, hk, rfl, hx, hm⟩ := hrel
 by_cases hlt : k < L.length
 ·obtain ⟨b, off, cap', hsl, hb1, _, hcell⟩ := H.out.atS hlt
  simp only [Value.slice.injEq] at hsl
  obtain ⟨rfl, _, rfl⟩ := hsl
  have hq := hcell k hlt
  have hok := H.out.ok L[k] (List.getElem_mem hlt)
  clear hcell
  obtain ⟨p, hp⟩ : ∃ p, p = L[k] := ⟨_, rfl⟩
  rw [← hp] at hq hok
  have HP := Lib.hid hp
  clear hp
  obtain ⟨q0, q1⟩ := hq
  replace q0 := hx.keep q0
  replace q1 := hx.keep q1
  obtain ⟨pa, pc, hpe⟩ := hok.slice
  rw [hpe] at q1
  have HOK := Lib.hid hok
  clear hok
  have HPE := Lib.hid hpe
  have c0 := hx.keep h0
  clear hpe
  go_wp2_with fail
  go_at_call 65
  refine (sets1_any x p.1 _ g _ (by rw [← HPE.out]; exact HOK.out.extNo hx) (hx.keep h0)).mono ?_
  rintro e1 w1 ⟨bb, rfl, hbb, hx1⟩
  cases bb with
  | true =>
   have HBB := Lib.hid (tells_yes hbb)
   clear hbb
   go_wp2_with fail
   go_ret
   exact ⟨⟨k, rfl, ⟨fun _ => ⟨k, hlt, by have := HBB.out; rw [HP.out] at this; exact this⟩, fun _ => by omega⟩⟩, hx.transNo hx1⟩
  | false =>
   have HBB := Lib.hid (tells_no hbb)
   clear hbb
   go_wp2_with fail
   go_roundw
   case rel => exact ⟨k + 1, by omega, by go_num, hx.transNo hx1, Lib.hid (fun j hj hjk hbad => by
    by_cases e : j = k
    ·subst e
     rw [← HP.out] at hbad
     exact HBB.out hbad
    exact hm.out j hj (by omega) hbad)⟩
   case measure => simp [intOf]; omega
 go_wp2_with fail
 go_ret
 exact ⟨⟨-1, rfl, ⟨fun e => absurd e (by decide), fun ⟨j, hj, e⟩ => absurd e (hm.out j hj (by omega))⟩⟩, hx⟩
theorem containsS_any (x : Int) (g : Nat) (sl : Value) (L : List (RawSet × Value)) (W : World) (h : LAt kS No W sl L) (h0 : W.cell? ⟨g, 0, none⟩ = some (.int .i64 x)) :
  Calls Tryd.prog 64 #[sl, .func (.func 65) #[] #[.pointer (some ⟨g, 0, none⟩)]] W (Tells (∃ (k : Nat) (hk : k < L.length), ¬ FitS x L[k].1) W) := by
 go_enter Tryd.func64, Tryd.ntmps64
 go_wp2_with fail
 refine (indexS_any x g _ L _ h h0).mono ?_
 rintro e w1 ⟨⟨z, rfl, hz⟩, hx⟩
 have HZ := Lib.hid hz
 clear hz
 go_wp2_with fail
 go_ret
 exact ⟨_, rfl, ⟨fun e => HZ.out.1 (by simpa using e), fun e => by simpa using HZ.out.2 e⟩, hx⟩
theorem sets_any (x : Int) (sl : Value) (L : LS) (W : World) (h : LAt kS No W sl L) : Calls Tryd.prog 37 #[.int .i64 x, sl] W (Tells (∀ p ∈ L, FitS x p.1) W) := by
 have H := Lib.hid h
 obtain ⟨a, c, rfl⟩ := h.slice
 clear h
 go_enter Tryd.func37, Tryd.ntmps37
 go_wp2_with fail
 have hx0 : Ext No W (W.alloc (.cells #[.int .i64 x] 3)) := (Ext.refl _ _).alloc _
 refine (containsS_any x W.heap.size _ L _ (H.out.extNo hx0) (cellOf (alloc_top rfl) 0)).mono ?_
 rintro e1 w1 ⟨bb, rfl, hbb, hx1⟩
 cases bb with
 | true =>
  have HBB := Lib.hid (tells_yes hbb)
  clear hbb
  go_wp2_with fail
  go_ret
  obtain ⟨k, hk, hb⟩ := HBB.out
  exact tells_false (fun e => hb (e _ (List.getElem_mem hk))) (hx0.transNo hx1)
 | false =>
  have HBB := Lib.hid (tells_no hbb)
  clear hbb
  go_wp2_with fail
  go_ret
  refine tells_true (fun p hp => Classical.byContradiction fun hn => ?_) (hx0.transNo hx1)
  obtain ⟨k, hk, rfl⟩ := List.getElem_of_mem hp
  exact HBB.out ⟨k, hk, hn⟩
set_option maxHeartbeats 1000000 in
theorem fits_any (x : Int) (r : RawT) (g1 k1 c1 : Value) (W : World) (h : RawTAt No W g1 k1 c1 r) :
  Calls Tryd.prog 41 #[.int .i64 x, .agg #[.int .i64 r.gen.width, g1, .int .i64 r.kill.width, k1, c1]] W (Tells (FitT x r) W) := by
 have H := Lib.hid h
 obtain ⟨ag, ng, cg, rfl⟩ := h.gen.shaped
 obtain ⟨ak, nk, ck, rfl⟩ := h.kill.shaped
 obtain ⟨ac, nc, cc, rfl⟩ := h.copies.shaped
 clear h
 go_enter Tryd.func41, Tryd.ntmps41
 go_wp2_with fail
 have hx0 : Ext No W (W.alloc (.cells #[.int .i64 r.gen.width, .slice ag ng cg, .int .i64 r.kill.width, .slice ak nk ck, .slice ac nc cc] 30)) := (Ext.refl _ _).alloc _
 refine (validT_any r _ _ _ _ (H.out.extNo hx0)).mono ?_
 rintro e1 w1 ⟨rfl, hx1⟩
 have hB := hx1.blk (alloc_top (w := W) (o := .cells #[.int .i64 r.gen.width, .slice ag ng cg, .int .i64 r.kill.width, .slice ak nk ck, .slice ac nc cc] 30) rfl) no_no
 have HY := Lib.hid (hx0.transNo hx1)
 have cB := cellOf hB
 clear hx1 hB hx0
 cases hv : validT r with
 | false =>
  go_wp2_with fail
  go_ret
  exact tells_false (fun e => by have := e.1; rw [hv] at this; cases this) HY.out
 | true =>
  have HV := Lib.hid hv
  clear hv
  obtain ⟨y, hy⟩ : ∃ y, y = r.gen.width := ⟨_, rfl⟩
  rw [← hy] at cB
  have HP := Lib.hid hy
  clear hy
  go_wp2_with fail
  go_ret
  exact ⟨_, rfl, ⟨fun e => ⟨HV.out, HP.out.symm.trans (by simpa using e)⟩, fun h => by have := HP.out.trans h.2; simp [this]⟩, HY.out⟩


import Derived.Test.YtmddchceacmopaaGreatDoorTr30
set_option linter.unusedVariables false
set_option linter.unusedSimpArgs false
namespace Go.Proofs.YtmddchceacmopaaGreatDoor
open Go Go.RowKit
theorem bool_ext {a b : Bool} (h : a = true ↔ b = true) : a = b := by cases a <;> cases b <;> simp_all
theorem applyT_lt {t : TrD} {s : Nat} (ho : TrOk t) (hs : s < 2 ^ t.w) : applyT t s < 2 ^ t.w := applyN_lt ho hs _
theorem sub_of {w a b : Nat} (ha : a < 2 ^ w) (h : ∀ i, i < w → a.testBit i = true → b.testBit i = true) : subN a b = true := subN_iff.2 fun i hi => by
 by_cases hw : i < w
 ·exact h i hw hi
 rw [bit_high ha (by omega)] at hi; cases hi
theorem or_of_sub {a b : Nat} (h : subN a b = true) : a ||| b = b := sub_bits.2 (fun i hi => subN_iff.1 h i hi)
theorem sub_of_or {a b : Nat} (h : a ||| b = b) : subN a b = true := subN_iff.2 (fun i hi => sub_bits.1 h i hi)
theorem star_least {f : TrD} (hf : TrOk f) (hc : TrOk (starT f)) {s r : Nat} (hs : s < 2 ^ f.w) (hr : r < 2 ^ f.w) (h1 : subN s r = true) (h2 : subN (applyT f r) r = true) : subN (applyT (starT f) s) r = true := by
 have hfix : stepN (rowsN f f.w f.copies.length) f.w r = r := by
  refine Nat.eq_of_testBit_eq fun i => bool_ext ?_
  rw [show stepN (rowsN f f.w f.copies.length) f.w r = r ||| imgN (rowsN f f.w f.copies.length) f.w r from rfl, Nat.testBit_or, Bool.or_eq_true]
  constructor
  ·rintro (h | h)
   ·exact h
   refine subN_iff.1 h2 i ?_
   rw [apply_rows hf hr, show orN f.gen (imgN (rowsN f f.w f.copies.length) f.w r) = f.gen ||| imgN (rowsN f f.w f.copies.length) f.w r from rfl, Nat.testBit_or, h, Bool.or_true]
  exact .inl
 have hgen : subN f.gen r = true := subN_iff.2 fun i hi => subN_iff.1 h2 i (by
  rw [apply_rows hf hr, show orN f.gen (imgN (rowsN f f.w f.copies.length) f.w r) = f.gen ||| imgN (rowsN f f.w f.copies.length) f.w r from rfl, Nat.testBit_or, hi, Bool.true_or])
 have hcl : ∀ q, q < 2 ^ f.w → subN q r = true → subN (closN (rowsN f f.w f.copies.length) f.w q) r = true := fun q hq hqr =>
  sub_of_or ((clos_any (rows_lt hf) hq).least r hfix (or_of_sub hqr))
 refine sub_of (w := f.w) (applyT_lt hc hs) (fun i hiw hi => ?_)
 rw [show applyT (starT f) s = applyT (closeT f.w (closN (rowsN f f.w f.copies.length) f.w f.gen) (starRows f.w (rowsN f f.w f.copies.length) f.w)) s from rfl, close_bit hc hiw] at hi
 rcases hi with hi | ⟨a, ha, h3, h4⟩
 ·exact subN_iff.1 (hcl _ hf.gen hgen) i hi
 rw [starRows_at ha] at h4
 refine subN_iff.1 (hcl _ (bitN_lt ha) ?_) i h4
 refine subN_iff.2 fun j hj => ?_
 rw [one_bit] at hj
 have : a = j := of_decide_eq_true hj
 rw [← this]
 exact subN_iff.1 h1 a h3
end Go.Proofs.YtmddchceacmopaaGreatDoor

namespace Go.Proofs.YtmddchceacmopaaGreatDoor
open Go Go.RowKit
theorem zero_row {M : Nat → Prop} {w : World} {s : Nat} : Row M w s (.slice none 0 0) 0 [] := ⟨by simp, by omega, none, 0, rfl, by simp, .inl rfl⟩
end Go.Proofs.YtmddchceacmopaaGreatDoor

namespace Go.Proofs.YtmddchceacmopaaGreatDoor
open Go Go.RowKit
def zeroS : RawSet := ⟨0, []⟩
end Go.Proofs.YtmddchceacmopaaGreatDoor

namespace Go.Proofs.YtmddchceacmopaaGreatDoor
open Go Go.RowKit
structure EK (β : Type) where
 s : Nat
 T : TypeId
 cells : β → List Value
 ok : (Nat → Prop) → World → β → Prop
 len : ∀ b, (cells b).length = s
 ext : ∀ {M M' : Nat → Prop} {w w' : World} {b : β}, ok M w b → Ext M' w w' → (∀ i, i < w.heap.size → M' i → M i) → ok M w' b
 mono : ∀ {M M' : Nat → Prop} {w : World} {b : β}, ok M w b → (∀ i, i < w.heap.size → M' i → M i) → ok M' w b
structure LAt {β : Type} (K : EK β) (M : Nat → Prop) (w : World) (sl : Value) (L : List β) : Prop where
 row : Row M w K.s sl L.length (L.flatMap K.cells)
 ok : ∀ p ∈ L, K.ok M w p
structure LOwn {β : Type} (K : EK β) (A : Nat → Prop) (w : World) (base : Nat) (v : Value) (L : List β) : Prop where
 own : w.ownsRow base K.T K.s v L.length (L.flatMap K.cells)
 ok : ∀ p ∈ L, K.ok (fun b => A b ∨ v.ownBlock = some b) w p
section
variable {β : Type} {K : EK β} {M M' A : Nat → Prop} {w w' : World} {sl v v' : Value} {L : List β} {base g cap : Nat} {p : β}
theorem flat_get2 (K : EK β) (L : List β) (i j : Nat) (hi : i < L.length) (hj : j < K.s) : (L.flatMap K.cells)[i * K.s + j]? = (K.cells L[i])[j]? := by
 rw [Nat.mul_comm]
 exact flat_get K.cells K.s K.len L i j hi hj
theorem LAt.ext (h : LAt K M w sl L) (hx : Ext M' w w') (hm : ∀ i, i < w.heap.size → M' i → M i) : LAt K M w' sl L := ⟨h.row.ext hx hm, fun p hp => K.ext (h.ok p hp) hx hm⟩
theorem LAt.extNo (h : LAt K M w sl L) (hx : Ext No w w') : LAt K M w' sl L := h.ext hx (fun _ _ x => x.elim)
theorem LAt.mono (h : LAt K M w sl L) (hm : ∀ i, i < w.heap.size → M' i → M i) : LAt K M' w sl L := ⟨h.row.mono hm, fun p hp => K.mono (h.ok p hp) hm⟩
theorem LAt.no (h : LAt K M w sl L) : LAt K No w sl L := h.mono (fun _ _ x => x.elim)
theorem LAt.slice (h : LAt K M w sl L) : ∃ a c, sl = .slice a L.length c := h.row.slice
theorem LAt.at (h : LAt K M w sl L) {i : Nat} (hi : i < L.length) : ∃ b off cap, sl = .slice (some ⟨b, off, none⟩) L.length cap ∧ b < w.heap.size ∧ ¬ M b ∧
  ∀ k (hk : k < L.length) j u, j < K.s → (K.cells L[k])[j]? = some u → w.cell? ⟨b, off + (k * K.s + j), none⟩ = some u := by
 obtain ⟨b, off, cap, h1, h2, h3, h4⟩ := h.row.shape (by omega)
 exact ⟨b, off, cap, h1, h2, h3, fun k hk j u hj hu => h4 _ u (by rw [flat_get2 K L k j hk hj]; exact hu)⟩
theorem LAt.nil (a : Option Addr) (c : Nat) (hc : c ≤ 9223372036854775807) : LAt K M w (.slice a 0 c) [] := ⟨Row.nil _ _ _ _ _ hc, fun _ h => by cases h⟩
theorem LOwn.nil (K : EK β) (A : Nat → Prop) (w : World) (base : Nat) : LOwn K A w base (.slice none 0 0) [] := ⟨⟨by simp, .inl ⟨rfl, rfl⟩⟩, fun _ h => by cases h⟩
theorem LOwn.ext (h : LOwn K A w base v L) (hx : Ext M w w') (h1 : ∀ i, base ≤ i → ¬ M i) (h2 : ∀ i, M i → A i) : LOwn K A w' base v L :=
 ⟨row_keep h.own hx h1, fun p hp => K.ext (h.ok p hp) hx (fun i _ e => .inl (h2 i e))⟩
theorem LOwn.ext2 (h : LOwn K A w base v L) (hx : Ext M w w') (h1 : ∀ i, v.ownBlock = some i → ¬ M i) (h2 : ∀ i, i < w.heap.size → M i → A i) : LOwn K A w' base v L :=
 ⟨row_keep2 h.own hx h1, fun p hp => K.ext (h.ok p hp) hx (fun i hi e => .inl (h2 i hi e))⟩
theorem LOwn.extNo (h : LOwn K A w base v L) (hx : Ext No w w') : LOwn K A w' base v L := h.ext hx (fun _ _ x => x) (fun _ x => x.elim)
theorem LOwn.mono {A' : Nat → Prop} (h : LOwn K A w base v L) (hm : ∀ i, i < w.heap.size → A' i → A i) : LOwn K A' w base v L := ⟨h.own, fun p hp => K.mono (h.ok p hp) (fun i hi e => by
 rcases e with e | e
 ·exact .inl (hm i hi e)
 exact .inr e)⟩
theorem LOwn.lower {base' : Nat} (h : LOwn K A w base v L) (hb : base' ≤ base) : LOwn K A w base' v L := ⟨row_base h.own hb, h.ok⟩
theorem LOwn.slice (h : LOwn K A w base v L) : ∃ a c, v = .slice a L.length c := (Row.ofOwns (M := No) h.own (fun _ _ x => x)).slice
theorem LOwn.lt (h : LOwn K A w base v L) (k : Nat) (hk : v.ownBlock = some k) : base ≤ k ∧ k < w.heap.size := World.ownsRow.lt h.own k hk
theorem LOwn.app {E : Nat → Prop} (h : LOwn K A w base v L) (hp : K.ok (fun b => A b ∨ v.ownBlock = some b) w p) (hown : w'.ownsRow base K.T K.s v' (L.length + 1) (L.flatMap K.cells ++ K.cells p))
  (hE : Ext E w w') (hE2 : ∀ i, E i → v.ownBlock = some i) (hv : v'.ownBlock = v.ownBlock ∨ ∀ k, v'.ownBlock = some k → w.heap.size ≤ k) : LOwn K A w' base v' (L ++ [p]) := by
 refine ⟨?_, fun q hq => ?_⟩
 ·rw [List.length_append, List.flatMap_append, List.flatMap_cons, List.flatMap_nil, List.append_nil]; exact hown
 have hq2 : K.ok (fun b => A b ∨ v.ownBlock = some b) w q := by
  rcases List.mem_append.1 hq with hq | hq
  ·exact h.ok q hq
  rw [List.mem_singleton.1 hq]; exact hp
 have hq3 : K.ok (fun b => (A b ∨ v.ownBlock = some b) ∨ w.heap.size ≤ b) w q := K.mono hq2 (fun i hi e => by
  rcases e with e | e
  ·exact e
  omega)
 refine K.mono (K.ext hq3 hE (fun i _ e => .inl (.inr (hE2 i e)))) (fun i _ e => ?_)
 rcases e with e | e
 ·exact .inl (.inl e)
 rcases hv with hv | hv
 ·rw [hv] at e; exact .inl (.inr e)
 exact .inr (hv i e)
theorem LOwn.list (h : LOwn K A w base v L) (hb : ∀ b, base ≤ b → ¬ M b) (hA : ∀ b, M b → A b) : LAt K M w v L :=
 ⟨Row.ofOwns h.own hb, fun p hp => K.mono (h.ok p hp) (fun i _ e => .inl (hA i e))⟩
theorem LOwn.list2 (h : LOwn K A w base v L) (hb : ∀ b, v.ownBlock = some b → ¬ M b) (hA : ∀ b, M b → A b) : LAt K M w v L := by
 have h0 : Row No w K.s v L.length (L.flatMap K.cells) := Row.ofOwns h.own (fun _ _ x => x)
 refine ⟨?_, fun p hp => K.mono (h.ok p hp) (fun i _ e => .inl (hA i e))⟩
 obtain ⟨h1, h2, a, c, rfl, hcp, h4⟩ := h0
 refine ⟨h1, h2, a, c, rfl, hcp, ?_⟩
 rcases h4 with h4 | ⟨b, off, h5, h6, _, h8⟩
 ·exact .inl h4
 refine .inr ⟨b, off, h5, h6, hb b ?_, h8⟩
 rw [h5]; rfl
end
def kS : EK (RawSet × Value) where
 s := 2
 T := 44
 cells := fun p => [.int .i64 p.1.width, p.2]
 ok := fun M w p => WordsAt M w p.2 p.1.words
 len := fun _ => rfl
 ext := fun h hx hm => h.ext hx hm
 mono := fun h hm => h.mono hm
def kT : EK (RawT × Value × Value × Value) where
 s := 5
 T := 47
 cells := fun p => [.int .i64 p.1.gen.width, p.2.1, .int .i64 p.1.kill.width, p.2.2.1, p.2.2.2]
 ok := fun M w p => RawTAt M w p.2.1 p.2.2.1 p.2.2.2 p.1
 len := fun _ => rfl
 ext := fun h hx hm => h.ext hx hm
 mono := fun h hm => h.mono hm
def kD : EK (List Int × Value) where
 s := 1
 T := 22
 cells := fun p => [p.2]
 ok := fun M w p => Ints M w .i64 p.2 p.1
 len := fun _ => rfl
 ext := fun h hx hm => Row.ext h hx hm
 mono := fun h hm => Row.mono h hm
theorem LAt.atS {M : Nat → Prop} {w : World} {sl : Value} {L : List (RawSet × Value)} (h : LAt kS M w sl L) {i : Nat} (hi : i < L.length) : ∃ b off cap, sl = .slice (some ⟨b, off, none⟩) L.length cap ∧ b < w.heap.size ∧ ¬ M b ∧
  ∀ k (hk : k < L.length), w.cell? ⟨b, off + k * 2, none⟩ = some (.int .i64 L[k].1.width) ∧ w.cell? ⟨b, off + k * 2 + 1, none⟩ = some L[k].2 := by
 obtain ⟨b, off, cap, h1, h2, h3, h4⟩ := h.at hi
 exact ⟨b, off, cap, h1, h2, h3, fun k hk => ⟨h4 k hk 0 _ (by decide) rfl, h4 k hk 1 _ (by decide) rfl⟩⟩
theorem LAt.atT {M : Nat → Prop} {w : World} {sl : Value} {L : List (RawT × Value × Value × Value)} (h : LAt kT M w sl L) {i : Nat} (hi : i < L.length) : ∃ b off cap, sl = .slice (some ⟨b, off, none⟩) L.length cap ∧ b < w.heap.size ∧ ¬ M b ∧
  ∀ k (hk : k < L.length), w.cell? ⟨b, off + k * 5, none⟩ = some (.int .i64 L[k].1.gen.width) ∧ w.cell? ⟨b, off + k * 5 + 1, none⟩ = some L[k].2.1 ∧ w.cell? ⟨b, off + k * 5 + 2, none⟩ = some (.int .i64 L[k].1.kill.width) ∧ w.cell? ⟨b, off + k * 5 + 3, none⟩ = some L[k].2.2.1 ∧ w.cell? ⟨b, off + k * 5 + 4, none⟩ = some L[k].2.2.2 := by
 obtain ⟨b, off, cap, h1, h2, h3, h4⟩ := h.at hi
 exact ⟨b, off, cap, h1, h2, h3, fun k hk => ⟨h4 k hk 0 _ (by decide) rfl, h4 k hk 1 _ (by decide) rfl, h4 k hk 2 _ (by decide) rfl, h4 k hk 3 _ (by decide) rfl, h4 k hk 4 _ (by decide) rfl⟩⟩
theorem LAt.atD {M : Nat → Prop} {w : World} {sl : Value} {L : List (List Int × Value)} (h : LAt kD M w sl L) {i : Nat} (hi : i < L.length) : ∃ b off cap, sl = .slice (some ⟨b, off, none⟩) L.length cap ∧ b < w.heap.size ∧ ¬ M b ∧
  ∀ k (hk : k < L.length), w.cell? ⟨b, off + k, none⟩ = some L[k].2 := by
 obtain ⟨b, off, cap, h1, h2, h3, h4⟩ := h.at hi
 exact ⟨b, off, cap, h1, h2, h3, fun k hk => (congrArg (fun n => w.cell? ⟨b, off + n, none⟩) (show k = k * 1 + 0 by omega)).trans (h4 k hk 0 _ (by decide) rfl)⟩
theorem Ints.at {M : Nat → Prop} {w : World} {sl : Value} {l : List Int} (h : Ints M w .i64 sl l) {i : Nat} (hi : i < l.length) : ∃ b off cap, sl = .slice (some ⟨b, off, none⟩) l.length cap ∧ b < w.heap.size ∧ ¬ M b ∧
  ∀ k (hk : k < l.length), w.cell? ⟨b, off + k, none⟩ = some (.int .i64 l[k]) := by
 obtain ⟨b, off, cap, h1, h2, h3, h4⟩ := Row.shape h (by omega)
 exact ⟨b, off, cap, h1, h2, h3, fun k hk => h4 k _ (by simp [hk])⟩
abbrev LD := List (List Int × Value)
abbrev LT := List (RawT × Value × Value × Value)
abbrev LS := List (RawSet × Value)
structure YAt (M : Nat → Prop) (w : World) (vd vt vb : Value) (Ld : LD) (Lt : LT) (Lb : LS) : Prop where
 d : LAt kD M w vd Ld
 t : LAt kT M w vt Lt
 b : LAt kS M w vb Lb
section
variable {M M' : Nat → Prop} {w w' : World} {vd vt vb : Value} {Ld : LD} {Lt : LT} {Lb : LS}
theorem YAt.ext (h : YAt M w vd vt vb Ld Lt Lb) (hx : Ext M' w w') (hm : ∀ i, i < w.heap.size → M' i → M i) : YAt M w' vd vt vb Ld Lt Lb := ⟨h.d.ext hx hm, h.t.ext hx hm, h.b.ext hx hm⟩
theorem YAt.extNo (h : YAt M w vd vt vb Ld Lt Lb) (hx : Ext No w w') : YAt M w' vd vt vb Ld Lt Lb := h.ext hx (fun _ _ x => x.elim)
theorem YAt.mono (h : YAt M w vd vt vb Ld Lt Lb) (hm : ∀ i, i < w.heap.size → M' i → M i) : YAt M' w vd vt vb Ld Lt Lb := ⟨h.d.mono hm, h.t.mono hm, h.b.mono hm⟩
theorem YAt.no (h : YAt M w vd vt vb Ld Lt Lb) : YAt No w vd vt vb Ld Lt Lb := h.mono (fun _ _ x => x.elim)
end
def AscL (l : List Int) (n : Int) : Prop := ∀ i (h : i < l.length), 0 ≤ l[i] ∧ l[i] < n ∧ (0 < i → l[i - 1]'(by omega) < l[i])
def sumL (Ld : LD) : Nat := (Ld.map fun p => p.1.length).sum
def FitT (x : Int) (r : RawT) : Prop := validT r = true ∧ r.gen.width = x
def FitS (x : Int) (r : RawSet) : Prop := validB r = true ∧ r.width = x
structure VS (x : Int) (Ld : LD) (Lt : LT) (Lb : LS) : Prop where
 w : 0 ≤ x ∧ x ≤ 256
 n : 1 ≤ Ld.length ∧ Ld.length ≤ 256
 lt : Lt.length = Ld.length
 lb : Lb.length = Ld.length
 asc : ∀ p ∈ Ld, AscL p.1 Ld.length
 tot : sumL Ld ≤ 1024
 sets : ∀ p ∈ Lb, FitS x p.1
 trs : ∀ p ∈ Lt, FitT x p.1
def Tells (p : Prop) (W : World) (e : Ending) (w' : World) : Prop := ∃ b : Bool, e = .returned (.bool b) ∧ (b = true ↔ p) ∧ Ext No W w'

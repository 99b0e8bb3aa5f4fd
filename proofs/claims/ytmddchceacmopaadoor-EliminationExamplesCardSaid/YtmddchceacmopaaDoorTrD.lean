
import Derived.Test.YtmddchceacmopaaDoorSetB
import Derived.Test.YtmddchceacmopaaDoorTrC
set_option linter.unusedVariables false
set_option linter.unusedSimpArgs false
namespace Go.Proofs.YtmddchceacmopaaDoor
open Go Go.RowKit
def EOwn (w m : Nat) (W : World) (e : Ending) (w' : World) : Prop :=
 ∃ g, e = .returned (.tuple #[.agg #[.int .i64 (w : Int), .slice (some ⟨g, 0, none⟩) (nw w) (nw w)], .int .i64 0]) ∧ Hid (BlkW w' g w m) ∧ W.heap.size ≤ g ∧ Ext No W w'
set_option maxHeartbeats 400000 in
theorem bempty_own (w : Nat) (W : World) (hw : w ≤ 256) : Calls Tryd.prog 83 #[.int .i64 (w : Int)] W (EOwn w 0 W) := by
 have hmk := mk_words (nw w) (by unfold nw; omega)
 have hr : rangedB w = true := decide_eq_true ⟨by omega, by omega⟩
 go_enter Tryd.func83, Tryd.ntmps83
 go_wp2_with fail
 refine (ranged_any _ _).mono ?_
 rintro e1 w1 ⟨rfl, rfl⟩
 rw [hr]
 go_wp2_with fail
 refine (words_any w hw _).mono ?_
 rintro e2 w2 ⟨rfl, rfl⟩
 go_wp2_with fail
 have hC : ((W.alloc (.cells #[.int .i64 (w : Int), .slice (some ⟨W.heap.size + 1, 0, none⟩) (nw w) (nw w)] 24)).alloc (.cells (zeroW (nw w)) 83)).heap[W.heap.size]? = some (.cells #[.int .i64 (w : Int), .slice (some ⟨W.heap.size + 1, 0, none⟩) (nw w) (nw w)] 24 (0, 0)) := alloc_under (alloc_top rfl)
 have cC := cellOf hC
 refine ret_ex rfl ?_
 simp [results, Tryd.results83, go_sem, cC]
 refine ⟨_, rfl, Lib.hid ?_, by omega, ((Ext.refl _ _).alloc _).alloc _⟩
 have h := BlkW.zero (W := W.alloc (.cells #[.int .i64 (w : Int), .slice (some ⟨W.heap.size + 1, 0, none⟩) (nw w) (nw w)] 24)) (w := w)
 simpa using h
def ofN (l : List Int) : Nat := l.foldl (fun m b => m ||| 2 ^ b.toNat) 0
theorem ofN_snoc (l : List Int) (b : Nat) : ofN (l ++ [(b : Int)]) = ofN l ||| 2 ^ b := by simp [ofN]
theorem ofN_one (b : Nat) : ofN [(b : Int)] = 2 ^ b := by simp [ofN]
theorem ofN_lt {w : Nat} (l : List Int) (h : ∀ x ∈ l, 0 ≤ x ∧ x < (w : Int)) : ofN l < 2 ^ w := by
 have key : ∀ (l : List Int) (m : Nat), m < 2 ^ w → (∀ x ∈ l, 0 ≤ x ∧ x < (w : Int)) → l.foldl (fun m b => m ||| 2 ^ b.toNat) m < 2 ^ w := by
  intro l
  induction l with
  | nil => intro m hm _; exact hm
  | cons x l ih =>
   intro m hm h
   rw [List.foldl_cons]
   have := h x (List.mem_cons_self ..)
   exact ih _ (orN_lt hm (bitN_lt (by omega))) (fun y hy => h y (List.mem_cons_of_mem _ hy))
 exact key l 0 (Nat.two_pow_pos w) h
structure OfM (W wr : World) (w m g D : Nat) : Prop where
 ext : Ext No W wr
 boxC : wr.heap[W.heap.size]? = some (.cells #[.int .i64 0, .slice none 0 0] 24 (0, 0))
 boxD : wr.heap[D]? = some (.cells #[.int .i64 (w : Int), .slice (some ⟨g, 0, none⟩) (nw w) (nw w)] 24 (0, 0))
 own : OwnW wr (W.heap.size + 1) (.slice (some ⟨g, 0, none⟩) (nw w) (nw w)) (wordsN w m)
 hg : W.heap.size + 1 ≤ g
 hD : g < D
theorem OfM.put {W wr w' : World} {w m m' g D : Nat} (h : OfM W wr w m g D) (ho : OwnW w' (W.heap.size + 1) (.slice (some ⟨g, 0, none⟩) (nw w) (nw w)) (wordsN w m')) (hx : Ext (At g) wr w') : OfM W w' w m' g D := by
 have h1 := h.hg
 have h2 := h.hD
 exact ⟨h.ext.trans2 hx (fun i hi e => by unfold At at e; omega), hx.blk h.boxC (by unfold At; omega), hx.blk h.boxD (by unfold At; omega), ho, h1, h2⟩
set_option maxRecDepth 100000 in
set_option maxHeartbeats 1000000 in
theorem of_any (M : Nat → Prop) (w : Nat) (l : List Int) (sl : Value) (W : World) (hM : ∀ b, M b → b < W.heap.size) (hw : w ≤ 256) (hl : Row No W 1 sl l.length (ints l)) (hin : ∀ x ∈ l, 0 ≤ x ∧ x < (w : Int)) :
  Calls Tryd.prog 96 #[.int .i64 (w : Int), sl] W (SetEPost M w (ofN l) W) := by
 have HL := Lib.hid hl
 have HM := Lib.hid hM
 have HIN := Lib.hid hin
 obtain ⟨a, c, rfl⟩ := hl.slice
 have hbig := hl.2.1
 clear hl hM hin
 go_enter Tryd.func96, Tryd.ntmps96
 go_wp2_with fail
 refine (bempty_own w _ hw).mono ?_
 rintro e1 w1 ⟨g, rfl, hb, hg, hx1⟩
 rw [alloc_size1] at hg
 have hxa : Ext No W w1 := Ext.transNo ((Ext.refl _ _).alloc _) hx1
 have hbC := hx1.blk (alloc_top (w := W) rfl) no_no
 have hgl := lt_of_block (show w1.heap[g]? = _ from hb.out)
 have hm0 := Lib.hid (show OfM W (w1.alloc (.cells #[.int .i64 (w : Int), .slice (some ⟨g, 0, none⟩) (nw w) (nw w)] 24)) w 0 g w1.heap.size from
  ⟨hxa.alloc _, alloc_under hbC, alloc_top rfl, (hb.out.own hw hg).ext ((Ext.refl No _).alloc _) (fun _ _ x => x), hg, hgl⟩)
 clear hb hg hx1 hxa hbC hgl
 go_wp2_with fail
 generalize (w1.alloc (.cells #[.int .i64 (w : Int), .slice (some ⟨g, 0, none⟩) (nw w) (nw w)] 24)) = W1 at *
 generalize w1.heap.size = D at *
 go_loopw [17] (fun i wr => ∃ k : Nat, k ≤ l.length ∧ i = .int .i64 k ∧ Hid (OfM W wr w (ofN (l.take k)) g D)) (fun i _ => l.length - (intOf i).toNat)
 case atStart => exact ⟨0, Nat.zero_le _, rfl, hm0⟩
 clear hm0
 obtain ⟨k, hk, rfl, hm⟩ := hrel
 rename World => wr
 have hpos : (0 : Int) ≤ (k : Int) := by omega
 by_cases hlt : k < l.length
 ·obtain ⟨b, off, cap, hsl, _, _, hcell⟩ := (HL.out.extNo hm.out.ext).shape (by omega)
  simp only [Value.slice.injEq] at hsl
  obtain ⟨rfl, _, rfl⟩ := hsl
  have q0 := hcell k _ (show (ints l)[k]? = some (.int .i64 l[k]) from by simp [ints, hlt])
  obtain ⟨x, hx, hxw⟩ : ∃ x : Nat, l[k] = (x : Int) ∧ x < w := ⟨l[k].toNat, by have := HIN.out _ (List.getElem_mem hlt); omega, by have := HIN.out _ (List.getElem_mem hlt); omega⟩
  rw [hx] at q0
  have HS : Hid (ofN (l.take (k + 1)) = ofN (l.take k) ||| 2 ^ x) := Lib.hid (by rw [List.take_succ_eq_append_getElem hlt, hx, ofN_snoc])
  have HKK : Hid (Value.int .i64 ((k : Int) + 1) = .int .i64 ((k + 1 : Nat) : Int)) := Lib.hid (by rw [show ((k + 1 : Nat) : Int) = (k : Int) + 1 from by omega])
  have hx0 : ((x : Int) < 0) = False := by simp
  have hxz : (x : Int) < (w : Int) := by omega
  have cD := cellOf hm.out.boxD
  have hlz : (k : Int) < (l.length : Int) := by omega
  clear hcell hx
  go_wp2_with fail
  refine (put_any (W.heap.size + 1) g (nw w) w _ x hxw hw _ hm.out.own (Nat.lt_trans hm.out.hD (lt_of_block hm.out.boxD)) hm.out.hg).mono ?_
  rintro e5 w5 ⟨rfl, ho5, hx5, _⟩
  have hm5 := Lib.hid (hm.out.put ho5 hx5)
  clear hm ho5 hx5 cD q0
  go_wp2_with fail
  go_roundw
  case rel => exact ⟨k + 1, by omega, HKK.out, Lib.hid (by rw [HS.out]; exact hm5.out)⟩
  case measure => simp [intOf]; omega
 obtain rfl : k = l.length := by omega
 have cD := cellOf hm.out.boxD
 have cC := cellOf hm.out.boxC
 have fC := freeOf hm.out.boxC
 have hltw := ofN_lt l HIN.out
 have hne : ¬ W.heap.size = D := fun e => by have := hm.out.hg; have := hm.out.hD; omega
 go_wp2_with fail
 refine ret_ex rfl ?_
 simp [results, Tryd.results96, go_sem, cC]
 rw [List.take_length] at hm
 refine ⟨_, _, rfl, Lib.hid (hm.out.own.fin (W0 := W) (Nat.le_succ _) HM.out ?_ hw hltw), ext2 hm.out.ext (Nat.le_refl _)⟩
 exact ((Ext.refl (Lo (W.heap.size + 1)) _).setCell (p := ⟨W.heap.size, 0, none⟩) (fun _ => Nat.lt_succ_self _) _).setCell (p := ⟨W.heap.size, 1, none⟩) (fun _ => Nat.lt_succ_self _) _
end Go.Proofs.YtmddchceacmopaaDoor
namespace Go.Proofs.YtmddchceacmopaaDoor
open Go Go.RowKit
def cellsP (p : RawSet × Value) : List Value := [.int .i64 p.1.width, p.2]
def flatP (L : List (RawSet × Value)) : List Value := L.flatMap cellsP
theorem flatP_app (L K : List (RawSet × Value)) : flatP (L ++ K) = flatP L ++ flatP K := by simp [flatP]
theorem flatP_get (L : List (RawSet × Value)) (i j : Nat) (hi : i < L.length) (hj : j < 2) : (flatP L)[i * 2 + j]? = (cellsP L[i])[j]? := by
 induction L generalizing i with
 | nil => simp at hi
 | cons p L ih =>
  have e : flatP (p :: L) = cellsP p ++ flatP L := rfl
  have e2 : (cellsP p).length = 2 := rfl
  rw [e]
  cases i with
  | zero => rw [List.getElem?_append_left (by omega)]; simp
  | succ i =>
   rw [List.getElem?_append_right (by omega), e2, show (i + 1) * 2 + j - 2 = i * 2 + j by omega, ih i (by simpa using hi)]; rfl
theorem flatP_set (L : List (RawSet × Value)) (i : Nat) (p : RawSet × Value) (hi : i < L.length) : ((flatP L).set (i * 2) (.int .i64 p.1.width)).set (i * 2 + 1) p.2 = flatP (L.set i p) := by
 induction L generalizing i with
 | nil => simp at hi
 | cons q L ih =>
  have e : ∀ (r : RawSet × Value) K, flatP (r :: K) = .int .i64 r.1.width :: r.2 :: flatP K := fun _ _ => rfl
  cases i with
  | zero => rw [List.set_cons_zero, e, e]; rfl
  | succ i =>
   rw [List.set_cons_succ, e, e, ← ih i (by simpa using hi), show (i + 1) * 2 = i * 2 + 2 by omega]; rfl
structure SetsL (M : Nat → Prop) (W : World) (so : Value) (L : List (RawSet × Value)) : Prop where
 row : Row M W 2 so L.length (flatP L)
 ok : ∀ p ∈ L, WordsAt M W p.2 p.1.words
section
variable {M M' : Nat → Prop} {W W' : World} {so : Value} {L : List (RawSet × Value)}
theorem SetsL.ext (h : SetsL M W so L) (hx : Ext M' W W') (hm : ∀ i, i < W.heap.size → M' i → M i) : SetsL M W' so L := ⟨h.row.ext hx hm, fun p hp => (h.ok p hp).ext hx hm⟩
theorem SetsL.extNo (h : SetsL M W so L) (hx : Ext No W W') : SetsL M W' so L := h.ext hx (fun _ _ x => x.elim)
theorem SetsL.mono (h : SetsL M W so L) (hm : ∀ i, i < W.heap.size → M' i → M i) : SetsL M' W so L := ⟨h.row.mono hm, fun p hp => (h.ok p hp).mono hm⟩
theorem SetsL.no (h : SetsL M W so L) : SetsL No W so L := h.mono (fun _ _ x => x.elim)
theorem SetsL.slice (h : SetsL M W so L) : ∃ a c, so = .slice a L.length c := h.row.slice
theorem SetsL.at (h : SetsL M W so L) {i : Nat} (hi : i < L.length) : ∃ b off cap, so = .slice (some ⟨b, off, none⟩) L.length cap ∧ b < W.heap.size ∧ ¬ M b ∧
  ∀ j (hj : j < L.length), W.cell? ⟨b, off + j * 2, none⟩ = some (.int .i64 L[j].1.width) ∧ W.cell? ⟨b, off + j * 2 + 1, none⟩ = some L[j].2 := by
 obtain ⟨b, off, cap, h1, h2, h3, h4⟩ := h.row.shape (by omega)
 refine ⟨b, off, cap, h1, h2, h3, fun j hj => ⟨?_, ?_⟩⟩
 ·have := h4 (j * 2 + 0) _ (by rw [flatP_get L j 0 hj (by omega)]; rfl)
  simpa using this
 have := h4 (j * 2 + 1) _ (by rw [flatP_get L j 1 hj (by omega)]; rfl)
 rw [Nat.add_assoc]; exact this
end
structure SetsV (M : Nat → Prop) (W : World) (so : Value) (w : Nat) (ms : List Nat) : Prop where
 ex : ∃ L, SetsL M W so L ∧ L.map Prod.fst = ms.map (setN w)
 hw : w ≤ 256
 hm : ∀ m ∈ ms, m < 2 ^ w
section
variable {M M' : Nat → Prop} {W W' : World} {so : Value} {w : Nat} {ms : List Nat}
theorem SetsV.ext (h : SetsV M W so w ms) (hx : Ext M' W W') (hm : ∀ i, i < W.heap.size → M' i → M i) : SetsV M W' so w ms := by
 obtain ⟨⟨L, h1, h2⟩, h3, h4⟩ := h; exact ⟨⟨L, h1.ext hx hm, h2⟩, h3, h4⟩
theorem SetsV.extNo (h : SetsV M W so w ms) (hx : Ext No W W') : SetsV M W' so w ms := h.ext hx (fun _ _ x => x.elim)
theorem SetsV.mono (h : SetsV M W so w ms) (hm : ∀ i, i < W.heap.size → M' i → M i) : SetsV M' W so w ms := by
 obtain ⟨⟨L, h1, h2⟩, h3, h4⟩ := h; exact ⟨⟨L, h1.mono hm, h2⟩, h3, h4⟩
theorem SetsV.no (h : SetsV M W so w ms) : SetsV No W so w ms := h.mono (fun _ _ x => x.elim)
theorem SetsV.slice (h : SetsV M W so w ms) : ∃ a c, so = .slice a ms.length c := by
 obtain ⟨⟨L, h1, h2⟩, _, _⟩ := h
 have := congrArg List.length h2
 simp only [List.length_map] at this
 rw [← this]; exact h1.slice
theorem SetsV.at (h : SetsV M W so w ms) {i : Nat} (hi : i < ms.length) : ∃ b off cap a c, so = .slice (some ⟨b, off, none⟩) ms.length cap ∧ b < W.heap.size ∧ ¬ M b ∧
  W.cell? ⟨b, off + i * 2, none⟩ = some (.int .i64 (w : Int)) ∧ W.cell? ⟨b, off + i * 2 + 1, none⟩ = some (.slice a (nw w) c) ∧ Hid (SetAt M W (.slice a (nw w) c) w ms[i]) := by
 obtain ⟨⟨L, h1, h2⟩, h3, h4⟩ := h
 have hl := congrArg List.length h2
 simp only [List.length_map] at hl
 obtain ⟨b, off, cap, e1, e2, e3, e4⟩ := h1.at (i := i) (by omega)
 have e5 : L[i].1 = setN w ms[i] := by
  have := congrArg (fun l => l[i]?) h2
  simpa [hi, show i < L.length by omega] using this
 have hok := h1.ok L[i] (List.getElem_mem _)
 rw [e5] at hok
 have hs : SetAt M W L[i].2 w ms[i] := ⟨hok, h3, h4 _ (List.getElem_mem _)⟩
 obtain ⟨a, c, e6⟩ := hs.slice
 obtain ⟨q0, q1⟩ := e4 i (by omega)
 rw [e5] at q0
 rw [e6] at q1 hs
 exact ⟨b, off, cap, a, c, by rw [e1, hl], e2, e3, q0, q1, Lib.hid hs⟩
end
end Go.Proofs.YtmddchceacmopaaDoor
namespace Go.Proofs.YtmddchceacmopaaDoor
open Go Go.RowKit
def BoxS (C : Nat) (w : World) : Prop := ∃ u0 u1, w.heap[C]? = some (.cells #[u0, u1] 24 (0, 0))
theorem BoxS.ext {C : Nat} {w w' : World} (h : BoxS C w) (hx : Ext No w w') : BoxS C w' := by obtain ⟨u0, u1, h⟩ := h; exact ⟨u0, u1, hx.blk h no_no⟩
theorem BoxS.set {C : Nat} {w : World} {x0 x1 : Value} (h : BoxS C w) : BoxS C ((w.setCell ⟨C, 0, none⟩ x0).setCell ⟨C, 1, none⟩ x1) := by obtain ⟨u0, u1, h⟩ := h; exact ⟨x0, x1, (set_same (j := 1) (set_same (j := 0) h)).trans rfl⟩
theorem BoxS.extC {C : Nat} {W w : World} {x0 x1 : Value} (hx : Ext No W w) (hC : W.heap.size ≤ C) : Ext No W ((w.setCell ⟨C, 0, none⟩ x0).setCell ⟨C, 1, none⟩ x1) := ext2 hx hC
theorem BoxS.drew {C : Nat} {w : World} (h : BoxS C w) : BoxS C w.drew := h
theorem BoxS.cells {C : Nat} {w : World} (h : BoxS C w) : ∃ u0 u1, w.cell? ⟨C, 0, none⟩ = some u0 ∧ w.cell? ⟨C, 1, none⟩ = some u1 ∧ w.frozen? ⟨C, 0, none⟩ = false ∧ w.frozen? ⟨C, 1, none⟩ = false := by
 obtain ⟨u0, u1, h⟩ := h; exact ⟨u0, u1, cellOf h 0, cellOf h 1, freeOf h 0, freeOf h 1⟩
set_option maxRecDepth 100000 in
set_option maxHeartbeats 1000000 in
theorem tclone_any (M : Nat → Prop) (w m : Nat) (sl : Value) (W : World) (hM : ∀ b, M b → b < W.heap.size) (h : SetAt No W sl w m) :
  Calls Tryd.prog 97 #[.agg #[.int .i64 (w : Int), sl]] W (SetPost M w m W) := by
 have H := Lib.hid h
 have HM := Lib.hid hM
 have hw := h.hw
 obtain ⟨a, c, rfl⟩ := h.slice
 clear h hM
 go_enter Tryd.func97, Tryd.ntmps97
 go_wp2_with fail
 have hx0 : Ext No W ((W.alloc (.cells #[.int .i64 (w : Int), .slice a (nw w) c] 24)).alloc (.cells #[.int .i64 0, .slice none 0 0] 24)) := ((Ext.refl _ _).alloc _).alloc _
 have hA : ((W.alloc (.cells #[.int .i64 (w : Int), .slice a (nw w) c] 24)).alloc (.cells #[.int .i64 0, .slice none 0 0] 24)).heap[W.heap.size]? = some (.cells #[.int .i64 (w : Int), .slice a (nw w) c] 24 (0, 0)) := alloc_under (alloc_top rfl)
 have hC : ((W.alloc (.cells #[.int .i64 (w : Int), .slice a (nw w) c] 24)).alloc (.cells #[.int .i64 0, .slice none 0 0] 24)).heap[W.heap.size + 1]? = some (.cells #[.int .i64 0, .slice none 0 0] 24 (0, 0)) := alloc_top (by simp)
 have hW2 : W.heap.size + 1 < ((W.alloc (.cells #[.int .i64 (w : Int), .slice a (nw w) c] 24)).alloc (.cells #[.int .i64 0, .slice none 0 0] 24)).heap.size := by simp
 generalize ((W.alloc (.cells #[.int .i64 (w : Int), .slice a (nw w) c] 24)).alloc (.cells #[.int .i64 0, .slice none 0 0] 24)) = W2 at *
 have l0 : W2.cell? ⟨W.heap.size, 0, none⟩ = some (.int .i64 (w : Int)) := cellOf hA 0
 have l1 : W2.cell? ⟨W.heap.size, 1, none⟩ = some (.slice a (nw w) c) := cellOf hA 1
 have l3 : BoxS (W.heap.size + 1) W2 := ⟨_, _, hC⟩
 have hltB : W.heap.size < W.heap.size + 1 := Nat.lt_succ_self _
 have hlt1 : W.heap.size ≤ W.heap.size + 1 := Nat.le_succ _
 clear hA hC
 go_region_held3 (fun w' => w'.cell? ⟨W.heap.size, 0, none⟩ = some (.int .i64 (w : Int)) ∧ w'.cell? ⟨W.heap.size, 1, none⟩ = some (.slice a (nw w) c) ∧ Ext No W w' ∧ BoxS (W.heap.size + 1) w')
  ((go_split_ands; refine ⟨?_, ?_, ?_, ?_⟩; (first | ((with_reducible refine keepS2 ?_ ?_); (first | (with_reducible assumption) | (with_reducible exact keepN hyA (by with_reducible assumption))); (exact Nat.ne_of_lt hltB)) | (with_reducible assumption) | (with_reducible exact keepD (by with_reducible assumption)) | (with_reducible exact keepA (by with_reducible assumption)) | (with_reducible exact keepD (keepA (by with_reducible assumption))) | (with_reducible exact keepA (keepD (by with_reducible assumption))) | (with_reducible exact keepN hyA (by with_reducible assumption)) | (with_reducible exact keepA (keepN hyA (by with_reducible assumption)))); (first | ((with_reducible refine keepS2 ?_ ?_); (first | (with_reducible assumption) | (with_reducible exact keepN hyA (by with_reducible assumption))); (exact Nat.ne_of_lt hltB)) | (with_reducible assumption) | (with_reducible exact keepD (by with_reducible assumption)) | (with_reducible exact keepA (by with_reducible assumption)) | (with_reducible exact keepD (keepA (by with_reducible assumption))) | (with_reducible exact keepA (keepD (by with_reducible assumption))) | (with_reducible exact keepN hyA (by with_reducible assumption)) | (with_reducible exact keepA (keepN hyA (by with_reducible assumption)))); (first | ((with_reducible refine BoxS.extC ?_ hlt1); (first | (with_reducible assumption) | (with_reducible exact Ext.transNo (by with_reducible assumption) hyA))) | (first | ((with_reducible refine ext2 ?_ ?_); (first | (with_reducible assumption) | (with_reducible exact Ext.transNo (by with_reducible assumption) hyA)); (exact Nat.le_refl _)) | (with_reducible assumption) | (with_reducible exact Ext.drew (by with_reducible assumption)) | (with_reducible exact Ext.alloc (by with_reducible assumption) _) | (with_reducible exact Ext.drew (Ext.alloc (by with_reducible assumption) _)) | (with_reducible exact Ext.transNo (by with_reducible assumption) hyA) | (with_reducible exact Ext.alloc (Ext.transNo (by with_reducible assumption) hyA) _))); (first | (with_reducible assumption) | (with_reducible exact BoxS.drew (by with_reducible assumption)) | (with_reducible exact BoxS.ext (by with_reducible assumption) hyA) | (with_reducible exact BoxS.set (by with_reducible assumption)) | (with_reducible exact BoxS.set (BoxS.ext (by with_reducible assumption) hyA)))))
  (first | ((go_at_call 109); (try go_split_ands); (with_reducible refine (clone_any _ (wordsN w m) _ ?_ ?_).mono ?_); (exact H.out.words.extNo (by with_reducible assumption)); (rw [wordsN_len]; unfold nw; omega); (rintro e3 w3 ⟨v3, rfl, hown, hyA⟩); (have HOWN := Lib.hid hown); (obtain ⟨a3, c3, hsl⟩ := hown.slice); (rw [wordsN_len] at hsl); (subst hsl); (have hx3 := Lib.hid (Ext.transNo (show Ext No W _ from by with_reducible assumption) hyA)); (have hb3 := BoxS.ext (show BoxS (W.heap.size + 1) _ from by with_reducible assumption) hyA); (obtain ⟨u0, u1, cC0, cC1, fC0, fC1⟩ := hb3.cells); (clear hown)))
 all_goals
  go_wp2_with fail
  obtain ⟨v0, v1, hh⟩ := hb3
  have hC4 : ((w3.setCell ⟨W.heap.size + 1, 0, none⟩ (.int .i64 (w : Int))).setCell ⟨W.heap.size + 1, 1, none⟩ (.slice a3 (nw w) c3)).heap[W.heap.size + 1]? = some (.cells #[.int .i64 (w : Int), .slice a3 (nw w) c3] 24 (0, 0)) := (set_same (j := 1) (set_same (j := 0) hh)).trans rfl
  have cC4 := cellOf hC4
  clear hC4 hh cC0 cC1 fC0 fC1
  refine ret_ex rfl ?_
  simp [results, Tryd.results97, go_sem, cC4]
  refine ⟨_, _, rfl, Lib.hid (HOWN.out.fin (W0 := W) (Nat.le_trans (Nat.le_succ _) (Nat.le_of_lt hW2)) HM.out ?_ hw H.out.hm), ext2 hx3.out (Nat.le_succ _)⟩
  exact ((Ext.refl (Lo _) w3).setCell (p := ⟨W.heap.size + 1, 0, none⟩) (fun _ => hW2) _).setCell (p := ⟨W.heap.size + 1, 1, none⟩) (fun _ => hW2) _
end Go.Proofs.YtmddchceacmopaaDoor
namespace Go.Proofs.YtmddchceacmopaaDoor
open Go Go.RowKit
def BoxR (n : Nat) (T : TypeId) (C : Nat) (w : World) : Prop := ∃ cs : Array Value, cs.size = n ∧ w.heap[C]? = some (.cells cs T (0, 0))
section
variable {n T C : Nat} {w w' : World}
theorem BoxR.ext (h : BoxR n T C w) (hx : Ext No w w') : BoxR n T C w' := by obtain ⟨cs, h1, h⟩ := h; exact ⟨cs, h1, hx.blk h no_no⟩
theorem BoxR.drew (h : BoxR n T C w) : BoxR n T C w.drew := h
theorem BoxR.alloc (h : BoxR n T C w) (o : Obj) : BoxR n T C (w.alloc o) := h.ext ((Ext.refl _ _).alloc _)
theorem BoxR.set (h : BoxR n T C w) (j : Nat) (x : Value) : BoxR n T C (w.setCell ⟨C, j, none⟩ x) := by obtain ⟨cs, h1, h⟩ := h; exact ⟨_, by simp [h1], set_same h⟩
theorem BoxR.free (h : BoxR n T C w) : ∀ j, w.frozen? ⟨C, j, none⟩ = false := by obtain ⟨cs, h1, h⟩ := h; exact freeOf h
theorem BoxR.lt (h : BoxR n T C w) : C < w.heap.size := by obtain ⟨cs, h1, h⟩ := h; exact lt_of_block h
theorem Ext.setAt {C : Nat} {a w : World} (h : Ext (At C) a w) (j : Nat) (x : Value) : Ext (At C) a (w.setCell ⟨C, j, none⟩ x) := h.setCell (p := ⟨C, j, none⟩) (fun _ => rfl) _
theorem set5 (w : World) (C : Nat) (a b c d e : Value) : Ext (At C) w (((((w.setCell ⟨C, 0, none⟩ a).setCell ⟨C, 1, none⟩ b).setCell ⟨C, 2, none⟩ c).setCell ⟨C, 3, none⟩ d).setCell ⟨C, 4, none⟩ e) := (((((Ext.refl (At C) w).setAt 0 a).setAt 1 b).setAt 2 c).setAt 3 d).setAt 4 e
theorem size5 {cs : Array Value} (h : cs.size = 5) : ∃ a b c d e, cs = #[a, b, c, d, e] := by
 obtain ⟨l⟩ := cs
 match l, h with
 | [a, b, c, d, e], _ => exact ⟨a, b, c, d, e, rfl⟩
theorem BoxR.fin5 (h : BoxR 5 T C w) (a b c d e : Value) : (((((w.setCell ⟨C, 0, none⟩ a).setCell ⟨C, 1, none⟩ b).setCell ⟨C, 2, none⟩ c).setCell ⟨C, 3, none⟩ d).setCell ⟨C, 4, none⟩ e).heap[C]? = some (.cells #[a, b, c, d, e] T (0, 0)) := by
 obtain ⟨cs, h1, h⟩ := h
 obtain ⟨_, _, _, _, _, rfl⟩ := size5 h1
 exact (set_same (j := 4) (set_same (j := 3) (set_same (j := 2) (set_same (j := 1) (set_same (j := 0) h))))).trans rfl
end
def TrEPost (M : Nat → Prop) (t : TrD) (W : World) (e : Ending) (w' : World) : Prop :=
 ∃ ag cg ak ck ac cc, e = .returned (.tuple #[.agg #[.int .i64 (t.w : Int), .slice ag (nw t.w) cg, .int .i64 (t.w : Int), .slice ak (nw t.w) ck, .slice ac t.copies.length cc], .int .i64 0]) ∧
  Hid (TrAt M w' (.slice ag (nw t.w) cg) (.slice ak (nw t.w) ck) (.slice ac t.copies.length cc) t) ∧ Ext No W w'
def TrNo (e0 : Int) (W : World) (e : Ending) (w' : World) : Prop := e = .returned (.tuple #[.agg #[.int .i64 0, .slice none 0 0, .int .i64 0, .slice none 0 0, .slice none 0 0], .int .i64 e0]) ∧ Ext No W w'
end Go.Proofs.YtmddchceacmopaaDoor
namespace Go.Proofs.YtmddchceacmopaaDoor
open Go Go.RowKit
theorem infoS : (Tryd.prog.info? 24).map (fun i => (i.zero, i.size, i.bytes)) = some (some (.agg #[.int .i64 0, .slice none 0 0]), 2, 32) := by kernel_rfl
theorem row_keep {M : Nat → Prop} {wx wy : World} {B : Nat} {e : TypeId} {size n : Nat} {v : Value} {xs : List Value} (h : wx.ownsRow B e size v n xs) (hx : Ext M wx wy) (hM : ∀ i, B ≤ i → ¬ M i) : wy.ownsRow B e size v n xs := by
 obtain ⟨h1, h2⟩ := h
 refine ⟨h1, ?_⟩
 rcases h2 with h2 | ⟨g, cap, cur, hv, hb, hg, hr⟩
 ·exact .inl h2
 exact .inr ⟨g, cap, cur, hv, hb, (hx.block g (lt_of_block hg) (hM g hb)).trans hg, hr⟩
structure SetsOwn (A : Nat → Prop) (w : World) (base : Nat) (v : Value) (L : List (RawSet × Value)) : Prop where
 own : w.ownsRow base 24 2 v L.length (flatP L)
 ok : ∀ p ∈ L, WordsAt (fun b => A b ∨ v.ownBlock = some b) w p.2 p.1.words
section
variable {A M : Nat → Prop} {w w' : World} {base g cap : Nat} {v v' : Value} {L : List (RawSet × Value)} {p : RawSet × Value}
theorem SetsOwn.nil (A : Nat → Prop) (w : World) (base : Nat) : SetsOwn A w base (.slice none 0 0) [] := ⟨⟨rfl, .inl ⟨rfl, rfl⟩⟩, fun _ h => by cases h⟩
theorem SetsOwn.ext (h : SetsOwn A w base v L) (hx : Ext M w w') (h1 : ∀ i, base ≤ i → ¬ M i) (h2 : ∀ i, M i → A i) : SetsOwn A w' base v L :=
 ⟨row_keep h.own hx h1, fun p hp => (h.ok p hp).ext hx (fun i _ e => .inl (h2 i e))⟩
theorem SetsOwn.extNo (h : SetsOwn A w base v L) (hx : Ext No w w') : SetsOwn A w' base v L := h.ext hx (fun _ _ x => x) (fun _ x => x.elim)
theorem SetsOwn.mono {A' : Nat → Prop} (h : SetsOwn A w base v L) (hm : ∀ i, i < w.heap.size → A' i → A i) : SetsOwn A' w base v L := ⟨h.own, fun p hp => (h.ok p hp).mono (fun i hi e => by
 rcases e with e | e
 ·exact .inl (hm i hi e)
 exact .inr e)⟩
theorem SetsOwn.slice (h : SetsOwn A w base v L) : ∃ a c, v = .slice a L.length c := (Row.ofOwns (M := No) h.own (fun _ _ x => x)).slice
theorem SetsOwn.lt (h : SetsOwn A w base v L) (k : Nat) (hk : v.ownBlock = some k) : base ≤ k ∧ k < w.heap.size := World.ownsRow.lt h.own k hk
theorem SetsOwn.app {o : Obj} (h : SetsOwn A w base v L) (hp : WordsAt (fun b => A b ∨ v.ownBlock = some b) w p.2 p.1.words) (hown : w'.ownsRow base 24 2 v' (L.length + 1) (flatP L ++ cellsP p))
  (hg : (w.alloc o).grownBy w' v.ownBlock) (hv : v'.ownBlock = v.ownBlock ∨ v'.ownBlock = some (w.alloc o).heap.size) : SetsOwn A w' base v' (L ++ [p]) ∧ Ext (fun k => v.ownBlock = some k) w w' := by
 have hE : Ext (fun k => v.ownBlock = some k) w w' := ((Ext.refl _ w).alloc o).grown hg (fun k hk _ => hk)
 refine ⟨⟨?_, fun q hq => ?_⟩, hE⟩
 ·rw [List.length_append, flatP_app]; exact hown
 have hq2 : WordsAt (fun b => A b ∨ v.ownBlock = some b) w q.2 q.1.words := by
  rcases List.mem_append.1 hq with hq | hq
  ·exact h.ok q hq
  rw [List.mem_singleton.1 hq]; exact hp
 have hq3 : WordsAt (fun b => (A b ∨ v.ownBlock = some b) ∨ w.heap.size ≤ b) w q.2 q.1.words := hq2.mono (fun i hi e => by
  rcases e with e | e
  ·exact e
  omega)
 refine (hq3.ext hE (fun i _ e => .inl (.inr e))).mono (fun i _ e => ?_)
 rcases e with e | e
 ·exact .inl (.inl e)
 rcases hv with hv | hv
 ·rw [hv] at e; exact .inl (.inr e)
 rw [hv, alloc_size1] at e
 simp only [Option.some.injEq] at e
 exact .inr (by omega)
theorem SetsOwn.put (h : SetsOwn A w base (.slice (some ⟨g, 0, none⟩) L.length cap) L) {i : Nat} (hi : i < L.length) (hp : WordsAt (fun b => A b ∨ b = g) w p.2 p.1.words) :
  SetsOwn A ((w.setCell ⟨g, i * 2, none⟩ (.int .i64 p.1.width)).setCell ⟨g, i * 2 + 1, none⟩ p.2) base (.slice (some ⟨g, 0, none⟩) L.length cap) (L.set i p) := by
 have hE : Ext (At g) w ((w.setCell ⟨g, i * 2, none⟩ (.int .i64 p.1.width)).setCell ⟨g, i * 2 + 1, none⟩ p.2) := ((Ext.refl (At g) w).setAt _ _).setAt _ _
 refine ⟨?_, fun q hq => ?_⟩
 ·have h1 := (World.ownsRow.stored (w := w) h.own (i * 2) (.int .i64 p.1.width)).1
  have h2 := (World.ownsRow.stored (w := w.setCell ⟨g, i * 2, none⟩ (.int .i64 p.1.width)) h1 (i * 2 + 1) p.2).1
  rw [flatP_set L i p hi] at h2
  rw [List.length_set]
  exact h2
 have hq2 : WordsAt (fun b => A b ∨ b = g) w q.2 q.1.words := by
  rcases List.mem_or_eq_of_mem_set hq with hq | rfl
  ·exact (h.ok q hq).mono (fun i _ e => by
    rcases e with e | rfl
    ·exact .inl e
    exact .inr rfl)
  exact hp
 exact (hq2.ext hE (fun i _ e => .inr e)).mono (fun i _ e => by
  rcases e with e | e
  ·exact .inl e
  simp only [Value.ownBlock, Option.some.injEq] at e; exact .inr e.symm)
theorem SetsOwn.ownAt {a : Option Addr} {n c k : Nat} (h : SetsOwn A w base (.slice a n c) L) (hk : k < L.length) : ∃ g, a = some ⟨g, 0, none⟩ ∧ base ≤ g ∧ g < w.heap.size ∧ n = L.length ∧
  (∀ j (hj : j < L.length), w.cell? ⟨g, j * 2, none⟩ = some (.int .i64 L[j].1.width) ∧ w.cell? ⟨g, j * 2 + 1, none⟩ = some L[j].2) ∧ (∀ j, w.frozen? ⟨g, j, none⟩ = false) := by
 obtain ⟨h1, h2⟩ := h.own
 have hrow := Row.ofOwns (M := No) h.own (fun _ _ x => x)
 obtain ⟨a', c', e⟩ := hrow.slice
 simp only [Value.slice.injEq] at e
 obtain ⟨_, en, _⟩ := e
 rcases h2 with ⟨h2, h3⟩ | ⟨g, cap, cur, hv, hb, hg, hr⟩
 ·omega
 simp only [Value.slice.injEq] at hv
 obtain ⟨rfl, _, _⟩ := hv
 refine ⟨g, rfl, hb, lt_of_block hg, en, fun j hj => ?_, freeOf hg⟩
 obtain ⟨b, off, cap', e1, _, _, e4⟩ := hrow.shape (by omega)
 simp only [Value.slice.injEq, Option.some.injEq, Addr.mk.injEq] at e1
 obtain ⟨⟨rfl, rfl, _⟩, _, _⟩ := e1
 refine ⟨?_, ?_⟩
 ·have := e4 (j * 2 + 0) _ (by rw [flatP_get L j 0 hj (by omega)]; rfl)
  simpa using this
 have := e4 (j * 2 + 1) _ (by rw [flatP_get L j 1 hj (by omega)]; rfl)
 simpa using this
theorem SetsOwn.sets (h : SetsOwn A w base v L) (hb : ∀ b, base ≤ b → ¬ M b) (hA : ∀ b, M b → A b) : SetsL M w v L :=
 ⟨Row.ofOwns h.own hb, fun p hp => (h.ok p hp).mono (fun i _ e => .inl (hA i e))⟩
end
theorem row_keep2 {M : Nat → Prop} {wx wy : World} {B : Nat} {e : TypeId} {size n : Nat} {v : Value} {xs : List Value} (h : wx.ownsRow B e size v n xs) (hx : Ext M wx wy) (hM : ∀ k, v.ownBlock = some k → ¬ M k) : wy.ownsRow B e size v n xs := by
 obtain ⟨h1, h2⟩ := h
 refine ⟨h1, ?_⟩
 rcases h2 with h2 | ⟨g, cap, cur, hv, hb, hg, hr⟩
 ·exact .inl h2
 exact .inr ⟨g, cap, cur, hv, hb, (hx.block g (lt_of_block hg) (hM g (by rw [hv]; rfl))).trans hg, hr⟩
theorem row_base {w : World} {B B' : Nat} {e : TypeId} {size n : Nat} {v : Value} {xs : List Value} (h : w.ownsRow B e size v n xs) (hB : B' ≤ B) : w.ownsRow B' e size v n xs := by
 obtain ⟨h1, h2⟩ := h
 refine ⟨h1, ?_⟩
 rcases h2 with h2 | ⟨g, cap, cur, hv, hb, hr⟩
 ·exact .inl h2
 exact .inr ⟨g, cap, cur, hv, Nat.le_trans hB hb, hr⟩
structure RowsO (w gen : Nat) (rs : List Nat) (sg so : Value) (M : Nat → Prop) (W : World) : Prop where
 gen : SetAt (fun b => M b ∨ so.ownBlock = some b) W sg w gen
 ex : ∃ L, SetsOwn M W 0 so L ∧ L.map Prod.fst = rs.map (setN w)
 out : ∀ b, so.ownBlock = some b → ¬ M b
 hm : ∀ m ∈ rs, m < 2 ^ w
section
variable {w gen : Nat} {rs : List Nat} {sg so : Value} {M M' : Nat → Prop} {W W' : World}
theorem RowsO.ext (h : RowsO w gen rs sg so M W) (hx : Ext M' W W') (hm : ∀ i, i < W.heap.size → M' i → M i) : RowsO w gen rs sg so M W' := by
 obtain ⟨L, h1, h2⟩ := h.ex
 refine ⟨h.gen.ext hx (fun i hi e => .inl (hm i hi e)), ⟨L, ⟨row_keep2 h1.own hx (fun k hk e => h.out k hk (hm k (h1.lt k hk).2 e)), fun p hp => (h1.ok p hp).ext hx (fun i hi e => .inl (hm i hi e))⟩, h2⟩, h.out, h.hm⟩
theorem RowsO.mono (h : RowsO w gen rs sg so M W) (hm : ∀ i, i < W.heap.size → M' i → M i) : RowsO w gen rs sg so M' W := by
 obtain ⟨L, h1, h2⟩ := h.ex
 refine ⟨h.gen.mono (fun i hi e => by
  rcases e with e | e
  ·exact .inl (hm i hi e)
  exact .inr e), ⟨L, h1.mono hm, h2⟩, fun b hb e => h.out b hb (hm b (h1.lt b hb).2 e), h.hm⟩
theorem RowsO.extNo (h : RowsO w gen rs sg so M W) (hx : Ext No W W') : RowsO w gen rs sg so M W' := h.ext hx (fun _ _ x => x.elim)
theorem RowsO.set (h : RowsO w gen rs sg so M W) : SetAt M W sg w gen := h.gen.mono (fun _ _ e => .inl e)
theorem RowsO.sets (h : RowsO w gen rs sg so M W) : SetsV M W so w rs := by
 obtain ⟨L, h1, h2⟩ := h.ex
 have hrow : Row No W 2 so L.length (flatP L) := Row.ofOwns h1.own (fun _ _ x => x)
 refine ⟨⟨L, ⟨?_, fun p hp => (h1.ok p hp).mono (fun i _ e => .inl e)⟩, h2⟩, h.gen.hw, h.hm⟩
 obtain ⟨e1, e2, a, cap, e3, e4, e5⟩ := hrow
 refine ⟨e1, e2, a, cap, e3, e4, ?_⟩
 rcases e5 with e5 | ⟨b, off, e6, e7, _, e8⟩
 ·exact .inl e5
 refine .inr ⟨b, off, e6, e7, ?_, e8⟩
 refine h.out b ?_
 obtain ⟨o1, o2⟩ := h1.own
 rcases o2 with ⟨o2, _⟩ | ⟨g, cap', cur, o3, _⟩
 ·rw [o2, e6] at e3; simp at e3
 rw [o3]
 rw [o3, e6] at e3
 simp only [Value.slice.injEq, Option.some.injEq, Addr.mk.injEq] at e3
 obtain ⟨⟨rfl, _⟩, _⟩ := e3
 rfl
theorem RowsO.ownLt (h : RowsO w gen rs sg so M W) : ∀ b, so.ownBlock = some b → b < W.heap.size := fun b hb => by
 obtain ⟨L, h1, _⟩ := h.ex
 exact (h1.lt b hb).2
theorem RowsO.len (h : RowsO w gen rs sg so M W) : ∃ a c, so = .slice a rs.length c := h.sets.slice
theorem RowsO.at {a : Option Addr} {n c : Nat} (h : RowsO w gen rs sg (.slice a n c) M W) {i : Nat} (hi : i < rs.length) : ∃ g ae ce, a = some ⟨g, 0, none⟩ ∧ n = rs.length ∧ g < W.heap.size ∧ (∀ j, W.frozen? ⟨g, j, none⟩ = false) ∧
  W.cell? ⟨g, i * 2, none⟩ = some (.int .i64 (w : Int)) ∧ W.cell? ⟨g, i * 2 + 1, none⟩ = some (.slice ae (nw w) ce) ∧ Hid (SetAt (fun b => M b ∨ b = g) W (.slice ae (nw w) ce) w rs[i]) := by
 obtain ⟨L, h1, h2⟩ := h.ex
 have hl := congrArg List.length h2
 simp only [List.length_map] at hl
 have hiL : i < L.length := by omega
 obtain ⟨g, rfl, _, hg, hn, hc, hf⟩ := h1.ownAt hiL
 have e5 : L[i].1 = setN w rs[i] := by
  have := congrArg (fun l => l[i]?) h2
  simpa [hi, hiL] using this
 have hok := h1.ok L[i] (List.getElem_mem _)
 rw [e5] at hok
 have hs : SetAt _ W L[i].2 w rs[i] := ⟨hok, h.gen.hw, h.hm _ (List.getElem_mem _)⟩
 obtain ⟨ae, ce, e6⟩ := hs.slice
 obtain ⟨q0, q1⟩ := hc i hiL
 rw [e5] at q0
 rw [e6] at q1 hs
 exact ⟨g, ae, ce, rfl, by omega, hg, hf, q0, q1, Lib.hid (hs.mono (fun b _ e => by
  rcases e with e | rfl
  ·exact .inl e
  exact .inr rfl))⟩
theorem RowsO.put {g c i m n : Nat} {sl : Value} (h : RowsO w gen rs sg (.slice (some ⟨g, 0, none⟩) n c) M W) (hn : n = rs.length) (hi : i < rs.length) (hp : SetAt (fun b => M b ∨ b = g) W sl w m) :
  RowsO w gen (rs.set i m) sg (.slice (some ⟨g, 0, none⟩) n c) M ((W.setCell ⟨g, i * 2, none⟩ (.int .i64 (w : Int))).setCell ⟨g, i * 2 + 1, none⟩ sl) := by
 subst hn
 obtain ⟨L, h1, h2⟩ := h.ex
 have hl := congrArg List.length h2
 simp only [List.length_map] at hl
 have hiL : i < L.length := by omega
 have hE : Ext (At g) W ((W.setCell ⟨g, i * 2, none⟩ (.int .i64 (w : Int))).setCell ⟨g, i * 2 + 1, none⟩ sl) := ((Ext.refl (At g) W).setAt _ _).setAt _ _
 have h1' : SetsOwn M W 0 (.slice (some ⟨g, 0, none⟩) L.length c) L := by rw [hl]; exact h1
 refine ⟨h.gen.ext hE (fun i _ e => .inr (by cases e; rfl)), ⟨L.set i (setN w m, sl), ?_, ?_⟩, h.out, fun x hx => ?_⟩
 ·have := h1'.put (p := (setN w m, sl)) hiL hp.words
  rw [hl] at this
  exact this
 ·rw [List.map_set, h2, ← List.map_set]
 rcases List.mem_or_eq_of_mem_set hx with hx | rfl
 ·exact h.hm x hx
 exact hp.hm
end
end Go.Proofs.YtmddchceacmopaaDoor
namespace Go.Proofs.YtmddchceacmopaaDoor
open Go Go.RowKit
def rowN (t : TrD) (a : Nat) : Nat → Nat
 | 0 => if hasZ t.w t.kill a then 0 else 2 ^ a
 | k + 1 => match t.copies[k]? with
  | none => rowN t a k
  | some c => if c.1 = (a : Int) then rowN t a k ||| 2 ^ c.2.toNat else rowN t a k
theorem rowN_succ {t : TrD} {a k : Nat} (hk : k < t.copies.length) : rowN t a (k + 1) = if t.copies[k].1 = (a : Int) then rowN t a k ||| 2 ^ t.copies[k].2.toNat else rowN t a k := by
 rw [rowN, List.getElem?_eq_getElem hk]
theorem rowN_lt {t : TrD} {a : Nat} (ho : TrOk t) (ha : a < t.w) : ∀ k, rowN t a k < 2 ^ t.w := by
 intro k
 induction k with
 | zero =>
  unfold rowN; split
  ·exact Nat.two_pow_pos _
  exact bitN_lt ha
 | succ k ih =>
  unfold rowN
  cases e : t.copies[k]? with
  | none => exact ih
  | some c =>
   simp only
   split
   ·obtain ⟨hk, rfl⟩ := List.getElem?_eq_some_iff.1 e
    obtain ⟨b, hb, hb2⟩ := inB_true (ho.inr k hk).2
    refine orN_lt ih ?_
    rw [hb]
    exact bitN_lt (by omega)
   exact ih
def rowsN (t : TrD) (n k : Nat) : List Nat := (List.range n).map fun a => rowN t a k
theorem rowsN_len (t : TrD) (n k : Nat) : (rowsN t n k).length = n := by simp [rowsN]
theorem rowsN_snoc (t : TrD) (n k : Nat) : rowsN t (n + 1) k = rowsN t n k ++ [rowN t n k] := by simp [rowsN, List.range_succ]
theorem rowsN_get (t : TrD) (n k i : Nat) (h : i < (rowsN t n k).length) : (rowsN t n k)[i] = rowN t i k := by simp [rowsN]
theorem rowsN_step {t : TrD} {k f g : Nat} (hk : k < t.copies.length) (hf : t.copies[k].1 = (f : Int)) (hg : t.copies[k].2 = (g : Int)) (hfw : f < t.w) : rowsN t t.w (k + 1) = (rowsN t t.w k).set f (rowN t f k ||| 2 ^ g) := by
 refine List.ext_getElem (by simp [rowsN]) (fun i h1 h2 => ?_)
 rw [rowsN_get, rowN_succ hk, List.getElem_set, hf, hg]
 by_cases e : f = i
 ·subst e; simp
 rw [if_neg (by omega), if_neg e, rowsN_get]
def RowsPost (M : Nat → Prop) (w gen : Nat) (rs : List Nat) (W : World) (e : Ending) (w' : World) : Prop :=
 ∃ ag cg ao co, e = .returned (.agg #[.int .i64 (w : Int), .slice ag (nw w) cg, .slice ao rs.length co]) ∧ Hid (RowsO w gen rs (.slice ag (nw w) cg) (.slice ao rs.length co) M w') ∧ Ext No W w'
structure OpM (M : Nat → Prop) (W wr : World) (t : TrD) (X : Nat) (sg sk sc s1 v : Value) (L : List (RawSet × Value)) : Prop where
 ext : Ext No W wr
 boxA : wr.heap[W.heap.size]? = some (.cells #[.int .i64 (t.w : Int), sg, .int .i64 (t.w : Int), sk, sc] 30 (0, 0))
 boxC : wr.heap[W.heap.size + 1]? = some (.cells #[.int .i64 0, .slice none 0 0, .slice none 0 0] 113 (0, 0))
 boxX : wr.heap[X]? = some (.cells #[.int .i64 (t.w : Int), s1, v] 113 (0, 0))
 gen : SetAt (fun b => M b ∨ b = W.heap.size + 1 ∨ b = X ∨ X < b) wr s1 t.w t.gen
 s : SetsOwn (fun b => M b ∨ b = W.heap.size + 1 ∨ b = X) wr (X + 1) v L
 big : W.heap.size + 1 < X
section
variable {M M' : Nat → Prop} {W wr w' : World} {t : TrD} {X : Nat} {sg sk sc s1 v v' : Value} {L : List (RawSet × Value)} {p : RawSet × Value}
theorem OpM.stepNo (h : OpM M W wr t X sg sk sc s1 v L) (hx : Ext No wr w') : OpM M W w' t X sg sk sc s1 v L :=
 ⟨h.ext.transNo hx, hx.blk h.boxA no_no, hx.blk h.boxC no_no, hx.blk h.boxX no_no, h.gen.extNo hx, h.s.extNo hx, h.big⟩
theorem OpM.hM (hM : ∀ b, M b → b < wr.heap.size) (h : OpM M W wr t X sg sk sc s1 v L) : ∀ b, ((M b ∨ b = W.heap.size + 1 ∨ b = X) ∨ v.ownBlock = some b) → b < wr.heap.size := fun b hb => by
 have h1 := lt_of_block h.boxX
 have h2 := h.big
 rcases hb with (hb | rfl | rfl) | hb
 ·exact hM b hb
 ·omega
 ·exact h1
 exact (h.s.lt b hb).2
theorem OpM.app {o : Obj} (h : OpM M W wr t X sg sk sc s1 v L) (hp : WordsAt (fun b => (M b ∨ b = W.heap.size + 1 ∨ b = X) ∨ v.ownBlock = some b) wr p.2 p.1.words) (hown : w'.ownsRow (X + 1) 24 2 v' (L.length + 1) (flatP L ++ cellsP p))
  (hg : (wr.alloc o).grownBy w' v.ownBlock) (hv : v'.ownBlock = v.ownBlock ∨ v'.ownBlock = some (wr.alloc o).heap.size) :
  OpM M W (w'.setCell ⟨X, 2, none⟩ v') t X sg sk sc s1 v' (L ++ [p]) ∧ w'.heap[X]? = some (.cells #[.int .i64 (t.w : Int), s1, v] 113 (0, 0)) := by
 obtain ⟨h1, hE⟩ := h.s.app hp hown hg hv
 have hb := h.big
 have hne : ∀ k, k ≤ X → ¬ v.ownBlock = some k := fun k hk e => by have := (h.s.lt k e).1; omega
 have hE2 : Ext (At X) w' (w'.setCell ⟨X, 2, none⟩ v') := (Ext.refl (At X) _).setAt _ _
 have hX := hE.blk h.boxX (hne X (Nat.le_refl _))
 refine ⟨⟨?_, ?_, ?_, ?_, ?_, ?_, hb⟩, hX⟩
 ·refine (h.ext.trans2 hE (fun i hi e => ?_)).trans2 hE2 (fun i hi e => by unfold At at e; omega)
  have := (h.s.lt i e).1
  omega
 ·exact hE2.blk (hE.blk h.boxA (hne _ (by omega))) (by unfold At; omega)
 ·exact hE2.blk (hE.blk h.boxC (hne _ (by omega))) (by unfold At; omega)
 ·exact (set_same (j := 2) hX).trans rfl
 ·refine (h.gen.ext hE (fun i _ e => ?_)).ext hE2 (fun i _ e => .inr (.inr (.inl e)))
  have := (h.s.lt i e).1
  exact .inr (.inr (.inr (by omega)))
 exact h1.ext hE2 (fun i hi e => by unfold At at e; omega) (fun i e => .inr (.inr e))
theorem OpM.mono (h : OpM M W wr t X sg sk sc s1 v L) (hm : ∀ i, i < wr.heap.size → M' i → M i) : OpM M' W wr t X sg sk sc s1 v L :=
 ⟨h.ext, h.boxA, h.boxC, h.boxX, h.gen.mono (fun i hi e => by
  rcases e with e | e
  ·exact .inl (hm i hi e)
  ·exact .inr e), h.s.mono (fun i hi e => by
  rcases e with e | e
  ·exact .inl (hm i hi e)
  exact .inr e), h.big⟩
theorem OpM.box {S : Nat} {u0 u1 : Value} (h : OpM M W wr t X sg sk sc s1 v L) (hS : X < S) (hv : ¬ v.ownBlock = some S) (hMS : M S) : OpM M W ((wr.setCell ⟨S, 0, none⟩ u0).setCell ⟨S, 1, none⟩ u1) t X sg sk sc s1 v L := by
 have hb := h.big
 have hE : Ext (At S) wr ((wr.setCell ⟨S, 0, none⟩ u0).setCell ⟨S, 1, none⟩ u1) := ((Ext.refl (At S) wr).setAt _ _).setAt _ _
 refine ⟨h.ext.trans2 hE (fun i hi e => by unfold At at e; omega), hE.blk h.boxA (by unfold At; omega), hE.blk h.boxC (by unfold At; omega), hE.blk h.boxX (by unfold At; omega), h.gen.ext hE (fun i _ e => by cases e; exact .inl hMS), ⟨?_, fun p hp => (h.s.ok p hp).ext hE (fun i _ e => by cases e; exact .inl (.inl hMS))⟩, hb⟩
 obtain ⟨h1, h2⟩ := h.s.own
 refine ⟨h1, ?_⟩
 rcases h2 with h2 | ⟨g, cap, cur, hv2, hb2, hg, hr⟩
 ·exact .inl h2
 refine .inr ⟨g, cap, cur, hv2, hb2, (hE.block g (lt_of_block hg) (fun e => hv ?_)).trans hg, hr⟩
 cases e
 rw [hv2]; rfl
theorem OpM.put {g cap i : Nat} (h : OpM M W wr t X sg sk sc s1 (.slice (some ⟨g, 0, none⟩) L.length cap) L) (hi : i < L.length) (hp : WordsAt (fun b => (M b ∨ b = W.heap.size + 1 ∨ b = X) ∨ b = g) wr p.2 p.1.words) :
  OpM M W ((wr.setCell ⟨g, i * 2, none⟩ (.int .i64 p.1.width)).setCell ⟨g, i * 2 + 1, none⟩ p.2) t X sg sk sc s1 (.slice (some ⟨g, 0, none⟩) L.length cap) (L.set i p) := by
 have hb := h.big
 have hg := (h.s.lt g rfl).1
 have hE : Ext (At g) wr ((wr.setCell ⟨g, i * 2, none⟩ (.int .i64 p.1.width)).setCell ⟨g, i * 2 + 1, none⟩ p.2) := ((Ext.refl (At g) wr).setAt _ _).setAt _ _
 refine ⟨h.ext.trans2 hE (fun i hi e => by unfold At at e; omega), hE.blk h.boxA (by unfold At; omega), hE.blk h.boxC (by unfold At; omega), hE.blk h.boxX (by unfold At; omega), h.gen.ext hE (fun i _ e => .inr (.inr (.inr (by unfold At at e; omega)))), h.s.put hi hp, hb⟩
end

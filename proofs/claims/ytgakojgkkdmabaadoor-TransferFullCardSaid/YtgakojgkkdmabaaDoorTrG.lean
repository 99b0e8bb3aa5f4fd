/- Merged: Tr42 Tr43 -/
import Derived.Test.YtgakojgkkdmabaaDoorTrF
import Derived.Test.YtgakojgkkdmabaaDoorTr32
import Derived.Test.YtgakojgkkdmabaaDoorTr34
import Derived.Test.YtgakojgkkdmabaaDoorTr33
set_option linter.unusedVariables false
set_option linter.unusedSimpArgs false
/- Tr42 -/
namespace Go.Proofs.YtgakojgkkdmabaaDoor
open Go Go.RowKit

theorem rows_lt {t : TrD} (ho : TrOk t) : ∀ m ∈ rowsN t t.w t.copies.length, m < 2 ^ t.w := fun m hm => by
  obtain ⟨a, ha, rfl⟩ := List.mem_map.1 hm
  exact rowN_lt ho (List.mem_range.1 ha) _
theorem rowAt_lt {rs : List Nat} {w : Nat} (h : ∀ m ∈ rs, m < 2 ^ w) (a : Nat) : rowAt rs a < 2 ^ w := by
  unfold rowAt
  cases e : rs[a]? with
  | none => exact Nat.two_pow_pos w
  | some m => exact h m (List.mem_of_getElem? e)
/-- the value of a canonical function -/
theorem close_bit {w gen : Nat} {rs : List Nat} {s b : Nat} (ho : TrOk (closeT w gen rs)) (hb : b < w) : (applyT (closeT w gen rs) s).testBit b = true ↔ gen.testBit b = true ∨ ∃ a, a < w ∧ s.testBit a = true ∧ (rowAt rs a).testBit b = true := by
  unfold applyT
  rw [applyN_iff ho _ (Nat.le_refl _)]
  show (s.testBit b = true ∧ (killTo w gen rs w).testBit b = false) ∨ gen.testBit b = true ∨ (∃ (j : Nat) (h : j < (copTo w gen rs w).length), j < (copTo w gen rs w).length ∧ hasZ w s (copTo w gen rs w)[j].1 = true ∧ (copTo w gen rs w)[j].2 = (b : Int)) ↔ _
  constructor
  · rintro (⟨h1, h2⟩ | h | ⟨j, hj, _, h1, h2⟩)
    · rw [killTo_bit, decide_eq_true hb, Bool.true_and, Bool.or_eq_false_iff] at h2
      refine .inr ⟨b, hb, h1, ?_⟩
      have := h2.2
      rw [hasZ_nat hb] at this
      simpa using this
    · exact .inl h
    · obtain ⟨a, b', h3, h4, h5, h6, h7, h8⟩ := (copTo_mem w).1 (List.getElem_mem hj)
      rw [h4] at h1 h2
      have : b' = b := by simp only at h2; omega
      subst this
      rw [hasZ_nat h3] at h1
      exact .inr ⟨a, h3, h1, h7⟩
  · rintro (h | ⟨a, ha, h1, h2⟩)
    · exact .inr (.inl h)
    · cases hg : gen.testBit b with
      | true => exact .inr (.inl rfl)
      | false =>
        by_cases e : a = b
        · subst e
          refine .inl ⟨h1, ?_⟩
          rw [killTo_bit, hg, decide_eq_true hb, hasZ_nat hb, h2]; rfl
        · have hm : ((a : Int), (b : Int)) ∈ copTo w gen rs w := (copTo_mem w).2 ⟨a, b, ha, rfl, hb, e, h2, hg⟩
          obtain ⟨j, hj, he⟩ := List.getElem_of_mem hm
          exact .inr (.inr ⟨j, hj, hj, by rw [he, hasZ_nat ha]; exact h1, by rw [he]⟩)
theorem apply_bit {t : TrD} (ho : TrOk t) {s b : Nat} (hs : s < 2 ^ t.w) : (applyT t s).testBit b = true ↔ t.gen.testBit b = true ∨ ∃ a, a < t.w ∧ s.testBit a = true ∧ (rowAt (rowsN t t.w t.copies.length) a).testBit b = true := by
  rw [apply_rows ho hs]
  unfold orN
  rw [Nat.testBit_or, Bool.or_eq_true, imgN_bit]
  rfl
theorem updTo_at2 {rs : List Nat} {f : Nat → Nat} {a : Nat} (h : a < rs.length) : rowAt (updTo rs f rs.length) a = f a := by
  rw [rowAt_get (by rw [updTo_len]; exact h), updTo_get, if_pos h]
theorem starRows_at {w n : Nat} {rs : List Nat} {a : Nat} (h : a < n) : rowAt (starRows w rs n) a = closN rs w (2 ^ a) := by
  rw [rowAt_get (by rw [starRows_len]; exact h)]
  simp [starRows]
theorem mean_compose {f g : TrD} (hf : TrOk f) (hg : TrOk g) (hw : g.w = f.w) {s : Nat} (hs : s < 2 ^ f.w) (hc : TrOk (closeT f.w (applyT g f.gen) (compRows f.w (rowsN f f.w f.copies.length) (rowsN g f.w g.copies.length)))) :
    applyT (closeT f.w (applyT g f.gen) (compRows f.w (rowsN f f.w f.copies.length) (rowsN g f.w g.copies.length))) s = applyT g (applyT f s) := by
  have hfs := applyN_lt hf hs f.copies.length
  have hfg : f.gen < 2 ^ g.w := by rw [hw]; exact hf.gen
  have hfs' : applyT f s < 2 ^ g.w := by rw [hw]; exact hfs
  refine bits_ext (w := f.w) (applyN_lt hc hs _) (by have := applyN_lt hg hfs' g.copies.length; rw [hw] at this; exact this) (fun b hb => ?_)
  rw [Bool.eq_iff_iff, close_bit hc hb, apply_bit hg hfs', apply_bit hg hfg]
  have e : ∀ a, a < f.w → ((rowAt (compRows f.w (rowsN f f.w f.copies.length) (rowsN g f.w g.copies.length)) a).testBit b = true ↔ ∃ c, c < g.w ∧ (rowAt (rowsN f f.w f.copies.length) a).testBit c = true ∧ (rowAt (rowsN g g.w g.copies.length) c).testBit b = true) := fun a ha => by
    unfold compRows
    rw [updTo_at2 (by rw [rowsN_len]; exact ha), imgN_bit, hw]
    rfl
  constructor
  · rintro ((h | ⟨a, h1, h2, h3⟩) | ⟨a, h1, h2, h3⟩)
    · exact .inl h
    · exact .inr ⟨a, h1, (apply_bit hf hs).2 (.inl h2), h3⟩
    · obtain ⟨c, h4, h5, h6⟩ := (e a h1).1 h3
      exact .inr ⟨c, h4, (apply_bit hf hs).2 (.inr ⟨a, h1, h2, h5⟩), h6⟩
  · rintro (h | ⟨c, h1, h2, h3⟩)
    · exact .inl (.inl h)
    · rcases (apply_bit hf hs).1 h2 with h4 | ⟨a, h4, h5, h6⟩
      · exact .inl (.inr ⟨c, h1, h4, h3⟩)
      · exact .inr ⟨a, h4, h5, (e a h4).2 ⟨c, h1, h6, h3⟩⟩
theorem mean_join {f g : TrD} (hf : TrOk f) (hg : TrOk g) (hw : g.w = f.w) {s : Nat} (hs : s < 2 ^ f.w) (hc : TrOk (closeT f.w (orN f.gen g.gen) (joinRows (rowsN f f.w f.copies.length) (rowsN g f.w g.copies.length)))) :
    applyT (closeT f.w (orN f.gen g.gen) (joinRows (rowsN f f.w f.copies.length) (rowsN g f.w g.copies.length))) s = orN (applyT f s) (applyT g s) := by
  have hs' : s < 2 ^ g.w := by rw [hw]; exact hs
  refine bits_ext (w := f.w) (applyN_lt hc hs _) (orN_lt' (applyN_lt hf hs _) (by have := applyN_lt hg hs' g.copies.length; rw [hw] at this; exact this)) (fun b hb => ?_)
  rw [Bool.eq_iff_iff, close_bit hc hb]
  unfold orN
  rw [Nat.testBit_or, Nat.testBit_or, Bool.or_eq_true, Bool.or_eq_true, apply_bit hf hs, apply_bit hg hs']
  have e : ∀ a, a < f.w → ((rowAt (joinRows (rowsN f f.w f.copies.length) (rowsN g f.w g.copies.length)) a).testBit b = true ↔ (rowAt (rowsN f f.w f.copies.length) a).testBit b = true ∨ (rowAt (rowsN g g.w g.copies.length) a).testBit b = true) := fun a ha => by
    unfold joinRows
    rw [updTo_at2 (by rw [rowsN_len]; exact ha), hw]
    unfold orN
    rw [Nat.testBit_or, Bool.or_eq_true]
  constructor
  · rintro ((h | h) | ⟨a, h1, h2, h3⟩)
    · exact .inl (.inl h)
    · exact .inr (.inl h)
    · rcases (e a h1).1 h3 with h4 | h4
      · exact .inl (.inr ⟨a, h1, h2, h4⟩)
      · exact .inr (.inr ⟨a, by omega, h2, h4⟩)
  · rintro ((h | ⟨a, h1, h2, h3⟩) | (h | ⟨a, h1, h2, h3⟩))
    · exact .inl (.inl h)
    · exact .inr ⟨a, h1, h2, (e a h1).2 (.inl h3)⟩
    · exact .inl (.inr h)
    · exact .inr ⟨a, by omega, h2, (e a (by omega)).2 (.inr h3)⟩
theorem subN_iff {a b : Nat} : subN a b = true ↔ ∀ i, a.testBit i = true → b.testBit i = true := by
  unfold subN
  rw [decide_eq_true_eq]
  constructor
  · intro h i hi
    have := congrArg (fun n => n.testBit i) h
    simp only [diffN_bit, Nat.zero_testBit, hi, Bool.true_and] at this
    simpa using this
  · intro h
    refine Nat.eq_of_testBit_eq fun i => ?_
    rw [diffN_bit, Nat.zero_testBit]
    cases e : a.testBit i
    · rfl
    · rw [h i e]; rfl
def starT (f : TrD) : TrD := closeT f.w (closN (rowsN f f.w f.copies.length) f.w f.gen) (starRows f.w (rowsN f f.w f.copies.length) f.w)
theorem clos_img {rs : List Nat} {w s r : Nat} (h : Clos rs w s r) {a b : Nat} (ha : a < w) (h1 : r.testBit a = true) (h2 : (rowAt rs a).testBit b = true) : r.testBit b = true := by
  have := h.fix
  unfold stepN orN at this
  rw [← this, Nat.testBit_or, (imgN_bit rs w r b).2 ⟨a, ha, h1, h2⟩, Bool.or_true]
theorem star_ge {f : TrD} (hf : TrOk f) {s : Nat} (hs : s < 2 ^ f.w) (hc : TrOk (starT f)) : subN s (applyT (starT f) s) = true := by
  rw [subN_iff]
  intro i hi
  have hiw : i < f.w := by
    by_cases h : i < f.w
    · exact h
    · rw [bit_high hs (by omega)] at hi; cases hi
  refine (close_bit hc hiw).2 (.inr ⟨i, hiw, hi, ?_⟩)
  rw [starRows_at hiw]
  have := (clos_any (rows_lt hf) (bitN_lt hiw)).ge
  exact (sub_bits.1 this) i (Nat.testBit_two_pow_self)
theorem star_fix {f : TrD} (hf : TrOk f) {s : Nat} (hs : s < 2 ^ f.w) (hc : TrOk (starT f)) : subN (applyT f (applyT (starT f) s)) (applyT (starT f) s) = true := by
  have hlt : applyT (starT f) s < 2 ^ f.w := applyN_lt hc hs _
  rw [subN_iff]
  intro i hi
  have hiw : i < f.w := by
    by_cases h : i < f.w
    · exact h
    · have h9 : applyT f (applyT (starT f) s) < 2 ^ f.w := applyN_lt hf hlt _
      rw [bit_high h9 (by omega)] at hi; cases hi
  have cg := clos_any (rows_lt hf) hf.gen
  rcases (apply_bit hf hlt).1 hi with h | ⟨a, h1, h2, h3⟩
  · exact (close_bit hc hiw).2 (.inl ((sub_bits.1 cg.ge) i h))
  · rcases (close_bit hc h1).1 h2 with h4 | ⟨c, h4, h5, h6⟩
    · exact (close_bit hc hiw).2 (.inl (clos_img cg h1 h4 h3))
    · refine (close_bit hc hiw).2 (.inr ⟨c, h4, h5, ?_⟩)
      rw [starRows_at h4] at h6 ⊢
      exact clos_img (clos_any (rows_lt hf) (bitN_lt h4)) h1 h6 h3
end Go.Proofs.YtgakojgkkdmabaaDoor

/- Tr43 -/
namespace Go.Proofs.YtgakojgkkdmabaaDoor
open Go Go.RowKit

def compT (t u : TrD) : TrD := closeT t.w (applyT u t.gen) (compRows t.w (rowsN t t.w t.copies.length) (rowsN u t.w u.copies.length))
def joinT (t u : TrD) : TrD := closeT t.w (orN t.gen u.gen) (joinRows (rowsN t t.w t.copies.length) (rowsN u t.w u.copies.length))
def canonT (t : TrD) : TrD := closeT t.w t.gen (rowsN t t.w t.copies.length)
/-- a function of width w handed back, without an error -/
def TrWPost (w : Nat) (t' : TrD) (W : World) (e : Ending) (w' : World) : Prop :=
  ∃ ag cg ak ck ac n cc, e = .returned (.tuple #[.agg #[.int .i64 (w : Int), .slice ag (nw w) cg, .int .i64 (w : Int), .slice ak (nw w) ck, .slice ac n cc], .int .i64 0]) ∧
    Hid (TrAt No w' (.slice ag (nw w) cg) (.slice ak (nw w) ck) (.slice ac n cc) t') ∧ Ext No W w'
theorem small_len {w gen : Nat} {rs : List Nat} (h8 : w ≤ 8) : (copTo w gen rs w).length ≤ 64 := Nat.le_trans (copTo_len w gen rs w) (Nat.mul_le_mul h8 h8)
theorem ClosePost.small {w gen : Nat} {rs : List Nat} {W w' : World} {e : Ending} (h : ClosePost No w gen rs W e w') (h8 : w ≤ 8) : TrWPost w (closeT w gen rs) W e w' := by
  obtain ⟨ag, cg, ak, ck, ac, cc, h1, h2, h3⟩ := h.1 (small_len h8)
  exact ⟨ag, cg, ak, ck, ac, _, cc, h1, h2, h3⟩
theorem compose8 (t u : TrD) (g1 k1 c1 g2 k2 c2 : Value) (W : World) (h8 : t.w ≤ 8) (hu : u.w = t.w) (hT : TabW W) (h1 : TrAt No W g1 k1 c1 t) (h2 : TrAt No W g2 k2 c2 u) :
    Calls Tryd.prog 23 #[.agg #[.int .i64 (t.w : Int), g1, .int .i64 (t.w : Int), k1, c1], .agg #[.int .i64 (t.w : Int), g2, .int .i64 (t.w : Int), k2, c2]] W (TrWPost t.w (compT t u) W) :=
  (compose_any No t u g1 k1 c1 g2 k2 c2 W (fun _ x => x.elim) hT h1 h2 hu).mono fun _ _ h => h.small h8
theorem join8 (t u : TrD) (g1 k1 c1 g2 k2 c2 : Value) (W : World) (h8 : t.w ≤ 8) (hu : u.w = t.w) (hT : TabW W) (h1 : TrAt No W g1 k1 c1 t) (h2 : TrAt No W g2 k2 c2 u) :
    Calls Tryd.prog 24 #[.agg #[.int .i64 (t.w : Int), g1, .int .i64 (t.w : Int), k1, c1], .agg #[.int .i64 (t.w : Int), g2, .int .i64 (t.w : Int), k2, c2]] W (TrWPost t.w (joinT t u) W) :=
  (join_any No t u g1 k1 c1 g2 k2 c2 W (fun _ x => x.elim) hT h1 h2 hu).mono fun _ _ h => h.small h8
theorem star8 (t : TrD) (g1 k1 c1 : Value) (W : World) (h8 : t.w ≤ 8) (hT : TabW W) (h1 : TrAt No W g1 k1 c1 t) :
    Calls Tryd.prog 27 #[.agg #[.int .i64 (t.w : Int), g1, .int .i64 (t.w : Int), k1, c1]] W (TrWPost t.w (starT t) W) :=
  (star_any No t g1 k1 c1 W (fun _ x => x.elim) hT h1).mono fun _ _ h => h.small h8
theorem canon8 (t : TrD) (g1 k1 c1 : Value) (W : World) (h8 : t.w ≤ 8) (hT : TabW W) (h1 : TrAt No W g1 k1 c1 t) :
    Calls Tryd.prog 25 #[.agg #[.int .i64 (t.w : Int), g1, .int .i64 (t.w : Int), k1, c1]] W (TrWPost t.w (canonT t) W) :=
  (canon_any No t g1 k1 c1 W (fun _ x => x.elim) hT h1).mono fun _ _ h => h.small h8
theorem lapply_w (t : TrD) (w s : Nat) (sg sk sc ss : Value) (W : World) (hw : t.w = w) (h : TrAt No W sg sk sc t) (hs : SetAt No W ss w s) :
    Calls Tryd.prog 31 #[.agg #[.int .i64 (w : Int), sg, .int .i64 (w : Int), sk, sc], .agg #[.int .i64 (w : Int), ss]] W (SetPost No w (applyT t s) W) := by
  subst hw; exact lapply_any No t s sg sk sc ss W (fun _ x => x.elim) h hs
theorem rvalid_set (w m : Nat) (ss : Value) (W : World) (hs : SetAt No W ss w m) : Calls Tryd.prog 40 #[.agg #[.int .i64 (w : Int), ss]] W (BoolPost true W) := by
  have h := rvalid_any _ _ W hs.raw
  rw [validB_set hs.hw hs.hm] at h
  exact h
theorem rsame_set (w m : Nat) (u v : Value) (W : World) (hs : SetAt No W u w m) (ht : SetAt No W v w m) : Calls Tryd.prog 32 #[.agg #[.int .i64 (w : Int), u], .agg #[.int .i64 (w : Int), v]] W (BoolPost true W) := by
  have h := rsame_any _ _ _ _ W hs.raw ht.raw
  rw [show sameB (setN w m) (setN w m) = true from decide_eq_true ⟨rfl, rfl⟩] at h
  exact h
theorem subset_true (w m k : Nat) (s1 s2 : Value) (W : World) (hb : subN m k = true) (h1 : SetAt No W s1 w m) (h2 : SetAt No W s2 w k) : Calls Tryd.prog 35 #[.agg #[.int .i64 (w : Int), s1], .agg #[.int .i64 (w : Int), s2]] W (BoolPost true W) := by
  have h := subset_any w m k s1 s2 W h1 h2
  rw [hb] at h
  exact h
/-- a box with a function in it -/
structure TrBox (D : Nat) (w n : Nat) (t : TrD) (ag : Option Addr) (cg : Nat) (ak : Option Addr) (ck : Nat) (ac : Option Addr) (cc : Nat) (wr : World) : Prop where
  box : wr.heap[D]? = some (.cells #[.int .i64 (w : Int), .slice ag (nw w) cg, .int .i64 (w : Int), .slice ak (nw w) ck, .slice ac n cc] 28 (0, 0))
  tr : TrAt No wr (.slice ag (nw w) cg) (.slice ak (nw w) ck) (.slice ac n cc) t
structure SetBox (D : Nat) (w m : Nat) (a : Option Addr) (c : Nat) (wr : World) : Prop where
  box : wr.heap[D]? = some (.cells #[.int .i64 (w : Int), .slice a (nw w) c] 25 (0, 0))
  set : SetAt No wr (.slice a (nw w) c) w m
theorem TrBox.ext {D w n : Nat} {t : TrD} {ag ak ac : Option Addr} {cg ck cc : Nat} {wr w' : World} (h : TrBox D w n t ag cg ak ck ac cc wr) (hx : Ext No wr w') : TrBox D w n t ag cg ak ck ac cc w' := ⟨hx.blk h.box no_no, h.tr.extNo hx⟩
theorem SetBox.ext {D w m : Nat} {a : Option Addr} {c : Nat} {wr w' : World} (h : SetBox D w m a c wr) (hx : Ext No wr w') : SetBox D w m a c w' := ⟨hx.blk h.box no_no, h.set.extNo hx⟩
end Go.Proofs.YtgakojgkkdmabaaDoor

/- Plain laws: a canonical function is known by its values; the star is least; iterating w + 1 times is enough. -/
import Derived.Test.YtgakojgkkdmabaaDoorTrGp
set_option linter.unusedVariables false
set_option linter.unusedSimpArgs false
namespace Go.Proofs.YtgakojgkkdmabaaDoor
open Go Go.RowKit

theorem membersN_congr {w m m' : Nat} (h : ∀ b, b < w → m.testBit b = m'.testBit b) : membersN w m = membersN w m' := by
  unfold membersN
  rw [List.filter_congr (fun b hb => h b (List.mem_range.1 hb))]
theorem copTo_congr {w g : Nat} {rs rs' : List Nat} (h : ∀ a b, a < w → b < w → g.testBit b = false → (rowAt rs a).testBit b = (rowAt rs' a).testBit b) : ∀ k, k ≤ w → copTo w g rs k = copTo w g rs' k
  | 0, _ => rfl
  | k + 1, hk => by
    have e : membersN w (diffN (rowAt rs k) g) = membersN w (diffN (rowAt rs' k) g) := membersN_congr (fun b hb => by
      rw [diffN_bit, diffN_bit]
      cases hg : g.testBit b with
      | true => simp
      | false => rw [h k b (by omega) hb hg])
    rw [copTo, copTo, copTo_congr h k (by omega), e]
theorem killTo_congr {w g : Nat} {rs rs' : List Nat} (hg : g < 2 ^ w) (h : ∀ a b, a < w → b < w → g.testBit b = false → (rowAt rs a).testBit b = (rowAt rs' a).testBit b) : killTo w g rs w = killTo w g rs' w := by
  refine bits_ext (killTo_lt hg w (Nat.le_refl _)) (killTo_lt hg w (Nat.le_refl _)) (fun b hb => ?_)
  rw [killTo_bit, killTo_bit, hasZ_nat hb, hasZ_nat hb]
  cases hgb : g.testBit b with
  | true => rfl
  | false => rw [h b b hb hb hgb]
theorem bool_ext {a b : Bool} (h : a = true ↔ b = true) : a = b := by cases a <;> cases b <;> simp_all
theorem close_zero {w g : Nat} {rs : List Nat} (ho : TrOk (closeT w g rs)) {b : Nat} (hb : b < w) : (applyT (closeT w g rs) 0).testBit b = g.testBit b := bool_ext (by
  rw [close_bit ho hb]
  constructor
  · rintro (h | ⟨a, _, h, _⟩)
    · exact h
    · simp at h
  · exact .inl)
theorem close_one {w g : Nat} {rs : List Nat} (ho : TrOk (closeT w g rs)) {a b : Nat} (ha : a < w) (hb : b < w) (hg : g.testBit b = false) : (applyT (closeT w g rs) (2 ^ a)).testBit b = (rowAt rs a).testBit b := bool_ext (by
  rw [close_bit ho hb]
  constructor
  · rintro (h | ⟨c, _, h, h2⟩)
    · rw [hg] at h; cases h
    · rw [one_bit] at h
      have : a = c := of_decide_eq_true h
      rw [this]; exact h2
  · intro h
    exact .inr ⟨a, ha, by rw [one_bit]; simp, h⟩)
theorem closeT_ext {w g g' : Nat} {rs rs' : List Nat} (h1 : TrOk (closeT w g rs)) (h2 : TrOk (closeT w g' rs')) (h : ∀ s, s < 2 ^ w → applyT (closeT w g rs) s = applyT (closeT w g' rs') s) : closeT w g rs = closeT w g' rs' := by
  have hg : g < 2 ^ w := h1.gen
  have hg' : g' < 2 ^ w := h2.gen
  have e : g = g' := bits_ext hg hg' (fun b hb => by
    rw [← close_zero h1 hb, ← close_zero h2 hb, h 0 (Nat.two_pow_pos w)])
  subst e
  have hr : ∀ a b, a < w → b < w → g.testBit b = false → (rowAt rs a).testBit b = (rowAt rs' a).testBit b := fun a b ha hb hz => by
    rw [← close_one h1 ha hb hz, ← close_one h2 ha hb hz, h (2 ^ a) (bitN_lt ha)]
  show TrD.mk _ _ _ _ = TrD.mk _ _ _ _
  rw [killTo_congr hg hr, copTo_congr hr w (Nat.le_refl _)]

theorem applyT_lt {t : TrD} {s : Nat} (ho : TrOk t) (hs : s < 2 ^ t.w) : applyT t s < 2 ^ t.w := applyN_lt ho hs _
theorem sub_anti {a b : Nat} (h1 : subN a b = true) (h2 : subN b a = true) : a = b := Nat.eq_of_testBit_eq fun i => bool_ext ⟨subN_iff.1 h1 i, subN_iff.1 h2 i⟩
theorem sub_refl (a : Nat) : subN a a = true := subN_iff.2 fun _ h => h
theorem sub_trans {a b c : Nat} (h1 : subN a b = true) (h2 : subN b c = true) : subN a c = true := subN_iff.2 fun i h => subN_iff.1 h2 i (subN_iff.1 h1 i h)
theorem sub_of {w a b : Nat} (ha : a < 2 ^ w) (h : ∀ i, i < w → a.testBit i = true → b.testBit i = true) : subN a b = true := subN_iff.2 fun i hi => by
  by_cases hw : i < w
  · exact h i hw hi
  · rw [bit_high ha (by omega)] at hi; cases hi
theorem apply_mono {t : TrD} (ho : TrOk t) {s r : Nat} (hs : s < 2 ^ t.w) (hr : r < 2 ^ t.w) (h : subN s r = true) : subN (applyT t s) (applyT t r) = true :=
  sub_of (applyT_lt ho hs) (fun i _ hi => by
    rw [apply_bit ho hs] at hi
    rw [apply_bit ho hr]
    rcases hi with hi | ⟨a, ha, h1, h2⟩
    · exact .inl hi
    · exact .inr ⟨a, ha, subN_iff.1 h a h1, h2⟩)
theorem orN_sub {a b c : Nat} (h1 : subN a c = true) (h2 : subN b c = true) : subN (orN a b) c = true := subN_iff.2 fun i hi => by
  rw [show orN a b = a ||| b from rfl, Nat.testBit_or, Bool.or_eq_true] at hi
  rcases hi with hi | hi
  · exact subN_iff.1 h1 i hi
  · exact subN_iff.1 h2 i hi
theorem sub_orL (a b : Nat) : subN a (orN a b) = true := subN_iff.2 fun i hi => by
  rw [show orN a b = a ||| b from rfl, Nat.testBit_or, hi, Bool.true_or]
theorem sub_orR (a b : Nat) : subN b (orN a b) = true := subN_iff.2 fun i hi => by
  rw [show orN a b = a ||| b from rfl, Nat.testBit_or, hi, Bool.or_true]
theorem or_of_sub {a b : Nat} (h : subN a b = true) : a ||| b = b := sub_bits.2 (fun i hi => subN_iff.1 h i hi)
theorem sub_of_or {a b : Nat} (h : a ||| b = b) : subN a b = true := subN_iff.2 (fun i hi => sub_bits.1 h i hi)

theorem star_least {f : TrD} (hf : TrOk f) (hc : TrOk (starT f)) {s r : Nat} (hs : s < 2 ^ f.w) (hr : r < 2 ^ f.w) (h1 : subN s r = true) (h2 : subN (applyT f r) r = true) : subN (applyT (starT f) s) r = true := by
  have hfix : stepN (rowsN f f.w f.copies.length) f.w r = r := by
    refine Nat.eq_of_testBit_eq fun i => bool_ext ?_
    rw [show stepN (rowsN f f.w f.copies.length) f.w r = r ||| imgN (rowsN f f.w f.copies.length) f.w r from rfl, Nat.testBit_or, Bool.or_eq_true]
    constructor
    · rintro (h | h)
      · exact h
      · refine subN_iff.1 h2 i ?_
        rw [apply_rows hf hr, show orN f.gen (imgN (rowsN f f.w f.copies.length) f.w r) = f.gen ||| imgN (rowsN f f.w f.copies.length) f.w r from rfl, Nat.testBit_or, h, Bool.or_true]
    · exact .inl
  have hgen : subN f.gen r = true := subN_iff.2 fun i hi => subN_iff.1 h2 i (by
    rw [apply_rows hf hr, show orN f.gen (imgN (rowsN f f.w f.copies.length) f.w r) = f.gen ||| imgN (rowsN f f.w f.copies.length) f.w r from rfl, Nat.testBit_or, hi, Bool.true_or])
  have hcl : ∀ q, q < 2 ^ f.w → subN q r = true → subN (closN (rowsN f f.w f.copies.length) f.w q) r = true := fun q hq hqr =>
    sub_of_or ((clos_any (rows_lt hf) hq).least r hfix (or_of_sub hqr))
  refine sub_of (w := f.w) (applyT_lt hc hs) (fun i hiw hi => ?_)
  rw [show applyT (starT f) s = applyT (closeT f.w (closN (rowsN f f.w f.copies.length) f.w f.gen) (starRows f.w (rowsN f f.w f.copies.length) f.w)) s from rfl, close_bit hc hiw] at hi
  rcases hi with hi | ⟨a, ha, h3, h4⟩
  · exact subN_iff.1 (hcl _ hf.gen hgen) i hi
  · rw [starRows_at ha] at h4
    refine subN_iff.1 (hcl _ (bitN_lt ha) ?_) i h4
    refine subN_iff.2 fun j hj => ?_
    rw [one_bit] at hj
    have : a = j := of_decide_eq_true hj
    rw [← this]
    exact subN_iff.1 h1 a h3
theorem star_idem {f : TrD} (hf : TrOk f) (hc : TrOk (starT f)) {s : Nat} (hs : s < 2 ^ f.w) : subN (applyT (starT f) (applyT (starT f) s)) (applyT (starT f) s) = true :=
  star_least hf hc (applyT_lt hc hs) (applyT_lt hc hs) (sub_refl _) (star_fix hf hs hc)
theorem star_star {f : TrD} (hf : TrOk f) (hc : TrOk (starT f)) (hcc : TrOk (starT (starT f))) : starT (starT f) = starT f := by
  refine closeT_ext hcc hc (fun s hs => ?_)
  have hs : s < 2 ^ f.w := hs
  show applyT (starT (starT f)) s = applyT (starT f) s
  have hq : applyT (starT (starT f)) s < 2 ^ f.w := applyT_lt hcc hs
  refine sub_anti ?_ ?_
  · exact star_least hc hcc hs (applyT_lt hc hs) (star_ge hf hs hc) (star_idem hf hc hs)
  · exact sub_trans (apply_mono hc hs hq (star_ge hc hs hcc)) (star_fix hc hs hcc)

def upF (f : TrD) (y : Nat) : Nat := orN y (applyT f y)
def upN (f : TrD) (y : Nat) : Nat → Nat
  | 0 => y
  | k + 1 => upF f (upN f y k)
theorem upF_lt {f : TrD} (hf : TrOk f) {y : Nat} (hy : y < 2 ^ f.w) : upF f y < 2 ^ f.w := orN_lt hy (applyT_lt hf hy)
theorem upN_lt {f : TrD} (hf : TrOk f) {y : Nat} (hy : y < 2 ^ f.w) : ∀ k, upN f y k < 2 ^ f.w
  | 0 => hy
  | k + 1 => upF_lt hf (upN_lt hf hy k)
theorem upN_ge (f : TrD) (y : Nat) : ∀ k, subN y (upN f y k) = true
  | 0 => sub_refl _
  | k + 1 => sub_trans (upN_ge f y k) (sub_orL _ _)
def cntB (y : Nat) : Nat → Nat
  | 0 => 0
  | w + 1 => cntB y w + (if y.testBit w then 1 else 0)
theorem cntB_le (y : Nat) : ∀ w, cntB y w ≤ w
  | 0 => Nat.le_refl _
  | w + 1 => by have := cntB_le y w; rw [cntB]; split <;> omega
theorem cntB_mono {y z : Nat} (h : subN y z = true) : ∀ w, cntB y w ≤ cntB z w
  | 0 => Nat.le_refl _
  | w + 1 => by
    have := cntB_mono h w
    rw [cntB, cntB]
    have h2 := subN_iff.1 h w
    split <;> split <;> simp_all <;> omega
theorem cntB_lt {y z b : Nat} (h : subN y z = true) (h1 : y.testBit b = false) (h2 : z.testBit b = true) : ∀ w, b < w → cntB y w < cntB z w
  | 0, hb => by omega
  | w + 1, hb => by
    rw [cntB, cntB]
    by_cases e : b = w
    · subst e
      have := cntB_mono h b
      rw [h1, h2]
      simp; omega
    · have := cntB_lt h h1 h2 w (by omega)
      have h3 := subN_iff.1 h w
      split <;> split <;> simp_all <;> omega
theorem up_prog {f : TrD} (hf : TrOk f) {y : Nat} (hy : y < 2 ^ f.w) : ∀ k, upF f (upN f y k) = upN f y k ∨ k ≤ cntB (upN f y k) f.w
  | 0 => .inr (Nat.zero_le _)
  | k + 1 => by
    rcases up_prog hf hy k with h | h
    · refine .inl ?_
      show upF f (upF f (upN f y k)) = upF f (upN f y k)
      rw [h, h]
    · by_cases e : upF f (upN f y k) = upN f y k
      · refine .inl ?_
        show upF f (upF f (upN f y k)) = upF f (upN f y k)
        rw [e, e]
      · refine .inr ?_
        have hs : subN (upN f y k) (upF f (upN f y k)) = true := sub_orL _ _
        obtain ⟨b, hb, h1, h2⟩ : ∃ b, b < f.w ∧ (upN f y k).testBit b = false ∧ (upF f (upN f y k)).testBit b = true := by
          refine Classical.byContradiction fun hn => e ?_
          refine bits_ext (upF_lt hf (upN_lt hf hy k)) (upN_lt hf hy k) (fun b hb => bool_ext ⟨fun h3 => ?_, subN_iff.1 hs b⟩)
          cases h4 : (upN f y k).testBit b with
          | true => rfl
          | false => exact absurd ⟨b, hb, h4, h3⟩ hn
        have := cntB_lt hs h1 h2 f.w hb
        show k + 1 ≤ cntB (upF f (upN f y k)) f.w
        omega
theorem up_fix {f : TrD} (hf : TrOk f) {y : Nat} (hy : y < 2 ^ f.w) : subN (applyT f (upN f y (f.w + 1))) (upN f y (f.w + 1)) = true := by
  have e : upF f (upN f y (f.w + 1)) = upN f y (f.w + 1) := by
    rcases up_prog hf hy (f.w + 1) with h | h
    · exact h
    · have := cntB_le (upN f y (f.w + 1)) f.w; omega
  have := sub_orR (upN f y (f.w + 1)) (applyT f (upN f y (f.w + 1)))
  rw [show orN (upN f y (f.w + 1)) (applyT f (upN f y (f.w + 1))) = upN f y (f.w + 1) from e] at this
  exact this
theorem star_in {f : TrD} (hf : TrOk f) (hc : TrOk (starT f)) {s y : Nat} (hs : s < 2 ^ f.w) (hy : y < 2 ^ f.w) : subN (applyT (starT f) s) (upN f (orN y s) (f.w + 1)) = true :=
  star_least hf hc hs (upN_lt hf (orN_lt hy hs) _) (sub_trans (sub_orR _ _) (upN_ge _ _ _)) (up_fix hf (orN_lt hy hs))

theorem mean_canon {t : TrD} (ht : TrOk t) (hc : TrOk (canonT t)) {s : Nat} (hs : s < 2 ^ t.w) : applyT (canonT t) s = applyT t s :=
  bits_ext (applyT_lt hc hs) (applyT_lt ht hs) (fun b hb => bool_ext (by
    rw [apply_bit ht hs, show applyT (canonT t) s = applyT (closeT t.w t.gen (rowsN t t.w t.copies.length)) s from rfl, close_bit hc hb]))
theorem apply_or {t : TrD} (ht : TrOk t) {a b : Nat} (ha : a < 2 ^ t.w) (hb : b < 2 ^ t.w) : applyT t (orN a b) = orN (applyT t a) (applyT t b) :=
  bits_ext (applyT_lt ht (orN_lt ha hb)) (orN_lt (applyT_lt ht ha) (applyT_lt ht hb)) (fun i _ => bool_ext (by
    have hab : orN a b < 2 ^ t.w := orN_lt ha hb
    rw [show orN (applyT t a) (applyT t b) = applyT t a ||| applyT t b from rfl, Nat.testBit_or, Bool.or_eq_true, apply_bit ht ha, apply_bit ht hb, apply_bit ht hab]
    constructor
    · rintro (h | ⟨c, hc, h1, h2⟩)
      · exact .inl (.inl h)
      · rw [show orN a b = a ||| b from rfl, Nat.testBit_or, Bool.or_eq_true] at h1
        rcases h1 with h1 | h1
        · exact .inl (.inr ⟨c, hc, h1, h2⟩)
        · exact .inr (.inr ⟨c, hc, h1, h2⟩)
    · rintro ((h | ⟨c, hc, h1, h2⟩) | (h | ⟨c, hc, h1, h2⟩))
      · exact .inl h
      · exact .inr ⟨c, hc, by rw [show orN a b = a ||| b from rfl, Nat.testBit_or, h1, Bool.true_or], h2⟩
      · exact .inl h
      · exact .inr ⟨c, hc, by rw [show orN a b = a ||| b from rfl, Nat.testBit_or, h1, Bool.or_true], h2⟩))
theorem apply_id (w s : Nat) : applyT (idT w) s = s := Nat.eq_of_testBit_eq fun i => by
  show (orN (diffN s 0) 0).testBit i = _
  rw [show orN (diffN s 0) 0 = diffN s 0 ||| 0 from rfl, Nat.testBit_or, diffN_bit]
  simp
theorem comp_assoc {f g h : TrD} (hf : TrOk f) (hg : TrOk g) (hh : TrOk h) (e1 : g.w = f.w) (e2 : h.w = f.w) (hfg : TrOk (compT f g)) (hgh : TrOk (compT g h)) (h1 : TrOk (compT (compT f g) h)) (h2 : TrOk (compT f (compT g h))) :
    compT (compT f g) h = compT f (compT g h) := by
  refine closeT_ext h1 h2 (fun s hs => ?_)
  have hs : s < 2 ^ f.w := hs
  have hfs := applyT_lt hf hs
  show applyT (compT (compT f g) h) s = applyT (compT f (compT g h)) s
  have a1 : applyT (compT (compT f g) h) s = applyT h (applyT (compT f g) s) := mean_compose hfg hh e2 hs h1
  have a2 : applyT (compT f g) s = applyT g (applyT f s) := mean_compose hf hg e1 hs hfg
  have a3 : applyT (compT f (compT g h)) s = applyT (compT g h) (applyT f s) := mean_compose hf hgh e1 hs h2
  have a4 : applyT (compT g h) (applyT f s) = applyT h (applyT g (applyT f s)) := mean_compose hg hh (e2.trans e1.symm) (e1 ▸ hfs) hgh
  rw [a1, a2, a3, a4]
theorem comp_join {f g h : TrD} (hf : TrOk f) (hg : TrOk g) (hh : TrOk h) (e1 : g.w = f.w) (e2 : h.w = f.w) (hj : TrOk (joinT f g)) (hfh : TrOk (compT f h)) (hgh : TrOk (compT g h)) (h1 : TrOk (compT (joinT f g) h)) (h2 : TrOk (joinT (compT f h) (compT g h))) :
    compT (joinT f g) h = joinT (compT f h) (compT g h) := by
  refine closeT_ext h1 h2 (fun s hs => ?_)
  have hs : s < 2 ^ f.w := hs
  have hsg : s < 2 ^ g.w := e1 ▸ hs
  have hfs := applyT_lt hf hs
  have hgs := applyT_lt hg hsg
  show applyT (compT (joinT f g) h) s = applyT (joinT (compT f h) (compT g h)) s
  have a1 : applyT (compT (joinT f g) h) s = applyT h (applyT (joinT f g) s) := mean_compose hj hh e2 hs h1
  have a2 : applyT (joinT f g) s = orN (applyT f s) (applyT g s) := mean_join hf hg e1 hs hj
  have a3 : applyT (joinT (compT f h) (compT g h)) s = orN (applyT (compT f h) s) (applyT (compT g h) s) := mean_join hfh hgh e1 hs h2
  have a4 : applyT (compT f h) s = applyT h (applyT f s) := mean_compose hf hh e2 hs hfh
  have a5 : applyT (compT g h) s = applyT h (applyT g s) := mean_compose hg hh (e2.trans e1.symm) hsg hgh
  rw [a1, a2, a3, a4, a5, apply_or hh (e2 ▸ hfs) (by rw [e2, ← e1]; exact hgs)]
theorem comp_idL {f : TrD} (hf : TrOk f) (h1 : TrOk (compT (idT f.w) f)) (h2 : TrOk (canonT f)) : compT (idT f.w) f = canonT f := by
  refine closeT_ext h1 h2 (fun s hs => ?_)
  have hs : s < 2 ^ f.w := hs
  show applyT (compT (idT f.w) f) s = applyT (canonT f) s
  have a1 : applyT (compT (idT f.w) f) s = applyT f (applyT (idT f.w) s) := mean_compose (idT_ok hf.w) hf rfl hs h1
  rw [a1, apply_id, mean_canon hf h2 hs]
theorem comp_idR {f : TrD} (hf : TrOk f) (h1 : TrOk (compT f (idT f.w))) (h2 : TrOk (canonT f)) : compT f (idT f.w) = canonT f := by
  refine closeT_ext h1 h2 (fun s hs => ?_)
  have hs : s < 2 ^ f.w := hs
  show applyT (compT f (idT f.w)) s = applyT (canonT f) s
  have a1 : applyT (compT f (idT f.w)) s = applyT (idT f.w) (applyT f s) := mean_compose hf (idT_ok hf.w) rfl hs h1
  rw [a1, apply_id, mean_canon hf h2 hs]
end Go.Proofs.YtgakojgkkdmabaaDoor


import Derived.Test.YtmddchceacmopaaDoorC3
set_option linter.unusedVariables false
set_option linter.unusedSimpArgs false
namespace Go.Proofs.YtmddchceacmopaaDoor
open Go Go.RowKit
theorem tabT_len (t : TrD) : (tabT t).length = t.w := tabTo_len _ _
theorem orN_bitC (a b i : Nat) : (orN a b).testBit i = (a.testBit i || b.testBit i) := Nat.testBit_or ..
theorem rowAt_comp {w : Nat} {r1 r2 : List Nat} {a : Nat} (h : a < r1.length) : rowAt (compRows w r1 r2) a = imgN r2 w (rowAt r1 a) := updTo_at2 h
theorem rowAt_compT {w z : Nat} {r1 r2 : List Nat} {a : Nat} (h : a < r1.length) : rowAt (compTab w z r1 r2) a = orN z (imgN r2 w (rowAt r1 a)) := updTo_at2 h
theorem img_tab {u : TrD} (hu : TrOk u) {s : Nat} (hs : s < 2 ^ u.w) : orN u.gen (imgN (tabT u) u.w s) = applyT u s := Nat.eq_of_testBit_eq fun i => bool_ext (by
 rw [orN_bitC, Bool.or_eq_true, apply_bit hu hs, imgN_bit]
 constructor
 ·rintro (h | ⟨a, ha, h1, h2⟩)
  ·exact .inl h
  have h3 : (rowAt (tabT u) a).testBit i = true := h2
  rw [tab_bit hu ha, Bool.or_eq_true] at h3
  rcases h3 with h3 | h3
  ·exact .inl h3
  exact .inr ⟨a, ha, h1, h3⟩
 rintro (h | ⟨a, ha, h1, h2⟩)
 ·exact .inl h
 refine .inr ⟨a, ha, h1, ?_⟩
 show (rowAt (tabT u) a).testBit i = true
 rw [tab_bit hu ha, h2, Bool.or_true])
theorem comp_tab {t u : TrD} (ho : TrOk t) (hu : TrOk u) (hw : u.w = t.w) : closeT t.w (orN u.gen (imgN (tabT u) t.w t.gen)) (compTab t.w u.gen (tabT t) (tabT u)) = compT t u := by
 have e1 : orN u.gen (imgN (tabT u) t.w t.gen) = applyT u t.gen := by rw [← hw]; exact img_tab hu (by rw [hw]; exact ho.gen)
 rw [e1]
 refine closeT_congr (by have := applyT_lt hu (s := t.gen) (by rw [hw]; exact ho.gen); rwa [hw] at this) (fun a b ha hb hg => ?_)
 rw [rowAt_compT (by rw [tabT_len]; exact ha), rowAt_comp (by rw [rowsN_len]; exact ha)]
 have hlt : rowAt (tabT t) a < 2 ^ u.w := by rw [hw, show rowAt (tabT t) a = applyT t (2 ^ a) from tabTo_at ha]; exact applyT_lt ho (bitN_lt ha)
 have e2 : orN u.gen (imgN (tabT u) t.w (rowAt (tabT t) a)) = applyT u (rowAt (tabT t) a) := by rw [← hw]; exact img_tab hu hlt
 rw [e2]
 refine bool_ext ?_
 rw [apply_bit hu hlt, imgN_bit]
 have hG : ∀ {P : Prop}, (applyT u t.gen).testBit b = true → P := fun h => by rw [h] at hg; cases hg
 have hgl : t.gen < 2 ^ u.w := by rw [hw]; exact ho.gen
 constructor
 ·rintro (h | ⟨c, hc, h1, h2⟩)
  ·exact hG ((apply_bit hu hgl).2 (.inl h))
  rw [tab_bit ho ha, Bool.or_eq_true] at h1
  rcases h1 with h1 | h1
  ·exact hG ((apply_bit hu hgl).2 (.inr ⟨c, hc, h1, h2⟩))
  exact ⟨c, by rw [← hw]; exact hc, h1, by rw [hw] at h2; exact h2⟩
 rintro ⟨c, hc, h1, h2⟩
 exact .inr ⟨c, by rw [hw]; exact hc, by rw [tab_bit ho ha, h1, Bool.or_true], by rw [hw]; exact h2⟩
end Go.Proofs.YtmddchceacmopaaDoor

namespace Go.Proofs.YtmddchceacmopaaDoor
open Go Go.RowKit
theorem rcomp8 (t u : TrD) (w : Nat) (g1 k1 c1 g2 k2 c2 : Value) (W : World) (hw : t.w = w) (hu : u.w = w) (h8 : w ≤ 8) (h1 : TrAt No W g1 k1 c1 t) (h2 : TrAt No W g2 k2 c2 u) :
  Calls Tryd.prog 8 #[.agg #[.int .i64 (w : Int), g1, .int .i64 (w : Int), k1, c1], .agg #[.int .i64 (w : Int), g2, .int .i64 (w : Int), k2, c2]] W (TrWM No w (compT t u) W) := by
 subst hw
 refine (rcomp_any t u g1 k1 c1 g2 k2 c2 W h1 h2 hu).mono ?_
 intro e w' h
 have h9 := h.smallM h8
 rw [comp_tab h1.ok h2.ok hu] at h9
 exact h9

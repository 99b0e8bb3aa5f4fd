/- Join, Compose, Below and Same of both sides at any raw functions. -/
import Derived.Test.YtgakojgkkdmabaaDoorC3
import Derived.Test.YtgakojgkkdmabaaDoorC4
import Derived.Test.YtgakojgkkdmabaaDoorTr49
import Derived.Test.YtgakojgkkdmabaaDoorSt2
set_option linter.unusedVariables false
set_option linter.unusedSimpArgs false
namespace Go.Proofs.YtgakojgkkdmabaaDoor
open Go Go.RowKit
theorem tabT_len (t : TrD) : (tabT t).length = t.w := tabTo_len _ _
theorem orN_bit (a b i : Nat) : (orN a b).testBit i = (a.testBit i || b.testBit i) := Nat.testBit_or ..
theorem rowAt_join {r1 r2 : List Nat} {a : Nat} (h : a < r1.length) : rowAt (joinRows r1 r2) a = orN (rowAt r1 a) (rowAt r2 a) := updTo_at2 h
theorem rowAt_comp {w : Nat} {r1 r2 : List Nat} {a : Nat} (h : a < r1.length) : rowAt (compRows w r1 r2) a = imgN r2 w (rowAt r1 a) := updTo_at2 h
theorem rowAt_compT {w z : Nat} {r1 r2 : List Nat} {a : Nat} (h : a < r1.length) : rowAt (compTab w z r1 r2) a = orN z (imgN r2 w (rowAt r1 a)) := updTo_at2 h
theorem join_tab {t u : TrD} (ho : TrOk t) (hu : TrOk u) (hw : u.w = t.w) : closeT t.w (orN t.gen u.gen) (joinRows (tabT t) (tabT u)) = joinT t u := by
 refine closeT_congr (orN_lt ho.gen (hw ▸ hu.gen)) (fun a b ha hb hg => ?_)
 have hg2 := hg
 rw [orN_bit, Bool.or_eq_false_iff] at hg2
 rw [rowAt_join (by rw [tabT_len]; exact ha), rowAt_join (by rw [rowsN_len]; exact ha), orN_bit, orN_bit, tab_bit ho ha, tab_bit hu (by rw [hw]; exact ha), hg2.1, hg2.2, hw]
 simp
theorem img_tab {u : TrD} (hu : TrOk u) {s : Nat} (hs : s < 2 ^ u.w) : orN u.gen (imgN (tabT u) u.w s) = applyT u s := Nat.eq_of_testBit_eq fun i => bool_ext (by
 rw [orN_bit, Bool.or_eq_true, apply_bit hu hs, imgN_bit]
 constructor
 ·rintro (h | ⟨a, ha, h1, h2⟩)
  ·exact .inl h
  ·have h3 : (rowAt (tabT u) a).testBit i = true := h2
   rw [tab_bit hu ha, Bool.or_eq_true] at h3
   rcases h3 with h3 | h3
   ·exact .inl h3
   ·exact .inr ⟨a, ha, h1, h3⟩
 ·rintro (h | ⟨a, ha, h1, h2⟩)
  ·exact .inl h
  ·refine .inr ⟨a, ha, h1, ?_⟩
   show (rowAt (tabT u) a).testBit i = true
   rw [tab_bit hu ha, h2, Bool.or_true])
theorem comp_tab {t u : TrD} (ho : TrOk t) (hu : TrOk u) (hw : u.w = t.w) : closeT t.w (orN u.gen (imgN (tabT u) t.w t.gen)) (compTab t.w u.gen (tabT t) (tabT u)) = compT t u := by
 have e1 : orN u.gen (imgN (tabT u) t.w t.gen) = applyT u t.gen := by rw [← hw]; exact img_tab hu (by rw [hw]; exact ho.gen)
 rw [e1]
 refine closeT_congr (by have := applyT_lt hu (s := t.gen) (by rw [hw]; exact ho.gen); rwa [hw] at this) (fun a b ha hb hg => ?_)
 rw [rowAt_compT (by rw [tabT_len]; exact ha), rowAt_comp (by rw [rowsN_len]; exact ha)]
 have hlt : rowAt (tabT t) a < 2 ^ u.w := by rw [hw, show rowAt (tabT t) a = applyT t (2 ^ a) from tabTo_at ha]; exact applyT_lt ho (bitN_lt ha)
 have e2 : orN u.gen (imgN (tabT u) t.w (rowAt (tabT t) a)) = applyT u (rowAt (tabT t) a) := by rw [← hw]; exact img_tab hu hlt
 rw [e2]
 refine bool_ext ?_
 rw [apply_bit hu hlt, imgN_bit]
 have hG : ∀ {P : Prop}, (applyT u t.gen).testBit b = true → P := fun h => by rw [h] at hg; cases hg
 have hgl : t.gen < 2 ^ u.w := by rw [hw]; exact ho.gen
 constructor
 ·rintro (h | ⟨c, hc, h1, h2⟩)
  ·exact hG ((apply_bit hu hgl).2 (.inl h))
  ·rw [tab_bit ho ha, Bool.or_eq_true] at h1
   rcases h1 with h1 | h1
   ·exact hG ((apply_bit hu hgl).2 (.inr ⟨c, hc, h1, h2⟩))
   ·exact ⟨c, by rw [← hw]; exact hc, h1, by rw [hw] at h2; exact h2⟩
 ·rintro ⟨c, hc, h1, h2⟩
  exact .inr ⟨c, by rw [hw]; exact hc, by rw [tab_bit ho ha, h1, Bool.or_true], by rw [hw]; exact h2⟩
theorem rbelTo_iff {t u : TrD} : ∀ k, rbelTo t u k = true ↔ ∀ a, a < k → subN (rowAt (tabT t) a) (rowAt (tabT u) a) = true
 | 0 => ⟨fun _ a h => absurd h (Nat.not_lt_zero a), fun _ => rfl⟩
 | k + 1 => by
  rw [rbelTo, Bool.and_eq_true, rbelTo_iff k]
  constructor
  ·rintro ⟨h1, h2⟩ a ha
   by_cases e : a = k
   ·rw [e]; exact h2
   ·exact h1 a (by omega)
  ·intro h
   exact ⟨fun a ha => h a (by omega), h k (by omega)⟩
theorem below_tab {t u : TrD} (ho : TrOk t) (hu : TrOk u) (hw : u.w = t.w) : rbelB t u = belowB t u := bool_ext (by
 unfold rbelB belowB
 rw [Bool.and_eq_true, Bool.and_eq_true, rbelTo_iff, belowTo_iff]
 refine and_congr_right (fun hg => forall_congr' fun a => ?_)
 refine forall_congr' (fun ha => ?_)
 have ha2 : a < u.w := by rw [hw]; exact ha
 rw [subN_iff, subN_iff]
 constructor
 ·intro h i hi
  have := h i (by rw [tab_bit ho ha, hi, Bool.or_true])
  rw [tab_bit hu ha2, Bool.or_eq_true] at this
  rw [orN_bit, Bool.or_eq_true]
  rcases this with e | e
  ·exact .inr e
  ·exact .inl (by rw [hw] at e; exact e)
 ·intro h i hi
  rw [tab_bit ho ha, Bool.or_eq_true] at hi
  rw [tab_bit hu ha2, Bool.or_eq_true]
  rcases hi with e | e
  ·exact .inl (subN_iff.1 hg i e)
  ·have := h i e
   rw [orN_bit, Bool.or_eq_true] at this
   rcases this with e | e
   ·exact .inr (by rw [hw]; exact e)
   ·exact .inl e)
set_option maxRecDepth 100000 in
set_option maxHeartbeats 1000000 in
theorem below_no (r1 r2 : RawT) (g1 k1 c1 g2 k2 c2 : Value) (W : World) (h1 : RawTAt No W g1 k1 c1 r1) (h2 : RawTAt No W g2 k2 c2 r2) (hm : matchZ r1 r2 ≠ 0) :
  Calls Tryd.prog 34 #[.agg #[.int .i64 r1.gen.width, g1, .int .i64 r1.kill.width, k1, c1], .agg #[.int .i64 r2.gen.width, g2, .int .i64 r2.kill.width, k2, c2]] W (BoolPost false W) := by
 have H1 := Lib.hid h1
 have H2 := Lib.hid h2
 obtain ⟨ag1, ng1, cg1, rfl⟩ := h1.gen.shaped
 obtain ⟨ak1, nk1, ck1, rfl⟩ := h1.kill.shaped
 obtain ⟨ac1, nc1, cc1, rfl⟩ := h1.copies.shaped
 obtain ⟨ag2, ng2, cg2, rfl⟩ := h2.gen.shaped
 obtain ⟨ak2, nk2, ck2, rfl⟩ := h2.kill.shaped
 obtain ⟨ac2, nc2, cc2, rfl⟩ := h2.copies.shaped
 clear h1 h2
 go_enter Tryd.func34, Tryd.ntmps34
 go_wp2_with fail
 have hx0 : Ext No W ((W.alloc (.cells #[.int .i64 r1.gen.width, .slice ag1 ng1 cg1, .int .i64 r1.kill.width, .slice ak1 nk1 ck1, .slice ac1 nc1 cc1] 28)).alloc (.cells #[.int .i64 r2.gen.width, .slice ag2 ng2 cg2, .int .i64 r2.kill.width, .slice ak2 nk2 ck2, .slice ac2 nc2 cc2] 28)) := ((Ext.refl _ _).alloc _).alloc _
 generalize ((W.alloc (.cells #[.int .i64 r1.gen.width, .slice ag1 ng1 cg1, .int .i64 r1.kill.width, .slice ak1 nk1 ck1, .slice ac1 nc1 cc1] 28)).alloc (.cells #[.int .i64 r2.gen.width, .slice ag2 ng2 cg2, .int .i64 r2.kill.width, .slice ak2 nk2 ck2, .slice ac2 nc2 cc2] 28)) = W2 at *
 refine (matching_any r1 r2 _ _ _ _ _ _ _ (H1.out.extNo hx0) (H2.out.extNo hx0)).mono ?_
 rintro e1 w1 ⟨rfl, hx1⟩
 have hx := Lib.hid (hx0.transNo hx1)
 clear hx0 hx1
 have hmz : (matchZ r1 r2 != 0) = true := by simpa using hm
 clear hm
 go_wp2_with fail
 go_ret
 exact ⟨rfl, hx.out⟩
set_option maxRecDepth 100000 in
set_option maxHeartbeats 1000000 in
theorem tsame_of (b1 b2 : Bool) (x1 y1 x2 y2 : Int) (ag1 ak1 ac1 ag2 ak2 ac2 : Option Addr) (ng1 cg1 nk1 ck1 nc1 cc1 ng2 cg2 nk2 ck2 nc2 cc2 : Nat) (W : World) (h1 : (∀ w', Ext No W w' → Calls Tryd.prog 34 #[.agg #[.int .i64 x1, .slice ag1 ng1 cg1, .int .i64 y1, .slice ak1 nk1 ck1, .slice ac1 nc1 cc1], .agg #[.int .i64 x2, .slice ag2 ng2 cg2, .int .i64 y2, .slice ak2 nk2 ck2, .slice ac2 nc2 cc2]] w' (BoolPost b1 w'))) (h2 : (∀ w', Ext No W w' → Calls Tryd.prog 34 #[.agg #[.int .i64 x2, .slice ag2 ng2 cg2, .int .i64 y2, .slice ak2 nk2 ck2, .slice ac2 nc2 cc2], .agg #[.int .i64 x1, .slice ag1 ng1 cg1, .int .i64 y1, .slice ak1 nk1 ck1, .slice ac1 nc1 cc1]] w' (BoolPost b2 w'))) :
  Calls Tryd.prog 33 #[.agg #[.int .i64 x1, .slice ag1 ng1 cg1, .int .i64 y1, .slice ak1 nk1 ck1, .slice ac1 nc1 cc1], .agg #[.int .i64 x2, .slice ag2 ng2 cg2, .int .i64 y2, .slice ak2 nk2 ck2, .slice ac2 nc2 cc2]] W (BoolPost (b1 && b2) W) := by
 have H1 := Lib.hid h1
 have H2 := Lib.hid h2
 clear h1 h2
 go_enter Tryd.func33, Tryd.ntmps33
 go_wp2_with fail
 have hx0 : Ext No W ((W.alloc (.cells #[.int .i64 x1, .slice ag1 ng1 cg1, .int .i64 y1, .slice ak1 nk1 ck1, .slice ac1 nc1 cc1] 28)).alloc (.cells #[.int .i64 x2, .slice ag2 ng2 cg2, .int .i64 y2, .slice ak2 nk2 ck2, .slice ac2 nc2 cc2] 28)) := ((Ext.refl _ _).alloc _).alloc _
 have hA : ((W.alloc (.cells #[.int .i64 x1, .slice ag1 ng1 cg1, .int .i64 y1, .slice ak1 nk1 ck1, .slice ac1 nc1 cc1] 28)).alloc (.cells #[.int .i64 x2, .slice ag2 ng2 cg2, .int .i64 y2, .slice ak2 nk2 ck2, .slice ac2 nc2 cc2] 28)).heap[W.heap.size]? = some (.cells #[.int .i64 x1, .slice ag1 ng1 cg1, .int .i64 y1, .slice ak1 nk1 ck1, .slice ac1 nc1 cc1] 28 (0, 0)) := alloc_under (alloc_top rfl)
 have hB : ((W.alloc (.cells #[.int .i64 x1, .slice ag1 ng1 cg1, .int .i64 y1, .slice ak1 nk1 ck1, .slice ac1 nc1 cc1] 28)).alloc (.cells #[.int .i64 x2, .slice ag2 ng2 cg2, .int .i64 y2, .slice ak2 nk2 ck2, .slice ac2 nc2 cc2] 28)).heap[W.heap.size + 1]? = some (.cells #[.int .i64 x2, .slice ag2 ng2 cg2, .int .i64 y2, .slice ak2 nk2 ck2, .slice ac2 nc2 cc2] 28 (0, 0)) := alloc_top (by simp)
 generalize ((W.alloc (.cells #[.int .i64 x1, .slice ag1 ng1 cg1, .int .i64 y1, .slice ak1 nk1 ck1, .slice ac1 nc1 cc1] 28)).alloc (.cells #[.int .i64 x2, .slice ag2 ng2 cg2, .int .i64 y2, .slice ak2 nk2 ck2, .slice ac2 nc2 cc2] 28)) = W2 at *
 refine (H1.out _ hx0).mono ?_
 rintro e1 w1 ⟨rfl, hy1⟩
 have hx1 := hx0.transNo hy1
 have cA := cellOf (hy1.blk hA no_no)
 have cB := cellOf (hy1.blk hB no_no)
 cases b1
 ·go_wp2_with fail
  go_ret
  exact ⟨rfl, hx1⟩
 ·go_wp2_with fail
  refine (H2.out _ hx1).mono ?_
  rintro e2 w2 ⟨rfl, hy2⟩
  go_wp2_with fail
  go_ret
  exact ⟨rfl, hx1.transNo hy2⟩
set_option maxRecDepth 100000 in
set_option maxHeartbeats 1000000 in
theorem rsame_of (b1 b2 : Bool) (x1 y1 x2 y2 : Int) (ag1 ak1 ac1 ag2 ak2 ac2 : Option Addr) (ng1 cg1 nk1 ck1 nc1 cc1 ng2 cg2 nk2 ck2 nc2 cc2 : Nat) (W : World) (h1 : (∀ w', Ext No W w' → Calls Tryd.prog 69 #[.agg #[.int .i64 x1, .slice ag1 ng1 cg1, .int .i64 y1, .slice ak1 nk1 ck1, .slice ac1 nc1 cc1], .agg #[.int .i64 x2, .slice ag2 ng2 cg2, .int .i64 y2, .slice ak2 nk2 ck2, .slice ac2 nc2 cc2]] w' (BoolPost b1 w'))) (h2 : (∀ w', Ext No W w' → Calls Tryd.prog 69 #[.agg #[.int .i64 x2, .slice ag2 ng2 cg2, .int .i64 y2, .slice ak2 nk2 ck2, .slice ac2 nc2 cc2], .agg #[.int .i64 x1, .slice ag1 ng1 cg1, .int .i64 y1, .slice ak1 nk1 ck1, .slice ac1 nc1 cc1]] w' (BoolPost b2 w'))) :
  Calls Tryd.prog 68 #[.agg #[.int .i64 x1, .slice ag1 ng1 cg1, .int .i64 y1, .slice ak1 nk1 ck1, .slice ac1 nc1 cc1], .agg #[.int .i64 x2, .slice ag2 ng2 cg2, .int .i64 y2, .slice ak2 nk2 ck2, .slice ac2 nc2 cc2]] W (BoolPost (b1 && b2) W) := by
 have H1 := Lib.hid h1
 have H2 := Lib.hid h2
 clear h1 h2
 go_enter Tryd.func68, Tryd.ntmps68
 go_wp2_with fail
 have hx0 : Ext No W ((W.alloc (.cells #[.int .i64 x1, .slice ag1 ng1 cg1, .int .i64 y1, .slice ak1 nk1 ck1, .slice ac1 nc1 cc1] 28)).alloc (.cells #[.int .i64 x2, .slice ag2 ng2 cg2, .int .i64 y2, .slice ak2 nk2 ck2, .slice ac2 nc2 cc2] 28)) := ((Ext.refl _ _).alloc _).alloc _
 have hA : ((W.alloc (.cells #[.int .i64 x1, .slice ag1 ng1 cg1, .int .i64 y1, .slice ak1 nk1 ck1, .slice ac1 nc1 cc1] 28)).alloc (.cells #[.int .i64 x2, .slice ag2 ng2 cg2, .int .i64 y2, .slice ak2 nk2 ck2, .slice ac2 nc2 cc2] 28)).heap[W.heap.size]? = some (.cells #[.int .i64 x1, .slice ag1 ng1 cg1, .int .i64 y1, .slice ak1 nk1 ck1, .slice ac1 nc1 cc1] 28 (0, 0)) := alloc_under (alloc_top rfl)
 have hB : ((W.alloc (.cells #[.int .i64 x1, .slice ag1 ng1 cg1, .int .i64 y1, .slice ak1 nk1 ck1, .slice ac1 nc1 cc1] 28)).alloc (.cells #[.int .i64 x2, .slice ag2 ng2 cg2, .int .i64 y2, .slice ak2 nk2 ck2, .slice ac2 nc2 cc2] 28)).heap[W.heap.size + 1]? = some (.cells #[.int .i64 x2, .slice ag2 ng2 cg2, .int .i64 y2, .slice ak2 nk2 ck2, .slice ac2 nc2 cc2] 28 (0, 0)) := alloc_top (by simp)
 generalize ((W.alloc (.cells #[.int .i64 x1, .slice ag1 ng1 cg1, .int .i64 y1, .slice ak1 nk1 ck1, .slice ac1 nc1 cc1] 28)).alloc (.cells #[.int .i64 x2, .slice ag2 ng2 cg2, .int .i64 y2, .slice ak2 nk2 ck2, .slice ac2 nc2 cc2] 28)) = W2 at *
 refine (H1.out _ hx0).mono ?_
 rintro e1 w1 ⟨rfl, hy1⟩
 have hx1 := hx0.transNo hy1
 have cA := cellOf (hy1.blk hA no_no)
 have cB := cellOf (hy1.blk hB no_no)
 cases b1
 ·go_wp2_with fail
  go_ret
  exact ⟨rfl, hx1⟩
 ·go_wp2_with fail
  refine (H2.out _ hx1).mono ?_
  rintro e2 w2 ⟨rfl, hy2⟩
  go_wp2_with fail
  go_ret
  exact ⟨rfl, hx1.transNo hy2⟩
/-- valid functions of one width, out of matchZ -/
theorem match_ex {r1 r2 : RawT} (hm : matchZ r1 r2 = 0) (hg1 : ∀ n ∈ r1.gen.words, n < 2 ^ 64) (hk1 : ∀ n ∈ r1.kill.words, n < 2 ^ 64) (hg2 : ∀ n ∈ r2.gen.words, n < 2 ^ 64) (hk2 : ∀ n ∈ r2.kill.words, n < 2 ^ 64) :
  ∃ t u : TrD, TrOk t ∧ TrOk u ∧ u.w = t.w ∧ r1 = rawT t ∧ r2 = rawT u := by
 obtain ⟨h1, h2, h3⟩ := matchZ_ok hm
 obtain ⟨t, ho, rfl⟩ := validT_ex h1 hg1 hk1
 obtain ⟨u, hu, rfl⟩ := validT_ex h2 hg2 hk2
 refine ⟨t, u, ho, hu, ?_, rfl, rfl⟩
 have h4 : (t.w : Int) = (u.w : Int) := h3
 omega
theorem raw_w {t u : TrD} (h : u.w = t.w) : (rawT u).gen.width = (t.w : Int) ∧ (rawT u).kill.width = (t.w : Int) := ⟨by show (u.w : Int) = (t.w : Int); rw [h], by show (u.w : Int) = (t.w : Int); rw [h]⟩
theorem join_both (r1 r2 : RawT) (hg1 : ∀ n ∈ r1.gen.words, n < 2 ^ 64) (hk1 : ∀ n ∈ r1.kill.words, n < 2 ^ 64) (hg2 : ∀ n ∈ r2.gen.words, n < 2 ^ 64) (hk2 : ∀ n ∈ r2.kill.words, n < 2 ^ 64) :
  ∃ (q : RawT) (e0 : Int), ∀ (g1 k1 c1 g2 k2 c2 : Value) (W : World), TabW W → RawTAt No W g1 k1 c1 r1 → RawTAt No W g2 k2 c2 r2 →
   Calls Tryd.prog 24 #[.agg #[.int .i64 r1.gen.width, g1, .int .i64 r1.kill.width, k1, c1], .agg #[.int .i64 r2.gen.width, g2, .int .i64 r2.kill.width, k2, c2]] W (ResP No q e0 W) ∧ Calls Tryd.prog 66 #[.agg #[.int .i64 r1.gen.width, g1, .int .i64 r1.kill.width, k1, c1], .agg #[.int .i64 r2.gen.width, g2, .int .i64 r2.kill.width, k2, c2]] W (ResP No q e0 W) := by
 by_cases hm : matchZ r1 r2 = 0
 ·obtain ⟨t, u, ho, hu, hw, rfl, rfl⟩ := match_ex hm hg1 hk1 hg2 hk2
  obtain ⟨e1, e2⟩ := closeQ_congr (show closeT t.w (orN t.gen u.gen) (joinRows (tabT t) (tabT u)) = closeT t.w (orN t.gen u.gen) (joinRows (rowsN t t.w t.copies.length) (rowsN u t.w u.copies.length)) from by rw [join_tab ho hu hw]; rfl)
  obtain ⟨w1, w2⟩ := raw_w hw
  refine ⟨closeQ t.w (orN t.gen u.gen) (joinRows (tabT t) (tabT u)), closeE t.w (orN t.gen u.gen) (joinRows (tabT t) (tabT u)), fun g1 k1 c1 g2 k2 c2 W hT h1 h2 => ?_⟩
  rw [w1, w2]
  constructor
  ·rw [e1, e2]
   exact (join_any No t u g1 k1 c1 g2 k2 c2 W (fun _ e => e.elim) hT (h1.tr ho) (h2.tr hu) hw).mono (fun _ _ h => h.res)
  ·exact (rjoinF_any t u g1 k1 c1 g2 k2 c2 W (h1.tr ho) (h2.tr hu) hw).mono (fun _ _ h => h.res)
 ·exact ⟨zeroT, matchZ r1 r2, fun g1 k1 c1 g2 k2 c2 W hT h1 h2 => ⟨(join_no r1 r2 g1 k1 c1 g2 k2 c2 W h1 h2 hm).mono (fun _ _ h => h.res), (rjoinF_no r1 r2 g1 k1 c1 g2 k2 c2 W h1 h2 hm).mono (fun _ _ h => h.res)⟩⟩
theorem comp_both (r1 r2 : RawT) (hg1 : ∀ n ∈ r1.gen.words, n < 2 ^ 64) (hk1 : ∀ n ∈ r1.kill.words, n < 2 ^ 64) (hg2 : ∀ n ∈ r2.gen.words, n < 2 ^ 64) (hk2 : ∀ n ∈ r2.kill.words, n < 2 ^ 64) :
  ∃ (q : RawT) (e0 : Int), ∀ (g1 k1 c1 g2 k2 c2 : Value) (W : World), TabW W → RawTAt No W g1 k1 c1 r1 → RawTAt No W g2 k2 c2 r2 →
   Calls Tryd.prog 23 #[.agg #[.int .i64 r1.gen.width, g1, .int .i64 r1.kill.width, k1, c1], .agg #[.int .i64 r2.gen.width, g2, .int .i64 r2.kill.width, k2, c2]] W (ResP No q e0 W) ∧ Calls Tryd.prog 67 #[.agg #[.int .i64 r1.gen.width, g1, .int .i64 r1.kill.width, k1, c1], .agg #[.int .i64 r2.gen.width, g2, .int .i64 r2.kill.width, k2, c2]] W (ResP No q e0 W) := by
 by_cases hm : matchZ r1 r2 = 0
 ·obtain ⟨t, u, ho, hu, hw, rfl, rfl⟩ := match_ex hm hg1 hk1 hg2 hk2
  obtain ⟨e1, e2⟩ := closeQ_congr (show closeT t.w (orN u.gen (imgN (tabT u) t.w t.gen)) (compTab t.w u.gen (tabT t) (tabT u)) = closeT t.w (applyT u t.gen) (compRows t.w (rowsN t t.w t.copies.length) (rowsN u t.w u.copies.length)) from by rw [comp_tab ho hu hw]; rfl)
  obtain ⟨w1, w2⟩ := raw_w hw
  refine ⟨closeQ t.w (orN u.gen (imgN (tabT u) t.w t.gen)) (compTab t.w u.gen (tabT t) (tabT u)), closeE t.w (orN u.gen (imgN (tabT u) t.w t.gen)) (compTab t.w u.gen (tabT t) (tabT u)), fun g1 k1 c1 g2 k2 c2 W hT h1 h2 => ?_⟩
  rw [w1, w2]
  constructor
  ·rw [e1, e2]
   exact (compose_any No t u g1 k1 c1 g2 k2 c2 W (fun _ e => e.elim) hT (h1.tr ho) (h2.tr hu) hw).mono (fun _ _ h => h.res)
  ·exact (rcomp_any t u g1 k1 c1 g2 k2 c2 W (h1.tr ho) (h2.tr hu) hw).mono (fun _ _ h => h.res)
 ·exact ⟨zeroT, matchZ r1 r2, fun g1 k1 c1 g2 k2 c2 W hT h1 h2 => ⟨(compose_no r1 r2 g1 k1 c1 g2 k2 c2 W h1 h2 hm).mono (fun _ _ h => h.res), (rcomp_no r1 r2 g1 k1 c1 g2 k2 c2 W h1 h2 hm).mono (fun _ _ h => h.res)⟩⟩
theorem below_both (r1 r2 : RawT) (hg1 : ∀ n ∈ r1.gen.words, n < 2 ^ 64) (hk1 : ∀ n ∈ r1.kill.words, n < 2 ^ 64) (hg2 : ∀ n ∈ r2.gen.words, n < 2 ^ 64) (hk2 : ∀ n ∈ r2.kill.words, n < 2 ^ 64) :
  ∃ b : Bool, ∀ (g1 k1 c1 g2 k2 c2 : Value) (W : World), TabW W → RawTAt No W g1 k1 c1 r1 → RawTAt No W g2 k2 c2 r2 →
   Calls Tryd.prog 34 #[.agg #[.int .i64 r1.gen.width, g1, .int .i64 r1.kill.width, k1, c1], .agg #[.int .i64 r2.gen.width, g2, .int .i64 r2.kill.width, k2, c2]] W (BoolPost b W) ∧ Calls Tryd.prog 69 #[.agg #[.int .i64 r1.gen.width, g1, .int .i64 r1.kill.width, k1, c1], .agg #[.int .i64 r2.gen.width, g2, .int .i64 r2.kill.width, k2, c2]] W (BoolPost b W) := by
 by_cases hm : matchZ r1 r2 = 0
 ·obtain ⟨t, u, ho, hu, hw, rfl, rfl⟩ := match_ex hm hg1 hk1 hg2 hk2
  obtain ⟨w1, w2⟩ := raw_w hw
  refine ⟨belowB t u, fun g1 k1 c1 g2 k2 c2 W hT h1 h2 => ?_⟩
  rw [w1, w2]
  constructor
  ·exact below_any No t u g1 k1 c1 g2 k2 c2 W (fun _ e => e.elim) hT (h1.tr ho) (h2.tr hu) hw
  ·rw [← below_tab ho hu hw]
   exact rbelow_any t u g1 k1 c1 g2 k2 c2 W (h1.tr ho) (h2.tr hu) hw
 ·exact ⟨false, fun g1 k1 c1 g2 k2 c2 W hT h1 h2 => ⟨below_no r1 r2 g1 k1 c1 g2 k2 c2 W h1 h2 hm, rbelow_no r1 r2 g1 k1 c1 g2 k2 c2 W h1 h2 hm⟩⟩
end Go.Proofs.YtgakojgkkdmabaaDoor

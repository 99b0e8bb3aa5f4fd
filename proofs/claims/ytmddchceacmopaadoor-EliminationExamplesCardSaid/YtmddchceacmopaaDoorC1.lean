
import Derived.Test.YtmddchceacmopaaDoorRefG
set_option linter.unusedVariables false
set_option linter.unusedSimpArgs false
namespace Go.Proofs.YtmddchceacmopaaDoor
open Go Go.RowKit
set_option maxRecDepth 100000 in
set_option maxHeartbeats 2000000 in
theorem rmade_any (M : Nat → Prop) (w gen : Nat) (rs : List Nat) (sg so : Value) (W : World) (hM : ∀ b, M b → b < W.heap.size) (hg : SetAt M W sg w gen) (hr : SetsV No W so w rs) (hl : rs.length = w) :
  Calls Tryd.prog 25 #[.agg #[.int .i64 (w : Int), sg, so]] W (ClosePost M w gen rs W) := by
 have HR := Lib.hid hr
 have HM := Lib.hid hM
 have HG := Lib.hid hg
 obtain ⟨ag, cg, rfl⟩ := hg.slice
 obtain ⟨ao, co, rfl⟩ := hr.slice
 have hw := hg.hw
 have HLL := Lib.hid hl
 clear hr hM hg hl
 go_enter Tryd.func25, Tryd.ntmps25
 go_wp2_with fail
 have hx0 : Ext No W ((W.alloc (.cells #[.int .i64 (w : Int), .slice ag (nw w) cg, .slice ao rs.length co] 62)).alloc (.cells #[.int .i64 0, .slice none 0 0, .int .i64 0, .slice none 0 0, .slice none 0 0] 30)) := ((Ext.refl _ _).alloc _).alloc _
 have hB : ((W.alloc (.cells #[.int .i64 (w : Int), .slice ag (nw w) cg, .slice ao rs.length co] 62)).alloc (.cells #[.int .i64 0, .slice none 0 0, .int .i64 0, .slice none 0 0, .slice none 0 0] 30)).heap[W.heap.size + 1]? = some (.cells #[.int .i64 0, .slice none 0 0, .int .i64 0, .slice none 0 0, .slice none 0 0] 30 (0, 0)) := alloc_top (by simp)
 generalize ((W.alloc (.cells #[.int .i64 (w : Int), .slice ag (nw w) cg, .slice ao rs.length co] 62)).alloc (.cells #[.int .i64 0, .slice none 0 0, .int .i64 0, .slice none 0 0, .slice none 0 0] 30)) = W2 at *
 refine (rfunction_any (fun b => M b ∨ b = W.heap.size + 1) w gen rs _ _ _ (fun b hb => ?_) ((HG.out.mono (fun i hi e => ?_)).extNo hx0) (HR.out.extNo hx0) HLL.out).mono ?_
 ·rcases hb with hb | rfl
  ·exact Nat.lt_of_lt_of_le (HM.out b hb) hx0.size
  exact lt_of_block hB
 ·rcases e with e | e
  ·exact e
  omega
 rintro e1 w1 ⟨bg, dg, bk, dk, bc, n, dc, rfl, hn, hs, hx1⟩
 have hy : Ext No w1 (w1.alloc (.cells #[.int .i64 (w : Int), .slice bg (nw w) dg, .int .i64 (w : Int), .slice bk (nw w) dk, .slice bc n dc] 30)) := (Ext.refl _ _).alloc _
 have hB2 := hy.blk (hx1.blk hB no_no) no_no
 have hT2 := alloc_top (w := w1) (o := .cells #[.int .i64 (w : Int), .slice bg (nw w) dg, .int .i64 (w : Int), .slice bk (nw w) dk, .slice bc n dc] 30) rfl
 have hxa := (hx0.transNo hx1).transNo hy
 have hne : ¬ W.heap.size + 1 = w1.heap.size := by have := lt_of_block (hx1.blk hB no_no); omega
 have HS := Lib.hid hs
 have HY := Lib.hid hy
 have HN := Lib.hid hn
 have cB := cellOf hB2
 have fB := freeOf hB2
 have cT := cellOf hT2
 clear hx0 hx1 hB hs hy hn
 by_cases hc : n ≤ 64
 ·have hcd : decide ((n : Int) ≤ 64) = true := decide_eq_true (by omega)
  rw [hcd]
  clear hcd
  go_wp2_with fail
  generalize (w1.alloc (.cells #[.int .i64 (w : Int), .slice bg (nw w) dg, .int .i64 (w : Int), .slice bk (nw w) dk, .slice bc n dc] 30)) = w2 at *
  have hfin := BoxR.fin5 ⟨_, rfl, hB2⟩ (.int .i64 (w : Int)) (.slice bg (nw w) dg) (.int .i64 (w : Int)) (.slice bk (nw w) dk) (.slice bc n dc)
  have hE := set5 w2 (W.heap.size + 1) (.int .i64 (w : Int)) (.slice bg (nw w) dg) (.int .i64 (w : Int)) (.slice bk (nw w) dk) (.slice bc n dc)
  clear cB fB cT
  generalize (((((w2.setCell ⟨W.heap.size + 1, 0, none⟩ (.int .i64 (w : Int))).setCell ⟨W.heap.size + 1, 1, none⟩ (.slice bg (nw w) dg)).setCell ⟨W.heap.size + 1, 2, none⟩ (.int .i64 (w : Int))).setCell ⟨W.heap.size + 1, 3, none⟩ (.slice bk (nw w) dk)).setCell ⟨W.heap.size + 1, 4, none⟩ (.slice bc n dc)) = WF at *
  have cF := cellOf hfin
  refine ret_ex rfl ?_
  simp [results, Tryd.results25, go_sem, cF]
  have hnn := HN.out
  subst hnn
  refine ⟨fun _ => ⟨bg, dg, bk, dk, bc, dc, rfl, Lib.hid ⟨?_, ?_, ?_, closeT_ok hw HG.out.hm hc⟩, hxa.trans2 hE (fun i hi e => by unfold At at e; omega)⟩, fun h => absurd h (by omega)⟩
  ·exact ((HS.out.1.extNo HY.out).ext hE (fun i _ e => .inr e)).mono (fun i _ e => .inl e)
  ·exact ((HS.out.2.1.extNo HY.out).ext hE (fun i _ e => .inr e)).mono (fun i _ e => .inl e)
  exact ((HS.out.2.2.extNo HY.out).ext hE (fun i _ e => .inr e)).mono (fun i _ e => .inl e)
 have hcd : decide ((n : Int) ≤ 64) = false := decide_eq_false (by omega)
 rw [hcd]
 clear hcd
 go_wp2_with fail
 generalize (w1.alloc (.cells #[.int .i64 (w : Int), .slice bg (nw w) dg, .int .i64 (w : Int), .slice bk (nw w) dk, .slice bc n dc] 30)) = w2 at *
 have hfin := BoxR.fin5 ⟨_, rfl, hB2⟩ (.int .i64 0) (.slice none 0 0) (.int .i64 0) (.slice none 0 0) (.slice none 0 0)
 have hE := set5 w2 (W.heap.size + 1) (.int .i64 0) (.slice none 0 0) (.int .i64 0) (.slice none 0 0) (.slice none 0 0)
 clear cB fB cT
 generalize (((((w2.setCell ⟨W.heap.size + 1, 0, none⟩ (.int .i64 0)).setCell ⟨W.heap.size + 1, 1, none⟩ (.slice none 0 0)).setCell ⟨W.heap.size + 1, 2, none⟩ (.int .i64 0)).setCell ⟨W.heap.size + 1, 3, none⟩ (.slice none 0 0)).setCell ⟨W.heap.size + 1, 4, none⟩ (.slice none 0 0)) = WF at *
 have cF := cellOf hfin
 refine ret_ex rfl ?_
 simp [results, Tryd.results25, go_sem, cF]
 have hnn := HN.out
 subst hnn
 exact ⟨fun h => absurd h hc, fun _ => ⟨rfl, hxa.trans2 hE (fun i hi e => by unfold At at e; omega)⟩⟩
end Go.Proofs.YtmddchceacmopaaDoor

namespace Go.Proofs.YtmddchceacmopaaDoor
open Go Go.RowKit
theorem closeT_congr {w g : Nat} {rs rs' : List Nat} (hg : g < 2 ^ w) (h : ∀ a b, a < w → b < w → g.testBit b = false → (rowAt rs a).testBit b = (rowAt rs' a).testBit b) : closeT w g rs = closeT w g rs' := by
 show TrD.mk _ _ _ _ = TrD.mk _ _ _ _
 rw [killTo_congr hg h, copTo_congr h w (Nat.le_refl _)]
theorem tab_bit {t : TrD} (ho : TrOk t) {a b : Nat} (ha : a < t.w) : (rowAt (tabT t) a).testBit b = (t.gen.testBit b || (rowAt (rowsN t t.w t.copies.length) a).testBit b) := bool_ext (by
 rw [show rowAt (tabT t) a = applyT t (2 ^ a) from tabTo_at ha, apply_bit ho (bitN_lt ha), Bool.or_eq_true]
 constructor
 ·rintro (h | ⟨c, _, h1, h2⟩)
  ·exact .inl h
  rw [one_bit] at h1
  have : a = c := of_decide_eq_true h1
  rw [this]; exact .inr h2
 rintro (h | h)
 ·exact .inl h
 exact .inr ⟨a, ha, by rw [one_bit]; simp, h⟩)
end Go.Proofs.YtmddchceacmopaaDoor

namespace Go.Proofs.YtmddchceacmopaaDoor
open Go Go.RowKit
theorem BlkW.ext {w w' : World} {g n m : Nat} (h : BlkW w g n m) (hx : Ext No w w') : BlkW w' g n m := hx.blk h no_no
def BoxTab (D : Nat) (w g : Nat) (rs : List Nat) (sg so : Value) (M : Nat → Prop) (W : World) : Prop := W.heap[D]? = some (.cells #[.int .i64 (w : Int), sg, so] 62 (0, 0)) ∧ ¬ M D ∧ RowsO w g rs sg so M W
theorem keeps_tab (D w g : Nat) (rs : List Nat) (sg so : Value) : Keeps (BoxTab D w g rs sg so) :=
 ⟨fun h hx hm => ⟨hx.blk h.1 (fun e => h.2.1 (hm _ (lt_of_block h.1) e)), h.2.1, h.2.2.ext hx hm⟩, fun h hm => ⟨h.1, fun e => h.2.1 (hm _ (lt_of_block h.1) e), h.2.2.mono hm⟩⟩
end Go.Proofs.YtmddchceacmopaaDoor

namespace Go.Proofs.YtmddchceacmopaaDoor
open Go Go.RowKit
set_option maxRecDepth 100000 in
set_option maxHeartbeats 1000000 in
theorem rtwo_any (r1 r2 : RawT) (g1 k1 c1 g2 k2 c2 : Value) (W : World) (h1 : RawTAt No W g1 k1 c1 r1) (h2 : RawTAt No W g2 k2 c2 r2) :
  Calls Tryd.prog 22 #[.agg #[.int .i64 r1.gen.width, g1, .int .i64 r1.kill.width, k1, c1], .agg #[.int .i64 r2.gen.width, g2, .int .i64 r2.kill.width, k2, c2]] W (IntPost (matchZ r1 r2) W) := by
 have H1 := Lib.hid h1
 have H2 := Lib.hid h2
 obtain ⟨ag1, ng1, cg1, rfl⟩ := h1.gen.shaped
 obtain ⟨ak1, nk1, ck1, rfl⟩ := h1.kill.shaped
 obtain ⟨ac1, nc1, cc1, rfl⟩ := h1.copies.shaped
 obtain ⟨ag2, ng2, cg2, rfl⟩ := h2.gen.shaped
 obtain ⟨ak2, nk2, ck2, rfl⟩ := h2.kill.shaped
 obtain ⟨ac2, nc2, cc2, rfl⟩ := h2.copies.shaped
 clear h1 h2
 go_enter Tryd.func22, Tryd.ntmps22
 go_wp2_with fail
 have hx0 : Ext No W ((W.alloc (.cells #[.int .i64 r1.gen.width, .slice ag1 ng1 cg1, .int .i64 r1.kill.width, .slice ak1 nk1 ck1, .slice ac1 nc1 cc1] 30)).alloc (.cells #[.int .i64 r2.gen.width, .slice ag2 ng2 cg2, .int .i64 r2.kill.width, .slice ak2 nk2 ck2, .slice ac2 nc2 cc2] 30)) := ((Ext.refl _ _).alloc _).alloc _
 have hA : ((W.alloc (.cells #[.int .i64 r1.gen.width, .slice ag1 ng1 cg1, .int .i64 r1.kill.width, .slice ak1 nk1 ck1, .slice ac1 nc1 cc1] 30)).alloc (.cells #[.int .i64 r2.gen.width, .slice ag2 ng2 cg2, .int .i64 r2.kill.width, .slice ak2 nk2 ck2, .slice ac2 nc2 cc2] 30)).heap[W.heap.size]? = some (.cells #[.int .i64 r1.gen.width, .slice ag1 ng1 cg1, .int .i64 r1.kill.width, .slice ak1 nk1 ck1, .slice ac1 nc1 cc1] 30 (0, 0)) := alloc_under (alloc_top rfl)
 have hB : ((W.alloc (.cells #[.int .i64 r1.gen.width, .slice ag1 ng1 cg1, .int .i64 r1.kill.width, .slice ak1 nk1 ck1, .slice ac1 nc1 cc1] 30)).alloc (.cells #[.int .i64 r2.gen.width, .slice ag2 ng2 cg2, .int .i64 r2.kill.width, .slice ak2 nk2 ck2, .slice ac2 nc2 cc2] 30)).heap[W.heap.size + 1]? = some (.cells #[.int .i64 r2.gen.width, .slice ag2 ng2 cg2, .int .i64 r2.kill.width, .slice ak2 nk2 ck2, .slice ac2 nc2 cc2] 30 (0, 0)) := alloc_top (by simp)
 generalize ((W.alloc (.cells #[.int .i64 r1.gen.width, .slice ag1 ng1 cg1, .int .i64 r1.kill.width, .slice ak1 nk1 ck1, .slice ac1 nc1 cc1] 30)).alloc (.cells #[.int .i64 r2.gen.width, .slice ag2 ng2 cg2, .int .i64 r2.kill.width, .slice ak2 nk2 ck2, .slice ac2 nc2 cc2] 30)) = W2 at *
 refine (rvalidT_any r1 _ _ _ _ (H1.out.extNo hx0)).mono ?_
 rintro e1 w1 ⟨rfl, hx1⟩
 have hx := Lib.hid (hx0.transNo hx1)
 have HA := Lib.hid (hx1.blk hA no_no)
 have HB := Lib.hid (hx1.blk hB no_no)
 clear hx0 hx1 hA hB
 cases hv1 : validT r1 with
 | false =>
  have e : matchZ r1 r2 = 1 := by unfold matchZ; rw [if_neg (by simp [hv1])]
  have E := Lib.hid e
  clear hv1 e
  go_wp2_with fail
  go_ret
  rw [E.out]
  exact ⟨rfl, hx.out⟩
 | true =>
  have cB := cellOf HB.out
  have HV1 := Lib.hid hv1
  clear hv1
  go_wp2_with fail
  refine (rvalidT_any r2 _ _ _ _ (H2.out.extNo hx.out)).mono ?_
  rintro e2 w2 ⟨rfl, hx2⟩
  cases hv2 : validT r2 with
  | false =>
   have e : matchZ r1 r2 = 1 := by unfold matchZ; rw [if_pos HV1.out, if_neg (by simp [hv2])]
   have E := Lib.hid e
   clear hv2 e
   go_wp2_with fail
   go_ret
   rw [E.out]
   exact ⟨rfl, hx.out.transNo hx2⟩
  | true =>
   have HV2 := Lib.hid hv2
   have cA2 := cellOf (hx2.blk HA.out no_no)
   have cB2 := cellOf (hx2.blk HB.out no_no)
   clear hv2 cB
   by_cases hw : r1.gen.width = r2.gen.width
   ·have e : matchZ r1 r2 = 0 := by unfold matchZ; rw [if_pos HV1.out, if_pos HV2.out, if_pos hw]
    have hw' : (r1.gen.width != r2.gen.width) = false := by simpa using hw
    have E := Lib.hid e
    clear hw e
    go_wp2_with fail
    go_ret
    rw [E.out]
    exact ⟨rfl, hx.out.transNo hx2⟩
   have e : matchZ r1 r2 = 2 := by unfold matchZ; rw [if_pos HV1.out, if_pos HV2.out, if_neg hw]
   have hw' : (r1.gen.width != r2.gen.width) = true := by simpa using hw
   have E := Lib.hid e
   clear hw e
   go_wp2_with fail
   go_ret
   rw [E.out]
   exact ⟨rfl, hx.out.transNo hx2⟩
theorem rtwo_eq (t u : TrD) (g1 k1 c1 g2 k2 c2 : Value) (W : World) (hu : u.w = t.w) (h1 : TrAt No W g1 k1 c1 t) (h2 : TrAt No W g2 k2 c2 u) :
  Calls Tryd.prog 22 #[.agg #[.int .i64 (t.w : Int), g1, .int .i64 (t.w : Int), k1, c1], .agg #[.int .i64 (t.w : Int), g2, .int .i64 (t.w : Int), k2, c2]] W (IntPost 0 W) := by
 have h := rtwo_any (rawT t) (rawT u) g1 k1 c1 g2 k2 c2 W h1.raw h2.raw
 have e : matchZ (rawT t) (rawT u) = 0 := by unfold matchZ; rw [if_pos (validT_ok h1.ok), if_pos (validT_ok h2.ok), if_pos (by show (t.w : Int) = (u.w : Int); rw [hu])]
 rw [e] at h
 have e1 : (rawT u).gen.width = (t.w : Int) := by show (u.w : Int) = (t.w : Int); rw [hu]
 have e2 : (rawT u).kill.width = (t.w : Int) := by show (u.w : Int) = (t.w : Int); rw [hu]
 rw [e1, e2] at h
 exact h

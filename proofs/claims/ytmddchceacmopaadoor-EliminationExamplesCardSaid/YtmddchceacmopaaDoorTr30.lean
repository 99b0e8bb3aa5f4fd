
import Derived.Test.YtmddchceacmopaaDoorTr28
import Derived.Test.YtmddchceacmopaaDoorHeld2
import Derived.Test.YtmddchceacmopaaDoorTrF
set_option linter.unusedVariables false
set_option linter.unusedSimpArgs false
namespace Go.Proofs.YtmddchceacmopaaDoor
open Go Go.RowKit
def matchZ (r1 r2 : RawT) : Int := if validT r1 = true then (if validT r2 = true then (if r1.gen.width = r2.gen.width then 0 else 2) else 1) else 1
theorem open_lo (t : TrD) (sg sk sc : Value) (W : World) (h : TrAt No W sg sk sc t) :
  Calls Tryd.prog 70 #[.agg #[.int .i64 (t.w : Int), sg, .int .i64 (t.w : Int), sk, sc]] W (RowsPost (Lo W.heap.size) t.w t.gen (rowsN t t.w t.copies.length) W) := open_any (Lo W.heap.size) t sg sk sc W (fun _ x => x) h
set_option maxRecDepth 100000 in
set_option maxHeartbeats 1000000 in
theorem matching_any (r1 r2 : RawT) (g1 k1 c1 g2 k2 c2 : Value) (W : World) (h1 : RawTAt No W g1 k1 c1 r1) (h2 : RawTAt No W g2 k2 c2 r2) :
  Calls Tryd.prog 69 #[.agg #[.int .i64 r1.gen.width, g1, .int .i64 r1.kill.width, k1, c1], .agg #[.int .i64 r2.gen.width, g2, .int .i64 r2.kill.width, k2, c2]] W (IntPost (matchZ r1 r2) W) := by
 have H1 := Lib.hid h1
 have H2 := Lib.hid h2
 obtain ⟨ag1, ng1, cg1, rfl⟩ := h1.gen.shaped
 obtain ⟨ak1, nk1, ck1, rfl⟩ := h1.kill.shaped
 obtain ⟨ac1, nc1, cc1, rfl⟩ := h1.copies.shaped
 obtain ⟨ag2, ng2, cg2, rfl⟩ := h2.gen.shaped
 obtain ⟨ak2, nk2, ck2, rfl⟩ := h2.kill.shaped
 obtain ⟨ac2, nc2, cc2, rfl⟩ := h2.copies.shaped
 clear h1 h2
 go_enter Tryd.func69, Tryd.ntmps69
 go_wp2_with fail
 have hx0 : Ext No W ((W.alloc (.cells #[.int .i64 r1.gen.width, .slice ag1 ng1 cg1, .int .i64 r1.kill.width, .slice ak1 nk1 ck1, .slice ac1 nc1 cc1] 30)).alloc (.cells #[.int .i64 r2.gen.width, .slice ag2 ng2 cg2, .int .i64 r2.kill.width, .slice ak2 nk2 ck2, .slice ac2 nc2 cc2] 30)) := ((Ext.refl _ _).alloc _).alloc _
 have hA : ((W.alloc (.cells #[.int .i64 r1.gen.width, .slice ag1 ng1 cg1, .int .i64 r1.kill.width, .slice ak1 nk1 ck1, .slice ac1 nc1 cc1] 30)).alloc (.cells #[.int .i64 r2.gen.width, .slice ag2 ng2 cg2, .int .i64 r2.kill.width, .slice ak2 nk2 ck2, .slice ac2 nc2 cc2] 30)).heap[W.heap.size]? = some (.cells #[.int .i64 r1.gen.width, .slice ag1 ng1 cg1, .int .i64 r1.kill.width, .slice ak1 nk1 ck1, .slice ac1 nc1 cc1] 30 (0, 0)) := alloc_under (alloc_top rfl)
 have hB : ((W.alloc (.cells #[.int .i64 r1.gen.width, .slice ag1 ng1 cg1, .int .i64 r1.kill.width, .slice ak1 nk1 ck1, .slice ac1 nc1 cc1] 30)).alloc (.cells #[.int .i64 r2.gen.width, .slice ag2 ng2 cg2, .int .i64 r2.kill.width, .slice ak2 nk2 ck2, .slice ac2 nc2 cc2] 30)).heap[W.heap.size + 1]? = some (.cells #[.int .i64 r2.gen.width, .slice ag2 ng2 cg2, .int .i64 r2.kill.width, .slice ak2 nk2 ck2, .slice ac2 nc2 cc2] 30 (0, 0)) := alloc_top (by simp)
 generalize ((W.alloc (.cells #[.int .i64 r1.gen.width, .slice ag1 ng1 cg1, .int .i64 r1.kill.width, .slice ak1 nk1 ck1, .slice ac1 nc1 cc1] 30)).alloc (.cells #[.int .i64 r2.gen.width, .slice ag2 ng2 cg2, .int .i64 r2.kill.width, .slice ak2 nk2 ck2, .slice ac2 nc2 cc2] 30)) = W2 at *
 refine (validT_any r1 _ _ _ _ (H1.out.extNo hx0)).mono ?_
 rintro e1 w1 ⟨rfl, hx1⟩
 have hx := Lib.hid (hx0.transNo hx1)
 have HA := Lib.hid (hx1.blk hA no_no)
 have HB := Lib.hid (hx1.blk hB no_no)
 clear hx0 hx1 hA hB
 cases hv1 : validT r1 with
 | false =>
  have e : matchZ r1 r2 = 1 := by unfold matchZ; rw [if_neg (by simp [hv1])]
  have E := Lib.hid e
  clear hv1 e
  go_wp2_with fail
  go_ret
  rw [E.out]
  exact ⟨rfl, hx.out⟩
 | true =>
  have cB := cellOf HB.out
  have HV1 := Lib.hid hv1
  clear hv1
  go_wp2_with fail
  refine (validT_any r2 _ _ _ _ (H2.out.extNo hx.out)).mono ?_
  rintro e2 w2 ⟨rfl, hx2⟩
  cases hv2 : validT r2 with
  | false =>
   have e : matchZ r1 r2 = 1 := by unfold matchZ; rw [if_pos HV1.out, if_neg (by simp [hv2])]
   have E := Lib.hid e
   clear hv2 e
   go_wp2_with fail
   go_ret
   rw [E.out]
   exact ⟨rfl, hx.out.transNo hx2⟩
  | true =>
   have HV2 := Lib.hid hv2
   have cA2 := cellOf (hx2.blk HA.out no_no)
   have cB2 := cellOf (hx2.blk HB.out no_no)
   clear hv2 cB
   by_cases hw : r1.gen.width = r2.gen.width
   ·have e : matchZ r1 r2 = 0 := by unfold matchZ; rw [if_pos HV1.out, if_pos HV2.out, if_pos hw]
    have hw' : (r1.gen.width != r2.gen.width) = false := by simpa using hw
    have E := Lib.hid e
    clear hw e
    go_wp2_with fail
    go_ret
    rw [E.out]
    exact ⟨rfl, hx.out.transNo hx2⟩
   have e : matchZ r1 r2 = 2 := by unfold matchZ; rw [if_pos HV1.out, if_pos HV2.out, if_neg hw]
   have hw' : (r1.gen.width != r2.gen.width) = true := by simpa using hw
   have E := Lib.hid e
   clear hw e
   go_wp2_with fail
   go_ret
   rw [E.out]
   exact ⟨rfl, hx.out.transNo hx2⟩
end Go.Proofs.YtmddchceacmopaaDoor

namespace Go.Proofs.YtmddchceacmopaaDoor
open Go Go.RowKit
def updTo (rs : List Nat) (f : Nat → Nat) (k : Nat) : List Nat := (List.range rs.length).map fun i => if i < k then f i else rowAt rs i
theorem updTo_len (rs : List Nat) (f : Nat → Nat) (k : Nat) : (updTo rs f k).length = rs.length := by simp [updTo]
theorem updTo_zero (rs : List Nat) (f : Nat → Nat) : updTo rs f 0 = rs := by
 refine List.ext_getElem (updTo_len rs f 0) (fun i h1 h2 => ?_)
 simp [updTo, rowAt, h2]
theorem updTo_get {rs : List Nat} {f : Nat → Nat} {k i : Nat} (h : i < (updTo rs f k).length) : (updTo rs f k)[i] = if i < k then f i else rowAt rs i := by simp [updTo]
theorem updTo_succ {rs : List Nat} {f : Nat → Nat} {k : Nat} (_ : k < rs.length) : updTo rs f (k + 1) = (updTo rs f k).set k (f k) := by
 refine List.ext_getElem (by simp [updTo]) (fun i h1 h2 => ?_)
 rw [updTo_get, List.getElem_set]
 by_cases e : k = i
 ·subst e; simp
 rw [if_neg e, updTo_get]
 by_cases h : i < k
 ·rw [if_pos h, if_pos (by omega)]
 rw [if_neg h, if_neg (by omega)]
theorem updTo_at (rs : List Nat) (f : Nat → Nat) (k : Nat) (h : k < rs.length) (h2 : k < (updTo rs f k).length) : (updTo rs f k)[k] = rs[k] := by
 rw [updTo_get, if_neg (Nat.lt_irrefl _), rowAt_get h]
def joinRows (r1 r2 : List Nat) : List Nat := updTo r1 (fun i => orN (rowAt r1 i) (rowAt r2 i)) r1.length
def compRows (w : Nat) (r1 r2 : List Nat) : List Nat := updTo r1 (fun i => imgN r2 w (rowAt r1 i)) r1.length
def starRows (w : Nat) (rs : List Nat) (n : Nat) : List Nat := (List.range n).map fun b => closN rs w (2 ^ b)
theorem starRows_len (w : Nat) (rs : List Nat) (n : Nat) : (starRows w rs n).length = n := by simp [starRows]
theorem starRows_snoc (w : Nat) (rs : List Nat) (n : Nat) : starRows w rs (n + 1) = starRows w rs n ++ [closN rs w (2 ^ n)] := by simp [starRows, List.range_succ]
theorem rows_lt {t : TrD} (ho : TrOk t) : ∀ m ∈ rowsN t t.w t.copies.length, m < 2 ^ t.w := fun m hm => by
 obtain ⟨a, ha, rfl⟩ := List.mem_map.1 hm
 exact rowN_lt ho (List.mem_range.1 ha) _
theorem apply_bit {t : TrD} (ho : TrOk t) {s b : Nat} (hs : s < 2 ^ t.w) : (applyT t s).testBit b = true ↔ t.gen.testBit b = true ∨ ∃ a, a < t.w ∧ s.testBit a = true ∧ (rowAt (rowsN t t.w t.copies.length) a).testBit b = true := by
 rw [apply_rows ho hs]
 unfold orN
 rw [Nat.testBit_or, Bool.or_eq_true, imgN_bit]
 rfl
theorem updTo_at2 {rs : List Nat} {f : Nat → Nat} {a : Nat} (h : a < rs.length) : rowAt (updTo rs f rs.length) a = f a := by
 rw [rowAt_get (by rw [updTo_len]; exact h), updTo_get, if_pos h]
def starT (f : TrD) : TrD := closeT f.w (closN (rowsN f f.w f.copies.length) f.w f.gen) (starRows f.w (rowsN f f.w f.copies.length) f.w)
def compT (t u : TrD) : TrD := closeT t.w (applyT u t.gen) (compRows t.w (rowsN t t.w t.copies.length) (rowsN u t.w u.copies.length))
def joinT (t u : TrD) : TrD := closeT t.w (orN t.gen u.gen) (joinRows (rowsN t t.w t.copies.length) (rowsN u t.w u.copies.length))
end Go.Proofs.YtmddchceacmopaaDoor

namespace Go.Proofs.YtmddchceacmopaaDoor
open Go Go.RowKit
theorem matching_eq (t u : TrD) (g1 k1 c1 g2 k2 c2 : Value) (W : World) (hu : u.w = t.w) (h1 : TrAt No W g1 k1 c1 t) (h2 : TrAt No W g2 k2 c2 u) :
  Calls Tryd.prog 69 #[.agg #[.int .i64 (t.w : Int), g1, .int .i64 (t.w : Int), k1, c1], .agg #[.int .i64 (t.w : Int), g2, .int .i64 (t.w : Int), k2, c2]] W (IntPost 0 W) := by
 have h := matching_any (rawT t) (rawT u) g1 k1 c1 g2 k2 c2 W h1.raw h2.raw
 have e : matchZ (rawT t) (rawT u) = 0 := by unfold matchZ; rw [if_pos (validT_ok h1.ok), if_pos (validT_ok h2.ok), if_pos (by show (t.w : Int) = (u.w : Int); rw [hu])]
 rw [e] at h
 have e1 : (rawT u).gen.width = (t.w : Int) := by show (u.w : Int) = (t.w : Int); rw [hu]
 have e2 : (rawT u).kill.width = (t.w : Int) := by show (u.w : Int) = (t.w : Int); rw [hu]
 rw [e1, e2] at h
 exact h
def BoxRows (D : Nat) (w g : Nat) (rs : List Nat) (sg so : Value) (M : Nat → Prop) (W : World) : Prop := W.heap[D]? = some (.cells #[.int .i64 (w : Int), sg, so] 113 (0, 0)) ∧ ¬ M D ∧ RowsO w g rs sg so M W
theorem keeps_box (D w g : Nat) (rs : List Nat) (sg so : Value) : Keeps (BoxRows D w g rs sg so) :=
 ⟨fun h hx hm => ⟨hx.blk h.1 (fun e => h.2.1 (hm _ (lt_of_block h.1) e)), h.2.1, h.2.2.ext hx hm⟩, fun h hm => ⟨h.1, fun e => h.2.1 (hm _ (lt_of_block h.1) e), h.2.2.mono hm⟩⟩
structure JoM (M : Nat → Prop) (W wr : World) (w g : Nat) (rs : List Nat) (D1 : Nat) (sg so : Value) (R2 : (Nat → Prop) → World → Prop) : Prop where
 ext : Ext No W wr
 boxC : wr.heap[W.heap.size + 2]? = some (.cells #[.int .i64 0, .slice none 0 0, .int .i64 0, .slice none 0 0, .slice none 0 0] 30 (0, 0))
 box1 : wr.heap[D1]? = some (.cells #[.int .i64 (w : Int), sg, so] 113 (0, 0))
 rows : RowsO w g rs sg so (fun b => M b ∨ b = W.heap.size + 2 ∨ b = D1) wr
 r2 : R2 (fun b => b = W.heap.size + 2 ∨ b = D1 ∨ so.ownBlock = some b) wr
 own : ∀ b, so.ownBlock = some b → W.heap.size ≤ b
 big : W.heap.size + 2 < D1
section
variable {M : Nat → Prop} {W wr w' : World} {w g g' : Nat} {rs : List Nat} {D1 : Nat} {sg sg' so : Value} {R2 : (Nat → Prop) → World → Prop}
theorem JoM.stepNo (h : JoM M W wr w g rs D1 sg so R2) (k : Keeps R2) (hx : Ext No wr w') : JoM M W w' w g rs D1 sg so R2 :=
 ⟨h.ext.transNo hx, hx.blk h.boxC no_no, hx.blk h.box1 no_no, h.rows.extNo hx, k.ext h.r2 hx (fun _ _ x => x.elim), h.own, h.big⟩
theorem JoM.hM (hM : ∀ b, M b → b < W.heap.size) (h : JoM M W wr w g rs D1 sg so R2) : ∀ b, ((M b ∨ b = W.heap.size + 2 ∨ b = D1) ∨ so.ownBlock = some b) → b < wr.heap.size := fun b hb => by
 have h1 := lt_of_block h.box1
 have h2 := h.big
 rcases hb with (hb | rfl | rfl) | hb
 ·have := hM b hb; have := h.ext.size; omega
 ·omega
 ·exact h1
 exact h.rows.ownLt b hb
theorem JoM.putG (h : JoM M W wr w g rs D1 sg so R2) (k : Keeps R2) (hs : SetAt (fun b => (M b ∨ b = W.heap.size + 2 ∨ b = D1) ∨ so.ownBlock = some b) wr sg' w g') :
  JoM M W ((wr.setCell ⟨D1, 0, none⟩ (.int .i64 (w : Int))).setCell ⟨D1, 1, none⟩ sg') w g' rs D1 sg' so R2 := by
 have hb := h.big
 have hE : Ext (At D1) wr ((wr.setCell ⟨D1, 0, none⟩ (.int .i64 (w : Int))).setCell ⟨D1, 1, none⟩ sg') := ((Ext.refl (At D1) wr).setAt _ _).setAt _ _
 have hr := h.rows.ext hE (fun i _ e => .inr (.inr e))
 exact ⟨h.ext.trans2 hE (fun i hi e => by unfold At at e; omega), hE.blk h.boxC (by unfold At; omega), (set_same (j := 1) (set_same (j := 0) h.box1)).trans rfl, ⟨hs.ext hE (fun i _ e => .inl (.inr (.inr e))), hr.ex, hr.out, hr.hm⟩, k.ext h.r2 hE (fun i _ e => .inr (.inl e)), h.own, hb⟩
theorem JoM.putR {gg c i m n : Nat} {sl : Value} (h : JoM M W wr w g rs D1 sg (.slice (some ⟨gg, 0, none⟩) n c) R2) (hn : n = rs.length) (k : Keeps R2) (hi : i < rs.length) (hp : SetAt (fun b => (M b ∨ b = W.heap.size + 2 ∨ b = D1) ∨ b = gg) wr sl w m) :
  JoM M W ((wr.setCell ⟨gg, i * 2, none⟩ (.int .i64 (w : Int))).setCell ⟨gg, i * 2 + 1, none⟩ sl) w g (rs.set i m) D1 sg (.slice (some ⟨gg, 0, none⟩) n c) R2 := by
 have hE : Ext (At gg) wr ((wr.setCell ⟨gg, i * 2, none⟩ (.int .i64 (w : Int))).setCell ⟨gg, i * 2 + 1, none⟩ sl) := ((Ext.refl (At gg) wr).setAt _ _).setAt _ _
 have ho := h.rows.out gg rfl
 have h1 := h.own gg rfl
 exact ⟨h.ext.trans2 hE (fun i hi e => by unfold At at e; omega), hE.blk h.boxC (fun e => ho (.inr (.inl e.symm))), hE.blk h.box1 (fun e => ho (.inr (.inr e.symm))), h.rows.put hn hi hp, k.ext h.r2 hE (fun i _ e => .inr (.inr (by rw [show i = gg from e]; rfl))), h.own, h.big⟩
theorem JoM.start {w1 V : World} {g2 D2 : Nat} {rs2 : List Nat} {sg2 so2 : Value} {cs : Array Value} (hM : ∀ b, M b → b < W.heap.size) (hx : Ext No W w1) (hC : w1.heap[W.heap.size + 2]? = some (.cells #[.int .i64 0, .slice none 0 0, .int .i64 0, .slice none 0 0, .slice none 0 0] 30 (0, 0)))
  (hJ : TwoB 113 (RowsO w g rs sg so) (RowsO w g2 rs2 sg2 so2) (fun b => so.ownBlock = some b) w1 V (some (D1, #[.int .i64 (w : Int), sg, so])) (some (D2, cs)) true true) (hcs : cs = #[.int .i64 (w : Int), sg2, so2]) :
  JoM M W V w g rs D1 sg so (BoxRows D2 w g2 rs2 sg2 so2) := by
 subst hcs
 obtain ⟨a1, a2⟩ := hJ.boxA _ _ rfl
 obtain ⟨b1, b2⟩ := hJ.boxB _ _ rfl
 have hr1 := hJ.r1 rfl
 have hr2 := hJ.r2 rfl
 have hne := hJ.ne _ _ _ _ rfl rfl
 have hc := lt_of_block hC
 have hs := hx.size
 have hout : ∀ b, so.ownBlock = some b → ¬ Out w1 V (some (D1, #[.int .i64 (w : Int), sg, so])) (some (D2, #[.int .i64 (w : Int), sg2, so2])) b := hr1.out
 refine ⟨hx.transNo hJ.ext, hJ.ext.blk hC no_no, a2, hr1.mono (fun i hi e => ?_), ⟨b2, fun e => ?_, hr2.mono (fun i hi e => ?_)⟩, fun b hb => ?_, by omega⟩
 ·rcases e with e | rfl | rfl
  ·have := hM i e; exact .inl (by omega)
  ·exact .inl hc
  exact .inr (.inl ⟨_, rfl⟩)
 ·rcases e with e | e | e
  ·omega
  ·exact hne e.symm
  exact hout D2 e (.inr (.inr (.inl ⟨_, rfl⟩)))
 ·rcases e with rfl | rfl | e
  ·exact .inl (.inl hc)
  ·exact .inl (.inr (.inl ⟨_, rfl⟩))
  exact .inr e
 have h1 := hout b hb
 unfold Out at h1
 have : ¬ b < w1.heap.size := fun h => h1 (.inl h)
 omega
end

/- flqlaw3.sane. -/
import Derived.Test.YtgakojgkkdmabaaDoorTrC
import Derived.Test.YtgakojgkkdmabaaDoorHeld
set_option linter.unusedVariables false
set_option linter.unusedSimpArgs false
namespace Go.Proofs.YtgakojgkkdmabaaDoor
open Go Go.RowKit
theorem box2 {V w' : World} {D D2 : Nat} {v v2 : Value} (h1 : V.heap[D]? = some (.cells #[.int .i64 2, v] 25 (0, 0))) (h2 : V.heap[D2]? = some (.cells #[.int .i64 2, v2] 25 (0, 0))) (hx : Ext No V w') :
  w'.cell? ⟨D, 0, none⟩ = some (.int .i64 2) ∧ w'.cell? ⟨D, 1, none⟩ = some v ∧ w'.cell? ⟨D2, 0, none⟩ = some (.int .i64 2) ∧ w'.cell? ⟨D2, 1, none⟩ = some v2 ∧ Ext No V w' := by
 have c := cellOf (hx.blk h1 no_no)
 have d := cellOf (hx.blk h2 no_no)
 exact ⟨c 0, c 1, d 0, d 1, hx⟩
theorem sanB_cells {W4 w' : World} {q g1 g3 : Nat} (hb : W4.heap[q + 1]? = some (.cells #[.int .i64 2, .slice (some ⟨g1, 0, none⟩) (nw 2) (nw 2), .int .i64 2, .slice (some ⟨g3, 0, none⟩) (nw 2) (nw 2), .slice (some ⟨q, 0, none⟩) 1 1] 28 (0, 0))) (hx : Ext No W4 w') :
  w'.cell? ⟨q + 1, 0, none⟩ = some (.int .i64 2) ∧ w'.cell? ⟨q + 1, 1, none⟩ = some (.slice (some ⟨g1, 0, none⟩) (nw 2) (nw 2)) ∧ w'.cell? ⟨q + 1, 2, none⟩ = some (.int .i64 2) ∧ w'.cell? ⟨q + 1, 3, none⟩ = some (.slice (some ⟨g3, 0, none⟩) (nw 2) (nw 2)) ∧ w'.cell? ⟨q + 1, 4, none⟩ = some (.slice (some ⟨q, 0, none⟩) 1 1) ∧ Ext No W4 w' := by
 have c := cellOf (hx.blk hb no_no)
 exact ⟨c 0, c 1, c 2, c 3, c 4, hx⟩
def saneT : TrD := ⟨2, 0, 2, [(0, 1)]⟩
theorem saneT_ok : TrOk saneT := ⟨by decide, by decide, by decide, by decide, fun i h => by
 have : i = 0 := by simp [saneT] at h; omega
 subst this; exact ⟨rfl, rfl⟩, fun i h => by simp [saneT] at h⟩
theorem BlkW.setNo {w m g : Nat} {w' : World} (h : BlkW w' g w m) (hw : w ≤ 256) (hm : m < 2 ^ w) : SetAt No w' (.slice (some ⟨g, 0, none⟩) (nw w) (nw w)) w m := h.set hw hm no_no
/-- the same with the width written out -/
def ROwn2 (m : Nat) (W : World) (e : Ending) (w' : World) : Prop :=
 ∃ g, e = .returned (.agg #[.int .i64 2, .slice (some ⟨g, 0, none⟩) (nw 2) (nw 2)]) ∧ Hid (BlkW w' g 2 m) ∧ W.heap.size ≤ g ∧ Ext No W w'
theorem rempty2 (W : World) : Calls Tryd.prog 29 #[.int .i64 2] W (ROwn2 0 W) := rempty_any 2 W (by decide)
theorem rput20 (sl : Value) (W : World) (h : SetAt No W sl 2 0) : Calls Tryd.prog 36 #[.agg #[.int .i64 2, sl], .int .i64 0] W (ROwn2 1 W) := rput_any 2 0 0 sl W (by decide) h
theorem rput21 (sl : Value) (W : World) (h : SetAt No W sl 2 0) : Calls Tryd.prog 36 #[.agg #[.int .i64 2, sl], .int .i64 1] W (ROwn2 2 W) := rput_any 2 0 1 sl W (by decide) h
def SetE2 (m : Nat) (W : World) (e : Ending) (w' : World) : Prop :=
 ∃ a c, e = .returned (.tuple #[.agg #[.int .i64 2, .slice a (nw 2) c], .int .i64 0]) ∧ Hid (SetAt (Lo W.heap.size) w' (.slice a (nw 2) c) 2 m) ∧ Ext No W w'
theorem two_facts {w w' : World} {n : Nat} {o : Obj} (hy : Ext No w w') (h : w.heap[n]? = some o) : w'.heap[n]? = some o ∧ n < w.heap.size := ⟨hy.blk h no_no, lt_of_block h⟩
theorem SetAt.early {L m D : Nat} {w7 : World} {sl u0 u1 : Value} (h : SetAt (Lo L) w7 sl 2 m) (hlt : D < L) : SetAt No ((w7.setCell ⟨D, 0, none⟩ u0).setCell ⟨D, 1, none⟩ u1) sl 2 m :=
 (h.ext (ext_two (W := w7) (w1 := w7) (Ext.refl _ _) D) (fun i _ e => by cases e; exact hlt)).no
theorem apply2 (s m : Nat) (sg sk sc ss : Value) (W : World) (hm : applyT saneT s = m) (h : TrAt No W sg sk sc saneT) (hs : SetAt No W ss 2 s) :
  Calls Tryd.prog 41 #[.agg #[.int .i64 2, sg, .int .i64 2, sk, sc], .agg #[.int .i64 2, ss]] W (SetE2 m W) := by
 subst hm
 exact Apply_any (Lo W.heap.size) saneT s sg sk sc ss W (fun _ x => x) h hs
theorem rfull2 (W : World) : Calls Tryd.prog 48 #[.int .i64 2] W (ROwn2 3 W) := rfull_any 2 W (by decide)
theorem rsame2 (m : Nat) (u v : Value) (W : World) (hs : SetAt No W u 2 m) (ht : SetAt No W v 2 m) : Calls Tryd.prog 32 #[.agg #[.int .i64 2, u], .agg #[.int .i64 2, v]] W (BoolPost true W) := by
 have h := rsame_any _ _ _ _ W hs.raw ht.raw
 rw [show sameB (setN 2 m) (setN 2 m) = true from decide_eq_true ⟨rfl, rfl⟩] at h
 exact h
set_option maxRecDepth 100000 in
set_option maxHeartbeats 1000000 in
theorem sane_any (W : World) : Calls Tryd.prog 21 #[] W (BoolPost true W) := by
 go_enter Tryd.func21, Tryd.ntmps21
 go_wp2_with fail
 refine (rempty_any 2 _ (by decide)).mono ?_
 rintro e1 w1 ⟨g1, rfl, hb1, _, hx1⟩
 go_wp2_with fail
 refine (rempty_any 2 _ (by decide)).mono ?_
 rintro e2 w2 ⟨g2, rfl, hb2, _, hx2⟩
 go_wp2_with fail
 refine (rput_any 2 0 1 _ _ (by decide) (BlkW.setNo hb2.out (by decide) (by decide))).mono ?_
 rintro e3 w3 ⟨g3, rfl, hb3, _, hx3⟩
 have hxa := Lib.hid ((hx1.transNo hx2).transNo hx3)
 have hB1 := Lib.hid ((hx2.transNo hx3).blk hb1.out no_no)
 clear hx1 hx2 hx3 hb1 hb2
 go_wp2_with fail
 have hx4 : Ext No w3 ((w3.alloc (.cells #[.int .i64 0, .int .i64 1] 50)).alloc (.cells #[.int .i64 2, .slice (some ⟨g1, 0, none⟩) (nw 2) (nw 2), .int .i64 2, .slice (some ⟨g3, 0, none⟩) (nw 2) (nw 2), .slice (some ⟨w3.heap.size, 0, none⟩) 1 1] 28)) := ((Ext.refl _ _).alloc _).alloc _
 have hk : ((w3.alloc (.cells #[.int .i64 0, .int .i64 1] 50)).alloc (.cells #[.int .i64 2, .slice (some ⟨g1, 0, none⟩) (nw 2) (nw 2), .int .i64 2, .slice (some ⟨g3, 0, none⟩) (nw 2) (nw 2), .slice (some ⟨w3.heap.size, 0, none⟩) 1 1] 28)).heap[w3.heap.size]? = some (.cells #[.int .i64 0, .int .i64 1] 50 (0, 0)) := alloc_under (alloc_top rfl)
 have hb : ((w3.alloc (.cells #[.int .i64 0, .int .i64 1] 50)).alloc (.cells #[.int .i64 2, .slice (some ⟨g1, 0, none⟩) (nw 2) (nw 2), .int .i64 2, .slice (some ⟨g3, 0, none⟩) (nw 2) (nw 2), .slice (some ⟨w3.heap.size, 0, none⟩) 1 1] 28)).heap[w3.heap.size + 1]? = some (.cells #[.int .i64 2, .slice (some ⟨g1, 0, none⟩) (nw 2) (nw 2), .int .i64 2, .slice (some ⟨g3, 0, none⟩) (nw 2) (nw 2), .slice (some ⟨w3.heap.size, 0, none⟩) 1 1] 28 (0, 0)) := alloc_top (by simp)
 have hT : Hid (TrAt No _ (.slice (some ⟨g1, 0, none⟩) (nw 2) (nw 2)) (.slice (some ⟨g3, 0, none⟩) (nw 2) (nw 2)) (.slice (some ⟨w3.heap.size, 0, none⟩) 1 1) saneT) := Lib.hid ⟨(show BlkW _ g1 2 0 from hx4.blk hB1.out no_no).setNo (by decide) (by decide), (show BlkW _ g3 2 2 from hx4.blk hb3.out no_no).setNo (by decide) (by decide), Row.block hk rfl no_no (by decide), saneT_ok⟩
 have hxW := Lib.hid (hxa.out.transNo hx4)
 clear hxa hB1 hb3 hx4 hk
 generalize ((w3.alloc (.cells #[.int .i64 0, .int .i64 1] 50)).alloc (.cells #[.int .i64 2, .slice (some ⟨g1, 0, none⟩) (nw 2) (nw 2), .int .i64 2, .slice (some ⟨g3, 0, none⟩) (nw 2) (nw 2), .slice (some ⟨w3.heap.size, 0, none⟩) 1 1] 28)) = W4 at *
 generalize w3.heap.size = q at *
 have HB := Lib.hid hb
 go_cut [2, 3] (fun s2 s3 wx => ∃ D a c, s2 = .pointer (some ⟨D, 0, none⟩) ∧ s3 = .int .i64 0 ∧ Hid (wx.heap[D]? = some (.cells #[.int .i64 2, .slice a (nw 2) c] 25 (0, 0))) ∧ Hid (SetAt No wx (.slice a (nw 2) c) 2 3) ∧ Hid (Ext No W4 wx))
 case first =>
  obtain ⟨l0, l1, l2, l3, l4, l5⟩ := sanB_cells HB.out (Ext.refl No W4)
  clear hb
  go_region_held3 (fun w' => w'.cell? ⟨q + 1, 0, none⟩ = some (.int .i64 2) ∧ w'.cell? ⟨q + 1, 1, none⟩ = some (.slice (some ⟨g1, 0, none⟩) (nw 2) (nw 2)) ∧ w'.cell? ⟨q + 1, 2, none⟩ = some (.int .i64 2) ∧ w'.cell? ⟨q + 1, 3, none⟩ = some (.slice (some ⟨g3, 0, none⟩) (nw 2) (nw 2)) ∧ w'.cell? ⟨q + 1, 4, none⟩ = some (.slice (some ⟨q, 0, none⟩) 1 1) ∧ Ext No W4 w')
   ((go_split_ands; (with_reducible refine sanB_cells HB.out ?_); (first | ((with_reducible refine ext2 hx7 ?_); (first | exact Nat.le_refl _ | exact hx6.size | exact hx5.size)) | ((repeat (first | (with_reducible exact Ext.refl _ _) | (with_reducible assumption) | (with_reducible refine Ext.drewN ?_ _) | (with_reducible refine Ext.drew ?_) | (with_reducible refine Ext.alloc ?_ _) | ((with_reducible refine Ext.own ?_ ?_ _); rotate_left; (first | exact Nat.le_refl _ | exact Nat.le_succ _ | omega | (simp; done) | (simp; omega)))))))))
   (first
    | ((go_at_call 29); (try go_split_ands); (with_reducible refine (rempty2 _).mono ?_); (rintro e5 w5 ⟨g5, rfl, hb5, _, hyA⟩); (have hx5 := Ext.transNo (show Ext No W4 _ from by with_reducible assumption) hyA))
    | ((go_at_call 36); (try go_split_ands); (with_reducible refine (rput20 _ _ ((BlkW.setNo hb5.out (by decide) (by decide)).extNo ?_)).mono ?_); ((repeat (first | (with_reducible exact Ext.refl _ _) | (with_reducible assumption) | (with_reducible refine Ext.drewN ?_ _) | (with_reducible refine Ext.drew ?_) | (with_reducible refine Ext.alloc ?_ _)))); (rintro e6 w6 ⟨g6, rfl, hb6, _, hyB⟩); (have hx6 := Ext.transNo (show Ext No W4 _ from by with_reducible assumption) hyB))
    | ((go_at_call 41); (try go_split_ands); (with_reducible refine (apply2 1 3 _ _ _ _ _ (by decide) (hT.out.extNo ?_) ((BlkW.setNo hb6.out (by decide) (by decide)).extNo ?_)).mono ?_); (with_reducible assumption); ((repeat (first | (with_reducible exact Ext.refl _ _) | (with_reducible assumption) | (with_reducible refine Ext.drewN ?_ _) | (with_reducible refine Ext.drew ?_) | (with_reducible refine Ext.alloc ?_ _)))); (rintro e7 w7 ⟨a7, c7, rfl, hs7, hyC⟩); (have hx7 := Ext.transNo (show Ext No W4 _ from by with_reducible assumption) hyC); (first | (with_reducible have hi := two_facts hyC (alloc_top (o := (.cells #[.int .i64 0, .slice none 0 0] 25)) rfl)) | (with_reducible have hi := two_facts hyC (hyB.blk (alloc_top (o := (.cells #[.int .i64 0, .slice none 0 0] 25)) rfl) no_no)) | (with_reducible have hi := two_facts hyC (hyB.blk (hyA.blk (alloc_top (o := (.cells #[.int .i64 0, .slice none 0 0] 25)) rfl) no_no) no_no)) | skip); (try ((obtain ⟨hi, hlt⟩ := hi); (have HI := Lib.hid hi); (have HL := Lib.hid hlt); (have cI := cellOf hi); (have fI := freeOf hi); (clear hi hlt)))))
  all_goals
   go_wp2_with fail
   go_meet
   first
   | exact ⟨_, a7, c7, rfl, rfl, Lib.hid (alloc_top rfl), Lib.hid (hs7.out.no.extNo ((Ext.refl _ _).alloc _)), Lib.hid (hx7.alloc _)⟩
   | exact ⟨_, a7, c7, rfl, rfl, Lib.hid ((set_same (j := 1) (set_same (j := 0) HI.out)).trans rfl), Lib.hid (hs7.out.early HL.out), Lib.hid (ext2 hx7 (by first | exact Nat.le_refl _ | exact hx6.size | exact hx5.size))⟩
 case rest =>
  obtain ⟨D, a, c, rfl, rfl, hD, hs, hx⟩ := hcut
  clear hb
  rename World => V4
  have HB2 := Lib.hid (hx.out.blk HB.out no_no)
  have hT2 := Lib.hid (hT.out.extNo hx.out)
  have hxV := Lib.hid (hxW.out.transNo hx.out)
  clear HB hT hx hxW
  go_wp2_with fail
  go_cut [4, 5] (fun s2 s3 wx => ∃ D a c, s2 = .pointer (some ⟨D, 0, none⟩) ∧ s3 = .int .i64 0 ∧ Hid (wx.heap[D]? = some (.cells #[.int .i64 2, .slice a (nw 2) c] 25 (0, 0))) ∧ Hid (SetAt No wx (.slice a (nw 2) c) 2 0) ∧ Hid (Ext No V4 wx))
  case first =>
   obtain ⟨l0, l1, l2, l3, l4, l5⟩ := sanB_cells HB2.out (Ext.refl No V4)
   go_region_held3 (fun w' => w'.cell? ⟨q + 1, 0, none⟩ = some (.int .i64 2) ∧ w'.cell? ⟨q + 1, 1, none⟩ = some (.slice (some ⟨g1, 0, none⟩) (nw 2) (nw 2)) ∧ w'.cell? ⟨q + 1, 2, none⟩ = some (.int .i64 2) ∧ w'.cell? ⟨q + 1, 3, none⟩ = some (.slice (some ⟨g3, 0, none⟩) (nw 2) (nw 2)) ∧ w'.cell? ⟨q + 1, 4, none⟩ = some (.slice (some ⟨q, 0, none⟩) 1 1) ∧ Ext No V4 w')
    ((go_split_ands; (with_reducible refine sanB_cells HB2.out ?_); (first | ((with_reducible refine ext2 hx7 ?_); (first | exact Nat.le_refl _ | exact hx6.size | exact hx5.size)) | ((repeat (first | (with_reducible exact Ext.refl _ _) | (with_reducible assumption) | (with_reducible refine Ext.drewN ?_ _) | (with_reducible refine Ext.drew ?_) | (with_reducible refine Ext.alloc ?_ _) | ((with_reducible refine Ext.own ?_ ?_ _); rotate_left; (first | exact Nat.le_refl _ | exact Nat.le_succ _ | omega | (simp; done) | (simp; omega)))))))))
    (first
     | ((go_at_call 29); (try go_split_ands); (with_reducible refine (rempty2 _).mono ?_); (rintro e5 w5 ⟨g5, rfl, hb5, _, hyA⟩); (have hx5 := Ext.transNo (show Ext No V4 _ from by with_reducible assumption) hyA))
     | ((go_at_call 36); (try go_split_ands); (with_reducible refine (rput21 _ _ ((BlkW.setNo hb5.out (by decide) (by decide)).extNo ?_)).mono ?_); ((repeat (first | (with_reducible exact Ext.refl _ _) | (with_reducible assumption) | (with_reducible refine Ext.drewN ?_ _) | (with_reducible refine Ext.drew ?_) | (with_reducible refine Ext.alloc ?_ _)))); (rintro e6 w6 ⟨g6, rfl, hb6, _, hyB⟩); (have hx6 := Ext.transNo (show Ext No V4 _ from by with_reducible assumption) hyB))
     | ((go_at_call 41); (try go_split_ands); (with_reducible refine (apply2 2 0 _ _ _ _ _ (by decide) (hT2.out.extNo ?_) ((BlkW.setNo hb6.out (by decide) (by decide)).extNo ?_)).mono ?_); (with_reducible assumption); ((repeat (first | (with_reducible exact Ext.refl _ _) | (with_reducible assumption) | (with_reducible refine Ext.drewN ?_ _) | (with_reducible refine Ext.drew ?_) | (with_reducible refine Ext.alloc ?_ _)))); (rintro e7 w7 ⟨a7, c7, rfl, hs7, hyC⟩); (have hx7 := Ext.transNo (show Ext No V4 _ from by with_reducible assumption) hyC); (first | (with_reducible have hi := two_facts hyC (alloc_top (o := (.cells #[.int .i64 0, .slice none 0 0] 25)) rfl)) | (with_reducible have hi := two_facts hyC (hyB.blk (alloc_top (o := (.cells #[.int .i64 0, .slice none 0 0] 25)) rfl) no_no)) | (with_reducible have hi := two_facts hyC (hyB.blk (hyA.blk (alloc_top (o := (.cells #[.int .i64 0, .slice none 0 0] 25)) rfl) no_no) no_no)) | skip); (try ((obtain ⟨hi, hlt⟩ := hi); (have HI := Lib.hid hi); (have HL := Lib.hid hlt); (have cI := cellOf hi); (have fI := freeOf hi); (clear hi hlt)))))
   all_goals
    go_wp2_with fail
    go_meet
    first
    | exact ⟨_, a7, c7, rfl, rfl, Lib.hid (alloc_top rfl), Lib.hid (hs7.out.no.extNo ((Ext.refl _ _).alloc _)), Lib.hid (hx7.alloc _)⟩
    | exact ⟨_, a7, c7, rfl, rfl, Lib.hid ((set_same (j := 1) (set_same (j := 0) HI.out)).trans rfl), Lib.hid (hs7.out.early HL.out), Lib.hid (ext2 hx7 (by first | exact Nat.le_refl _ | exact hx6.size | exact hx5.size))⟩
  case rest =>
   obtain ⟨D2, a2, c2, rfl, rfl, hD2, hs2, hx2⟩ := hcut
   rename World => V5
   have hD1 := Lib.hid (hx2.out.blk hD.out no_no)
   have hs1 := Lib.hid (hs.out.extNo hx2.out)
   have hxF := Lib.hid (hxV.out.transNo hx2.out)
   clear hD hs hx2 hxV hT2 HB2
   go_wp2_with fail
   obtain ⟨l0, l1, l2, l3, l4⟩ := box2 hD1.out hD2.out (Ext.refl No V5)
   go_region_held3 (fun w' => w'.cell? ⟨D, 0, none⟩ = some (.int .i64 2) ∧ w'.cell? ⟨D, 1, none⟩ = some (.slice a (nw 2) c) ∧ w'.cell? ⟨D2, 0, none⟩ = some (.int .i64 2) ∧ w'.cell? ⟨D2, 1, none⟩ = some (.slice a2 (nw 2) c2) ∧ Ext No V5 w')
    ((go_split_ands; (with_reducible refine box2 hD1.out hD2.out ?_); (repeat (first | (with_reducible exact Ext.refl _ _) | (with_reducible assumption) | (with_reducible refine Ext.drewN ?_ _) | (with_reducible refine Ext.drew ?_) | (with_reducible refine Ext.alloc ?_ _)))))
    (first
     | ((go_at_call 29); (try go_split_ands); (with_reducible refine (rempty2 _).mono ?_); (rintro e5 w5 ⟨g5, rfl, hb5, _, hyA⟩); (have hx5 := Ext.transNo (show Ext No V5 _ from by with_reducible assumption) hyA))
     | ((go_at_call 48); (try go_split_ands); (with_reducible refine (rfull2 _).mono ?_); (rintro e6 w6 ⟨g6, rfl, hb6, _, hyB⟩); (have hx6 := Ext.transNo (show Ext No V5 _ from by with_reducible assumption) hyB))
     | ((go_at_call 32); (try go_split_ands); (first | ((with_reducible refine (rsame2 3 _ _ _ (hs1.out.extNo ?_) ((BlkW.setNo hb6.out (by decide) (by decide)).extNo ?_)).mono ?_); (with_reducible assumption); ((repeat (first | (with_reducible exact Ext.refl _ _) | (with_reducible assumption) | (with_reducible refine Ext.drewN ?_ _) | (with_reducible refine Ext.drew ?_) | (with_reducible refine Ext.alloc ?_ _))))) | ((with_reducible refine (rsame2 0 _ _ _ (hs2.out.extNo ?_) ((BlkW.setNo hb5.out (by decide) (by decide)).extNo ?_)).mono ?_); (with_reducible assumption); ((repeat (first | (with_reducible exact Ext.refl _ _) | (with_reducible assumption) | (with_reducible refine Ext.drewN ?_ _) | (with_reducible refine Ext.drew ?_) | (with_reducible refine Ext.alloc ?_ _)))))); (rintro e7 w7 ⟨rfl, hyC⟩); (have hx7 := Ext.transNo (show Ext No V5 _ from by with_reducible assumption) hyC)))
   all_goals
    go_wp2_with fail
    go_ret
    exact ⟨rfl, hxF.out.transNo (by (repeat (first | (with_reducible exact Ext.refl _ _) | (with_reducible assumption) | (with_reducible refine Ext.drewN ?_ _) | (with_reducible refine Ext.drew ?_) | (with_reducible refine Ext.alloc ?_ _))))⟩
end Go.Proofs.YtgakojgkkdmabaaDoor


import Derived.Test.YtmddchceacmopaaDoorTr25
import Derived.Deep.LoopGhost
set_option linter.unusedVariables false
set_option linter.unusedSimpArgs false
namespace Go.Proofs.YtmddchceacmopaaDoor
open Go Go.RowKit
def stepN (rs : List Nat) (w s : Nat) : Nat := orN s (imgN rs w s)
def closF (rs : List Nat) (w : Nat) : Nat → Nat → Nat
 | 0, s => s
 | k + 1, s => if stepN rs w s = s then s else closF rs w k (stepN rs w s)
def closN (rs : List Nat) (w s : Nat) : Nat := closF rs w (2 ^ w) s
theorem stepN_lt {rs : List Nat} {w s : Nat} (h : ∀ m ∈ rs, m < 2 ^ w) (hs : s < 2 ^ w) : stepN rs w s < 2 ^ w := orN_lt' hs (imgL_lt h _)
theorem stepN_ge (rs : List Nat) (w s : Nat) : s ≤ stepN rs w s := Nat.left_le_or
theorem closF_more {rs : List Nat} {w : Nat} (h : ∀ m ∈ rs, m < 2 ^ w) : ∀ (k s : Nat), s < 2 ^ w → 2 ^ w - s ≤ k → closF rs w (k + 1) s = closF rs w k s := by
 intro k
 induction k with
 | zero => intro s hs hk; omega
 | succ k ih =>
  intro s hs hk
  rw [closF]
  conv => rhs; rw [closF]
  by_cases e : stepN rs w s = s
  ·rw [if_pos e, if_pos e]
  rw [if_neg e, if_neg e]
  have h1 := stepN_ge rs w s
  have h2 := stepN_lt h hs
  exact ih _ h2 (by omega)
theorem closF_le {rs : List Nat} {w : Nat} (h : ∀ m ∈ rs, m < 2 ^ w) (s : Nat) (hs : s < 2 ^ w) : ∀ d, closF rs w (2 ^ w - s + d) s = closF rs w (2 ^ w - s) s := by
 intro d
 induction d with
 | zero => rfl
 | succ d ih => rw [← Nat.add_assoc, closF_more h _ _ hs (by omega), ih]
theorem closN_eq {rs : List Nat} {w s k : Nat} (h : ∀ m ∈ rs, m < 2 ^ w) (hs : s < 2 ^ w) (hk : 2 ^ w - s ≤ k) : closF rs w k s = closN rs w s := by
 have h1 := closF_le h s hs (k - (2 ^ w - s))
 have h2 := closF_le h s hs (2 ^ w - (2 ^ w - s))
 rw [show 2 ^ w - s + (k - (2 ^ w - s)) = k by omega] at h1
 rw [show 2 ^ w - s + (2 ^ w - (2 ^ w - s)) = 2 ^ w by omega] at h2
 unfold closN
 rw [h1, h2]
theorem closN_step {rs : List Nat} {w s : Nat} (h : ∀ m ∈ rs, m < 2 ^ w) (hs : s < 2 ^ w) : closN rs w (stepN rs w s) = closN rs w s := by
 have h2 := stepN_lt h hs
 have h1 := stepN_ge rs w s
 rw [← closN_eq h hs (k := 2 ^ w - s + 1) (by omega)]
 rw [closF]
 split
 ·rename_i e; rw [e, ← closN_eq h hs (k := 2 ^ w - s) (Nat.le_refl _)]
  have : ∃ k, 2 ^ w - s = k + 1 := ⟨2 ^ w - s - 1, by omega⟩
  obtain ⟨k, hk⟩ := this
  rw [hk, closF, if_pos e]
 exact (closN_eq h h2 (by omega)).symm
theorem closN_fix {rs : List Nat} {w s : Nat} (h : ∀ m ∈ rs, m < 2 ^ w) (hs : s < 2 ^ w) (e : stepN rs w s = s) : closN rs w s = s := by
 rw [← closN_eq h hs (k := 2 ^ w - s + 1) (by omega), closF, if_pos e]
structure Clos (rs : List Nat) (w s r : Nat) : Prop where
 lt : r < 2 ^ w
 fix : stepN rs w r = r
 ge : s ||| r = r
 least : ∀ r', stepN rs w r' = r' → s ||| r' = r' → r ||| r' = r'
theorem sub_bits {a b : Nat} : a ||| b = b ↔ ∀ i, a.testBit i = true → b.testBit i = true := by
 constructor
 ·intro h i hi
  rw [← h, Nat.testBit_or, hi]; rfl
 intro h
 refine Nat.eq_of_testBit_eq fun i => ?_
 rw [Nat.testBit_or]
 cases e : a.testBit i
 ·rfl
 rw [h i e]; rfl
theorem imgN_mono (rs : List Nat) (w : Nat) {a b : Nat} (h : a ||| b = b) : imgN rs w a ||| imgN rs w b = imgN rs w b := by
 rw [sub_bits] at h ⊢
 intro i hi
 obtain ⟨x, h1, h2, h3⟩ := (imgN_bit rs w a i).1 hi
 exact (imgN_bit rs w b i).2 ⟨x, h1, h x h2, h3⟩
theorem clos_ex {rs : List Nat} {w : Nat} (h : ∀ m ∈ rs, m < 2 ^ w) : ∀ (n s : Nat), s < 2 ^ w → 2 ^ w - s ≤ n → Clos rs w s (closN rs w s) := by
 intro n
 induction n with
 | zero => intro s hs hk; omega
 | succ n ih =>
  intro s hs hk
  by_cases e : stepN rs w s = s
  ·rw [closN_fix h hs e]
   exact ⟨hs, e, Nat.or_self s, fun r' _ h2 => h2⟩
  have h1 := stepN_ge rs w s
  have h2 := stepN_lt h hs
  have i := ih _ h2 (by omega)
  rw [closN_step h hs] at i
  refine ⟨i.lt, i.fix, ?_, fun r' h3 h4 => i.least r' h3 ?_⟩
  ·rw [sub_bits]
   intro j hj
   exact (sub_bits.1 i.ge) j (by unfold stepN orN; rw [Nat.testBit_or, hj]; rfl)
  rw [← h3]
  rw [sub_bits]
  intro j hj
  unfold stepN orN at hj ⊢
  rw [Nat.testBit_or] at hj ⊢
  rcases Bool.or_eq_true _ _ ▸ hj with hj | hj
  ·rw [(sub_bits.1 h4) j hj]; rfl
  rw [(sub_bits.1 (imgN_mono rs w h4)) j hj, Bool.or_true]
theorem clos_any {rs : List Nat} {w s : Nat} (h : ∀ m ∈ rs, m < 2 ^ w) (hs : s < 2 ^ w) : Clos rs w s (closN rs w s) := clos_ex h _ s hs (Nat.le_refl _)
theorem union_lo (w m k : Nat) (s1 s2 : Value) (W : World) (h1 : SetAt No W s1 w m) (h2 : SetAt No W s2 w k) :
  Calls Tryd.prog 34 #[.agg #[.int .i64 (w : Int), s1], .agg #[.int .i64 (w : Int), s2]] W (SetEPost (Lo W.heap.size) w (orN m k) W) := union_any (Lo W.heap.size) w m k s1 s2 W (fun _ x => x) h1 h2
theorem image_lo (w s : Nat) (rs : List Nat) (sg so ss : Value) (W : World) (hT : TabW W) (hg : shaped sg) (hr : SetsV No W so w rs) (hl : rs.length = w) (hs : SetAt No W ss w s) :
  Calls Tryd.prog 71 #[.agg #[.int .i64 (w : Int), sg, so], .agg #[.int .i64 (w : Int), ss]] W (SetPost (Lo W.heap.size) w (imgN rs w s) W) := image_any (Lo W.heap.size) w s rs sg so ss W (fun _ x => x) hT hg hr hl hs
theorem SetAt.early2 {L w m D : Nat} {w7 : World} {sl u0 u1 : Value} (h : SetAt (Lo L) w7 sl w m) (hlt : D < L) : SetAt (Lo L) ((w7.setCell ⟨D, 0, none⟩ u0).setCell ⟨D, 1, none⟩ u1) sl w m :=
 h.ext (((Ext.refl (At D) _).setAt 0 u0).setAt 1 u1) (fun i _ e => by cases e; exact hlt)
theorem SetAt.lo {L n w m : Nat} {M : Nat → Prop} {w7 : World} {sl : Value} (h : SetAt (Lo L) w7 sl w m) (hL : n ≤ L) (hM : ∀ i, M i → i < n) : SetAt M w7 sl w m := h.mono (fun i _ e => Nat.lt_of_lt_of_le (hM i e) hL)
theorem two_facts2 {w w' : World} {n : Nat} {o : Obj} (hy : Ext No w w') (h : w.heap[n]? = some o) : w'.heap[n]? = some o ∧ n < w.heap.size := ⟨hy.blk h no_no, lt_of_block h⟩
structure ClM (M : Nat → Prop) (W wr : World) (w m : Nat) (sg so s1 : Value) : Prop where
 ext : Ext No W wr
 boxA : wr.heap[W.heap.size]? = some (.cells #[.int .i64 (w : Int), sg, so] 113 (0, 0))
 boxB : wr.heap[W.heap.size + 1]? = some (.cells #[.int .i64 (w : Int), s1] 24 (0, 0))
 boxC : wr.heap[W.heap.size + 2]? = some (.cells #[.int .i64 0, .slice none 0 0] 24 (0, 0))
 set : SetAt (fun b => M b ∨ b = W.heap.size + 1 ∨ b = W.heap.size + 2) wr s1 w m
section
variable {M : Nat → Prop} {W wr w' : World} {w m m' : Nat} {sg so s1 s2 : Value}
theorem ClM.stepNo (h : ClM M W wr w m sg so s1) (hx : Ext No wr w') : ClM M W w' w m sg so s1 :=
 ⟨h.ext.transNo hx, hx.blk h.boxA no_no, hx.blk h.boxB no_no, hx.blk h.boxC no_no, h.set.extNo hx⟩
theorem ClM.put (h : ClM M W wr w m sg so s1) (hs : SetAt (fun b => M b ∨ b = W.heap.size + 1 ∨ b = W.heap.size + 2) wr s2 w m') : ClM M W ((wr.setCell ⟨W.heap.size + 1, 0, none⟩ (.int .i64 (w : Int))).setCell ⟨W.heap.size + 1, 1, none⟩ s2) w m' sg so s2 := by
 have hE : Ext (At (W.heap.size + 1)) wr ((wr.setCell ⟨W.heap.size + 1, 0, none⟩ (.int .i64 (w : Int))).setCell ⟨W.heap.size + 1, 1, none⟩ s2) := ((Ext.refl (At (W.heap.size + 1)) _).setAt _ _).setAt _ _
 exact ⟨h.ext.trans2 hE (fun i hi e => by unfold At at e; omega), hE.blk h.boxA (by unfold At; omega), (set_same (j := 1) (set_same (j := 0) h.boxB)).trans rfl, hE.blk h.boxC (by unfold At; omega), hs.ext hE (fun i _ e => .inr (.inl e))⟩
theorem ClM.cells (h : ClM M W wr w m sg so s1) (hx : Ext No wr w') : w'.cell? ⟨W.heap.size, 0, none⟩ = some (.int .i64 (w : Int)) ∧ w'.cell? ⟨W.heap.size, 1, none⟩ = some sg ∧ w'.cell? ⟨W.heap.size, 2, none⟩ = some so ∧ w'.cell? ⟨W.heap.size + 1, 0, none⟩ = some (.int .i64 (w : Int)) ∧ w'.cell? ⟨W.heap.size + 1, 1, none⟩ = some s1 ∧ Ext No wr w' := by
 have c := cellOf (hx.blk h.boxA no_no)
 have d := cellOf (hx.blk h.boxB no_no)
 exact ⟨c 0, c 1, c 2, d 0, d 1, hx⟩
end
set_option maxRecDepth 100000 in
set_option maxHeartbeats 4000000 in
theorem closure_any (M : Nat → Prop) (w s : Nat) (rs : List Nat) (sg so ss : Value) (W : World) (hM : ∀ b, M b → b < W.heap.size) (hT : TabW W) (hg : shaped sg) (hr : SetsV No W so w rs) (hl : rs.length = w) (hs : SetAt M W ss w s) :
  Calls Tryd.prog 95 #[.agg #[.int .i64 (w : Int), sg, so], .agg #[.int .i64 (w : Int), ss]] W (SetPost M w (closN rs w s) W) := by
 have HR := Lib.hid hr
 have HM := Lib.hid hM
 have HT := Lib.hid hT
 have HLR := Lib.hid hl
 have HRL := Lib.hid hr.hm
 have HSL := Lib.hid hs.hm
 obtain ⟨ag, ng, cg, rfl⟩ := hg
 obtain ⟨ao, co, rfl⟩ := hr.slice
 obtain ⟨a1, c1, rfl⟩ := hs.slice
 have hm0 := Lib.hid (show ClM M W (((W.alloc (.cells #[.int .i64 (w : Int), .slice ag ng cg, .slice ao rs.length co] 113)).alloc (.cells #[.int .i64 (w : Int), .slice a1 (nw w) c1] 24)).alloc (.cells #[.int .i64 0, .slice none 0 0] 24)) w s (.slice ag ng cg) (.slice ao rs.length co) (.slice a1 (nw w) c1) from
  ⟨(((Ext.refl _ _).alloc _).alloc _).alloc _, alloc_under (alloc_under (alloc_top rfl)), alloc_under (alloc_top (by simp)), alloc_top (by simp), (hs.mono (fun i hi e => by
   rcases e with e | e | e
   ·exact e
   ·omega
   omega)).extNo ((((Ext.refl _ _).alloc _).alloc _).alloc _)⟩)
 clear hr hs hM hT hl
 go_enter Tryd.func95, Tryd.ntmps95
 go_wp2_with fail
 generalize (((W.alloc (.cells #[.int .i64 (w : Int), .slice ag ng cg, .slice ao rs.length co] 113)).alloc (.cells #[.int .i64 (w : Int), .slice a1 (nw w) c1] 24)).alloc (.cells #[.int .i64 0, .slice none 0 0] 24)) = W0 at *
 go_loopg [5] (2 ^ w - s) (fun n _ wr => ∃ (m : Nat) (av : Option Addr) (cv : Nat), Hid (2 ^ w - m ≤ n ∧ closN rs w m = closN rs w s) ∧ Hid (ClM M W wr w m (.slice ag ng cg) (.slice ao rs.length co) (.slice av (nw w) cv)))
 case atStart => exact ⟨s, a1, c1, Lib.hid ⟨Nat.le_refl _, rfl⟩, hm0⟩
 clear hm0
 obtain ⟨m, av, cv, hk, hm⟩ := hrel
 rename World => Wr
 go_wp2_with fail
 have HM2 : Hid (∀ i, (M i ∨ i = W.heap.size + 1 ∨ i = W.heap.size + 2) → i < Wr.heap.size) := Lib.hid (fun i e => by
  have h1 := lt_of_block hm.out.boxC
  rcases e with e | rfl | rfl
  ·exact Nat.lt_of_lt_of_le (HM.out i e) hm.out.ext.size
  ·omega
  exact h1)
 go_cut [5] (fun s5 wx => ∃ D a c, s5 = .pointer (some ⟨D, 0, none⟩) ∧ Hid (wx.heap[D]? = some (.cells #[.int .i64 (w : Int), .slice a (nw w) c] 24 (0, 0))) ∧ Hid (SetAt (fun b => M b ∨ b = W.heap.size + 1 ∨ b = W.heap.size + 2) wx (.slice a (nw w) c) w (stepN rs w m)) ∧ Hid (Ext No Wr wx))
 case first =>
  obtain ⟨l0, l1, l2, l3, l4, l5⟩ := hm.out.cells (Ext.refl No Wr)
  have HTr := Lib.hid (HT.out.ext hm.out.ext)
  have HRr := Lib.hid (HR.out.extNo hm.out.ext)
  have HSr := Lib.hid hm.out.set.no
  go_region_held3 (fun w' => w'.cell? ⟨W.heap.size, 0, none⟩ = some (.int .i64 (w : Int)) ∧ w'.cell? ⟨W.heap.size, 1, none⟩ = some (.slice ag ng cg) ∧ w'.cell? ⟨W.heap.size, 2, none⟩ = some (.slice ao rs.length co) ∧ w'.cell? ⟨W.heap.size + 1, 0, none⟩ = some (.int .i64 (w : Int)) ∧ w'.cell? ⟨W.heap.size + 1, 1, none⟩ = some (.slice av (nw w) cv) ∧ Ext No Wr w')
   ((go_split_ands; (with_reducible refine hm.out.cells ?_); (first | ((with_reducible refine ext2 hx7 ?_); (first | exact Nat.le_refl _ | exact hx6.size | exact hx5.size)) | ((repeat (first | (with_reducible exact Ext.refl _ _) | (with_reducible assumption) | (with_reducible refine Ext.drewN ?_ _) | (with_reducible refine Ext.drew ?_) | (with_reducible refine Ext.alloc ?_ _) | ((with_reducible refine Ext.own ?_ ?_ _); rotate_left; (first | exact Nat.le_refl _ | exact Nat.le_succ _ | omega | (simp; done) | (simp; omega)))))))))
   (first
    | ((go_at_call 71); (try go_split_ands); (with_reducible refine (image_lo w m rs _ _ _ _ (HTr.out.ext ?_) (shp _ _ _) (HRr.out.extNo ?_) HLR.out (HSr.out.extNo ?_)).mono ?_); (with_reducible assumption); (with_reducible assumption); (with_reducible assumption); (rintro e5 w5 ⟨a5, c5, rfl, hs5, hyA⟩); (have hx5 := Ext.transNo (show Ext No Wr _ from by with_reducible assumption) hyA))
    | ((go_at_call 34); (try go_split_ands); (with_reducible refine (union_lo w m (imgN rs w m) _ _ _ (HSr.out.extNo ?_) (hs5.out.no.extNo ?_)).mono ?_); (with_reducible assumption); ((repeat (first | (with_reducible exact Ext.refl _ _) | (with_reducible assumption) | (with_reducible refine Ext.drewN ?_ _) | (with_reducible refine Ext.drew ?_) | (with_reducible refine Ext.alloc ?_ _)))); (have hx6 := (show Ext No Wr _ from by with_reducible assumption)); (rintro e7 w7 ⟨a7, c7, rfl, hs7, hyC⟩); (have hx7 := Ext.transNo (show Ext No Wr _ from by with_reducible assumption) hyC); (first | (with_reducible have hi := two_facts2 hyC (alloc_top (o := (.cells #[.int .i64 0, .slice none 0 0] 24)) rfl)) | (with_reducible have hi := two_facts2 hyC (hyA.blk (alloc_top (o := (.cells #[.int .i64 0, .slice none 0 0] 24)) rfl) no_no)) | skip); (try ((obtain ⟨hi, hlt⟩ := hi); (have HI := Lib.hid hi); (have HL := Lib.hid hlt); (have cI := cellOf hi); (have fI := freeOf hi); (clear hi hlt)))))
  all_goals
   go_wp2_with fail
   go_meet
   first
   | exact ⟨_, a7, c7, rfl, Lib.hid (alloc_top rfl), Lib.hid ((hs7.out.lo hx6.size HM2.out).extNo ((Ext.refl _ _).alloc _)), Lib.hid (hx7.alloc _)⟩
   | exact ⟨_, a7, c7, rfl, Lib.hid ((set_same (j := 1) (set_same (j := 0) HI.out)).trans rfl), Lib.hid ((hs7.out.early2 HL.out).lo hx6.size HM2.out), Lib.hid (ext2 hx7 (by first | exact Nat.le_refl _ | exact hx5.size))⟩
 case rest =>
  obtain ⟨D, a, c, rfl, hD, hset, hx⟩ := hcut
  rename World => V
  have hm2 := Lib.hid (hm.out.stepNo hx.out)
  clear hx hm HM2
  have cD := cellOf hD.out
  have cB := cellOf hm2.out.boxB
  go_wp2_with fail
  refine (equal_any w (stepN rs w m) m _ _ _ hset.out.no hm2.out.set.no).mono ?_
  rintro e6 w6 ⟨rfl, hx6⟩
  have hm3 := Lib.hid (hm2.out.stepNo hx6)
  have hset3 := Lib.hid (hset.out.extNo hx6)
  have hD3 := Lib.hid (hx6.blk hD.out no_no)
  clear cD cB hx6 hm2 hset hD
  by_cases he : stepN rs w m = m
  ·have HE := Lib.hid he
   rw [decide_eq_true he]
   clear he
   have cB := cellOf hm3.out.boxB
   have cC := cellOf hm3.out.boxC
   have fC := freeOf hm3.out.boxC
   go_wp2_with fail
   have hE : Ext (At (W.heap.size + 2)) w6 ((w6.setCell ⟨W.heap.size + 2, 0, none⟩ (.int .i64 (w : Int))).setCell ⟨W.heap.size + 2, 1, none⟩ (.slice av (nw w) cv)) := ((Ext.refl (At (W.heap.size + 2)) _).setAt _ _).setAt _ _
   have hbF := (set_same (j := 1) (u := .slice av (nw w) cv) (set_same (j := 0) (u := .int .i64 (w : Int)) hm3.out.boxC)).trans rfl
   clear cB cC fC
   generalize ((w6.setCell ⟨W.heap.size + 2, 0, none⟩ (.int .i64 (w : Int))).setCell ⟨W.heap.size + 2, 1, none⟩ (.slice av (nw w) cv)) = WF at *
   have cF := cellOf hbF
   refine ret_ex rfl ?_
   simp [results, Tryd.results95, go_sem, cF]
   have hfix := closN_fix HRL.out hm3.out.set.hm HE.out
   refine ⟨_, _, rfl, Lib.hid ?_, hm3.out.ext.trans2 hE (fun i hi e => by unfold At at e; omega)⟩
   rw [← hk.out.2, hfix]
   exact (hm3.out.set.ext hE (fun i _ e => .inr (.inr e))).mono (fun i _ e => .inl e)
  have HE := Lib.hid he
  rw [decide_eq_false he]
  clear he
  have cD := cellOf hD3.out
  have cB := cellOf hm3.out.boxB
  have fB := freeOf hm3.out.boxB
  have hput := Lib.hid (hm3.out.put hset3.out)
  have hge := stepN_ge rs w m
  have hml := hm3.out.set.hm
  have hstep := Lib.hid (closN_step HRL.out hml)
  have hlt : m < stepN rs w m := Nat.lt_of_le_of_ne hge (fun e => HE.out e.symm)
  have hlt2 := hset3.out.hm
  have HLT := Lib.hid (And.intro hlt (And.intro hlt2 hml))
  clear hge hlt hlt2 hml
  go_wp2_with fail
  go_roundg (2 ^ w - stepN rs w m)
  case measure => have := HLT.out; have := hk.out.1; omega
  case rel => exact ⟨stepN rs w m, a, c, Lib.hid ⟨Nat.le_refl _, by rw [hstep.out, hk.out.2]⟩, hput⟩
end Go.Proofs.YtmddchceacmopaaDoor
namespace Go.Proofs.YtmddchceacmopaaDoor
open Go Go.RowKit
def rowAt (rs : List Nat) (k : Nat) : Nat := (rs[k]?).getD 0
theorem rowAt_get {rs : List Nat} {k : Nat} (h : k < rs.length) : rowAt rs k = rs[k] := by simp [rowAt, h]
def keepC (k : Nat) (l : List Int) : List (Int × Int) := (l.filter fun x => decide (x ≠ (k : Int))).map fun x => ((k : Int), x)
theorem keepC_snoc_ne {k : Nat} {l : List Int} {x : Int} (h : x ≠ (k : Int)) : keepC k (l ++ [x]) = keepC k l ++ [((k : Int), x)] := by simp [keepC, h]
theorem keepC_snoc_eq {k : Nat} {l : List Int} {x : Int} (h : x = (k : Int)) : keepC k (l ++ [x]) = keepC k l := by simp [keepC, h]
theorem keepC_len (k : Nat) (l : List Int) : (keepC k l).length ≤ l.length := by
 unfold keepC; rw [List.length_map]; exact List.length_filter_le _ _
def copTo (w gen : Nat) (rs : List Nat) : Nat → List (Int × Int)
 | 0 => []
 | k + 1 => copTo w gen rs k ++ keepC k (membersN w (diffN (rowAt rs k) gen))
def killTo (w gen : Nat) (rs : List Nat) : Nat → Nat
 | 0 => gen
 | k + 1 => if hasZ w (rowAt rs k) k then killTo w gen rs k else killTo w gen rs k ||| 2 ^ k
def closeT (w gen : Nat) (rs : List Nat) : TrD := ⟨w, gen, killTo w gen rs w, copTo w gen rs w⟩
theorem copTo_len (w gen : Nat) (rs : List Nat) : ∀ k, (copTo w gen rs k).length ≤ k * w := by
 intro k
 induction k with
 | zero => simp [copTo]
 | succ k ih =>
  rw [copTo, List.length_append, Nat.succ_mul]
  have h1 := keepC_len k (membersN w (diffN (rowAt rs k) gen))
  have h2 := membersN_len w (diffN (rowAt rs k) gen)
  omega
theorem killTo_lt {w gen : Nat} {rs : List Nat} (hg : gen < 2 ^ w) : ∀ k, k ≤ w → killTo w gen rs k < 2 ^ w := by
 intro k
 induction k with
 | zero => intro _; exact hg
 | succ k ih =>
  intro hk
  rw [killTo]
  split
  ·exact ih (by omega)
  exact orN_lt (ih (by omega)) (bitN_lt (by omega))
theorem killTo_bit {w gen : Nat} {rs : List Nat} (b : Nat) : ∀ k, (killTo w gen rs k).testBit b = (gen.testBit b || (decide (b < k) && !hasZ w (rowAt rs b) b)) := by
 intro k
 induction k with
 | zero => simp [killTo]
 | succ k ih =>
  rw [killTo]
  by_cases e : b = k
  ·subst e
   cases hh : hasZ w (rowAt rs b) b with
   | true => simp [ih]
   | false => simp [Nat.testBit_or, ih, Nat.testBit_two_pow_self]
  have e2 : (decide (b < k + 1) : Bool) = decide (b < k) := decide_eq_decide.2 (by omega)
  rw [e2]
  split
  ·exact ih
  rw [or_bit, ih, show decide (k = b) = false from decide_eq_false (fun h => e h.symm), Bool.or_false]
theorem keepC_mem {k : Nat} {l : List Int} {p : Int × Int} : p ∈ keepC k l ↔ p.1 = (k : Int) ∧ p.2 ∈ l ∧ p.2 ≠ (k : Int) := by
 unfold keepC
 simp only [List.mem_map, List.mem_filter, decide_eq_true_eq]
 constructor
 ·rintro ⟨x, ⟨h1, h2⟩, rfl⟩; exact ⟨rfl, h1, h2⟩
 rintro ⟨h1, h2, h3⟩; exact ⟨p.2, ⟨h2, h3⟩, Prod.ext h1.symm rfl⟩
theorem copTo_mem {w gen : Nat} {rs : List Nat} {p : Int × Int} : ∀ k, p ∈ copTo w gen rs k ↔ ∃ a b : Nat, a < k ∧ p = ((a : Int), (b : Int)) ∧ b < w ∧ a ≠ b ∧ (rowAt rs a).testBit b = true ∧ gen.testBit b = false := by
 intro k
 induction k with
 | zero => simp [copTo]
 | succ k ih =>
  rw [copTo, List.mem_append, ih, keepC_mem]
  constructor
  ·rintro (⟨a, b, h1, h2⟩ | ⟨h1, h2, h3⟩)
   ·exact ⟨a, b, by omega, h2⟩
   obtain ⟨b, e, h4, h5⟩ := membersN_mem.1 h2
   rw [diffN_bit, Bool.and_eq_true] at h5
   exact ⟨k, b, by omega, Prod.ext h1 e, h4, fun he => h3 (by rw [e, he]), h5.1, by simpa using h5.2⟩
  rintro ⟨a, b, h1, rfl, h3, h4, h5, h6⟩
  by_cases e : a = k
  ·subst e
   exact .inr ⟨rfl, membersN_mem.2 ⟨b, rfl, h3, by rw [diffN_bit, h5, h6]; rfl⟩, by simp; omega⟩
  exact .inl ⟨a, b, by omega, rfl, h3, h4, h5, h6⟩
def ltC (p q : Int × Int) : Prop := p.1 < q.1 ∨ p.1 = q.1 ∧ p.2 < q.2
theorem membersN_sorted (w m : Nat) : (membersN w m).Pairwise (· < ·) := by
 unfold membersN
 rw [List.pairwise_map]
 exact (List.pairwise_lt_range.filter _).imp (fun h => by omega)
theorem copTo_sorted (w gen : Nat) (rs : List Nat) : ∀ k, (copTo w gen rs k).Pairwise ltC := by
 intro k
 induction k with
 | zero => exact List.Pairwise.nil
 | succ k ih =>
  rw [copTo, List.pairwise_append]
  refine ⟨ih, ?_, ?_⟩
  ·unfold keepC
   rw [List.pairwise_map]
   exact ((membersN_sorted _ _).filter _).imp (fun h => .inr ⟨rfl, h⟩)
  intro p hp q hq
  obtain ⟨a, b, h1, rfl, _⟩ := (copTo_mem k).1 hp
  obtain ⟨h2, _⟩ := keepC_mem.1 hq
  exact .inl (by rw [h2]; show (a : Int) < (k : Int); omega)
theorem closeT_ok {w gen : Nat} {rs : List Nat} (hw : w ≤ 256) (hg : gen < 2 ^ w) (hl : (copTo w gen rs w).length ≤ 64) : TrOk (closeT w gen rs) := by
 refine ⟨hw, hg, killTo_lt hg w (Nat.le_refl _), hl, fun i h => ?_, fun i h => ?_⟩
 ·have h' : i < (copTo w gen rs w).length := h
  obtain ⟨a, b, h1, h2, h3, _⟩ := (copTo_mem w).1 (List.getElem_mem h')
  have key : inB w (copTo w gen rs w)[i].1 = true ∧ inB w (copTo w gen rs w)[i].2 = true := by
   rw [h2]
   exact ⟨decide_eq_true ⟨by omega, by show (a : Int) < w; omega⟩, decide_eq_true ⟨by omega, by show (b : Int) < w; omega⟩⟩
  exact key
 have := (List.pairwise_iff_getElem.1 (copTo_sorted w gen rs w)) i (i + 1) (by have : (copTo w gen rs w).length = (closeT w gen rs).copies.length := rfl; omega) h (by omega)
 exact compareZ_lt this
end Go.Proofs.YtmddchceacmopaaDoor
namespace Go.Proofs.YtmddchceacmopaaDoor
open Go Go.RowKit
theorem area_app {P : (Nat → Prop) → World → Prop} (hext : ∀ M M' w w', P M w → Ext M' w w' → (∀ i, i < w.heap.size → M' i → M i) → P M w') (hmono : ∀ M M' w, P M w → (∀ i, i < w.heap.size → M' i → M i) → P M' w)
  {A : Nat → Prop} {v v' : Value} {w w' : World} {o : Obj} (hg : (w.alloc o).grownBy w' v.ownBlock) (hv : v'.ownBlock = v.ownBlock ∨ v'.ownBlock = some (w.alloc o).heap.size) (h : P (fun b => A b ∨ v.ownBlock = some b) w) : P (fun b => A b ∨ v'.ownBlock = some b) w' := by
 have hE : Ext (fun k => v.ownBlock = some k) w w' := ((Ext.refl _ w).alloc o).grown hg (fun k hk _ => hk)
 have h2 : P (fun b => (A b ∨ v.ownBlock = some b) ∨ w.heap.size ≤ b) w := hmono _ _ _ h (fun i hi e => by
  rcases e with e | e
  ·exact e
  omega)
 refine hmono _ _ _ (hext _ _ _ _ h2 hE (fun i _ e => .inl (.inr e))) (fun i _ e => ?_)
 rcases e with e | e
 ·exact .inl (.inl e)
 rcases hv with hv | hv
 ·rw [hv] at e; exact .inl (.inr e)
 rw [hv, alloc_size1] at e
 simp only [Option.some.injEq] at e
 exact .inr (by omega)
theorem area_set {w w' : World} {A : Nat → Prop} {v v' sl : Value} {n m : Nat} {o : Obj} (hg : (w.alloc o).grownBy w' v.ownBlock) (hv : v'.ownBlock = v.ownBlock ∨ v'.ownBlock = some (w.alloc o).heap.size) (h : SetAt (fun b => A b ∨ v.ownBlock = some b) w sl n m) : SetAt (fun b => A b ∨ v'.ownBlock = some b) w' sl n m :=
 area_app (P := fun M w => SetAt M w sl n m) (fun _ _ _ _ h hx hm => h.ext hx hm) (fun _ _ _ h hm => h.mono hm) hg hv h
theorem area_row {w w' : World} {A : Nat → Prop} {v v' sl : Value} {s n : Nat} {vs : List Value} {o : Obj} (hg : (w.alloc o).grownBy w' v.ownBlock) (hv : v'.ownBlock = v.ownBlock ∨ v'.ownBlock = some (w.alloc o).heap.size) (h : Row (fun b => A b ∨ v.ownBlock = some b) w s sl n vs) : Row (fun b => A b ∨ v'.ownBlock = some b) w' s sl n vs :=
 area_app (P := fun M w => Row M w s sl n vs) (fun _ _ _ _ h hx hm => h.ext hx hm) (fun _ _ _ h hm => h.mono hm) hg hv h
structure CsM (M : Nat → Prop) (W wr : World) (w gen m T : Nat) (l : List (Int × Int)) (sg so sk sc : Value) : Prop where
 ext : Ext No W wr
 boxA : wr.heap[W.heap.size]? = some (.cells #[.int .i64 (w : Int), sg, so] 113 (0, 0))
 boxR : wr.heap[W.heap.size + 1]? = some (.cells #[.int .i64 0, .slice none 0 0, .int .i64 0, .slice none 0 0, .slice none 0 0] 30 (0, 0))
 boxT : wr.heap[T]? = some (.cells #[.int .i64 (w : Int), sg, .int .i64 (w : Int), sk, sc] 30 (0, 0))
 kill : SetAt (fun b => (M b ∨ b = W.heap.size + 1 ∨ b = T) ∨ sc.ownBlock = some b) wr sk w m
 own : wr.ownsRow (T + 1) 27 2 sc l.length (flatC l)
 big : W.heap.size + 1 < T
section
variable {M M' : Nat → Prop} {W wr w' : World} {w gen m m' T : Nat} {l l' : List (Int × Int)} {sg so sk sk' sc sc' : Value}
theorem CsM.stepNo (h : CsM M W wr w gen m T l sg so sk sc) (hx : Ext No wr w') : CsM M W w' w gen m T l sg so sk sc :=
 ⟨h.ext.transNo hx, hx.blk h.boxA no_no, hx.blk h.boxR no_no, hx.blk h.boxT no_no, h.kill.extNo hx, row_keep h.own hx (fun _ _ x => x), h.big⟩
theorem CsM.mono (h : CsM M W wr w gen m T l sg so sk sc) (hm : ∀ i, i < wr.heap.size → M' i → M i) : CsM M' W wr w gen m T l sg so sk sc :=
 ⟨h.ext, h.boxA, h.boxR, h.boxT, h.kill.mono (fun i hi e => by
  rcases e with (e | e) | e
  ·exact .inl (.inl (hm i hi e))
  ·exact .inl (.inr e)
  exact .inr e), h.own, h.big⟩
theorem CsM.ownLt (h : CsM M W wr w gen m T l sg so sk sc) (k : Nat) (hk : sc.ownBlock = some k) : T + 1 ≤ k ∧ k < wr.heap.size := World.ownsRow.lt h.own k hk
theorem CsM.hM (hM : ∀ b, M b → b < wr.heap.size) (h : CsM M W wr w gen m T l sg so sk sc) : ∀ b, ((M b ∨ b = W.heap.size + 1 ∨ b = T) ∨ sc.ownBlock = some b) → b < wr.heap.size := fun b hb => by
 have h1 := lt_of_block h.boxT
 have h2 := h.big
 rcases hb with (hb | rfl | rfl) | hb
 ·exact hM b hb
 ·omega
 ·exact h1
 exact (h.ownLt b hb).2
theorem CsM.box {S : Nat} {u0 u1 : Value} (h : CsM M W wr w gen m T l sg so sk sc) (hS : T < S) (hv : ¬ sc.ownBlock = some S) (hMS : M S) : CsM M W ((wr.setCell ⟨S, 0, none⟩ u0).setCell ⟨S, 1, none⟩ u1) w gen m T l sg so sk sc := by
 have hb := h.big
 have hE : Ext (At S) wr ((wr.setCell ⟨S, 0, none⟩ u0).setCell ⟨S, 1, none⟩ u1) := ((Ext.refl (At S) wr).setAt _ _).setAt _ _
 refine ⟨h.ext.trans2 hE (fun i hi e => by unfold At at e; omega), hE.blk h.boxA (by unfold At; omega), hE.blk h.boxR (by unfold At; omega), hE.blk h.boxT (by unfold At; omega), h.kill.ext hE (fun i _ e => by cases e; exact .inl (.inl hMS)), ?_, hb⟩
 obtain ⟨h1, h2⟩ := h.own
 refine ⟨h1, ?_⟩
 rcases h2 with h2 | ⟨g, cap, cur, hv2, hb2, hg, hr⟩
 ·exact .inl h2
 refine .inr ⟨g, cap, cur, hv2, hb2, (hE.block g (lt_of_block hg) (fun e => hv ?_)).trans hg, hr⟩
 cases e
 rw [hv2]; rfl
theorem CsM.putK (h : CsM M W wr w gen m T l sg so sk sc) (hs : SetAt (fun b => (M b ∨ b = W.heap.size + 1 ∨ b = T) ∨ sc.ownBlock = some b) wr sk' w m') : CsM M W ((wr.setCell ⟨T, 2, none⟩ (.int .i64 (w : Int))).setCell ⟨T, 3, none⟩ sk') w gen m' T l sg so sk' sc := by
 have hb := h.big
 have hE : Ext (At T) wr ((wr.setCell ⟨T, 2, none⟩ (.int .i64 (w : Int))).setCell ⟨T, 3, none⟩ sk') := ((Ext.refl (At T) wr).setAt _ _).setAt _ _
 exact ⟨h.ext.trans2 hE (fun i hi e => by unfold At at e; omega), hE.blk h.boxA (by unfold At; omega), hE.blk h.boxR (by unfold At; omega), (set_same (j := 3) (set_same (j := 2) h.boxT)).trans rfl, hs.ext hE (fun i _ e => .inl (.inr (.inr e))), row_keep h.own hE (fun i hi e => by unfold At at e; omega), hb⟩
theorem CsM.app {o : Obj} {a b : Int} (h : CsM M W wr w gen m T l sg so sk sc) (hown : w'.ownsRow (T + 1) 27 2 sc' (l.length + 1) (flatC l ++ [.int .i64 a, .int .i64 b]))
  (hg : (wr.alloc o).grownBy w' sc.ownBlock) (hv : sc'.ownBlock = sc.ownBlock ∨ sc'.ownBlock = some (wr.alloc o).heap.size) :
  CsM M W (w'.setCell ⟨T, 4, none⟩ sc') w gen m T (l ++ [(a, b)]) sg so sk sc' ∧ w'.heap[T]? = some (.cells #[.int .i64 (w : Int), sg, .int .i64 (w : Int), sk, sc] 30 (0, 0)) := by
 have hE : Ext (fun k => sc.ownBlock = some k) wr w' := ((Ext.refl _ wr).alloc o).grown hg (fun k hk _ => hk)
 have hb := h.big
 have hne : ∀ k, k ≤ T → ¬ sc.ownBlock = some k := fun k hk e => by have := (h.ownLt k e).1; omega
 have hE2 : Ext (At T) w' (w'.setCell ⟨T, 4, none⟩ sc') := (Ext.refl (At T) _).setAt _ _
 have hT := hE.blk h.boxT (hne T (Nat.le_refl _))
 refine ⟨⟨?_, ?_, ?_, ?_, ?_, ?_, hb⟩, hT⟩
 ·refine (h.ext.trans2 hE (fun i hi e => ?_)).trans2 hE2 (fun i hi e => by unfold At at e; omega)
  have := (h.ownLt i e).1
  omega
 ·exact hE2.blk (hE.blk h.boxA (hne _ (by omega))) (by unfold At; omega)
 ·exact hE2.blk (hE.blk h.boxR (hne _ (by omega))) (by unfold At; omega)
 ·exact (set_same (j := 4) hT).trans rfl
 ·exact (area_set hg hv h.kill).ext hE2 (fun i _ e => .inl (.inr (.inr e)))
 have e1 : (l ++ [(a, b)]).length = l.length + 1 := by simp
 rw [e1, ← flatC_app]
 exact row_keep hown hE2 (fun i hi e => by unfold At at e; omega)
theorem CsM.slice (h : CsM M W wr w gen m T l sg so sk sc) : ∃ a c, sc = .slice a l.length c := (Row.ofOwns (M := No) h.own (fun _ _ x => x)).slice
end
def ClosePost (M : Nat → Prop) (w gen : Nat) (rs : List Nat) (W : World) (e : Ending) (w' : World) : Prop := ((copTo w gen rs w).length ≤ 64 → TrEPost M (closeT w gen rs) W e w') ∧ (64 < (copTo w gen rs w).length → TrNo 7 W e w')
theorem tclone_lo (w m : Nat) (sl : Value) (W : World) (h : SetAt No W sl w m) :
  Calls Tryd.prog 97 #[.agg #[.int .i64 (w : Int), sl]] W (SetPost (Lo W.heap.size) w m W) := tclone_any (Lo W.heap.size) w m sl W (fun _ x => x) h
theorem SetAt.early5 {L w m D : Nat} {w7 : World} {sl u0 u1 u2 u3 u4 : Value} (h : SetAt (Lo L) w7 sl w m) (hlt : D < L) : SetAt (Lo L) (((((w7.setCell ⟨D, 0, none⟩ u0).setCell ⟨D, 1, none⟩ u1).setCell ⟨D, 2, none⟩ u2).setCell ⟨D, 3, none⟩ u3).setCell ⟨D, 4, none⟩ u4) sl w m :=
 h.ext (set5 w7 D u0 u1 u2 u3 u4) (fun i _ e => by cases e; exact hlt)
theorem CsM.late {M : Nat → Prop} {W w7 : World} {w gen L : Nat} {sg so sk : Value} (hx : Ext No W w7) (hA : w7.heap[W.heap.size]? = some (.cells #[.int .i64 (w : Int), sg, so] 113 (0, 0)))
  (hC : w7.heap[W.heap.size + 1]? = some (.cells #[.int .i64 0, .slice none 0 0, .int .i64 0, .slice none 0 0, .slice none 0 0] 30 (0, 0))) (hs : SetAt (Lo L) w7 sk w gen) (hL : W.heap.size + 1 < L) (hM : ∀ b, M b → b < W.heap.size) :
  CsM M W (w7.alloc (.cells #[.int .i64 (w : Int), sg, .int .i64 (w : Int), sk, .slice none 0 0] 30)) w gen gen w7.heap.size [] sg so sk (.slice none 0 0) :=
 ⟨hx.alloc _, alloc_under hA, alloc_under hC, alloc_top rfl, (hs.mono (fun i hi e => by
  unfold Lo
  rcases e with (e | e | e) | e
  ·have := hM i e; omega
  ·omega
  ·omega
  cases e)).extNo ((Ext.refl _ _).alloc _), World.ownsRow_nil _ _ _ _, lt_of_block hC⟩
theorem CsM.early {M : Nat → Prop} {W w7 : World} {w gen L D : Nat} {sg so sk : Value} (hx : Ext No W w7) (hA : w7.heap[W.heap.size]? = some (.cells #[.int .i64 (w : Int), sg, so] 113 (0, 0)))
  (hC : w7.heap[W.heap.size + 1]? = some (.cells #[.int .i64 0, .slice none 0 0, .int .i64 0, .slice none 0 0, .slice none 0 0] 30 (0, 0))) (hs : SetAt (Lo L) w7 sk w gen) (hD : W.heap.size + 1 < D) (hL : D < L) (hI : w7.heap[D]? = some (.cells #[.int .i64 0, .slice none 0 0, .int .i64 0, .slice none 0 0, .slice none 0 0] 30 (0, 0))) (hM : ∀ b, M b → b < W.heap.size) :
  CsM M W (((((w7.setCell ⟨D, 0, none⟩ (.int .i64 (w : Int))).setCell ⟨D, 1, none⟩ sg).setCell ⟨D, 2, none⟩ (.int .i64 (w : Int))).setCell ⟨D, 3, none⟩ sk).setCell ⟨D, 4, none⟩ (.slice none 0 0)) w gen gen D [] sg so sk (.slice none 0 0) := by
 have hE := set5 w7 D (.int .i64 (w : Int)) sg (.int .i64 (w : Int)) sk (.slice none 0 0)
 exact ⟨hx.trans2 hE (fun i hi e => by unfold At at e; omega), hE.blk hA (by unfold At; omega), hE.blk hC (by unfold At; omega), BoxR.fin5 ⟨_, rfl, hI⟩ _ _ _ _ _, (hs.early5 hL).mono (fun i hi e => by
  unfold Lo
  rcases e with (e | e | e) | e
  ·have := hM i e; omega
  ·omega
  ·omega
  cases e), World.ownsRow_nil _ _ _ _, hD⟩

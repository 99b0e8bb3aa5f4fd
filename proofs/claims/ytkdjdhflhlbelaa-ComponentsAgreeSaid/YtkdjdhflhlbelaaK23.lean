/- Merged: K22 K23 -/
import Derived.Test.YtkdjdhflhlbelaaK21
import Derived.Deep.LoopGhost
set_option linter.unusedVariables false
set_option linter.unusedSimpArgs false
/- K22 -/
namespace Go.Proofs.Ytkdjdhflhlbelaa
open Go Go.RowKit Tj
theorem GOk.le {S : SysD} {g : Nat → Nat} (h : GOk S g) {x : Nat} (hx : x < S.deps.length) : g x ≤ x := by
 obtain ⟨k, e, _, _, h3⟩ := h x hx
 have := h3 x (.refl x) (.refl x)
 omega
theorem first_rep {S : SysD} {g : Nat → Nat} {D : Nat → Bool} {n : Nat} (hS : SysOk S) (hg : GOk S g) (hn : n < S.deps.length) (hgn : g n = n) (h1 : goodB S g D n = true) (h : ∀ m, m < n → g m = m → goodB S g D m = false) : firstI S g D = some n := by
 unfold firstI
 rw [List.find?_range_eq_some]
 refine ⟨by rw [hgn]; exact h1, List.mem_range.2 hn, fun j hj => ?_⟩
 have h2 := hg.le (x := j) (by omega)
 rw [h (g j) (by omega) (hg.idem hS (by omega))]
 rfl
theorem first_no {S : SysD} {g : Nat → Nat} {D : Nat → Bool} (hS : SysOk S) (hg : GOk S g) (h : ∀ m, m < S.deps.length → g m = m → goodB S g D m = false) : firstI S g D = none := by
 unfold firstI
 rw [List.find?_eq_none]
 intro x hx
 have hx2 := List.mem_range.1 hx
 rw [h (g x) (hg.lt hS hx2) (hg.idem hS hx2)]
 simp
/-- whether all below m are free -/
def frB (S : SysD) (g : Nat → Nat) (D : Nat → Bool) (c m : Nat) : Bool := (List.range m).all fun n => !(g n == c && (depD S n).any (badE g D c))
theorem frB_all (S : SysD) (g : Nat → Nat) (D : Nat → Bool) (c : Nat) : frB S g D c S.deps.length = readyB S g D c := rfl
theorem frB_no {S : SysD} {g : Nat → Nat} {D : Nat → Bool} {c m : Nat} (h : ¬ g m = c) : frB S g D c (m + 1) = frB S g D c m := by
 unfold frB
 rw [List.range_succ, List.all_append]
 simp [h]
theorem frB_yes {S : SysD} {g : Nat → Nat} {D : Nat → Bool} {c m : Nat} (h : g m = c) : frB S g D c (m + 1) = (frB S g D c m && (depD S m).all fun x => !badE g D c x) := by
 unfold frB
 rw [List.range_succ, List.all_append]
 simp only [List.all_cons, List.all_nil, Bool.and_true, h, BEq.rfl, Bool.true_and, List.not_any_eq_all_not]
theorem all_take_succ {l : List Nat} {q : Nat} (p : Nat → Bool) (h : q < l.length) : ((l.take (q + 1)).all p) = ((l.take q).all p && p l[q]) := by
 rw [List.take_succ_eq_append_getElem h, List.all_append]
 simp
/-- the call's own things -/
structure RoM (S : SysD) (V wr : World) (bD P : Nat) (D : Nat → Bool) (vo : Value) (Ld : LD) : Prop where
 ext : Ext No V wr
 db : BlkF wr bD 4 S.deps.length (fun i => .bool (D i))
 out : LOwn kD (At bD) wr P vo Ld
 lo : V.heap.size ≤ bD ∧ bD < P
 top : P ≤ wr.heap.size
section
variable {S : SysD} {V wr w' : World} {bD P : Nat} {D : Nat → Bool} {vo v' : Value} {Ld : LD}
theorem RoM.stepNo (h : RoM S V wr bD P D vo Ld) (hx : Ext No wr w') : RoM S V w' bD P D vo Ld :=
 ⟨h.ext.transNo hx, h.db.ext hx no_no, h.out.extNo hx, h.lo, Nat.le_trans h.top hx.size⟩
theorem RoM.mark (h : RoM S V wr bD P D vo Ld) (c : Nat) : RoM S V (wr.setCell ⟨bD, c, none⟩ (.bool true)) bD P (upd D c true) vo Ld := by
 have hE : Ext (At bD) wr (wr.setCell ⟨bD, c, none⟩ (.bool true)) := (Ext.refl _ _).setAt _ _
 obtain ⟨a1, a2⟩ := h.lo
 have h1 := h.db.set c (.bool true)
 rw [upd_map (fun (q : Bool) => Value.bool q)] at h1
 exact ⟨h.ext.trans2 hE (fun i hi e => by unfold At at e; omega), h1, h.out.ext hE (fun i hi e => by unfold At at e; omega) (fun _ e => e), h.lo, Nat.le_trans h.top hE.size⟩
theorem RoM.push {l : List Nat} {sl : Value} (h : RoM S V wr bD P D vo Ld) (hp : Ints (fun b => At bD b ∨ vo.ownBlock = some b) wr .i64 sl (natsZ l)) (hown : w'.ownsRow P 22 1 v' (Ld.length + 1) (Ld.flatMap kD.cells ++ [sl])) (hg : wr.grownBy w' vo.ownBlock) (hv : v'.ownBlock = vo.ownBlock ∨ v'.ownBlock = some wr.heap.size) :
  RoM S V w' bD P D v' (Ld ++ [(natsZ l, sl)]) := by
 have hE : Ext (fun k => vo.ownBlock = some k) wr w' := (Ext.refl _ wr).grown hg (fun k hk _ => hk)
 obtain ⟨a1, a2⟩ := h.lo
 have hl : ∀ k, vo.ownBlock = some k → P ≤ k := fun k hk => (h.out.lt k hk).1
 exact ⟨h.ext.trans2 hE (fun i hi e => by have := hl i e; omega), h.db.ext hE (fun e => by have := hl _ e; omega),
  h.out.app (p := (natsZ l, sl)) hp hown hE (fun _ e => e) (hv.imp id (fun e k hk => by rw [e] at hk; simp only [Option.some.injEq] at hk; omega)), h.lo, Nat.le_trans h.top hE.size⟩
end
/-- r components are in order -/
structure RoSt (S : SysD) (g : Nat → Nat) (V wr : World) (bD P r : Nat) (D : Nat → Bool) (vo : Value) (Ld : LD) : Prop where
 m : RoM S V wr bD P D vo Ld
 len : Ld.length = r
 bd : r + undone S g D ≤ S.deps.length
 d : D = (ordS S g r).1
 ld : Ld.map Prod.fst = (ordS S g r).2.map natsZ
 go : ∀ r', r' < r → firstI S g (ordS S g r').1 ≠ none
section
variable {S : SysD} {g : Nat → Nat} {V wr w' : World} {bD P r : Nat} {D : Nat → Bool} {vo v' : Value} {Ld : LD}
theorem RoSt.stepNo (h : RoSt S g V wr bD P r D vo Ld) (hx : Ext No wr w') : RoSt S g V w' bD P r D vo Ld := ⟨h.m.stepNo hx, h.len, h.bd, h.d, h.ld, h.go⟩
theorem RoSt.next {n : Nat} {sl : Value} (h : RoSt S g V wr bD P r D vo Ld) (hn : n < S.deps.length) (hgn : g n = n) (hf : firstI S g D = some n) (hD : D n = false) (hm : RoM S V w' bD P (upd D n true) v' (Ld ++ [(natsZ (memL g n S.deps.length), sl)])) : RoSt S g V w' bD P (r + 1) (upd D n true) v' (Ld ++ [(natsZ (memL g n S.deps.length), sl)]) ∧ undone S g (upd D n true) < undone S g D := by
 have hss := ordS_some (r := r) (by rw [← h.d]; exact hf)
 rw [hgn] at hss
 have hu := undone_lt (S := S) (g := g) (D := D) hn (by rw [hgn]; exact hD)
 rw [hgn] at hu
 have hb := h.bd
 refine ⟨⟨hm, by rw [List.length_append, h.len]; rfl, by omega, by rw [hss, h.d], by rw [List.map_append, h.ld, hss, List.map_append]; rfl, fun r' hr' => ?_⟩, hu⟩
 by_cases e : r' = r
 ·subst e; rw [← h.d, hf]; simp
 ·exact h.go r' (by omega)
end
theorem c_cell {w : World} {a : Option Addr} {c N : Nat} {gl : List Nat} (h : Ints No w .i64 (.slice a N c) (natsZ gl)) (hl : gl.length = N) (hN : 1 ≤ N) : ∃ b off, a = some ⟨b, off, none⟩ ∧ ∀ i, i < N → w.cell? ⟨b, off + i, none⟩ = some (.int .i64 (rowD gl i : Int)) := by
 obtain ⟨b, off, cap', hsl, _, _, hcell⟩ := IntsN.at h (i := 0) (by omega)
 simp only [Value.slice.injEq] at hsl
 obtain ⟨rfl, _, _⟩ := hsl
 exact ⟨b, off, rfl, fun i hi => by rw [rowD_get (by omega)]; exact hcell i (by omega)⟩
end Go.Proofs.Ytkdjdhflhlbelaa

/- K23 -/
namespace Go.Proofs.Ytkdjdhflhlbelaa
open Go Go.RowKit Tj
theorem rorder_inv (x : Int) (vd vt vb : Value) (Ld : LD) (Lt : LT) (Lb : LS) (W : World) (h : YAt No W vd vt vb Ld Lt Lb) (hn : ¬ VS x Ld Lt Lb) :
  Calls Try.prog 76 #[.agg #[.int .i64 x, vd, vt, vb]] W (ErrPost (.slice none 0 0) 1 W) := by
 have H := Lib.hid h
 have HN := Lib.hid hn
 clear h hn
 go_enter Try.func76, Try.ntmps76
 go_upto_region 1 with (fail)
 have hx0 : Ext No W (W.alloc (.cells #[.int .i64 x, vd, vt, vb] 29)) := (Ext.refl _ _).alloc _
 have HA := Lib.hid (alloc_top (w := W) (o := (.cells #[.int .i64 x, vd, vt, vb] 29)) rfl)
 generalize (W.alloc (.cells #[.int .i64 x, vd, vt, vb] 29)) = w1 at *
 have cA := cellOf HA.out
 go_wp2_with fail
 refine (rcomps_inv x _ _ _ Ld Lt Lb w1 (H.out.extNo hx0) HN.out).mono ?_
 rintro e w2 ⟨rfl, hx⟩
 go_wp2_with fail
 refine ret_ex rfl ?_
 simp [results, Try.results76, go_sem]
 exact ⟨rfl, hx0.transNo hx⟩
set_option maxRecDepth 100000 in
set_option maxHeartbeats 16000000 in
theorem rorder_any (S : SysD) (vd vt vb : Value) (W : World) (h : SysAt No W vd vt vb S) :
  Calls Try.prog 76 #[.agg #[.int .i64 (S.w : Int), vd, vt, vb]] W (OrdPost S W) := by
 obtain ⟨i0, hi0, hz0, hz1, hz2⟩ := info_parts infoInt2
 obtain ⟨j0, hj0, hy0, hy1, hy2⟩ := info_parts infoII
 have H := Lib.hid h
 have hok := h.ok
 have HOK := Lib.hid hok
 have hnn := hok.n2
 have hn1 := hok.n1
 obtain ⟨ad, cd, at1, ct, ab, cb, rfl, rfl, rfl⟩ := h.slices
 have hmk := mk_bools S.deps.length (by omega)
 clear h hok
 go_enter Try.func76, Try.ntmps76
 go_upto_region 1 with (fail)
 have hx0 : Ext No W (W.alloc (.cells #[.int .i64 (S.w : Int), .slice ad S.deps.length cd, .slice at1 S.deps.length ct, .slice ab S.deps.length cb] 29)) := (Ext.refl _ _).alloc _
 have HA := Lib.hid (alloc_top (w := W) (o := (.cells #[.int .i64 (S.w : Int), .slice ad S.deps.length cd, .slice at1 S.deps.length ct, .slice ab S.deps.length cb] 29)) rfl)
 generalize (W.alloc (.cells #[.int .i64 (S.w : Int), .slice ad S.deps.length cd, .slice at1 S.deps.length ct, .slice ab S.deps.length cb] 29)) = w1 at *
 generalize W.heap.size = A at *
 have cA := cellOf HA.out
 go_wp2_with fail
 refine (rcomps_any No S _ _ _ w1 (fun _ x => x.elim) (H.out.extNo hx0)).mono ?_
 rintro e1 V ⟨gl, ac, cc, hgl, hgo, rfl, hIc, hx1⟩
 obtain ⟨bc, oc, rfl, hcc⟩ := c_cell hIc.out hgl hn1
 obtain ⟨g, hg⟩ : ∃ g, g = rowD gl := ⟨_, rfl⟩
 rw [← hg] at hgo hcc
 have HCC := Lib.hid hcc
 have HGO := Lib.hid hgo.out
 have HAV := Lib.hid (hx1.blk HA.out no_no)
 have HSV := Lib.hid ((H.out.extNo hx0).extNo hx1)
 have HXV := Lib.hid (hx0.transNo hx1)
 have MB := Lib.hid (show BlkF (V.alloc (.cells (rowF S.deps.length (fun _ => .bool false)) 4)) V.heap.size 4 S.deps.length (fun i => .bool ((fun _ => false : Nat → Bool) i)) from blk_made)
 have hxm : Ext No V (V.alloc (.cells (rowF S.deps.length (fun _ => .bool false)) 4)) := (Ext.refl _ _).alloc _
 clear cA H HA hx0 hx1 hcc hgo hIc hgl hg
 go_upto_region 5 with (fail)
 clear hmk
 have hsz4 := hxm.size
 have hbl4 := lt_of_block MB.out
 generalize (V.alloc (.cells (rowF S.deps.length (fun _ => .bool false)) 4)) = w4 at *
 obtain ⟨bD, hbD⟩ : ∃ bD, bD = V.heap.size := ⟨_, rfl⟩
 rw [← hbD] at MB hbl4 ⊢
 obtain ⟨P, hP⟩ : ∃ P, P = w4.heap.size := ⟨_, rfl⟩
 have hu0 : undone S g (fun _ => false) ≤ S.deps.length := Nat.le_trans (List.length_filter_le _ _) (by simp)
 have hst := Lib.hid (show RoSt S g V w4 bD P 0 (fun _ => false) (.slice none 0 0) [] from ⟨⟨hxm, MB.out, LOwn.nil _ _ _ _, ⟨by omega, by omega⟩, by omega⟩, rfl, by omega, rfl, rfl, fun r' h => absurd h (Nat.not_lt_zero _)⟩)
 clear hxm MB hbl4 hbD hsz4 hP hu0
 go_wp2_with fail
 go_loopg [7, 8, 9, 10, 11, 12, 13, 14] (undone S g (fun _ => false) + 1) (fun q s7 s8 _ _ _ _ _ _ wr => ∃ (r : Nat) (b : Bool) (D : Nat → Bool) (Ld : LD), s8 = .bool b ∧ q = undone S g D + (if b then 1 else 0) ∧ Hid (RoSt S g V wr bD P r D s7 Ld) ∧ Hid (b = false → firstI S g D = none))
 case atStart => exact ⟨0, true, fun _ => false, [], rfl, by simp, hst, Lib.hid (fun h => by cases h)⟩
 case round =>
  clear hst
  obtain ⟨r, b, D, Ld, rfl, hq, hst, hfin⟩ := hrel
  rename World => wr
  cases b with
  | false =>
   obtain ⟨ao, co, hvo⟩ := hst.out.m.out.slice
   subst hvo
   have HFIN := Lib.hid (hfin.out rfl)
   clear hfin
   go_wp2_with fail
   refine ret_ex rfl ?_
   simp [results, Try.results76, go_sem]
   exact ⟨g, r, ao, co, Ld, HGO.out, ⟨by rw [← hst.out.d]; exact HFIN.out, hst.out.go⟩, rfl, Lib.hid hst.out.ld, Lib.hid (hst.out.m.out.list2 (M := No) (fun _ _ x => x) (fun _ x => x.elim)), by have h1 := hst.out.len; have h2 := hst.out.bd; omega, HXV.out.transNo hst.out.m.ext⟩
  | true =>
   have HQ := Lib.hid hq
   clear hq hfin
   go_wp2_with fail
   go_loopw [7, 8, 9, 10, 11, 12, 13, 14] (fun s7 s8 i _ _ _ _ _ wx => ∃ (n : Nat) (b' : Bool) (r' : Nat) (D' : Nat → Bool) (Ld' : LD), s8 = .bool b' ∧ i = .int .i64 n ∧ n ≤ S.deps.length ∧ Hid (RoSt S g V wx bD P r' D' s7 Ld') ∧ Hid (b' = false → D' = D ∧ ∀ m, m < n → g m = m → goodB S g D' m = false) ∧ Hid (b' = true → undone S g D' < undone S g D)) (fun _ _ i _ _ _ _ _ _ => S.deps.length - (intOf i).toNat)
   case atStart => exact ⟨0, false, r, D, Ld, rfl, rfl, Nat.zero_le _, hst, Lib.hid (fun _ => ⟨rfl, fun m hm => absurd hm (Nat.not_lt_zero _)⟩), Lib.hid (fun h => by cases h)⟩
   case round =>
    clear hst
    obtain ⟨n, b', r', D', Ld', rfl, rfl, hn, hst', hA, hB⟩ := hrel
    rename World => wx
    obtain ⟨ao, co, hvo⟩ := hst'.out.m.out.slice
    obtain ⟨nl, hnl⟩ : ∃ nl, nl = Ld'.length := ⟨_, rfl⟩
    rw [← hnl] at hvo
    have HNL := Lib.hid hnl
    have hlb := hst'.out.len
    have hbd := hst'.out.bd
    subst hvo
    clear hnl
    by_cases hlt : n < S.deps.length
    ·have hlz : (n : Int) < (S.deps.length : Int) := by omega
     cases b' with
     | true =>
      have HBB := Lib.hid (hB.out rfl)
      clear hA hB
      go_wp2_with fail
      go_roundg (undone S g D' + 1)
      case rel => exact ⟨r', true, D', Ld', rfl, by simp, hst', Lib.hid (fun h => by cases h)⟩
      case measure => rw [HQ.out]; have := HBB.out; simp; omega
     | false =>
      have HNN : Hid (Value.int .i64 ((n : Int) + 1) = .int .i64 ((n + 1 : Nat) : Int)) := Lib.hid (by rw [show ((n + 1 : Nat) : Int) = (n : Int) + 1 from by omega])
      have HAA := Lib.hid (hA.out rfl)
      clear hA hB
      have q0 := hst'.out.m.ext.keep (HCC.out n hlt)
      have qD := hst'.out.m.db.cell hlt
      by_cases hgn : g n = n
      ·have hg1 : ((g n : Int) != (n : Int)) = false := by simp [hgn]
       have hg2 : (g n : Int) = (n : Int) := by omega
       have HGN := Lib.hid hgn
       clear hgn
       obtain ⟨dv, hdv⟩ : ∃ dv, dv = D' n := ⟨_, rfl⟩
       rw [← hdv] at qD
       have HDV := Lib.hid hdv
       clear hdv
       cases dv with
       | true =>
        go_wp2_with fail
        clear q0 qD
        go_roundw
        case rel => exact ⟨n + 1, false, r', D', Ld', rfl, HNN.out, by omega, hst', Lib.hid (fun _ => ⟨HAA.out.1, fun m hm hgm => by
         rcases Nat.lt_or_ge m n with h2 | h2
         ·exact HAA.out.2 m h2 hgm
         ·obtain rfl : m = n := by omega
          simp [goodB, ← HDV.out]⟩), Lib.hid (fun h => by cases h)⟩
        case measure => simp [intOf]; omega
       | false =>
        go_wp2_with fail
        clear q0 qD
        go_loopw [10, 11, 12, 13, 14] (fun s10 s11 i _ _ wy => ∃ m : Nat, i = .int .i64 m ∧ m ≤ S.deps.length ∧ s11 = .bool (frB S g D' n m) ∧ Hid (wy.ownsRow wx.heap.size 3 1 s10 (memL g n m).length ((natsZ (memL g n m)).map (.int .i64))) ∧ Hid (Ext No wx wy)) (fun _ _ i _ _ _ => S.deps.length - (intOf i).toNat)
        case atStart => exact ⟨0, rfl, Nat.zero_le _, rfl, Lib.hid (World.ownsRow_nil _ _ _ _), Lib.hid (Ext.refl _ _)⟩
        case round =>
         obtain ⟨m, rfl, hm, rfl, hown, hx⟩ := hrel
         rename World => wy
         obtain ⟨s1, t1, hs11⟩ := (Row.ofOwns (M := No) hown.out (fun _ _ x => x)).slice
         obtain ⟨ml, hml⟩ : ∃ ml, ml = (memL g n m).length := ⟨_, rfl⟩
         rw [← hml] at hs11 hown
         subst hs11
         have hmle : ml ≤ m := by rw [hml]; exact memL_le _ _ _
         have HML := Lib.hid hml
         clear hml
         have hwy := hx.out.size
         by_cases hltm : m < S.deps.length
         ·have hmz : (m : Int) < (S.deps.length : Int) := by omega
          have hm0 : (0 : Int) ≤ (m : Int) := by omega
          have HMM : Hid (Value.int .i64 ((m : Int) + 1) = .int .i64 ((m + 1 : Nat) : Int)) := Lib.hid (by rw [show ((m + 1 : Nat) : Int) = (m : Int) + 1 from by omega])
          have q0 := (hst'.out.m.ext.transNo hx.out).keep (HCC.out m hltm)
          by_cases hgm : g m = n
          ·have hg3 : ((g m : Int) != (n : Int)) = false := by simp [hgm]
           have hg4 : (g m : Int) = (n : Int) := by omega
           have HS := Lib.hid (memL_yes hgm)
           have HFR := Lib.hid (frB_yes (S := S) (D := D') hgm)
           clear hgm
           obtain ⟨fr, hfr⟩ : ∃ fr, fr = frB S g D' n m := ⟨_, rfl⟩
           rw [← hfr] at HFR ⊢
           clear hfr
           go_wp2_with (at_builtin; (refine wpList_app _ rfl (.tmp 61) (.tmp 63) 22 rfl wx.heap.size 3 i0 _ 1 8 Try.underlying22 hi0 hz0 hz1 hz2 rfl (by omega) (.slice s1 ml t1) ml ((natsZ (memL g n m)).map (.int .i64)) rfl (row_keep hown.out ((Ext.refl No _).alloc _) (fun _ _ x => x)) No (some ⟨wy.heap.size, 0, none⟩) 1 1 [.int .i64 (m : Int)] rfl (Row.block (alloc_top rfl) rfl no_no (by omega)) (by simp [Value.oneCell']) (by omega) (by omega) (by simp; omega) ?_); (intro v1 w9 hown1 hg9 hv9); (have hm9 := Lib.hid (own_ext hx.out hg9 (fun b hb => (World.ownsRow.lt hown.out b hb).1) (Nat.le_refl _))); (have ho9 := Lib.hid hown1); (clear hown1 hg9 hv9))
           clear q0
           have HST9 := Lib.hid (hst'.out.stepNo hm9.out)
           obtain ⟨bd, od, kd, aq, cq, hve, gd, hid⟩ := (HSV.out.extNo HST9.out.m.ext).dep hltm
           simp only [Value.slice.injEq] at hve
           obtain ⟨rfl, -, rfl⟩ := hve
           have HDL := Lib.hid (show ∀ x ∈ depD S m, x < S.deps.length from fun x hx => HOK.out.dep hx)
           obtain ⟨d, hd⟩ : ∃ d, d = depD S m := ⟨_, rfl⟩
           rw [← hd] at gd hid HFR HDL
           obtain ⟨dn, hdn⟩ : ∃ dn, dn = d.length := ⟨_, rfl⟩
           rw [← hdn] at gd hid
           have HDN := Lib.hid hdn
           have hdb : dn ≤ 9223372036854775807 := by rw [hdn]; exact IntsN.len hid.out
           have HGD := Lib.hid gd
           clear hd hdn gd
           go_loopw [11, 13, 14] (fun s11 i _ wz => ∃ q : Nat, i = .int .i64 q ∧ q ≤ dn ∧ s11 = .bool (fr && (d.take q).all fun x => !badE g D' n x) ∧ Hid (Ext No w9 wz)) (fun _ i _ _ => dn - (intOf i).toNat)
           case atStart => exact ⟨0, rfl, Nat.zero_le _, by simp, Lib.hid (Ext.refl _ _)⟩
           case round =>
            obtain ⟨q, rfl, hq, rfl, hx3⟩ := hrel
            rename World => wz
            have HSTZ := Lib.hid (HST9.out.stepNo hx3.out)
            have cA := cellOf (HSTZ.out.m.ext.blk HAV.out no_no)
            have gd := hx3.out.keep HGD.out
            by_cases hlt3 : q < dn
            ·have hqz : (q : Int) < (dn : Int) := by omega
             have HQQ : Hid (Value.int .i64 ((q : Int) + 1) = .int .i64 ((q + 1 : Nat) : Int)) := Lib.hid (by rw [show ((q + 1 : Nat) : Int) = (q : Int) + 1 from by omega])
             have hqd : q < d.length := by rw [← HDN.out]; exact hlt3
             obtain ⟨b2, off2, cap2, hsl, hb2, _, hcell⟩ := IntsN.at (Row.extNo hid.out hx3.out) hqd
             rw [← HDN.out] at hsl
             simp only [Value.slice.injEq] at hsl
             obtain ⟨rfl, _, rfl⟩ := hsl
             have q1 := hcell q hqd
             have HTK := Lib.hid (all_take_succ (fun x => !badE g D' n x) hqd)
             obtain ⟨y, hy⟩ : ∃ y, y = d[q] := ⟨_, rfl⟩
             have hyN : y < S.deps.length := HDL.out y (by rw [hy]; exact List.getElem_mem hqd)
             rw [← hy] at q1 HTK
             clear hy hcell hb2
             have hgy := HGO.out.lt HOK.out hyN
             have q2 := HSTZ.out.m.ext.keep (HCC.out y hyN)
             have q3 := HSTZ.out.m.db.cell hgy
             have hy0 : (0 : Int) ≤ (y : Int) := by omega
             have hyz : (y : Int) < (S.deps.length : Int) := by omega
             have hgy0 : (0 : Int) ≤ (g y : Int) := by omega
             have hgyz : (g y : Int) < (S.deps.length : Int) := by omega
             obtain ⟨dv, hdv⟩ : ∃ dv, dv = D' (g y) := ⟨_, rfl⟩
             rw [← hdv] at q3
             have HBE := Lib.hid (show badE g D' n y = ((g y != n) && !dv) from by rw [hdv]; rfl)
             clear hdv
             obtain ⟨fa, hfa⟩ : ∃ fa, fa = (fr && (d.take q).all fun x => !badE g D' n x) := ⟨_, rfl⟩
             rw [← hfa]
             have HFA := Lib.hid hfa
             clear hfa
             cases fa with
             | false =>
              go_wp2_with fail
              clear cA gd q1 q2 q3
              go_roundw
              case rel => exact ⟨q + 1, HQQ.out, by omega, by rw [HTK.out, ← Bool.and_assoc, ← HFA.out]; rfl, hx3⟩
              case measure => simp [intOf]; omega
             | true =>
              by_cases hgyn : g y = n
              ·have hg5 : ((g y : Int) == (n : Int)) = true := by simp [hgyn]
               have hg6 : (g y : Int) = (n : Int) := by omega
               have HBE2 := Lib.hid (show badE g D' n y = false from by rw [HBE.out]; simp [hgyn])
               clear hgyn
               go_wp2_with fail
               clear cA gd q1 q2 q3
               go_roundw
               case rel => exact ⟨q + 1, HQQ.out, by omega, by rw [HTK.out, ← Bool.and_assoc, ← HFA.out, HBE2.out]; rfl, hx3⟩
               case measure => simp [intOf]; omega
              ·have hg5 : ((g y : Int) == (n : Int)) = false := by simp; omega
               have hg6 : ¬ (g y : Int) = (n : Int) := by omega
               have HBE2 := Lib.hid (show badE g D' n y = !dv from by rw [HBE.out]; simp [hgyn])
               clear hgyn
               go_wp2_with fail
               clear cA gd q1 q2 q3
               go_roundw
               case rel => exact ⟨q + 1, HQQ.out, by omega, by rw [HTK.out, ← Bool.and_assoc, ← HFA.out, HBE2.out]; simp, hx3⟩
               case measure => simp [intOf]; omega
            ·have hge3 : ¬ (q : Int) < (dn : Int) := by omega
             have HQD := Lib.hid (show d.take q = d from by rw [show q = d.length from by rw [← HDN.out]; omega, List.take_length])
             go_wp2_with fail
             clear cA gd
             go_roundw
             case rel => exact ⟨m + 1, HMM.out, by omega, by rw [HQD.out, HFR.out], Lib.hid (by
              have h := row_keep ho9.out hx3.out (fun _ _ x => x)
              rw [HS.out, List.length_append, ← HML.out, show natsZ (memL g n m ++ [m]) = natsZ (memL g n m) ++ [(m : Int)] from by simp [natsZ], List.map_append]
              exact h), Lib.hid (hm9.out.transNo hx3.out)⟩
             case measure => simp [intOf]; omega
          ·have hg3 : ((g m : Int) != (n : Int)) = true := by simp; omega
           have hg4 : ¬ ((g m : Int) = (n : Int)) := by omega
           have HS := Lib.hid (memL_no hgm)
           have HFR := Lib.hid (frB_no (S := S) (D := D') hgm)
           clear hgm
           go_wp2_with fail
           clear q0
           go_roundw
           case rel => exact ⟨m + 1, HMM.out, by omega, by rw [HFR.out], Lib.hid (by rw [HS.out, ← HML.out]; exact hown.out), hx⟩
           case measure => simp [intOf]; omega
         ·have hgem : ¬ (m : Int) < (S.deps.length : Int) := by omega
          obtain rfl : m = S.deps.length := by omega
          have HSTY := Lib.hid (hst'.out.stepNo hx.out)
          obtain ⟨fr, hfr⟩ : ∃ fr, fr = frB S g D' n S.deps.length := ⟨_, rfl⟩
          rw [← hfr]
          have HGB := Lib.hid (show goodB S g D' n = fr from by rw [hfr, frB_all]; simp [goodB, ← HDV.out])
          clear hfr
          cases fr with
          | false =>
           go_wp2_with fail
           go_roundw
           case rel => exact ⟨n + 1, false, r', D', Ld', rfl, HNN.out, by omega, HSTY, Lib.hid (fun _ => ⟨HAA.out.1, fun k hk hgk => by
            rcases Nat.lt_or_ge k n with h2 | h2
            ·exact HAA.out.2 k h2 hgk
            ·obtain rfl : k = n := by omega
             exact HGB.out⟩), Lib.hid (fun h => by cases h)⟩
           case measure => simp [intOf]; omega
          | true =>
           have hn0 : (0 : Int) ≤ (n : Int) := by omega
           have qD := HSTY.out.m.db.cell hlt
           have fD := HSTY.out.m.db.free n
           have hPy := HSTY.out.m.top
           have hlo := HSTY.out.m.lo
           have hIA := Lib.hid (show Ints (fun b => At bD b ∨ (Value.slice ao nl co).ownBlock = some b) wy .i64 (.slice s1 ml t1) (natsZ (memL g n S.deps.length)) from by
            have h1 := Row.ofOwns (M := fun b => At bD b ∨ (Value.slice ao nl co).ownBlock = some b) hown.out (fun b hb e => by
             have hPx := hst'.out.m.top
             rcases e with e | e
             ·unfold At at e; omega
             ·have := (hst'.out.m.out.lt b e).2; omega)
            unfold Ints
            rw [nats_len, ← HML.out]
            exact h1)
           have hmk1 := Lib.hid (HSTY.out.m.mark n)
           have hxs : Ext (At bD) wy (wy.setCell ⟨bD, n, none⟩ (.bool true)) := (Ext.refl _ _).setAt _ _
           have hIS := Lib.hid (Row.ext hIA.out hxs (fun i _ e => .inl e))
           go_upto_region 27 with (fail)
           clear qD fD hxs
           generalize (wy.setCell ⟨bD, n, none⟩ (.bool true)) = ws at *
           have hPs := hmk1.out.top
           have hnl2 : nl ≤ S.deps.length := by rw [HNL.out]; omega
           have hOW := Lib.hid (show ws.ownsRow P 22 1 (.slice ao nl co) nl (Ld'.flatMap kD.cells) from by have h := hmk1.out.out.own; rw [← HNL.out] at h; exact h)
           have hxa : Ext No ws (ws.alloc (.cells #[.slice s1 ml t1] 22)) := (Ext.refl _ _).alloc _
           go_wp2_with (at_builtin; (refine wpList_app _ rfl (.tmp 102) (.tmp 104) 25 rfl P 22 j0 _ 1 24 Try.underlying25 hj0 hy0 hy1 hy2 rfl (by omega) (.slice ao nl co) nl (Ld'.flatMap kD.cells) rfl (row_keep hOW.out hxa (fun _ _ x => x)) No (some ⟨ws.heap.size, 0, none⟩) 1 1 [.slice s1 ml t1] rfl (Row.block (alloc_top rfl) rfl no_no (by omega)) (by simp [Value.oneCell']) (by omega) (by omega) (by simp; omega) ?_); (intro v1 w9 hown1 hg9 hv9); (have hmB := Lib.hid ((hmk1.out.stepNo hxa).push (Row.extNo hIS.out hxa) (by have e := HNL.out; subst e; exact hown1) hg9 hv9)); (clear hown1 hg9 hv9))
           have HNX := Lib.hid (HSTY.out.next hlt HGN.out (first_rep HOK.out HGO.out hlt HGN.out HGB.out HAA.out.2) HDV.out.symm hmB.out)
           go_roundw
           case rel => exact ⟨n + 1, true, r' + 1, upd D' n true, _, rfl, HNN.out, by omega, Lib.hid HNX.out.1, Lib.hid (fun h => by cases h), Lib.hid (fun _ => by rw [← HAA.out.1]; exact HNX.out.2)⟩
           case measure => simp [intOf]; omega
      ·have hg1 : ((g n : Int) != (n : Int)) = true := by simp; omega
       have hg2 : ¬ (g n : Int) = (n : Int) := by omega
       have HGN := Lib.hid hgn
       clear hgn
       go_wp2_with fail
       clear q0 qD
       go_roundw
       case rel => exact ⟨n + 1, false, r', D', Ld', rfl, HNN.out, by omega, hst', Lib.hid (fun _ => ⟨HAA.out.1, fun m hm hgm => by
        rcases Nat.lt_or_ge m n with h2 | h2
        ·exact HAA.out.2 m h2 hgm
        ·obtain rfl : m = n := by omega
         exact absurd hgm HGN.out⟩), Lib.hid (fun h => by cases h)⟩
       case measure => simp [intOf]; omega
    ·have hge : ¬ (n : Int) < (S.deps.length : Int) := by omega
     have hnN : n = S.deps.length := by omega
     have HNE := Lib.hid hnN
     clear hnN
     cases b' with
     | false =>
      have HNO := Lib.hid (first_no HOK.out HGO.out (fun m hm hgm => (hA.out (by first | rfl | trivial)).2 m (by rw [HNE.out]; exact hm) hgm))
      have HDD := Lib.hid (hA.out (by first | rfl | trivial)).1
      clear hA hB
      go_wp2_with fail
      go_roundg (undone S g D')
      case rel => exact ⟨r', false, D', Ld', rfl, by simp, hst', Lib.hid (fun _ => HNO.out)⟩
      case measure => rw [HDD.out]; rw [HQ.out]; simp
     | true =>
      have HBB := Lib.hid (hB.out (by first | rfl | trivial))
      clear hA hB
      go_wp2_with fail
      go_roundg (undone S g D' + 1)
      case rel => exact ⟨r', true, D', Ld', rfl, by simp, hst', Lib.hid (fun h => by cases h)⟩
      case measure => rw [HQ.out]; have := HBB.out; simp; omega
end Go.Proofs.Ytkdjdhflhlbelaa

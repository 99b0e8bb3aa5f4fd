/- agrees: both sides' components, order and solution by components agree, for any system. -/
import Derived.Test.YtkdjdhflhlbelaaK25
import Derived.Test.YtkdjdhflhlbelaaK20
import Derived.Test.YtkdjdhflhlbelaaK11
set_option linter.unusedVariables false
set_option linter.unusedSimpArgs false
namespace Go.Proofs.Ytkdjdhflhlbelaa
open Go Go.RowKit Tj
def IntsR (E : Int) (P : List Nat → Prop) (W : World) (e : Ending) (w' : World) : Prop := ∃ v l, Hid (P l) ∧ e = .returned (.tuple #[v, .int .i64 E]) ∧ Hid (Ints No w' .i64 v (natsZ l)) ∧ Ext No W w'
def ListsR (E : Int) (Q : List (List Nat) → Prop) (W : World) (e : Ending) (w' : World) : Prop := ∃ v D L, Hid (Q L) ∧ e = .returned (.tuple #[v, .int .i64 E]) ∧ Hid (D.map Prod.fst = L.map natsZ) ∧ Hid (LAt kD No w' v D) ∧ Ext No W w'
def SolR (E : Int) (wd : Nat) (T : List Nat → Nat → Prop) (W : World) (e : Ending) (w' : World) : Prop := ∃ v us n, Hid (T us n ∧ us.length ≤ 1048576) ∧ e = .returned (.tuple #[v, .int .i64 (n : Int), .int .i64 E]) ∧ Hid (SetsV No w' v wd us) ∧ Ext No W w'
set_option maxRecDepth 100000 in
set_option maxHeartbeats 4000000 in
theorem agrees_of (x E : Int) (P : List Nat → Prop) (Q : List (List Nat) → Prop) (wd : Nat) (T : List Nat → Nat → Prop) (ad at1 ab : Option Addr) (nd cd nt ct nb cb : Nat) (W : World) (hP : ∀ l l', P l → P l' → l = l') (hQ : ∀ l l', Q l → Q l' → l = l') (hT : ∀ u n u' n', T u n → T u' n' → u = u' ∧ n = n')
  (h1 : (∀ w', Ext No W w' → Calls Try.prog 74 #[.agg #[.int .i64 x, .slice ad nd cd, .slice at1 nt ct, .slice ab nb cb]] w' (IntsR E P w'))) (h2 : (∀ w', Ext No W w' → Calls Try.prog 75 #[.agg #[.int .i64 x, .slice ad nd cd, .slice at1 nt ct, .slice ab nb cb]] w' (IntsR E P w'))) (h3 : (∀ w', Ext No W w' → Calls Try.prog 36 #[.agg #[.int .i64 x, .slice ad nd cd, .slice at1 nt ct, .slice ab nb cb]] w' (ListsR E Q w'))) (h4 : (∀ w', Ext No W w' → Calls Try.prog 76 #[.agg #[.int .i64 x, .slice ad nd cd, .slice at1 nt ct, .slice ab nb cb]] w' (ListsR E Q w'))) (h5 : (∀ w', Ext No W w' → Calls Try.prog 38 #[.agg #[.int .i64 x, .slice ad nd cd, .slice at1 nt ct, .slice ab nb cb]] w' (SolR E wd T w'))) (h6 : (∀ w', Ext No W w' → Calls Try.prog 77 #[.agg #[.int .i64 x, .slice ad nd cd, .slice at1 nt ct, .slice ab nb cb]] w' (SolR E wd T w'))) :
  Calls Try.prog 34 #[.agg #[.int .i64 x, .slice ad nd cd, .slice at1 nt ct, .slice ab nb cb]] W (BoolPost true W) := by
 have H1 := Lib.hid h1
 have H2 := Lib.hid h2
 have H3 := Lib.hid h3
 have H4 := Lib.hid h4
 have H5 := Lib.hid h5
 have H6 := Lib.hid h6
 clear h1 h2 h3 h4 h5 h6
 have HP := Lib.hid hP
 have HQ := Lib.hid hQ
 have HT := Lib.hid hT
 clear hP hQ hT
 go_enter Try.func34, Try.ntmps34
 go_upto_region 1 with (fail)
 have hx0 : Ext No W (W.alloc (.cells #[.int .i64 x, .slice ad nd cd, .slice at1 nt ct, .slice ab nb cb] 29)) := (Ext.refl _ _).alloc _
 have HA0 := Lib.hid (alloc_top (w := W) (o := (.cells #[.int .i64 x, .slice ad nd cd, .slice at1 nt ct, .slice ab nb cb] 29)) rfl)
 have HX0 := Lib.hid hx0
 clear hx0
 generalize (W.alloc (.cells #[.int .i64 x, .slice ad nd cd, .slice at1 nt ct, .slice ab nb cb] 29)) = w0 at *
 have cA := cellOf HA0.out
 go_wp2_with fail
 refine (H1.out _ HX0.out).mono ?_
 rintro e1 w1 ⟨v1, l1, hp1, rfl, hu, hx⟩
 clear cA
 skip
 have HA1 := Lib.hid (hx.blk HA0.out no_no)
 have HX1 := Lib.hid (HX0.out.transNo hx)
 have HU1 := hu
 clear hx hu HA0 HX0
 have cA := cellOf HA1.out
 go_wp2_with fail
 refine (H2.out _ HX1.out).mono ?_
 rintro e2 w2 ⟨v2, l2, hp2, rfl, hu, hx⟩
 clear cA
 obtain rfl := HP.out _ _ hp1.out hp2.out
 have HA2 := Lib.hid (hx.blk HA1.out no_no)
 have HX2 := Lib.hid (HX1.out.transNo hx)
 have HU2 := hu
 replace HU1 := Lib.hid (HU1.out.extNo hx)
 clear hx hu HA1 HX1
 have cA := cellOf HA2.out
 go_wp2_with fail
 refine (H3.out _ HX2.out).mono ?_
 rintro e3 w3 ⟨v3, D3, L3, hp3, rfl, hd, hu, hx⟩
 clear cA
 skip
 have HA3 := Lib.hid (hx.blk HA2.out no_no)
 have HX3 := Lib.hid (HX2.out.transNo hx)
 have HU3 := hu
 have HD3 := hd
 clear hd
 replace HU1 := Lib.hid (HU1.out.extNo hx)
 replace HU2 := Lib.hid (HU2.out.extNo hx)
 clear hx hu HA2 HX2
 have cA := cellOf HA3.out
 go_wp2_with fail
 refine (H4.out _ HX3.out).mono ?_
 rintro e4 w4 ⟨v4, D4, L4, hp4, rfl, hd, hu, hx⟩
 clear cA
 obtain rfl := HQ.out _ _ hp3.out hp4.out
 have HA4 := Lib.hid (hx.blk HA3.out no_no)
 have HX4 := Lib.hid (HX3.out.transNo hx)
 have HU4 := hu
 have HD4 := hd
 clear hd
 replace HU1 := Lib.hid (HU1.out.extNo hx)
 replace HU2 := Lib.hid (HU2.out.extNo hx)
 replace HU3 := Lib.hid (HU3.out.extNo hx)
 clear hx hu HA3 HX3
 have cA := cellOf HA4.out
 go_wp2_with fail
 refine (H5.out _ HX4.out).mono ?_
 rintro e5 w5 ⟨v5, us5, n5, hp5, rfl, hu, hx⟩
 clear cA
 skip
 have HA5 := Lib.hid (hx.blk HA4.out no_no)
 have HX5 := Lib.hid (HX4.out.transNo hx)
 have HU5 := hu
 replace HU1 := Lib.hid (HU1.out.extNo hx)
 replace HU2 := Lib.hid (HU2.out.extNo hx)
 replace HU3 := Lib.hid (HU3.out.extNo hx)
 replace HU4 := Lib.hid (HU4.out.extNo hx)
 clear hx hu HA4 HX4
 have cA := cellOf HA5.out
 go_wp2_with fail
 refine (H6.out _ HX5.out).mono ?_
 rintro e6 w6 ⟨v6, us6, n6, hp6, rfl, hu, hx⟩
 clear cA
 obtain ⟨rfl, rfl⟩ := HT.out _ _ _ _ hp5.out.1 hp6.out.1
 have HA6 := Lib.hid (hx.blk HA5.out no_no)
 have HX6 := Lib.hid (HX5.out.transNo hx)
 have HU6 := hu
 replace HU1 := Lib.hid (HU1.out.extNo hx)
 replace HU2 := Lib.hid (HU2.out.extNo hx)
 replace HU3 := Lib.hid (HU3.out.extNo hx)
 replace HU4 := Lib.hid (HU4.out.extNo hx)
 replace HU5 := Lib.hid (HU5.out.extNo hx)
 clear hx hu HA5 HX5
 go_wp2_with fail
 refine (rints_any _ _ l1 l1 _ HU1.out HU2.out).mono ?_
 rintro e7 w7 ⟨rfl, hx7⟩
 rw [decide_eq_true rfl]
 go_wp2_with fail
 refine (rsameLists_any _ _ L3 L3 _ _ _ (HU3.out.extNo hx7) HD3.out (HU4.out.extNo hx7) HD4.out).mono ?_
 rintro e8 w8 ⟨rfl, hx8⟩
 rw [decide_eq_true rfl]
 go_wp2_with fail
 refine (rsameSets_any wd us5 us5 _ _ _ ((HU5.out.extNo hx7).extNo hx8) ((HU6.out.extNo hx7).extNo hx8) hp5.out.2).mono ?_
 rintro e9 w9 ⟨rfl, hx9⟩
 rw [decide_eq_true rfl]
 go_wp2_with fail
 refine ret_ex rfl ?_
 simp [results, Try.results34, go_sem]
 exact ⟨rfl, ((HX6.out.transNo hx7).transNo hx8).transNo hx9⟩
theorem IntsR.err {E : Int} {W w' : World} {e : Ending} (h : ErrPost (.slice none 0 0) E W e w') : IntsR E (fun l => l = []) W e w' := by
 obtain ⟨rfl, hx⟩ := h
 exact ⟨_, [], Lib.hid rfl, rfl, Lib.hid (Row.nil _ _ _ _ _ (Nat.zero_le _)), hx⟩
theorem ListsR.err {E : Int} {W w' : World} {e : Ending} (h : ErrPost (.slice none 0 0) E W e w') : ListsR E (fun l => l = []) W e w' := by
 obtain ⟨rfl, hx⟩ := h
 exact ⟨_, [], [], Lib.hid rfl, rfl, Lib.hid rfl, Lib.hid (LAt.nil _ _ (Nat.zero_le _)), hx⟩
theorem SolR.err {E : Int} {W w' : World} {e : Ending} (h : e = .returned (.tuple #[.slice none 0 0, .int .i64 0, .int .i64 E]) ∧ Ext No W w') : SolR E 0 (fun l n => l = [] ∧ n = 0) W e w' := by
 obtain ⟨rfl, hx⟩ := h
 exact ⟨_, [], 0, Lib.hid ⟨⟨rfl, rfl⟩, Nat.zero_le _⟩, rfl, Lib.hid (LAt.setsV (L := []) (LAt.nil _ _ (Nat.zero_le _)) rfl (Nat.zero_le _) (fun m hm => by cases hm)), hx⟩
/-- the components, as a list -/
def CompL (S : SysD) (l : List Nat) : Prop := l.length = S.deps.length ∧ GOk S (rowD l)
theorem CompL.uniq {S : SysD} {l l' : List Nat} (h : CompL S l) (k : CompL S l') : l = l' := by
 refine List.ext_getElem (by rw [h.1, k.1]) (fun i h1 h2 => ?_)
 have e := h.2.eq k.2 i (by rw [← h.1]; exact h1)
 rwa [rowD_get h1, rowD_get h2] at e
theorem compL_map {S : SysD} {g : Nat → Nat} (h : GOk S g) : CompL S ((List.range S.deps.length).map g) := by
 refine ⟨by simp, fun x hx => ?_⟩
 rw [rowD_get (by simpa using hx), List.getElem_map, List.getElem_range]
 exact h x hx
def OrdL (S : SysD) (L : List (List Nat)) : Prop := ∃ g R, GOk S g ∧ OrdAt S g R ∧ L = (ordS S g R).2
theorem OrdL.uniq {S : SysD} (hS : SysOk S) {l l' : List (List Nat)} (h : OrdL S l) (k : OrdL S l') : l = l' := by
 obtain ⟨g, R, h1, h2, rfl⟩ := h
 obtain ⟨g', R', k1, k2, rfl⟩ := k
 exact ord_uniq hS h1 k1 h2 k2
def SolL (S : SysD) (vs : List Nat) (n : Nat) : Prop := ∃ L, OrdL S L ∧ SRun S L L.length vs n
theorem SolL.uniq {S : SysD} (hS : SysOk S) {u u' : List Nat} {n n' : Nat} (h : SolL S u n) (k : SolL S u' n') : u = u' ∧ n = n' := by
 obtain ⟨L, h1, h2⟩ := h
 obtain ⟨L', k1, k2⟩ := k
 obtain rfl := h1.uniq hS k1
 exact h2.uniq k2
theorem IntsR.of {S : SysD} (hS : SysOk S) {W w' : World} {e : Ending} (h : OfPost S W e w') : IntsR 0 (CompL S) W e w' := by
 obtain ⟨bo, f, rfl, -, hb, hc, hx⟩ := h
 have hg : GOk S (fun x => (f x).toNat) := fun x hx => by
  have h1 := hc.out x hx
  obtain ⟨k, e, h2⟩ := h1
  exact ⟨k, by show (((f x).toNat : Nat) : Int) = k; omega, h2⟩
 have h2 : BlkF w' bo 3 S.deps.length (fun i => .int .i64 (((f i).toNat : Nat) : Int)) := by
  have e : (List.range S.deps.length).map (fun i => Value.int .i64 (f i)) = (List.range S.deps.length).map (fun i => Value.int .i64 (((f i).toNat : Nat) : Int)) := by
   refine List.map_congr_left (fun i hi => ?_)
   obtain ⟨k, e, -⟩ := hc.out i (List.mem_range.1 hi)
   rw [e]; rfl
  have h3 := hb.out
  unfold BlkF at h3 ⊢
  rw [← e]; exact h3
 exact ⟨_, _, Lib.hid (compL_map hg), rfl, Lib.hid (h2.ints (by have := hS.n2; omega)), hx⟩
theorem IntsR.ref {S : SysD} {W w' : World} {e : Ending} (h : RCmpPost No S W e w') : IntsR 0 (CompL S) W e w' := by
 obtain ⟨gl, a, c, hl, hg, rfl, hi, hx⟩ := h
 exact ⟨_, gl, Lib.hid ⟨hl, hg.out⟩, rfl, hi, hx⟩
theorem ListsR.ord {S : SysD} {W w' : World} {e : Ending} (h : OrdPost S W e w') : ListsR 0 (OrdL S) W e w' := by
 obtain ⟨g, R, a, c, D, hg, ho, rfl, hd, hl, -, hx⟩ := h
 exact ⟨_, D, _, Lib.hid ⟨g, R, hg, ho, rfl⟩, rfl, hd, hl, hx⟩
theorem SolR.sol {S : SysD} (hS : SysOk S) {W w' : World} {e : Ending} (h : CSolvePost No S W e w') : SolR 0 S.w (SolL S) W e w' := by
 obtain ⟨g, R, vs, n, a, c, hg, ho, hr, rfl, hs, hx⟩ := h
 have hn2 := hS.n2
 obtain ⟨a1, c1, e⟩ := hs.out.slice
 simp only [Value.slice.injEq] at e
 exact ⟨_, vs, n, Lib.hid ⟨⟨_, ⟨g, R, hg, ho, rfl⟩, hr.out⟩, by omega⟩, rfl, hs, hx⟩
theorem agrees12_any (x : Int) (vd vt vb : Value) (Ld : LD) (Lt : LT) (Lb : LS) (W : World) (h : YAt No W vd vt vb Ld Lt Lb) :
  Calls Try.prog 34 #[.agg #[.int .i64 x, vd, vt, vb]] W (BoolPost true W) := by
 have h0 := h
 by_cases hV : VS x Ld Lt Lb
 ·obtain ⟨S, rfl, hS, hSl⟩ := hV.sys h
  obtain ⟨ad, cd, at1, ct, ab, cb, rfl, rfl, rfl⟩ := hS.slices
  have hok := hS.ok
  refine agrees_of (S.w : Int) 0 (CompL S) (OrdL S) S.w (SolL S) ad at1 ab _ cd _ ct _ cb W (fun _ _ h k => h.uniq k) (fun _ _ h k => h.uniq hok k) (fun _ _ _ _ h k => h.uniq hok k) ?_ ?_ ?_ ?_ ?_ ?_
  ·exact fun w' hx => (cof_any S _ _ _ w' (hS.extNo hx)).mono (fun _ _ h => IntsR.of hok h)
  ·exact fun w' hx => (rcomps_any No S _ _ _ w' (fun _ e => e.elim) (hS.extNo hx)).mono (fun _ _ h => IntsR.ref h)
  ·exact fun w' hx => (order_any S _ _ _ w' (hS.extNo hx)).mono (fun _ _ h => ListsR.ord h)
  ·exact fun w' hx => (rorder_any S _ _ _ w' (hS.extNo hx)).mono (fun _ _ h => ListsR.ord h)
  ·exact fun w' hx => (csolve_any S _ _ _ w' (hS.extNo hx)).mono (fun _ _ h => SolR.sol hok h)
  ·exact fun w' hx => (rcsolve_any S _ _ _ w' (hS.extNo hx)).mono (fun _ _ h => SolR.sol hok h)
 ·obtain ⟨ad, cd, rfl⟩ := h.d.slice
  obtain ⟨at1, ct, rfl⟩ := h.t.slice
  obtain ⟨ab, cb, rfl⟩ := h.b.slice
  refine agrees_of x 1 (fun l => l = []) (fun l => l = []) 0 (fun l n => l = [] ∧ n = 0) ad at1 ab _ cd _ ct _ cb W (fun _ _ h k => h.trans k.symm) (fun _ _ h k => h.trans k.symm) (fun _ _ _ _ h k => ⟨h.1.trans k.1.symm, h.2.trans k.2.symm⟩) ?_ ?_ ?_ ?_ ?_ ?_
  ·exact fun w' hx => (cof_inv x _ _ _ Ld Lt Lb w' (h0.extNo hx) hV).mono (fun _ _ h => IntsR.err h)
  ·exact fun w' hx => (rcomps_inv x _ _ _ Ld Lt Lb w' (h0.extNo hx) hV).mono (fun _ _ h => IntsR.err h)
  ·exact fun w' hx => (order_inv x _ _ _ Ld Lt Lb w' (h0.extNo hx) hV).mono (fun _ _ h => ListsR.err h)
  ·exact fun w' hx => (rorder_inv x _ _ _ Ld Lt Lb w' (h0.extNo hx) hV).mono (fun _ _ h => ListsR.err h)
  ·exact fun w' hx => (csolve_inv x _ _ _ Ld Lt Lb w' (h0.extNo hx) hV).mono (fun _ _ h => SolR.err h)
  ·exact fun w' hx => (rcsolve_inv x _ _ _ Ld Lt Lb w' (h0.extNo hx) hV).mono (fun _ _ h => SolR.err h)
end Go.Proofs.Ytkdjdhflhlbelaa

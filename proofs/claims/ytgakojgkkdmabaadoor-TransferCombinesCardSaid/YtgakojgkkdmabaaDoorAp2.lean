/- Merged: Ap1 Ap2 -/
import Derived.Test.YtgakojgkkdmabaaDoorSt2
import Derived.Test.YtgakojgkkdmabaaDoorRefC
import Derived.Test.YtgakojgkkdmabaaDoorRefG
import Derived.Test.YtgakojgkkdmabaaDoorTr33
set_option linter.unusedVariables false
set_option linter.unusedSimpArgs false
/- Ap1 -/
namespace Go.Proofs.YtgakojgkkdmabaaDoor
open Go Go.RowKit
/-- the pair of the set q and the error e0 -/
def ResS (M : Nat → Prop) (q : RawSet) (e0 : Int) (W : World) (e : Ending) (w' : World) : Prop :=
 ∃ a c, e = .returned (.tuple #[.agg #[.int .i64 q.width, .slice a q.words.length c], .int .i64 e0]) ∧ Hid (WordsAt M w' (.slice a q.words.length c) q.words) ∧ Ext No W w'
theorem SetEPost.res {M : Nat → Prop} {w m : Nat} {W w' : World} {e : Ending} (h : SetEPost M w m W e w') : ResS M (setN w m) 0 W e w' := by
 obtain ⟨a, c, rfl, h1, hx⟩ := h
 have e1 : (setN w m).words.length = nw w := wordsN_len ..
 refine ⟨a, c, ?_, Lib.hid ?_, hx⟩
 ·rw [e1]; rfl
 ·rw [e1]; exact h1.out.words
end Go.Proofs.YtgakojgkkdmabaaDoor

/- Ap2 -/
namespace Go.Proofs.YtgakojgkkdmabaaDoor
open Go Go.RowKit
set_option maxRecDepth 100000 in
set_option maxHeartbeats 1000000 in
theorem rcanon_no (r : RawT) (g1 k1 c1 : Value) (W : World) (h : RawTAt No W g1 k1 c1 r) (hv : validT r = false) :
  Calls Tryd.prog 37 #[.agg #[.int .i64 r.gen.width, g1, .int .i64 r.kill.width, k1, c1]] W (TrNo 1 W) := by
 have H := Lib.hid h
 have HV := Lib.hid hv
 obtain ⟨ag, ng, cg, rfl⟩ := h.gen.shaped
 obtain ⟨ak, nk, ck, rfl⟩ := h.kill.shaped
 obtain ⟨ac, nc, cc, rfl⟩ := h.copies.shaped
 clear h hv
 go_enter Tryd.func37, Tryd.ntmps37
 go_wp2_with fail
 have hx0 : Ext No W ((W.alloc (.cells #[.int .i64 r.gen.width, .slice ag ng cg, .int .i64 r.kill.width, .slice ak nk ck, .slice ac nc cc] 28)).alloc (.cells #[.int .i64 0, .slice none 0 0, .int .i64 0, .slice none 0 0, .slice none 0 0] 28)) := ((Ext.refl _ _).alloc _).alloc _
 have hC : ((W.alloc (.cells #[.int .i64 r.gen.width, .slice ag ng cg, .int .i64 r.kill.width, .slice ak nk ck, .slice ac nc cc] 28)).alloc (.cells #[.int .i64 0, .slice none 0 0, .int .i64 0, .slice none 0 0, .slice none 0 0] 28)).heap[W.heap.size + 1]? = some (.cells #[.int .i64 0, .slice none 0 0, .int .i64 0, .slice none 0 0, .slice none 0 0] 28 (0, 0)) := alloc_top (by simp)
 generalize ((W.alloc (.cells #[.int .i64 r.gen.width, .slice ag ng cg, .int .i64 r.kill.width, .slice ak nk ck, .slice ac nc cc] 28)).alloc (.cells #[.int .i64 0, .slice none 0 0, .int .i64 0, .slice none 0 0, .slice none 0 0] 28)) = W2 at *
 refine (rvalidT_any r _ _ _ _ (H.out.extNo hx0)).mono ?_
 rintro e1 w1 ⟨rfl, hx1⟩
 rw [HV.out]
 have hC1 := hx1.blk hC no_no
 have hx := Lib.hid (hx0.transNo hx1)
 have cC := cellOf hC1
 have fC := freeOf hC1
 have HC := Lib.hid hC1
 clear hx0 hx1 hC hC1
 go_wp2_with fail
 have hfin := BoxR.fin5 ⟨_, rfl, HC.out⟩ (.int .i64 0) (.slice none 0 0) (.int .i64 0) (.slice none 0 0) (.slice none 0 0)
 have hE := set5 w1 (W.heap.size + 1) (.int .i64 0) (.slice none 0 0) (.int .i64 0) (.slice none 0 0) (.slice none 0 0)
 clear cC fC
 generalize (((((w1.setCell ⟨W.heap.size + 1, 0, none⟩ (.int .i64 0)).setCell ⟨W.heap.size + 1, 1, none⟩ (.slice none 0 0)).setCell ⟨W.heap.size + 1, 2, none⟩ (.int .i64 0)).setCell ⟨W.heap.size + 1, 3, none⟩ (.slice none 0 0)).setCell ⟨W.heap.size + 1, 4, none⟩ (.slice none 0 0)) = WF at *
 have cF := cellOf hfin
 refine ret_ex rfl ?_
 simp [results, Tryd.results37, go_sem, cF]
 exact ⟨rfl, hx.out.trans2 hE (fun i hi e => by unfold At at e; omega)⟩
theorem len_sub {α : Type} [DecidableEq α] : ∀ (l k : List α), l.Pairwise (· ≠ ·) → (∀ x ∈ l, x ∈ k) → l.length ≤ k.length
 | [], _, _, _ => Nat.zero_le _
 | a :: l, k, hp, h => by
  have ha := h a (List.mem_cons_self ..)
  rw [List.pairwise_cons] at hp
  have h2 := len_sub l (k.erase a) hp.2 (fun x hx => (List.mem_erase_of_ne (fun e => hp.1 x hx e.symm)).2 (h x (List.mem_cons_of_mem _ hx)))
  have h3 := List.length_erase_of_mem ha
  have h4 := List.length_pos_of_mem ha
  simp only [List.length_cons]
  omega
theorem canon_len {t : TrD} (ho : TrOk t) : (copTo t.w t.gen (rowsN t t.w t.copies.length) t.w).length ≤ 64 := by
 refine Nat.le_trans (len_sub _ t.copies ((copTo_sorted _ _ _ _).imp (fun h e => ?_)) (fun p hp => ?_)) ho.len
 ·subst e
  unfold ltC at h
  omega
 ·obtain ⟨a, b, ha, rfl, hb, hne, h1, -⟩ := (copTo_mem t.w).1 hp
  rw [rowsN_at ha] at h1
  rcases (rowN_bit ho hb _ (Nat.le_refl _)).1 h1 with h2 | ⟨j, hj, -, h2, h3⟩
  ·exact absurd h2.1 hne
  ·have : t.copies[j] = ((a : Int), (b : Int)) := Prod.ext h2 h3
   rw [← this]
   exact List.getElem_mem hj
set_option maxRecDepth 100000 in
set_option maxHeartbeats 2000000 in
theorem rcanon_any (t : TrD) (g1 k1 c1 : Value) (W : World) (h : TrAt No W g1 k1 c1 t) :
  Calls Tryd.prog 37 #[.agg #[.int .i64 (t.w : Int), g1, .int .i64 (t.w : Int), k1, c1]] W (TrEPost No (canonT t) W) := by
 have H := Lib.hid h
 obtain ⟨ag, cg, rfl⟩ := h.gen.slice
 obtain ⟨ak, ck, rfl⟩ := h.kill.slice
 obtain ⟨ac, cc, rfl⟩ := Row.slice h.copies
 have hw := h.ok.w
 have HO := Lib.hid h.ok
 clear h
 go_enter Tryd.func37, Tryd.ntmps37
 go_wp2_with fail
 have hx0 : Ext No W ((W.alloc (.cells #[.int .i64 (t.w : Int), .slice ag (nw t.w) cg, .int .i64 (t.w : Int), .slice ak (nw t.w) ck, .slice ac t.copies.length cc] 28)).alloc (.cells #[.int .i64 0, .slice none 0 0, .int .i64 0, .slice none 0 0, .slice none 0 0] 28)) := ((Ext.refl _ _).alloc _).alloc _
 have hA : ((W.alloc (.cells #[.int .i64 (t.w : Int), .slice ag (nw t.w) cg, .int .i64 (t.w : Int), .slice ak (nw t.w) ck, .slice ac t.copies.length cc] 28)).alloc (.cells #[.int .i64 0, .slice none 0 0, .int .i64 0, .slice none 0 0, .slice none 0 0] 28)).heap[W.heap.size]? = some (.cells #[.int .i64 (t.w : Int), .slice ag (nw t.w) cg, .int .i64 (t.w : Int), .slice ak (nw t.w) ck, .slice ac t.copies.length cc] 28 (0, 0)) := alloc_under (alloc_top rfl)
 have hC : ((W.alloc (.cells #[.int .i64 (t.w : Int), .slice ag (nw t.w) cg, .int .i64 (t.w : Int), .slice ak (nw t.w) ck, .slice ac t.copies.length cc] 28)).alloc (.cells #[.int .i64 0, .slice none 0 0, .int .i64 0, .slice none 0 0, .slice none 0 0] 28)).heap[W.heap.size + 1]? = some (.cells #[.int .i64 0, .slice none 0 0, .int .i64 0, .slice none 0 0, .slice none 0 0] 28 (0, 0)) := alloc_top (by simp)
 generalize ((W.alloc (.cells #[.int .i64 (t.w : Int), .slice ag (nw t.w) cg, .int .i64 (t.w : Int), .slice ak (nw t.w) ck, .slice ac t.copies.length cc] 28)).alloc (.cells #[.int .i64 0, .slice none 0 0, .int .i64 0, .slice none 0 0, .slice none 0 0] 28)) = W2 at *
 refine (rvalidTr_any t _ _ _ _ _ rfl (H.out.extNo hx0)).mono ?_
 rintro e1 w1 ⟨rfl, hx1⟩
 have hx := Lib.hid (hx0.transNo hx1)
 have HA := Lib.hid (hx1.blk hA no_no)
 have HC := Lib.hid (hx1.blk hC no_no)
 have HR1 := Lib.hid (((H.out.mono (M' := fun b => b = W.heap.size + 1) (fun i hi e => by omega)).extNo hx0).extNo hx1)
 clear hx0 hx1 hA hC
 have cA := cellOf HA.out
 go_wp2_with fail
 refine (rtable_any (fun b => b = W.heap.size + 1) t _ _ _ _ (fun b hb => by subst hb; exact lt_of_block HC.out) HR1.out).mono ?_
 rintro e2 w2 ⟨a2, c2, b2, d2, rfl, hrows, hx2⟩
 have HX2 := Lib.hid (hx.out.transNo hx2)
 have HC2 := Lib.hid (hx2.blk HC.out no_no)
 have HRO := Lib.hid hrows.out
 clear hx2 HC hrows cA HA hx HR1
 go_wp2_with fail
 refine (rfunction_any (fun b => b = W.heap.size + 1) t.w t.gen (tabT t) _ _ _ (fun b hb => by subst hb; exact lt_of_block HC2.out) HRO.out.set HRO.out.sets.no (tabTo_len _ _)).mono ?_
 rintro e3 w3 ⟨bg, dg, bk, dk, bc, n, dc, rfl, hn, hs, hx3⟩
 have hV : Ext No w3 (w3.alloc (.cells #[.int .i64 (t.w : Int), .slice bg (nw t.w) dg, .int .i64 (t.w : Int), .slice bk (nw t.w) dk, .slice bc n dc] 28)) := (Ext.refl _ _).alloc _
 have hC4 := hV.blk (hx3.blk HC2.out no_no) no_no
 have hD4 := alloc_top (w := w3) (o := (.cells #[.int .i64 (t.w : Int), .slice bg (nw t.w) dg, .int .i64 (t.w : Int), .slice bk (nw t.w) dk, .slice bc n dc] 28)) rfl
 have hx4 := (HX2.out.transNo hx3).transNo hV
 have hs1 := hs.out.1.extNo hV
 have hs2 := hs.out.2.1.extNo hV
 have hs3 := hs.out.2.2.extNo hV
 have hne : ¬ W.heap.size + 1 = w3.heap.size := by have := lt_of_block (hx3.blk HC2.out no_no); omega
 have HN := Lib.hid hn
 clear hx3 HX2 HC2 HRO hs hV hn
 have cC := cellOf hC4
 have fC := freeOf hC4
 have cD := cellOf hD4
 go_wp2_with fail
 generalize (w3.alloc (.cells #[.int .i64 (t.w : Int), .slice bg (nw t.w) dg, .int .i64 (t.w : Int), .slice bk (nw t.w) dk, .slice bc n dc] 28)) = V at *
 have hfin := BoxR.fin5 ⟨_, rfl, hC4⟩ (.int .i64 (t.w : Int)) (.slice bg (nw t.w) dg) (.int .i64 (t.w : Int)) (.slice bk (nw t.w) dk) (.slice bc n dc)
 have hE := set5 V (W.heap.size + 1) (.int .i64 (t.w : Int)) (.slice bg (nw t.w) dg) (.int .i64 (t.w : Int)) (.slice bk (nw t.w) dk) (.slice bc n dc)
 clear cC fC cD
 generalize (((((V.setCell ⟨W.heap.size + 1, 0, none⟩ (.int .i64 (t.w : Int))).setCell ⟨W.heap.size + 1, 1, none⟩ (.slice bg (nw t.w) dg)).setCell ⟨W.heap.size + 1, 2, none⟩ (.int .i64 (t.w : Int))).setCell ⟨W.heap.size + 1, 3, none⟩ (.slice bk (nw t.w) dk)).setCell ⟨W.heap.size + 1, 4, none⟩ (.slice bc n dc)) = WF at *
 have cF := cellOf hfin
 refine ret_ex rfl ?_
 simp [results, Tryd.results37, go_sem, cF]
 have hcl : closeT t.w t.gen (tabT t) = canonT t := canon_tab HO.out
 have hok : TrOk (canonT t) := closeT_ok hw HO.out.gen (canon_len HO.out)
 have hkt : killTo t.w t.gen (tabT t) t.w = (canonT t).kill := congrArg TrD.kill hcl
 have hct : copTo t.w t.gen (tabT t) t.w = (canonT t).copies := congrArg TrD.copies hcl
 rw [hkt] at hs2
 rw [hct] at hs3
 have hn := HN.out
 rw [hct] at hn
 subst hn
 exact ⟨bg, dg, bk, dk, bc, dc, rfl, Lib.hid ⟨(hs1.ext hE (fun i _ e => e)).no, (hs2.ext hE (fun i _ e => e)).no, Row.mono (Row.ext hs3 hE (fun i _ e => e)) (fun _ _ e => e.elim), hok⟩, hx4.trans2 hE (fun i hi e => by unfold At at e; omega)⟩
/-- program and reference answer the same pair -/
theorem canon_both (r : RawT) (hg : ∀ n ∈ r.gen.words, n < 2 ^ 64) (hk : ∀ n ∈ r.kill.words, n < 2 ^ 64) :
  ∃ (q : RawT) (e0 : Int), ∀ (g1 k1 c1 : Value) (W : World), RawTAt No W g1 k1 c1 r →
   (TabW W → Calls Tryd.prog 25 #[.agg #[.int .i64 r.gen.width, g1, .int .i64 r.kill.width, k1, c1]] W (ResP No q e0 W)) ∧
   Calls Tryd.prog 37 #[.agg #[.int .i64 r.gen.width, g1, .int .i64 r.kill.width, k1, c1]] W (ResP No q e0 W) := by
 by_cases hv : validT r = true
 ·obtain ⟨t, ho, rfl⟩ := validT_ex hv hg hk
  exact ⟨rawT (canonT t), 0, fun g1 k1 c1 W h => ⟨fun hT => (canon_any No t g1 k1 c1 W (fun _ e => e.elim) hT (h.tr ho)).mono (fun _ _ h => (h.1 (canon_len ho)).res), (rcanon_any t g1 k1 c1 W (h.tr ho)).mono (fun _ _ h => h.res)⟩⟩
 ·have hv : validT r = false := by simpa using hv
  exact ⟨zeroT, 1, fun g1 k1 c1 W h => ⟨fun _ => (canon_no r g1 k1 c1 W h hv).mono (fun _ _ h => h.res), (rcanon_no r g1 k1 c1 W h hv).mono (fun _ _ h => h.res)⟩⟩
end Go.Proofs.YtgakojgkkdmabaaDoor

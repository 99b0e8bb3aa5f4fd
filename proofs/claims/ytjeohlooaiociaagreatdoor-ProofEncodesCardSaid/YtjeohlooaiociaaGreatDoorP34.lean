
import Derived.Test.YtjeohlooaiociaaGreatDoorP33
import Derived.Test.YtjeohlooaiociaaGreatDoorP25
set_option linter.unusedVariables false
set_option linter.unusedSimpArgs false
namespace Go.Proofs.YtjeohlooaiociaaGreatDoor
open Go Go.RowKit
def setR (s : RawSet) : List Nat := setB s.width.toNat (memN s.width.toNat (joinN s.words))
theorem setR_set {w m : Nat} (hm : m < 2 ^ w) : setR (setN w m) = setB w (memN w m) := by
 unfold setR
 show setB ((w : Int)).toNat (memN ((w : Int)).toNat (joinN (wordsN w m))) = _
 rw [Int.toNat_natCast, joinN_words _ _ hm]
def rowB (l : List Int) : List Nat := l.flatMap fun r => uv r.toNat
def itemB (p : (RawSet × Value) × (List Int × Value)) : List Nat := setR p.1.1 ++ rowB p.2.1
def encB (Lv : LS) (R : LD) : List Nat := uv Lv.length ++ (Lv.zip R).flatMap itemB
def sealB (l : List Nat) : List Nat := l ++ ckB l
def EncOk (Lv : LS) (R : LD) : Prop := Lv.length ≤ 256 ∧ RankedP Lv R
def EncPost (Lv : LS) (R : LD) (W : World) (e : Ending) (w' : World) : Prop :=
 (¬ EncOk Lv R ∧ e = .returned (.tuple #[.slice none 0 0, .int .i64 1]) ∧ Ext No W w') ∨ (EncOk Lv R ∧ ∃ sl, e = .returned (.tuple #[sl, .int .i64 0]) ∧ Hid (OwnB w' W.heap.size sl (sealB (encB Lv R))) ∧ Ext No W w')
theorem rowB_take {l : List Int} {j : Nat} (hj : j < l.length) : rowB (l.take (j + 1)) = rowB (l.take j) ++ uv (l[j]).toNat := by
 unfold rowB
 rw [show l.take (j + 1) = l.take j ++ [l[j]] from by rw [List.take_add_one]; simp [hj], List.flatMap_append]
 simp
theorem item_take {Lv : LS} {R : LD} {k : Nat} (h1 : k < Lv.length) (h2 : k < R.length) : ((Lv.zip R).take (k + 1)).flatMap itemB = ((Lv.zip R).take k).flatMap itemB ++ (setR Lv[k].1 ++ rowB R[k].1) := by
 have hz : k < (Lv.zip R).length := by simp; omega
 have hg : (Lv.zip R)[k]? = some (Lv[k], R[k]) := by rw [List.getElem?_eq_getElem hz]; simp
 rw [List.take_add_one, hg, List.flatMap_append]
 simp [itemB]
theorem rowB_len : ∀ (l : List Int), (∀ r ∈ l, ¬ RkBad r) → (rowB l).length ≤ 5 * l.length
 | [], _ => Nat.zero_le _
 | r :: l, h => by
  have h1 := rowB_len l (fun x hx => h x (List.mem_cons_of_mem _ hx))
  have h2 := h r (List.mem_cons_self ..)
  unfold RkBad at h2
  have h3 := uv_len 4 r.toNat (by omega)
  unfold rowB at h1 ⊢
  rw [List.flatMap_cons, List.length_append, List.length_cons]; omega
theorem rowB_byte (l : List Int) : ∀ b ∈ rowB l, b < 256 := fun b hb => by
 obtain ⟨r, _, hb⟩ := List.mem_flatMap.1 hb
 exact uv_byte _ b hb
theorem encB_byte (Lv : LS) (R : LD) : ∀ b ∈ encB Lv R, b < 256 := fun b hb => by
 unfold encB at hb
 rcases List.mem_append.1 hb with hb | hb
 ·exact uv_byte _ b hb
 obtain ⟨p, _, hb⟩ := List.mem_flatMap.1 hb
 unfold itemB at hb
 rcases List.mem_append.1 hb with hb | hb
 ·exact setB_byte _ _ b hb
 exact rowB_byte _ b hb
theorem item_len {Lv : LS} {R : LD} (h : RankedP Lv R) {k : Nat} (h1 : k < Lv.length) (h2 : k < R.length) : (setR Lv[k].1).length ≤ 1300 ∧ (rowB R[k].1).length ≤ 1280 ∧ R[k].1.length ≤ 256 := by
 obtain ⟨w, m, hw, hm, e, hl, hb⟩ := h.2 k h1 h2
 have h3 : R[k].1.length ≤ 256 := by rw [hl, memN_cast]; simp [natsZ]; exact Nat.le_trans (memN_len w m) hw
 have h4 := rowB_len R[k].1 (fun r hr => by
  obtain ⟨i, hi, rfl⟩ := List.getElem_of_mem hr
  exact hb i hi)
 exact ⟨by rw [e, setR_set hm]; exact setB_len hw, by omega, h3⟩
theorem part_len {Lv : LS} {R : LD} (h : RankedP Lv R) : ∀ k, k ≤ Lv.length → (((Lv.zip R).take k).flatMap itemB).length ≤ 2580 * k
 | 0, _ => by simp
 | k + 1, hk => by
  have h1 : k < Lv.length := by omega
  have h2 : k < R.length := by rw [← h.1]; exact h1
  have h3 := part_len h k (by omega)
  obtain ⟨h4, h5, _⟩ := item_len h h1 h2
  rw [item_take h1 h2, List.length_append, List.length_append]; omega
theorem tab_pos34 {w : World} (h : TabW w) : 0 < w.heap.size := World.block_lt_of_cell? w _ (h 0 (by decide))
structure EnM (W wr : World) (s : Value) (l : List Nat) : Prop where
 own : OwnB wr (W.heap.size + 1) s l
 ext : Ext No W wr
theorem EnM.extNo {W wr w' : World} {s : Value} {l : List Nat} (h : EnM W wr s l) (hx : Ext No wr w') : EnM W w' s l := ⟨h.own.extNo hx, h.ext.transNo hx⟩
theorem EnM.step {W wr w' : World} {s s' : Value} {l k : List Nat} (h : EnM W wr s l) (h1 : OwnB w' (W.heap.size + 1) s' (l ++ k)) (h2 : Ext (fun b => s.ownBlock = some b) wr w') : EnM W w' s' (l ++ k) :=
 ⟨h1, h.ext.trans2 h2 (fun i hi e => by have := (h.own.lt i e).1; omega)⟩
theorem LAt.no' {β : Type} {K : EK β} {M : Nat → Prop} {w : World} {sl : Value} {L : List β} (h : LAt K M w sl L) : LAt K No w sl L := h.mono (fun _ _ x => x.elim)
theorem LAt.late {β : Type} {K : EK β} {w : World} {sl : Value} {L : List β} (h : LAt K No w sl L) : LAt K (fun b => w.heap.size ≤ b) w sl L := h.mono (fun i hi e => by omega)
set_option maxRecDepth 100000 in
set_option maxHeartbeats 8000000 in
theorem pencode_any (vv vr : Value) (Lv : LS) (R : LD) (W : World) (hT : TabW W) (hv : LAt kS No W vv Lv) (hr : LAt kD No W vr R) :
  Calls Tryz.prog 28 #[.agg #[vv, vr]] W (EncPost Lv R W) := by
 have HV := Lib.hid hv.late
 have HR := Lib.hid hr.late
 have HT := Lib.hid hT
 have hG := tab_pos34 hT
 obtain ⟨av, cv, rfl⟩ := hv.slice
 obtain ⟨ar, cr, rfl⟩ := hr.slice
 obtain ⟨nL, hnL⟩ : ∃ nL, nL = Lv.length := ⟨_, rfl⟩
 obtain ⟨nR, hnR⟩ : ∃ nR, nR = R.length := ⟨_, rfl⟩
 rw [← hnL] at HV ⊢
 rw [← hnR] at HR ⊢
 have HNL := Lib.hid hnL
 have HNR := Lib.hid hnR
 clear hv hr hT hnL hnR
 go_enter Tryz.func28, Tryz.ntmps28
 go_upto_region 1 with (fail)
 have hx0 : Ext No W (W.alloc (.cells #[.slice av nL cv, .slice ar nR cr] 29)) := (Ext.refl _ _).alloc _
 have HB := Lib.hid (alloc_top (w := W) (o := (.cells #[.slice av nL cv, .slice ar nR cr] 29)) rfl)
 have HX := Lib.hid hx0
 generalize (W.alloc (.cells #[.slice av nL cv, .slice ar nR cr] 29)) = V at *
 have cB := cellOf HB.out
 by_cases h256 : nL ≤ 256
 ·have hz : ¬ (256 : Int) < (nL : Int) := by omega
  have hwsz := hx0.size
  clear hx0
  go_wp2_with fail
  clear cB
  refine (ranked_any _ _ Lv R V (HV.out.extNo HX.out).no' (HR.out.extNo HX.out).no').mono ?_
  rintro e1 w1 ⟨b1, rfl, hb1, hx1⟩
  have HRK := Lib.hid hb1
  have HX1 := Lib.hid (HX.out.transNo hx1)
  have HB1 := Lib.hid (hx1.blk HB.out no_no)
  clear hb1 hx1 HX HB
  cases b1 with
  | false =>
   go_wp2_with fail
   refine ret_ex rfl ?_
   simp [results, Tryz.results28, go_sem]
   exact .inl ⟨fun h => by have := HRK.out.2 h.2; simp at this, rfl, HX1.out⟩
  | true =>
   have hrk := HRK.out.1 (by simp)
   have HRP := Lib.hid hrk
   have hLR : nL = nR := by rw [HNL.out, HNR.out]; exact hrk.1
   subst hLR
   clear HRK hrk
   have cB := cellOf HB1.out
   go_wp2_with fail
   clear cB
   refine (uappend_any (W.heap.size + 1) nL (.slice none 0 0) [] w1 (OwnB.nil _ _) (lt_of_block HB1.out) (by simp) (by omega)).mono ?_
   rintro e2 w2 ⟨s2, rfl, hO2, hx2, -⟩
   have hM2 : EnM W w2 s2 (uv nL) := (show EnM W w1 (.slice none 0 0) [] from ⟨OwnB.nil _ _, HX1.out⟩).step (by simpa using hO2.out) hx2
   have HB2 := Lib.hid (hx2.blk HB1.out (fun e => by cases e))
   have HULN := Lib.hid (uv_len 4 nL (by omega))
   obtain ⟨a2, c2, hs2⟩ := hM2.own.slice
   subst hs2
   obtain ⟨l0, hl0⟩ : ∃ l0, l0 = uv nL := ⟨_, rfl⟩
   rw [← hl0] at hM2 HULN ⊢
   have HL0 := Lib.hid hl0
   obtain ⟨n0, hn0⟩ : ∃ n0, n0 = l0.length := ⟨_, rfl⟩
   rw [← hn0] at hM2 ⊢
   have HN0 := Lib.hid hn0
   have HM2 := Lib.hid hM2
   clear hO2 hx2 hM2 hl0 hn0 HB1 HX1
   have cB := cellOf HB2.out
   go_wp2_with fail
   clear cB
   go_loopw [4, 5, 6, 8, 25] (fun s4 _ _ _ i wr => ∃ (k : Nat) (lk : List Nat) (kk : Nat) (a : Option Addr) (c : Nat), k ≤ nL ∧ i = .int .i64 k ∧ s4 = .slice a kk c ∧ Hid (kk = lk.length) ∧ Hid (EnM W wr (.slice a kk c) lk) ∧ Hid (lk = l0 ++ ((Lv.zip R).take k).flatMap itemB) ∧ Hid (wr.heap[W.heap.size]? = some (.cells #[.slice av nL cv, .slice ar nL cr] 29 (0, 0)))) (fun _ _ _ _ i _ => nL - (intOf i).toNat)
   case atStart => exact ⟨0, l0, n0, a2, c2, Nat.zero_le _, rfl, rfl, HN0, HM2, Lib.hid (by simp), HB2⟩
   obtain ⟨k, lk, kk, a, c, hk, rfl, rfl, hkk, hm, hlk, hbox⟩ := hrel
   rename World => wr
   have HKB := Lib.hid (show lk.length ≤ 5 + 2580 * k from by
    rw [hlk.out, List.length_append]
    have h1 := part_len HRP.out k (by rw [← HNL.out]; exact hk)
    have h2 := HULN.out
    omega)
   have hwz : W.heap.size + 1 ≤ wr.heap.size := lt_of_block hbox.out
   by_cases hlt : k < nL
   ·have hlz : (k : Int) < (nL : Int) := by omega
    have HKK : Hid (Value.int .i64 ((k : Int) + 1) = .int .i64 ((k + 1 : Nat) : Int)) := Lib.hid (by rw [show ((k + 1 : Nat) : Int) = (k : Int) + 1 from by omega])
    have hkL : k < Lv.length := by rw [← HNL.out]; exact hlt
    have hkR : k < R.length := by rw [← HNR.out]; exact hlt
    obtain ⟨b0, o0, k0, hve, -, -, hcell⟩ := (HV.out.extNo hm.out.ext).atS hkL
    rw [← HNL.out] at hve
    simp only [Value.slice.injEq] at hve
    obtain ⟨rfl, -, rfl⟩ := hve
    obtain ⟨q0, q1⟩ := hcell k hkL
    have hwS : WordsAt (fun b => W.heap.size ≤ b) wr Lv[k].2 Lv[k].1.words := (HV.out.extNo hm.out.ext).ok _ (List.getElem_mem hkL)
    obtain ⟨w, m, hw, hmm, hse, hrl, hrb⟩ := HRP.out.2 k hkL hkR
    have HIT := Lib.hid (item_take hkL hkR)
    obtain ⟨hi1, hi2, hi3⟩ := item_len HRP.out hkL hkR
    rw [hse] at q0 hwS hi1 HIT
    obtain ⟨f1, f2, he2⟩ := hwS.slice
    rw [he2] at q1 hwS
    rw [show (setN w m).words.length = nw w from wordsN_len ..] at q1 hwS
    have q0' : wr.cell? ⟨b0, o0 + k * 2, none⟩ = some (.int .i64 (w : Int)) := q0
    have HSA := Lib.hid (show SetAt (fun b => W.heap.size ≤ b) wr (.slice f1 (nw w) f2) w m from ⟨hwS, hw, hmm⟩)
    obtain ⟨rl, hrl0⟩ : ∃ rl, rl = R[k].1 := ⟨_, rfl⟩
    have hri : Ints (fun b => W.heap.size ≤ b) W .i64 R[k].2 R[k].1 := HR.out.ok _ (List.getElem_mem hkR)
    rw [← hrl0] at hri hrb hi2 hi3 HIT
    obtain ⟨ra, rc, hrv⟩ := Row.slice hri
    rw [hrv] at hri
    have HRI := Lib.hid hri
    have HRB := Lib.hid hrb
    rw [setR_set hmm] at HIT hi1
    have HI := Lib.hid (And.intro hi1 hi2)
    obtain ⟨br, or, kr, hre, -, -, hcr⟩ := HR.out.atD hkR
    rw [← HNR.out] at hre
    simp only [Value.slice.injEq] at hre
    obtain ⟨rfl, -, rfl⟩ := hre
    have gr := hcr k hkR
    rw [hrv] at gr
    have HGR := Lib.hid gr
    have cB := cellOf hbox.out
    clear hcell hcr hri hrb hrl hse he2 hwS q0 hrv hrl0 gr hi1 hi2
    go_upto_region 7 with (fail)
    have hxa : Ext No wr (wr.alloc (.cells #[.int .i64 (w : Int), .slice f1 (nw w) f2] 50)) := (Ext.refl _ _).alloc _
    have HBV := Lib.hid (alloc_top (w := wr) (o := (.cells #[.int .i64 (w : Int), .slice f1 (nw w) f2] 50)) rfl)
    have HMA := Lib.hid (hm.out.extNo hxa)
    have HSV := Lib.hid (HSA.out.extNo hxa)
    have HBB := Lib.hid (hxa.blk hbox.out no_no)
    have hwz2 : W.heap.size + 1 ≤ (wr.alloc (.cells #[.int .i64 (w : Int), .slice f1 (nw w) f2] 50)).heap.size := by have := hxa.size; omega
    clear cB q0' q1 hxa hm hbox HSA
    generalize (wr.alloc (.cells #[.int .i64 (w : Int), .slice f1 (nw w) f2] 50)) = w6 at *
    have cV := cellOf HBV.out
    go_wp2_with fail
    clear cV
    refine (uset_any (W.heap.size + 1) w m (.slice a kk c) _ lk w6 (HT.out.ext HMA.out.ext) (Nat.lt_succ_of_lt hG) HMA.out.own hwz2 (by have := HKB.out; omega) (HSV.out.mono (fun i hi e => by have := (HMA.out.own.lt i e).1; omega))).mono ?_
    rintro e7 w7 ⟨s7, rfl, hO7, hx7, -⟩
    have hM7 := HMA.out.step hO7.out hx7
    obtain ⟨l7, hl7⟩ : ∃ l7, l7 = lk ++ setB w (memN w m) := ⟨_, rfl⟩
    have hO8 := hO7.out
    rw [← hl7] at hM7 hO8
    obtain ⟨a7, c7, hs7⟩ := hO8.slice
    subst hs7
    obtain ⟨n7, hn7⟩ : ∃ n7, n7 = l7.length := ⟨_, rfl⟩
    rw [← hn7] at hM7 ⊢
    have HM7 := Lib.hid hM7
    have HN7 := Lib.hid hn7
    have HL7 := Lib.hid hl7
    have HB7 := Lib.hid (hx7.blk HBB.out (fun e => by have := (HMA.out.own.lt _ e).1; omega))
    have HLB7 := Lib.hid (show l7.length ≤ 5 + 2580 * k + 1300 from by rw [hl7, List.length_append]; have h1 := HI.out.1; have h2 := HKB.out; omega)
    clear hO7 hx7 hM7 hl7 hO8 hn7 HMA HBB HSV HBV
    have cB := cellOf HB7.out
    have g0 := (HM7.out.ext).keep HGR.out
    go_wp2_with fail
    clear cB g0
    go_loopw [4, 8, 39] (fun s4 _ i wz => ∃ (j : Nat) (lj : List Nat) (jj : Nat) (a : Option Addr) (c : Nat), j ≤ rl.length ∧ i = .int .i64 j ∧ s4 = .slice a jj c ∧ Hid (jj = lj.length) ∧ Hid (EnM W wz (.slice a jj c) lj) ∧ Hid (lj = l7 ++ rowB (rl.take j)) ∧ Hid (wz.heap[W.heap.size]? = some (.cells #[.slice (some ⟨b0, o0, none⟩) nL cv, .slice (some ⟨br, or, none⟩) nL cr] 29 (0, 0)))) (fun _ _ i _ => rl.length - (intOf i).toNat)
    case atStart => exact ⟨0, l7, n7, a7, c7, Nat.zero_le _, rfl, rfl, HN7, HM7, Lib.hid (by simp [rowB]), HB7⟩
    obtain ⟨j, lj, jj, aj, cj, hj, rfl, rfl, hjj, hmj, hlj, hboj⟩ := hrel
    rename World => wz
    by_cases hltj : j < rl.length
    ·have hjz : (j : Int) < (rl.length : Int) := by omega
     have HJJ : Hid (Value.int .i64 ((j : Int) + 1) = .int .i64 ((j + 1 : Nat) : Int)) := Lib.hid (by rw [show ((j + 1 : Nat) : Int) = (j : Int) + 1 from by omega])
     have HJB := Lib.hid (show lj.length ≤ 5 + 2580 * k + 1300 + 1280 from by
      rw [hlj.out, List.length_append]
      have h1 := rowB_len (rl.take j) (fun r hr => by
       obtain ⟨q, hq, rfl⟩ := List.getElem_of_mem hr
       rw [List.getElem_take]
       exact HRB.out q (by simp at hq; omega))
      have h2 := HLB7.out
      rw [List.length_take] at h1
      omega)
     obtain ⟨bm, om, km, hme, -, -, hcm⟩ := Ints.at (show Ints (fun b => W.heap.size ≤ b) wz .i64 (.slice ra rl.length rc) rl from Row.extNo HRI.out hmj.out.ext) hltj
     simp only [Value.slice.injEq] at hme
     obtain ⟨rfl, -, rfl⟩ := hme
     have p0 := hcm j hltj
     have hbad := HRB.out j hltj
     unfold RkBad at hbad
     have htk := rowB_take hltj
     obtain ⟨r, hr⟩ : ∃ r : Nat, r = (rl[j]).toNat := ⟨_, rfl⟩
     have hre2 : rl[j] = (r : Int) := by omega
     rw [← hr] at htk
     rw [hre2] at p0
     have hr5 : r < 128 ^ 5 := by omega
     have HTK := Lib.hid htk
     have hwzz : W.heap.size + 1 ≤ wz.heap.size := lt_of_block hboj.out
     clear hcm hbad htk hr hre2
     go_wp2_with fail
     clear p0 
     refine (uappend_any (W.heap.size + 1) r (.slice aj jj cj) lj wz hmj.out.own hwzz (by have := HJB.out; omega) hr5).mono ?_
     rintro e9 w9 ⟨s9, rfl, hO9, hx9, -⟩
     have hM9 := hmj.out.step hO9.out hx9
     obtain ⟨l9, hl9⟩ : ∃ l9, l9 = lj ++ uv r := ⟨_, rfl⟩
     have hO8 := hO9.out
     rw [← hl9] at hM9 hO8
     obtain ⟨a9, c9, hs9⟩ := hO8.slice
     subst hs9
     obtain ⟨n9, hn9⟩ : ∃ n9, n9 = l9.length := ⟨_, rfl⟩
     rw [← hn9] at hM9 ⊢
     have HM9 := Lib.hid hM9
     have HN9 := Lib.hid hn9
     have HL9 := Lib.hid (show l9 = l7 ++ rowB (rl.take (j + 1)) from by rw [hl9, hlj.out, HTK.out, List.append_assoc])
     have HB9 := Lib.hid (hx9.blk hboj.out (fun e => by have := (hmj.out.own.lt _ e).1; omega))
     clear hO9 hx9 hM9 hl9 hO8 hn9 hmj hlj hjj hboj
     go_wp2_with fail
     go_roundw
     case rel => exact ⟨j + 1, l9, n9, a9, c9, by omega, HJJ.out, rfl, HN9, HM9, HL9, HB9⟩
     case measure => simp [intOf]; omega
    have hgej : ¬ (j : Int) < (rl.length : Int) := by omega
    go_wp2_with fail
    go_roundw
    case rel => exact ⟨k + 1, lj, jj, aj, cj, by omega, HKK.out, rfl, hjj, hmj, Lib.hid (by rw [hlj.out, List.take_of_length_le (by omega), HL7.out, hlk.out, HIT.out, List.append_assoc, List.append_assoc]), hboj⟩
    case measure => simp [intOf]; omega
   have hge : ¬ (k : Int) < (nL : Int) := by omega
   have hkn : k = nL := by omega
   have HKN := Lib.hid hkn
   clear hkn
   have hbl : lk.length ≤ 1099511627776 := by have := HKB.out; omega
   have HEB := Lib.hid (show lk = encB Lv R from by
    rw [hlk.out, HL0.out, HKN.out]
    unfold encB
    rw [List.take_of_length_le (by simp; rw [← HNL.out]; omega), HNL.out])
   go_wp2_with fail
   refine (useal_any (W.heap.size + 1) (.slice a kk c) lk wr hm.out.own hwz hbl (by rw [HEB.out]; exact encB_byte Lv R)).mono ?_
   rintro e9 w9 ⟨s9, rfl, hO9, hx9, -⟩
   have hM9 := hm.out.step hO9.out hx9
   rw [show lk ++ ckB lk = sealB (encB Lv R) from by rw [HEB.out]; rfl] at hM9
   obtain ⟨a9, c9, hs9⟩ := hM9.own.slice
   subst hs9
   have HM9 := Lib.hid hM9
   have HOKE := Lib.hid (show EncOk Lv R from ⟨by rw [← HNL.out]; exact h256, HRP.out⟩)
   clear hO9 hx9 hM9
   go_wp2_with fail
   refine ret_ex rfl ?_
   simp [results, Tryz.results28, go_sem]
   exact .inr ⟨HOKE.out, _, rfl, Lib.hid (row_base HM9.out.own (Nat.le_succ _)), HM9.out.ext⟩
 have hz : (256 : Int) < (nL : Int) := by omega
 go_wp2_with fail
 refine ret_ex rfl ?_
 simp [results, Tryz.results28, go_sem]
 exact .inl ⟨fun h => by have := h.1; rw [← HNL.out] at this; omega, rfl, HX.out⟩
set_option maxRecDepth 100000 in
set_option maxHeartbeats 8000000 in
theorem rencode_any (vv vr : Value) (Lv : LS) (R : LD) (W : World) (hv : LAt kS No W vv Lv) (hr : LAt kD No W vr R) :
  Calls Tryz.prog 24 #[.agg #[vv, vr]] W (EncPost Lv R W) := by
 have HV := Lib.hid hv.late
 have HR := Lib.hid hr.late
 obtain ⟨av, cv, rfl⟩ := hv.slice
 obtain ⟨ar, cr, rfl⟩ := hr.slice
 obtain ⟨nL, hnL⟩ : ∃ nL, nL = Lv.length := ⟨_, rfl⟩
 obtain ⟨nR, hnR⟩ : ∃ nR, nR = R.length := ⟨_, rfl⟩
 rw [← hnL] at HV ⊢
 rw [← hnR] at HR ⊢
 have HNL := Lib.hid hnL
 have HNR := Lib.hid hnR
 clear hv hr hnL hnR
 go_enter Tryz.func24, Tryz.ntmps24
 go_upto_region 1 with (fail)
 have hx0 : Ext No W (W.alloc (.cells #[.slice av nL cv, .slice ar nR cr] 29)) := (Ext.refl _ _).alloc _
 have HB := Lib.hid (alloc_top (w := W) (o := (.cells #[.slice av nL cv, .slice ar nR cr] 29)) rfl)
 have HX := Lib.hid hx0
 generalize (W.alloc (.cells #[.slice av nL cv, .slice ar nR cr] 29)) = V at *
 have cB := cellOf HB.out
 by_cases h256 : nL ≤ 256
 ·have hz : ¬ (256 : Int) < (nL : Int) := by omega
  have hwsz := hx0.size
  clear hx0
  go_wp2_with fail
  clear cB
  refine (rranked_any _ _ Lv R V (HV.out.extNo HX.out).no' (HR.out.extNo HX.out).no').mono ?_
  rintro e1 w1 ⟨b1, rfl, hb1, hx1⟩
  have HRK := Lib.hid hb1
  have HX1 := Lib.hid (HX.out.transNo hx1)
  have HB1 := Lib.hid (hx1.blk HB.out no_no)
  clear hb1 hx1 HX HB
  cases b1 with
  | false =>
   go_wp2_with fail
   refine ret_ex rfl ?_
   simp [results, Tryz.results24, go_sem]
   exact .inl ⟨fun h => by have := HRK.out.2 h.2; simp at this, rfl, HX1.out⟩
  | true =>
   have hrk := HRK.out.1 (by simp)
   have HRP := Lib.hid hrk
   have hLR : nL = nR := by rw [HNL.out, HNR.out]; exact hrk.1
   subst hLR
   clear HRK hrk
   have cB := cellOf HB1.out
   go_wp2_with fail
   clear cB
   refine (ruvarint_any (W.heap.size + 1) nL (.slice none 0 0) [] w1 (OwnB.nil _ _) (lt_of_block HB1.out) (by simp) (by omega)).mono ?_
   rintro e2 w2 ⟨s2, rfl, hO2, hx2, -⟩
   have hM2 : EnM W w2 s2 (uv nL) := (show EnM W w1 (.slice none 0 0) [] from ⟨OwnB.nil _ _, HX1.out⟩).step (by simpa using hO2.out) hx2
   have HB2 := Lib.hid (hx2.blk HB1.out (fun e => by cases e))
   have HULN := Lib.hid (uv_len 4 nL (by omega))
   obtain ⟨a2, c2, hs2⟩ := hM2.own.slice
   subst hs2
   obtain ⟨l0, hl0⟩ : ∃ l0, l0 = uv nL := ⟨_, rfl⟩
   rw [← hl0] at hM2 HULN ⊢
   have HL0 := Lib.hid hl0
   obtain ⟨n0, hn0⟩ : ∃ n0, n0 = l0.length := ⟨_, rfl⟩
   rw [← hn0] at hM2 ⊢
   have HN0 := Lib.hid hn0
   have HM2 := Lib.hid hM2
   clear hO2 hx2 hM2 hl0 hn0 HB1 HX1
   have cB := cellOf HB2.out
   go_wp2_with fail
   clear cB
   go_loopw [4, 5, 6] (fun s4 i _ wr => ∃ (k : Nat) (lk : List Nat) (kk : Nat) (a : Option Addr) (c : Nat), k ≤ nL ∧ i = .int .i64 k ∧ s4 = .slice a kk c ∧ Hid (kk = lk.length) ∧ Hid (EnM W wr (.slice a kk c) lk) ∧ Hid (lk = l0 ++ ((Lv.zip R).take k).flatMap itemB) ∧ Hid (wr.heap[W.heap.size]? = some (.cells #[.slice av nL cv, .slice ar nL cr] 29 (0, 0)))) (fun _ i _ _ => nL - (intOf i).toNat)
   case atStart => exact ⟨0, l0, n0, a2, c2, Nat.zero_le _, rfl, rfl, HN0, HM2, Lib.hid (by simp), HB2⟩
   obtain ⟨k, lk, kk, a, c, hk, rfl, rfl, hkk, hm, hlk, hbox⟩ := hrel
   rename World => wr
   have HKB := Lib.hid (show lk.length ≤ 5 + 2580 * k from by
    rw [hlk.out, List.length_append]
    have h1 := part_len HRP.out k (by rw [← HNL.out]; exact hk)
    have h2 := HULN.out
    omega)
   have hwz : W.heap.size + 1 ≤ wr.heap.size := lt_of_block hbox.out
   by_cases hlt : k < nL
   ·have hlz : (k : Int) < (nL : Int) := by omega
    have HKK : Hid (Value.int .i64 ((k : Int) + 1) = .int .i64 ((k + 1 : Nat) : Int)) := Lib.hid (by rw [show ((k + 1 : Nat) : Int) = (k : Int) + 1 from by omega])
    have hkL : k < Lv.length := by rw [← HNL.out]; exact hlt
    have hkR : k < R.length := by rw [← HNR.out]; exact hlt
    obtain ⟨b0, o0, k0, hve, -, -, hcell⟩ := (HV.out.extNo hm.out.ext).atS hkL
    rw [← HNL.out] at hve
    simp only [Value.slice.injEq] at hve
    obtain ⟨rfl, -, rfl⟩ := hve
    obtain ⟨q0, q1⟩ := hcell k hkL
    have hwS : WordsAt (fun b => W.heap.size ≤ b) wr Lv[k].2 Lv[k].1.words := (HV.out.extNo hm.out.ext).ok _ (List.getElem_mem hkL)
    obtain ⟨w, m, hw, hmm, hse, hrl, hrb⟩ := HRP.out.2 k hkL hkR
    have HIT := Lib.hid (item_take hkL hkR)
    obtain ⟨hi1, hi2, hi3⟩ := item_len HRP.out hkL hkR
    rw [hse] at q0 hwS hi1 HIT
    obtain ⟨f1, f2, he2⟩ := hwS.slice
    rw [he2] at q1 hwS
    rw [show (setN w m).words.length = nw w from wordsN_len ..] at q1 hwS
    have q0' : wr.cell? ⟨b0, o0 + k * 2, none⟩ = some (.int .i64 (w : Int)) := q0
    have HSA := Lib.hid (show SetAt (fun b => W.heap.size ≤ b) wr (.slice f1 (nw w) f2) w m from ⟨hwS, hw, hmm⟩)
    obtain ⟨rl, hrl0⟩ : ∃ rl, rl = R[k].1 := ⟨_, rfl⟩
    have hri : Ints (fun b => W.heap.size ≤ b) W .i64 R[k].2 R[k].1 := HR.out.ok _ (List.getElem_mem hkR)
    rw [← hrl0] at hri hrb hi2 hi3 HIT
    obtain ⟨ra, rc, hrv⟩ := Row.slice hri
    rw [hrv] at hri
    have HRI := Lib.hid hri
    have HRB := Lib.hid hrb
    rw [setR_set hmm] at HIT hi1
    have HI := Lib.hid (And.intro hi1 hi2)
    obtain ⟨br, or, kr, hre, -, -, hcr⟩ := HR.out.atD hkR
    rw [← HNR.out] at hre
    simp only [Value.slice.injEq] at hre
    obtain ⟨rfl, -, rfl⟩ := hre
    have gr := hcr k hkR
    rw [hrv] at gr
    have HGR := Lib.hid gr
    have cB := cellOf hbox.out
    clear hcell hcr hri hrb hrl hse he2 hwS q0 hrv hrl0 gr hi1 hi2
    go_wp2_with fail
    clear cB q0' q1
    refine (rset_any (W.heap.size + 1) w m (.slice a kk c) _ lk wr hm.out.own hwz (by have := HKB.out; omega) (HSA.out.mono (fun i hi e => by have := (hm.out.own.lt i e).1; omega))).mono ?_
    rintro e7 w7 ⟨s7, rfl, hO7, hx7, -⟩
    have hM7 := hm.out.step hO7.out hx7
    obtain ⟨l7, hl7⟩ : ∃ l7, l7 = lk ++ setB w (memN w m) := ⟨_, rfl⟩
    have hO8 := hO7.out
    rw [← hl7] at hM7 hO8
    obtain ⟨a7, c7, hs7⟩ := hO8.slice
    subst hs7
    obtain ⟨n7, hn7⟩ : ∃ n7, n7 = l7.length := ⟨_, rfl⟩
    rw [← hn7] at hM7 ⊢
    have HM7 := Lib.hid hM7
    have HN7 := Lib.hid hn7
    have HL7 := Lib.hid hl7
    have HB7 := Lib.hid (hx7.blk hbox.out (fun e => by have := (hm.out.own.lt _ e).1; omega))
    have HLB7 := Lib.hid (show l7.length ≤ 5 + 2580 * k + 1300 from by rw [hl7, List.length_append]; have h1 := HI.out.1; have h2 := HKB.out; omega)
    clear hO7 hx7 hM7 hl7 hO8 hn7 hm hbox HSA
    go_wp2_with fail
    go_loopw [4, 6] (fun s4 i wz => ∃ (j : Nat) (lj : List Nat) (jj : Nat) (a : Option Addr) (c : Nat), j ≤ rl.length ∧ i = .int .i64 j ∧ s4 = .slice a jj c ∧ Hid (jj = lj.length) ∧ Hid (EnM W wz (.slice a jj c) lj) ∧ Hid (lj = l7 ++ rowB (rl.take j)) ∧ Hid (wz.heap[W.heap.size]? = some (.cells #[.slice (some ⟨b0, o0, none⟩) nL cv, .slice (some ⟨br, or, none⟩) nL cr] 29 (0, 0)))) (fun _ i _ => rl.length - (intOf i).toNat)
    case atStart => exact ⟨0, l7, n7, a7, c7, Nat.zero_le _, rfl, rfl, HN7, HM7, Lib.hid (by simp [rowB]), HB7⟩
    obtain ⟨j, lj, jj, aj, cj, hj, rfl, rfl, hjj, hmj, hlj, hboj⟩ := hrel
    rename World => wz
    have cB := cellOf hboj.out
    have g0 := (hmj.out.ext).keep HGR.out
    by_cases hltj : j < rl.length
    ·have hjz : (j : Int) < (rl.length : Int) := by omega
     have HJJ : Hid (Value.int .i64 ((j : Int) + 1) = .int .i64 ((j + 1 : Nat) : Int)) := Lib.hid (by rw [show ((j + 1 : Nat) : Int) = (j : Int) + 1 from by omega])
     have HJB := Lib.hid (show lj.length ≤ 5 + 2580 * k + 1300 + 1280 from by
      rw [hlj.out, List.length_append]
      have h1 := rowB_len (rl.take j) (fun r hr => by
       obtain ⟨q, hq, rfl⟩ := List.getElem_of_mem hr
       rw [List.getElem_take]
       exact HRB.out q (by simp at hq; omega))
      have h2 := HLB7.out
      rw [List.length_take] at h1
      omega)
     obtain ⟨bm, om, km, hme, -, -, hcm⟩ := Ints.at (show Ints (fun b => W.heap.size ≤ b) wz .i64 (.slice ra rl.length rc) rl from Row.extNo HRI.out hmj.out.ext) hltj
     simp only [Value.slice.injEq] at hme
     obtain ⟨rfl, -, rfl⟩ := hme
     have p0 := hcm j hltj
     have hbad := HRB.out j hltj
     unfold RkBad at hbad
     have htk := rowB_take hltj
     obtain ⟨r, hr⟩ : ∃ r : Nat, r = (rl[j]).toNat := ⟨_, rfl⟩
     have hre2 : rl[j] = (r : Int) := by omega
     rw [← hr] at htk
     rw [hre2] at p0
     have hr5 : r < 128 ^ 5 := by omega
     have HTK := Lib.hid htk
     have hwzz : W.heap.size + 1 ≤ wz.heap.size := lt_of_block hboj.out
     clear hcm hbad htk hr hre2
     go_wp2_with fail
     clear p0 cB g0
     refine (ruvarint_any (W.heap.size + 1) r (.slice aj jj cj) lj wz hmj.out.own hwzz (by have := HJB.out; omega) hr5).mono ?_
     rintro e9 w9 ⟨s9, rfl, hO9, hx9, -⟩
     have hM9 := hmj.out.step hO9.out hx9
     obtain ⟨l9, hl9⟩ : ∃ l9, l9 = lj ++ uv r := ⟨_, rfl⟩
     have hO8 := hO9.out
     rw [← hl9] at hM9 hO8
     obtain ⟨a9, c9, hs9⟩ := hO8.slice
     subst hs9
     obtain ⟨n9, hn9⟩ : ∃ n9, n9 = l9.length := ⟨_, rfl⟩
     rw [← hn9] at hM9 ⊢
     have HM9 := Lib.hid hM9
     have HN9 := Lib.hid hn9
     have HL9 := Lib.hid (show l9 = l7 ++ rowB (rl.take (j + 1)) from by rw [hl9, hlj.out, HTK.out, List.append_assoc])
     have HB9 := Lib.hid (hx9.blk hboj.out (fun e => by have := (hmj.out.own.lt _ e).1; omega))
     clear hO9 hx9 hM9 hl9 hO8 hn9 hmj hlj hjj hboj
     go_wp2_with fail
     go_roundw
     case rel => exact ⟨j + 1, l9, n9, a9, c9, by omega, HJJ.out, rfl, HN9, HM9, HL9, HB9⟩
     case measure => simp [intOf]; omega
    have hgej : ¬ (j : Int) < (rl.length : Int) := by omega
    go_wp2_with fail
    go_roundw
    case rel => exact ⟨k + 1, lj, jj, aj, cj, by omega, HKK.out, rfl, hjj, hmj, Lib.hid (by rw [hlj.out, List.take_of_length_le (by omega), HL7.out, hlk.out, HIT.out, List.append_assoc, List.append_assoc]), hboj⟩
    case measure => simp [intOf]; omega
   have hge : ¬ (k : Int) < (nL : Int) := by omega
   have cB := cellOf hbox.out
   have hkn : k = nL := by omega
   have HKN := Lib.hid hkn
   clear hkn
   have hbl : lk.length ≤ 1099511627776 := by have := HKB.out; omega
   have HEB := Lib.hid (show lk = encB Lv R from by
    rw [hlk.out, HL0.out, HKN.out]
    unfold encB
    rw [List.take_of_length_le (by simp; rw [← HNL.out]; omega), HNL.out])
   go_wp2_with fail
   clear cB
   refine (rsealed_any (.slice a kk c) lk wr (hm.out.own.ints (fun _ _ x => x)) hbl (by rw [HEB.out]; exact encB_byte Lv R)).mono ?_
   rintro e9 w9 ⟨s9, rfl, hO9, hx9⟩
   have hM9 : EnM W w9 s9 (sealB (encB Lv R)) := ⟨by
    have h := row_base hO9.out hwz
    rw [show lk ++ ckB lk = sealB (encB Lv R) from by rw [HEB.out]; rfl] at h
    exact h, hm.out.ext.transNo hx9⟩
   obtain ⟨a9, c9, hs9⟩ := hM9.own.slice
   subst hs9
   have HM9 := Lib.hid hM9
   have HOKE := Lib.hid (show EncOk Lv R from ⟨by rw [← HNL.out]; exact h256, HRP.out⟩)
   clear hO9 hx9 hM9
   go_wp2_with fail
   refine ret_ex rfl ?_
   simp [results, Tryz.results24, go_sem]
   exact .inr ⟨HOKE.out, _, rfl, Lib.hid (row_base HM9.out.own (Nat.le_succ _)), HM9.out.ext⟩
 have hz : (256 : Int) < (nL : Int) := by omega
 go_wp2_with fail
 refine ret_ex rfl ?_
 simp [results, Tryz.results24, go_sem]
 exact .inl ⟨fun h => by have := h.1; rw [← HNL.out] at this; omega, rfl, HX.out⟩

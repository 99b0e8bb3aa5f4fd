/- Evict of the memo table. -/
import Derived.Test.YtfejidihocoboaaN16
set_option linter.unusedVariables false
set_option linter.unusedSimpArgs false
namespace Go.Proofs.Ytfejidihocoboaa
open Go Go.RowKit
open Go.Maps (Keyed)
theorem evE_of {es : List Ent} {R : List Key3} (hn : (keysE es).Nodup) (hp : R.Perm (keysE es)) (ho : R.Pairwise (ordF (tickE es))) {q n : Nat} (hq : q = n ∨ (es.length ≤ q ∧ es.length ≤ n)) : es.filter (fun e => !decide (e.key ∈ R.take q)) = evE n es := by
  unfold evE
  refine List.filter_congr (fun e he => ?_)
  have h1 := take_rank hp ho (List.mem_map_of_mem he) q
  rw [rankE_key hn he] at h1
  have h2 : rankE es e < es.length := by
    obtain ⟨i, hi, e1⟩ := List.getElem_of_mem (hp.mem_iff.2 (List.mem_map_of_mem (f := fun q : Ent => q.key) he))
    have h3 := rank_at hp ho hi
    have h4 := rankE_key hn he
    have h5 := hp.length_eq
    simp only [keysE, List.length_map] at h5
    rw [e1] at h3
    unfold keysE at h4 h3
    omega
  rw [← decide_not]
  refine decide_eq_decide.2 ?_
  rw [h1]
  omega
set_option maxRecDepth 100000 in
set_option maxHeartbeats 4000000 in
theorem mevict_any {M : Nat → Prop} {W : World} {T bm : Nat} {cap clk : Int} {vk : Value} {L : List PE} (z : Int) (h : PTab M W T cap clk bm vk L) (hS : (keysOf L).Pairwise ltK) (hn : L.length ≤ 19) :
    Calls Try.prog 14 #[ptrV T, .int .i64 z] W (TabPost M T cap (POwn T bm vk L) (.int .i64 ((L.length : Int) - ((evE z.toNat (L.map Prod.fst)).length : Int))) clk (evE z.toNat (L.map Prod.fst)) W) := by
  have hx0 : Ext No W (W.alloc (.cells #[.pointer (some ⟨T, 0, none⟩)] 25)) := (Ext.refl _ _).alloc _
  have H := Lib.hid (h.stepNo hx0)
  have HX := Lib.hid hx0
  have HB := Lib.hid (alloc_top (w := W) (o := .cells #[.pointer (some ⟨T, 0, none⟩)] 25) rfl)
  have hown := fun b (hb : POwn T bm vk L b) => h.ownLt hb
  have HOW := Lib.hid hown
  have hkl : (keysOf L).length = L.length := by simp [keysOf]
  obtain ⟨ak, ck, hvk⟩ := h.t.keys.slice
  have HVK := Lib.hid hvk
  have HS := Lib.hid hS
  have HKL := Lib.hid hkl
  have hS63 : (keysOf L).length ≤ 1048576 := by omega
  clear h hx0 hown hvk hS hkl
  unfold ptrV at *
  go_enter Try.func14, Try.ntmps14
  go_upto_region 1 with (fail)
  generalize (W.alloc (.cells #[.pointer (some ⟨T, 0, none⟩)] 25)) = V at *
  have cB := cellOf HB.out
  have cT := cellOf H.out.t.box
  go_wp2_with fail
  refine (kclone_any vk (keysOf L) V (KOwn.list H.out.t.keys no_no2) hS63).mono ?_
  rintro e1 w1 ⟨v1, rfl, hO1, hx1⟩
  have HNEW := Lib.hid (show ∀ b, v1.ownBlock = some b → V.heap.size ≤ b from fun b hb => (hO1.out.lt b hb).1)
  have HO1 := Lib.hid (show LOwn kK No w1 0 v1 (keysOf L) from ⟨row_base hO1.out.own (Nat.zero_le _), fun _ _ => trivial⟩)
  obtain ⟨a1, c1, hv1⟩ := hO1.out.slice
  rw [HKL.out] at hv1
  subst hv1
  clear cB cT hO1
  go_upto_region 2 with (fail)
  have hx2 : Ext No w1 (w1.alloc (.cells #[.slice a1 L.length c1] 63)) := (Ext.refl _ _).alloc _
  have HLB := Lib.hid (alloc_top (w := w1) (o := .cells #[.slice a1 L.length c1] 63) rfl)
  have HX2 := Lib.hid (hx1.transNo hx2)
  have HO2 := Lib.hid (KOwn.ext HO1.out hx2 no_no2)
  have HLV := Lib.hid (show V.heap.size ≤ w1.heap.size from hx1.size)
  have HLN := Lib.hid (show ∀ b, (Value.slice a1 L.length c1).ownBlock = some b → b < w1.heap.size from fun b hb => (HO1.out.lt b hb).2)
  clear hx1 hx2 HO1
  generalize (w1.alloc (.cells #[.slice a1 L.length c1] 63)) = w2 at *
  generalize w1.heap.size = lb at *
  have cL := cellOf HLB.out
  go_wp2_with fail
  have hkn : (keysOf L).length ≤ 19 := by rw [HKL.out]; exact hn
  refine (sortS_any (tickE (L.map Prod.fst)) (keysOf L) (.pointer (some ⟨W.heap.size, 0, none⟩)) (.slice a1 L.length c1) (fun w => Ext No V w) w2 (fun x y w hx hy ho => ?_) (fun w w' ho hx => ho.trans2 hx (fun i hi e => by have := HNEW.out i e; omega)) HX2.out HO2.out HS.out hkn).mono ?_
  · obtain ⟨e1, he1, rfl⟩ := List.mem_map.1 hx
    obtain ⟨e2, he2, rfl⟩ := List.mem_map.1 hy
    have hnn : (keysE (L.map Prod.fst)).Nodup := by rw [keysOf_fst]; exact H.out.t.uk
    have h9 := evict1_any e1 e2 (H.out.stepNo ho) he1 he2 (ho.blk HB.out no_no)
    rw [← tickE_of hnn (List.mem_map_of_mem he1), ← tickE_of hnn (List.mem_map_of_mem he2)] at h9
    exact h9
  rintro e3 w3 ⟨rfl, R, hR1, hR2, hR3, hx3⟩
  have HX3 := Lib.hid (show Ext No V w3 from HX2.out.trans2 hx3 (fun i hi e => by have := HNEW.out i e; omega))
  have HL3 := Lib.hid (hx3.blk HLB.out (fun e => absurd (HLN.out _ e) (Nat.lt_irrefl _)))
  clear cL hkn hx3 HO2 HX2
  have cL := cellOf HL3.out
  have fL := freeOf HL3.out
  have HRL := Lib.hid (show R.length = L.length from by rw [hR2.out.length_eq, HKL.out])
  have hck := (KOwn.list hR1.out no_no2).row
  rw [HRL.out] at hck
  have hcc := hck.caps.1
  clear hck
  have hcz : (L.length : Int) ≤ (c1 : Int) := by omega
  by_cases hz0 : z < 0
  · have hz1 : ¬ (0 : Int) ≤ z := by omega
    go_upto_region 4 with (fail)
    have hE4 : Ext (At lb) w3 (w3.setCell ⟨lb, 0, none⟩ (.slice a1 0 c1)) := (Ext.refl _ _).setAt _ _
    have hL4 := (set_same (j := 0) (u := .slice a1 0 c1) HL3.out).trans rfl
    have HX4 := Lib.hid (HX3.out.trans2 hE4 (fun i hi e => by have := HLV.out; unfold At at e; omega))
    have hR4 := KOwn.ext hR1.out hE4 (fun b hb e => by have := HLN.out b hb; unfold At at e; omega)
    have hrow := (KOwn.list (M := (fun b => b = bm ∨ vk.ownBlock = some b)) hR4 (fun b hb e => by
      have h1 := HNEW.out b hb
      have h3 := HX.out.size
      rcases e with e | e
      · have h2 := HOW.out b (.inr (.inl e)); omega
      · have h2 := HOW.out b (.inr (.inr (.inl e))); omega)).row
    rw [HRL.out] at hrow
    have hrow2 := Row.takeC (k := 0) hrow (by omega)
    rw [flat_take kK] at hrow2
    have HD := Lib.hid (show LAt kK (fun b => b = bm ∨ vk.ownBlock = some b) _ (.slice a1 0 c1) (R.take 0) from ⟨by rw [List.length_take, HRL.out, Nat.min_eq_left (by omega)]; exact hrow2, fun _ _ => trivial⟩)
    have HL4 := Lib.hid hL4
    have HB4 := Lib.hid (HX4.out.blk HB.out no_no)
    clear hE4 hL4 hR4 hrow hrow2 cL fL
    generalize (w3.setCell ⟨lb, 0, none⟩ (.slice a1 0 c1)) = w4 at *
    have cB := cellOf HB4.out
    go_wp2_with fail
    refine (mremove_any (fun x : Key3 => decide (x ∈ R.take 0)) (.func 41) #[] #[.pointer (some ⟨lb, 0, none⟩)] (fun tb hb w => OkEv (fun b => b = bm ∨ vk.ownBlock = some b) lb (.slice a1 0 c1) (R.take 0) T tb hb bm w ∧ ¬ (fun b => b = bm ∨ vk.ownBlock = some b) tb ∧ ¬ (fun b => b = bm ∨ vk.ownBlock = some b) hb ∧ ¬ (fun b => b = bm ∨ vk.ownBlock = some b) T ∧ ¬ (fun b => b = bm ∨ vk.ownBlock = some b) lb)
      (fun tb hb x w R' hx hO hR => rem1e_any (fun b => b = bm ∨ vk.ownBlock = some b) lb (.slice a1 0 c1) (R.take 0) T tb hb bm x hx w R' hO.1 hR) (fun tb hb w w' hO hx => ⟨hO.1.ext hx hO.2.1 hO.2.2.1 hO.2.2.2.1 hO.2.2.2.2 (fun _ e => e), hO.2⟩) (fun V' hx hA hB => ?_) (H.out.stepNo HX4.out) (by omega)).mono ?_
    · have hkm : ∀ b, V.heap.size ≤ b → ¬ (fun b => b = bm ∨ vk.ownBlock = some b) b := fun b hb e => by
        have h3 := HX.out.size
        rcases e with e | e
        · have := HOW.out b (.inr (.inl e)); omega
        · have := HOW.out b (.inr (.inr (.inl e))); omega
      have hs4 := HX4.out.size
      refine ⟨⟨hA, hB, ⟨_, _, _, hx.blk (HX4.out.blk H.out.t.box no_no) no_no⟩, hx.blk HL4.out no_no, HD.out.extNo hx⟩, hkm _ hs4, hkm _ (Nat.le_succ_of_le hs4), fun e => ?_, hkm _ HLV.out⟩
      rcases e with e | e
      · exact H.out.neTM e
      · exact H.out.t.neTK e rfl
    · rintro e1 w5 ⟨bm1, vk1, L1, rfl, hP, hL, hx5, ho⟩
      have hnn : (keysE (L.map Prod.fst)).Nodup := by rw [keysOf_fst]; exact H.out.t.uk
      have hev := evE_of (q := 0) (n := z.toNat) hnn (by rw [keysOf_fst]; exact hR2.out) hR3.out (by simp only [List.length_map]; omega)
      rw [hev] at hL
      have hlen : (L.filter (fun e => !decide (e.1.key ∈ R.take 0))).length = (evE z.toNat (L.map Prod.fst)).length := by
        rw [← hev, List.filter_map, List.length_map]
        rfl
      rw [hlen]
      go_wp2_with fail
      go_ret
      exact ⟨bm1, vk1, L1, rfl, hP, hL, (HX.out.transNo HX4.out).ofNo.trans hx5, Lib.hid (fun b hb => (ho.out b hb).imp id (fun h => Nat.le_trans (HX.out.transNo HX4.out).size h))⟩
  · obtain ⟨q, rfl⟩ : ∃ q : Nat, z = q := ⟨z.toNat, by omega⟩
    have hq0 : (0 : Int) ≤ (q : Int) := by omega
    by_cases hql : q ≤ L.length
    · have hqz : (q : Int) ≤ (L.length : Int) := by omega
      have hqc : (q : Int) ≤ (c1 : Int) := by omega
      go_upto_region 4 with (fail)
      have hE4 : Ext (At lb) w3 (w3.setCell ⟨lb, 0, none⟩ (.slice a1 q c1)) := (Ext.refl _ _).setAt _ _
      have hL4 := (set_same (j := 0) (u := .slice a1 q c1) HL3.out).trans rfl
      have HX4 := Lib.hid (HX3.out.trans2 hE4 (fun i hi e => by have := HLV.out; unfold At at e; omega))
      have hR4 := KOwn.ext hR1.out hE4 (fun b hb e => by have := HLN.out b hb; unfold At at e; omega)
      have hrow := (KOwn.list (M := (fun b => b = bm ∨ vk.ownBlock = some b)) hR4 (fun b hb e => by
        have h1 := HNEW.out b hb
        have h3 := HX.out.size
        rcases e with e | e
        · have h2 := HOW.out b (.inr (.inl e)); omega
        · have h2 := HOW.out b (.inr (.inr (.inl e))); omega)).row
      rw [HRL.out] at hrow
      have hrow2 := Row.takeC (k := q) hrow (by omega)
      rw [flat_take kK] at hrow2
      have HD := Lib.hid (show LAt kK (fun b => b = bm ∨ vk.ownBlock = some b) _ (.slice a1 q c1) (R.take q) from ⟨by rw [List.length_take, HRL.out, Nat.min_eq_left (by omega)]; exact hrow2, fun _ _ => trivial⟩)
      have HL4 := Lib.hid hL4
      have HB4 := Lib.hid (HX4.out.blk HB.out no_no)
      clear hE4 hL4 hR4 hrow hrow2 cL fL
      generalize (w3.setCell ⟨lb, 0, none⟩ (.slice a1 q c1)) = w4 at *
      have cB := cellOf HB4.out
      go_wp2_with fail
      refine (mremove_any (fun x : Key3 => decide (x ∈ R.take q)) (.func 41) #[] #[.pointer (some ⟨lb, 0, none⟩)] (fun tb hb w => OkEv (fun b => b = bm ∨ vk.ownBlock = some b) lb (.slice a1 q c1) (R.take q) T tb hb bm w ∧ ¬ (fun b => b = bm ∨ vk.ownBlock = some b) tb ∧ ¬ (fun b => b = bm ∨ vk.ownBlock = some b) hb ∧ ¬ (fun b => b = bm ∨ vk.ownBlock = some b) T ∧ ¬ (fun b => b = bm ∨ vk.ownBlock = some b) lb)
        (fun tb hb x w R' hx hO hR => rem1e_any (fun b => b = bm ∨ vk.ownBlock = some b) lb (.slice a1 q c1) (R.take q) T tb hb bm x hx w R' hO.1 hR) (fun tb hb w w' hO hx => ⟨hO.1.ext hx hO.2.1 hO.2.2.1 hO.2.2.2.1 hO.2.2.2.2 (fun _ e => e), hO.2⟩) (fun V' hx hA hB => ?_) (H.out.stepNo HX4.out) (by omega)).mono ?_
      · have hkm : ∀ b, V.heap.size ≤ b → ¬ (fun b => b = bm ∨ vk.ownBlock = some b) b := fun b hb e => by
          have h3 := HX.out.size
          rcases e with e | e
          · have := HOW.out b (.inr (.inl e)); omega
          · have := HOW.out b (.inr (.inr (.inl e))); omega
        have hs4 := HX4.out.size
        refine ⟨⟨hA, hB, ⟨_, _, _, hx.blk (HX4.out.blk H.out.t.box no_no) no_no⟩, hx.blk HL4.out no_no, HD.out.extNo hx⟩, hkm _ hs4, hkm _ (Nat.le_succ_of_le hs4), fun e => ?_, hkm _ HLV.out⟩
        rcases e with e | e
        · exact H.out.neTM e
        · exact H.out.t.neTK e rfl
      · rintro e1 w5 ⟨bm1, vk1, L1, rfl, hP, hL, hx5, ho⟩
        have hnn : (keysE (L.map Prod.fst)).Nodup := by rw [keysOf_fst]; exact H.out.t.uk
        have hev := evE_of (q := q) (n := (q : Int).toNat) hnn (by rw [keysOf_fst]; exact hR2.out) hR3.out (by simp only [List.length_map]; omega)
        rw [hev] at hL
        have hlen : (L.filter (fun e => !decide (e.1.key ∈ R.take q))).length = (evE (q : Int).toNat (L.map Prod.fst)).length := by
          rw [← hev, List.filter_map, List.length_map]
          rfl
        rw [hlen]
        go_wp2_with fail
        go_ret
        exact ⟨bm1, vk1, L1, rfl, hP, hL, (HX.out.transNo HX4.out).ofNo.trans hx5, Lib.hid (fun b hb => (ho.out b hb).imp id (fun h => Nat.le_trans (HX.out.transNo HX4.out).size h))⟩
    · have hqz : (L.length : Int) < (q : Int) := by omega
      have hqz2 : ¬ (q : Int) ≤ (L.length : Int) := by omega
      go_upto_region 4 with (fail)
      have hE4 : Ext (At lb) w3 (w3.setCell ⟨lb, 0, none⟩ (.slice a1 L.length c1)) := (Ext.refl _ _).setAt _ _
      have hL4 := (set_same (j := 0) (u := .slice a1 L.length c1) HL3.out).trans rfl
      have HX4 := Lib.hid (HX3.out.trans2 hE4 (fun i hi e => by have := HLV.out; unfold At at e; omega))
      have hR4 := KOwn.ext hR1.out hE4 (fun b hb e => by have := HLN.out b hb; unfold At at e; omega)
      have hrow := (KOwn.list (M := (fun b => b = bm ∨ vk.ownBlock = some b)) hR4 (fun b hb e => by
        have h1 := HNEW.out b hb
        have h3 := HX.out.size
        rcases e with e | e
        · have h2 := HOW.out b (.inr (.inl e)); omega
        · have h2 := HOW.out b (.inr (.inr (.inl e))); omega)).row
      rw [HRL.out] at hrow
      have hrow2 := Row.takeC (k := L.length) hrow (by omega)
      rw [flat_take kK] at hrow2
      have HD := Lib.hid (show LAt kK (fun b => b = bm ∨ vk.ownBlock = some b) _ (.slice a1 L.length c1) (R.take L.length) from ⟨by rw [List.length_take, HRL.out, Nat.min_eq_left (by omega)]; exact hrow2, fun _ _ => trivial⟩)
      have HL4 := Lib.hid hL4
      have HB4 := Lib.hid (HX4.out.blk HB.out no_no)
      clear hE4 hL4 hR4 hrow hrow2 cL fL
      generalize (w3.setCell ⟨lb, 0, none⟩ (.slice a1 L.length c1)) = w4 at *
      have cB := cellOf HB4.out
      go_wp2_with fail
      refine (mremove_any (fun x : Key3 => decide (x ∈ R.take L.length)) (.func 41) #[] #[.pointer (some ⟨lb, 0, none⟩)] (fun tb hb w => OkEv (fun b => b = bm ∨ vk.ownBlock = some b) lb (.slice a1 L.length c1) (R.take L.length) T tb hb bm w ∧ ¬ (fun b => b = bm ∨ vk.ownBlock = some b) tb ∧ ¬ (fun b => b = bm ∨ vk.ownBlock = some b) hb ∧ ¬ (fun b => b = bm ∨ vk.ownBlock = some b) T ∧ ¬ (fun b => b = bm ∨ vk.ownBlock = some b) lb)
        (fun tb hb x w R' hx hO hR => rem1e_any (fun b => b = bm ∨ vk.ownBlock = some b) lb (.slice a1 L.length c1) (R.take L.length) T tb hb bm x hx w R' hO.1 hR) (fun tb hb w w' hO hx => ⟨hO.1.ext hx hO.2.1 hO.2.2.1 hO.2.2.2.1 hO.2.2.2.2 (fun _ e => e), hO.2⟩) (fun V' hx hA hB => ?_) (H.out.stepNo HX4.out) (by omega)).mono ?_
      · have hkm : ∀ b, V.heap.size ≤ b → ¬ (fun b => b = bm ∨ vk.ownBlock = some b) b := fun b hb e => by
          have h3 := HX.out.size
          rcases e with e | e
          · have := HOW.out b (.inr (.inl e)); omega
          · have := HOW.out b (.inr (.inr (.inl e))); omega
        have hs4 := HX4.out.size
        refine ⟨⟨hA, hB, ⟨_, _, _, hx.blk (HX4.out.blk H.out.t.box no_no) no_no⟩, hx.blk HL4.out no_no, HD.out.extNo hx⟩, hkm _ hs4, hkm _ (Nat.le_succ_of_le hs4), fun e => ?_, hkm _ HLV.out⟩
        rcases e with e | e
        · exact H.out.neTM e
        · exact H.out.t.neTK e rfl
      · rintro e1 w5 ⟨bm1, vk1, L1, rfl, hP, hL, hx5, ho⟩
        have hnn : (keysE (L.map Prod.fst)).Nodup := by rw [keysOf_fst]; exact H.out.t.uk
        have hev := evE_of (q := L.length) (n := (q : Int).toNat) hnn (by rw [keysOf_fst]; exact hR2.out) hR3.out (by simp only [List.length_map]; omega)
        rw [hev] at hL
        have hlen : (L.filter (fun e => !decide (e.1.key ∈ R.take L.length))).length = (evE (q : Int).toNat (L.map Prod.fst)).length := by
          rw [← hev, List.filter_map, List.length_map]
          rfl
        rw [hlen]
        go_wp2_with fail
        go_ret
        exact ⟨bm1, vk1, L1, rfl, hP, hL, (HX.out.transNo HX4.out).ofNo.trans hx5, Lib.hid (fun b hb => (ho.out b hb).imp id (fun h => Nat.le_trans (HX.out.transNo HX4.out).size h))⟩
end Go.Proofs.Ytfejidihocoboaa

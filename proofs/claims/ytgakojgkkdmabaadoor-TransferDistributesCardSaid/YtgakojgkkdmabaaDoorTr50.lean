/- The walk of TransferDistributes. -/
import Derived.Test.YtgakojgkkdmabaaDoorTr49
set_option linter.unusedVariables false
set_option linter.unusedSimpArgs false
namespace Go.Proofs.YtgakojgkkdmabaaDoor
open Go Go.RowKit

theorem below_iff {t u : TrD} (ht : TrOk t) (hu : TrOk u) (hw : u.w = t.w) : belowB t u = true ↔ ∀ s, s < 2 ^ t.w → subN (applyT t s) (applyT u s) = true := by
  have hau : ∀ s b, s < 2 ^ t.w → ((applyT u s).testBit b = true ↔ u.gen.testBit b = true ∨ ∃ a, a < t.w ∧ s.testBit a = true ∧ (rowAt (rowsN u t.w u.copies.length) a).testBit b = true) := fun s b hs => by
    have := apply_bit (b := b) hu (hw ▸ hs)
    rw [hw] at this
    exact this
  rw [belowB, Bool.and_eq_true, belowTo_iff]
  constructor
  · rintro ⟨h1, h2⟩ s hs
    refine sub_of (applyT_lt ht hs) (fun b _ hb => ?_)
    rw [apply_bit ht hs] at hb
    rw [hau s b hs]
    rcases hb with hb | ⟨a, ha, h3, h4⟩
    · exact .inl (subN_iff.1 h1 b hb)
    · have h5 := subN_iff.1 (h2 a ha) b h4
      rw [show orN (rowAt (rowsN u t.w u.copies.length) a) u.gen = rowAt (rowsN u t.w u.copies.length) a ||| u.gen from rfl, Nat.testBit_or, Bool.or_eq_true] at h5
      rcases h5 with h5 | h5
      · exact .inr ⟨a, ha, h3, h5⟩
      · exact .inl h5
  · intro h
    constructor
    · refine sub_of ht.gen (fun b _ hb => ?_)
      have h1 := subN_iff.1 (h 0 (Nat.two_pow_pos _)) b ((apply_bit ht (Nat.two_pow_pos _)).2 (.inl hb))
      rw [hau 0 b (Nat.two_pow_pos _)] at h1
      rcases h1 with h1 | ⟨a, _, h2, _⟩
      · exact h1
      · simp at h2
    · intro a ha
      refine sub_of (rowAt_lt (rows_lt ht) a) (fun b _ hb => ?_)
      have h1 := subN_iff.1 (h (2 ^ a) (bitN_lt ha)) b ((apply_bit ht (bitN_lt ha)).2 (.inr ⟨a, ha, by rw [one_bit]; simp, hb⟩))
      rw [hau (2 ^ a) b (bitN_lt ha)] at h1
      rw [show orN (rowAt (rowsN u t.w u.copies.length) a) u.gen = rowAt (rowsN u t.w u.copies.length) a ||| u.gen from rfl, Nat.testBit_or, Bool.or_eq_true]
      rcases h1 with h1 | ⟨c, _, h2, h3⟩
      · exact .inr h1
      · rw [one_bit] at h2
        have : a = c := of_decide_eq_true h2
        rw [this]; exact .inl h3
theorem same_canon {t u : TrD} (ht : TrOk t) (hu : TrOk u) (hw : u.w = t.w) (hc : TrOk (canonT t)) (hd : TrOk (canonT u)) : (belowB t u && belowB u t) = eqD (canonT t) (canonT u) := bool_ext (by
  rw [eqD_iff hc hd, Bool.and_eq_true, below_iff ht hu hw, below_iff hu ht hw.symm]
  constructor
  · rintro ⟨h1, h2⟩
    have hd' : TrOk (closeT t.w u.gen (rowsN u u.w u.copies.length)) := by rw [← hw]; exact hd
    have e : canonT u = closeT t.w u.gen (rowsN u u.w u.copies.length) := by rw [← hw]; rfl
    rw [e]
    refine closeT_ext hc hd' (fun s hs => ?_)
    have hsu : s < 2 ^ u.w := hw ▸ hs
    have a1 : applyT (canonT t) s = applyT t s := mean_canon ht hc hs
    have a2 : applyT (canonT u) s = applyT u s := mean_canon hu hd hsu
    rw [e] at a2
    show applyT (canonT t) s = _
    rw [a1, a2]
    exact sub_anti (h1 s hs) (h2 s hsu)
  · intro e
    have hv : ∀ s, s < 2 ^ t.w → applyT t s = applyT u s := fun s hs => by
      rw [← mean_canon ht hc hs, ← mean_canon hu hd (hw ▸ hs), e]
    exact ⟨fun s hs => by rw [hv s hs]; exact sub_refl _, fun s hs => by rw [hv s (hw ▸ hs)]; exact sub_refl _⟩)
theorem same_self {t : TrD} (ht : TrOk t) (hc : TrOk (canonT t)) : (belowB t (canonT t) && belowB (canonT t) t) = true := by
  rw [Bool.and_eq_true, below_iff ht hc rfl, below_iff hc ht rfl]
  have hv : ∀ s, s < 2 ^ t.w → applyT (canonT t) s = applyT t s := fun s hs => mean_canon ht hc hs
  exact ⟨fun s hs => by rw [hv s hs]; exact sub_refl _, fun s hs => by rw [hv s hs]; exact sub_refl _⟩
theorem tsame_b (t u : TrD) (w : Nat) (b : Bool) (g1 k1 c1 g2 k2 c2 : Value) (W : World) (hb : (belowB t u && belowB u t) = b) (hw : t.w = w) (hu : u.w = w) (hT : TabW W) (h1 : TrAt No W g1 k1 c1 t) (h2 : TrAt No W g2 k2 c2 u) :
    Calls Tryd.prog 33 #[.agg #[.int .i64 (w : Int), g1, .int .i64 (w : Int), k1, c1], .agg #[.int .i64 (w : Int), g2, .int .i64 (w : Int), k2, c2]] W (BoolPost b W) := by
  subst hb; exact tsame_w t u w _ _ _ _ _ _ W hw hu hT h1 h2
theorem requals_b (t u : TrD) (w : Nat) (b : Bool) (g1 k1 c1 g2 k2 c2 : Value) (W : World) (hb : eqD t u = b) (hw : t.w = w) (hu : u.w = w) (h1 : TrAt No W g1 k1 c1 t) (h2 : TrAt No W g2 k2 c2 u) :
    Calls Tryd.prog 26 #[.agg #[.int .i64 (w : Int), g1, .int .i64 (w : Int), k1, c1], .agg #[.int .i64 (w : Int), g2, .int .i64 (w : Int), k2, c2]] W (BoolPost b W) := by
  subst hb; exact requals_w t u w _ _ _ _ _ _ W hw hu h1 h2
theorem below_b (t u : TrD) (w : Nat) (b : Bool) (g1 k1 c1 g2 k2 c2 : Value) (W : World) (hb : belowB t u = b) (hw : t.w = w) (hu : u.w = w) (hT : TabW W) (h1 : TrAt No W g1 k1 c1 t) (h2 : TrAt No W g2 k2 c2 u) :
    Calls Tryd.prog 34 #[.agg #[.int .i64 (w : Int), g1, .int .i64 (w : Int), k1, c1], .agg #[.int .i64 (w : Int), g2, .int .i64 (w : Int), k2, c2]] W (BoolPost b W) := by
  subst hb; exact below_w t u w _ _ _ _ _ _ W hw hu hT h1 h2

set_option maxRecDepth 100000 in
set_option maxHeartbeats 16000000 in
theorem transferDistributes_any (tl : Value) (zs : List Int) (w : World) (ht : Ints No w .i64 tl zs) (hT : TabW w) : Calls Tryd.prog 7 #[tl] w fun e w' => e = .returned (.bool true) ∧ Ext No w w' := by
  have HT := Lib.hid ht
  have HTB := Lib.hid hT
  obtain ⟨at', ct', rfl⟩ := ht.slice
  clear ht hT
  go_enter Tryd.func7, Tryd.ntmps7
  go_wp2_with fail
  refine (new_any _ zs _ HT.out).mono ?_
  rintro e0 w0 ⟨rfl, ht0, hx0, hs0⟩
  have HT0 := Lib.hid ht0
  have HX0 := Lib.hid hx0
  clear ht0 hx0 hs0
  go_wp2_with fail
  refine (width_any _ _ HT0.out).mono ?_
  rintro e1 w1 ⟨W8, hw8, rfl, ht1, hx1⟩
  have HT1 := Lib.hid ht1
  have HX1 := Lib.hid (HX0.out.trans2 hx1 (fun i hi e => by cases e; exact absurd hi (Nat.lt_irrefl _)))
  clear HX0 HT0 ht1 hx1
  go_wp2_with fail
  have hlt1 := HT1.out.lt
  refine (gtr_any _ W8 _ (by omega) HT1.out).mono ?_
  rintro e2 w2 ⟨t, sg, sk, sc, hw, rfl, hF, ht2, hx2⟩
  subst hw
  obtain ⟨afg, cfg, rfl⟩ := hF.out.gen.slice
  obtain ⟨afk, cfk, rfl⟩ := hF.out.kill.slice
  obtain ⟨afc, cfc, rfl⟩ := Row.slice hF.out.copies
  have HWF := Lib.hid (show t.w = t.w from rfl)
  have hF2 := Lib.hid (hF.out.mono (M' := At w.heap.size) (fun i _ e => by cases e; exact hlt1))
  clear hF
  have HT2 := Lib.hid ht2
  have HX2 := Lib.hid (HX1.out.trans2 hx2 (fun i hi e => by cases e; exact absurd hi (Nat.lt_irrefl _)))
  have hsz2 := hx2.size
  clear HX1 HT1 ht2 hx2
  go_wp2_with fail
  have hlt2 := HT2.out.lt
  refine (gtr_any _ t.w _ (by omega) HT2.out).mono ?_
  rintro e3 w3 ⟨u, sg, sk, sc, hu, rfl, hG, ht3, hx3⟩
  have HWG := Lib.hid hu
  have hug := hG.out.gen.slice
  have huk := hG.out.kill.slice
  rw [hu] at hug huk
  obtain ⟨agg, cgg, rfl⟩ := hug
  obtain ⟨agk, cgk, rfl⟩ := huk
  obtain ⟨agc, cgc, rfl⟩ := Row.slice hG.out.copies
  clear hu
  have hG3 := Lib.hid (hG.out.mono (M' := At w.heap.size) (fun i _ e => by cases e; exact hlt2))
  clear hG
  have hF3 := Lib.hid (hF2.out.ext hx3 (fun i _ e => e))
  have HT3 := Lib.hid ht3
  have HX3 := Lib.hid (HX2.out.trans2 hx3 (fun i hi e => by cases e; exact absurd hi (Nat.lt_irrefl _)))
  have hsz3 := hx3.size
  clear HX2 HT2 ht3 hx3 hF2
  go_wp2_with fail
  have hlt3 := HT3.out.lt
  refine (gset_any _ t.w _ (by omega) HT3.out).mono ?_
  rintro e4 w4 ⟨m, ga, hm, rfl, hb, hlo, ht4, hx4⟩
  have HMA := Lib.hid hm
  have hA4 := Lib.hid (hb.out.set (M := At w.heap.size) (Nat.le_trans hw8 (by decide)) hm (fun e => by unfold At at e; omega))
  clear hm hb hlo
  have hF4 := Lib.hid (hF3.out.ext hx4 (fun i _ e => e))
  have hG4 := Lib.hid (hG3.out.ext hx4 (fun i _ e => e))
  have HT4 := Lib.hid ht4
  have HX4 := Lib.hid (HX3.out.trans2 hx4 (fun i hi e => by cases e; exact absurd hi (Nat.lt_irrefl _)))
  have hsz4 := hx4.size
  clear HX3 HT3 ht4 hx4 hF3 hG3
  go_wp2_with fail
  have hlt4 := HT4.out.lt
  refine (gset_any _ t.w _ (by omega) HT4.out).mono ?_
  rintro e5 w5 ⟨q, gb, hm, rfl, hb, hlo, ht5, hx5⟩
  have HMB := Lib.hid hm
  have hB5 := Lib.hid (hb.out.set (M := At w.heap.size) (Nat.le_trans hw8 (by decide)) hm (fun e => by unfold At at e; omega))
  clear hm hb hlo
  have hF5 := Lib.hid (hF4.out.ext hx5 (fun i _ e => e))
  have hG5 := Lib.hid (hG4.out.ext hx5 (fun i _ e => e))
  have hA5 := Lib.hid (hA4.out.ext hx5 (fun i _ e => e))
  have HT5 := Lib.hid ht5
  have HX5 := Lib.hid (HX4.out.trans2 hx5 (fun i hi e => by cases e; exact absurd hi (Nat.lt_irrefl _)))
  have hsz5 := hx5.size
  clear HX4 HT4 ht5 hx5 hF4 hG4 hA4
  go_wp2_with fail
  have hx5 : Ext No w5 ((((w5.alloc (.cells #[.int .i64 (t.w : Int), .slice afg (nw t.w) cfg, .int .i64 (t.w : Int), .slice afk (nw t.w) cfk, .slice afc t.copies.length cfc] 28)).alloc (.cells #[.int .i64 (t.w : Int), .slice agg (nw t.w) cgg, .int .i64 (t.w : Int), .slice agk (nw t.w) cgk, .slice agc u.copies.length cgc] 28)).alloc (.cells #[.int .i64 (t.w : Int), .slice (some ⟨ga, 0, none⟩) (nw t.w) (nw t.w)] 25)).alloc (.cells #[.int .i64 (t.w : Int), .slice (some ⟨gb, 0, none⟩) (nw t.w) (nw t.w)] 25)) := ((((Ext.refl _ _).alloc _).alloc _).alloc _).alloc _
  have hF := Lib.hid (show TrBoxM No w5.heap.size t.w t.copies.length t afg cfg afk cfk afc cfc ((((w5.alloc (.cells #[.int .i64 (t.w : Int), .slice afg (nw t.w) cfg, .int .i64 (t.w : Int), .slice afk (nw t.w) cfk, .slice afc t.copies.length cfc] 28)).alloc (.cells #[.int .i64 (t.w : Int), .slice agg (nw t.w) cgg, .int .i64 (t.w : Int), .slice agk (nw t.w) cgk, .slice agc u.copies.length cgc] 28)).alloc (.cells #[.int .i64 (t.w : Int), .slice (some ⟨ga, 0, none⟩) (nw t.w) (nw t.w)] 25)).alloc (.cells #[.int .i64 (t.w : Int), .slice (some ⟨gb, 0, none⟩) (nw t.w) (nw t.w)] 25)) from ⟨alloc_under (alloc_under (alloc_under (alloc_top rfl))), (hF5.out.early (M' := No) (fun i e => by cases e)).extNo hx5⟩)
  have hG := Lib.hid (show TrBoxM No (w5.heap.size + 1) t.w u.copies.length u agg cgg agk cgk agc cgc ((((w5.alloc (.cells #[.int .i64 (t.w : Int), .slice afg (nw t.w) cfg, .int .i64 (t.w : Int), .slice afk (nw t.w) cfk, .slice afc t.copies.length cfc] 28)).alloc (.cells #[.int .i64 (t.w : Int), .slice agg (nw t.w) cgg, .int .i64 (t.w : Int), .slice agk (nw t.w) cgk, .slice agc u.copies.length cgc] 28)).alloc (.cells #[.int .i64 (t.w : Int), .slice (some ⟨ga, 0, none⟩) (nw t.w) (nw t.w)] 25)).alloc (.cells #[.int .i64 (t.w : Int), .slice (some ⟨gb, 0, none⟩) (nw t.w) (nw t.w)] 25)) from ⟨alloc_under (alloc_under (alloc_top (by simp))), (hG5.out.early (M' := No) (fun i e => by cases e)).extNo hx5⟩)
  have hA := Lib.hid (show SetBoxM No (w5.heap.size + 2) t.w m (some ⟨ga, 0, none⟩) (nw t.w) ((((w5.alloc (.cells #[.int .i64 (t.w : Int), .slice afg (nw t.w) cfg, .int .i64 (t.w : Int), .slice afk (nw t.w) cfk, .slice afc t.copies.length cfc] 28)).alloc (.cells #[.int .i64 (t.w : Int), .slice agg (nw t.w) cgg, .int .i64 (t.w : Int), .slice agk (nw t.w) cgk, .slice agc u.copies.length cgc] 28)).alloc (.cells #[.int .i64 (t.w : Int), .slice (some ⟨ga, 0, none⟩) (nw t.w) (nw t.w)] 25)).alloc (.cells #[.int .i64 (t.w : Int), .slice (some ⟨gb, 0, none⟩) (nw t.w) (nw t.w)] 25)) from ⟨alloc_under (alloc_top (by simp)), (hA5.out.earlyM (M' := No) (fun i e => by cases e)).extNo hx5⟩)
  have hB := Lib.hid (show SetBoxM No (w5.heap.size + 3) t.w q (some ⟨gb, 0, none⟩) (nw t.w) ((((w5.alloc (.cells #[.int .i64 (t.w : Int), .slice afg (nw t.w) cfg, .int .i64 (t.w : Int), .slice afk (nw t.w) cfk, .slice afc t.copies.length cfc] 28)).alloc (.cells #[.int .i64 (t.w : Int), .slice agg (nw t.w) cgg, .int .i64 (t.w : Int), .slice agk (nw t.w) cgk, .slice agc u.copies.length cgc] 28)).alloc (.cells #[.int .i64 (t.w : Int), .slice (some ⟨ga, 0, none⟩) (nw t.w) (nw t.w)] 25)).alloc (.cells #[.int .i64 (t.w : Int), .slice (some ⟨gb, 0, none⟩) (nw t.w) (nw t.w)] 25)) from ⟨alloc_top (by simp), (hB5.out.earlyM (M' := No) (fun i e => by cases e)).extNo hx5⟩)
  have HX := Lib.hid (HX5.out.transNo hx5)
  have hTB := Lib.hid (HTB.out.ext HX.out)
  have hFw : w.heap.size ≤ w5.heap.size := HX5.out.size
  clear HX5 HT5 hx5 HT hF5 hG5 hA5 hB5 hlt1 hlt2 hlt3 hlt4 hsz2 hsz3 hsz4 hsz5
  generalize ((((w5.alloc (.cells #[.int .i64 (t.w : Int), .slice afg (nw t.w) cfg, .int .i64 (t.w : Int), .slice afk (nw t.w) cfk, .slice afc t.copies.length cfc] 28)).alloc (.cells #[.int .i64 (t.w : Int), .slice agg (nw t.w) cgg, .int .i64 (t.w : Int), .slice agk (nw t.w) cgk, .slice agc u.copies.length cgc] 28)).alloc (.cells #[.int .i64 (t.w : Int), .slice (some ⟨ga, 0, none⟩) (nw t.w) (nw t.w)] 25)).alloc (.cells #[.int .i64 (t.w : Int), .slice (some ⟨gb, 0, none⟩) (nw t.w) (nw t.w)] 25)) = V at *
  generalize w5.heap.size = F at *
  refine (union_any No t.w m q _ _ _ (fun _ e => e.elim) hA.out.set hB.out.set).mono ?_
  rintro eU u1 ⟨aU, cU, rfl, hU0, hy⟩
  have hz := hy.alloc (.cells #[.int .i64 (t.w : Int), .slice aU (nw t.w) cU] 25)
  have hz1 : Ext No u1 (u1.alloc (.cells #[.int .i64 (t.w : Int), .slice aU (nw t.w) cU] 25)) := (Ext.refl _ _).alloc _
  have kF := Lib.hid (hF.out.ext hz)
  have kG := Lib.hid (hG.out.ext hz)
  have kA := Lib.hid (hA.out.ext hz)
  have kB := Lib.hid (hB.out.ext hz)
  have kU := Lib.hid (show SetBoxM No u1.heap.size t.w (orN m q) aU cU (u1.alloc (.cells #[.int .i64 (t.w : Int), .slice aU (nw t.w) cU] 25)) from ⟨alloc_top rfl, hU0.out.extNo hz1⟩)
  have kE := Lib.hid (HX.out.transNo hz)
  have kT := Lib.hid (hTB.out.ext hz)
  clear hF hG hA hB hU0 hy hz hz1 HX hTB
  have xF := cellOf kF.out.box
  have xA := cellOf kA.out.box
  have xB := cellOf kB.out.box
  go_wp2_with fail
  clear xF xA xB
  generalize (u1.alloc (.cells #[.int .i64 (t.w : Int), .slice aU (nw t.w) cU] 25)) = V1 at *
  generalize u1.heap.size = DU at *
  have hF := kF
  have hG := kG
  have hA := kA
  have hB := kB
  have hU := kU
  have HX := kE
  have hTB := kT
  clear kF kG kA kB kU kE kT
  go_cut [11, 12] (fun s11 s12 wx => ∃ D a c, s11 = .pointer (some ⟨D, 0, none⟩) ∧ s12 = .int .i64 0 ∧ Hid (SetBoxM No D t.w (orN (applyT t m) (applyT t q)) a c wx) ∧ Hid (Ext No V1 wx))
  case first =>
    have qqF := cellOf hF.out.box
    have m0 : V1.cell? ⟨F, 0, none⟩ = some (.int .i64 (t.w : Int)) := qqF 0
    have m1 : V1.cell? ⟨F, 1, none⟩ = some (.slice afg (nw t.w) cfg) := qqF 1
    have m2 : V1.cell? ⟨F, 2, none⟩ = some (.int .i64 (t.w : Int)) := qqF 2
    have m3 : V1.cell? ⟨F, 3, none⟩ = some (.slice afk (nw t.w) cfk) := qqF 3
    have m4 : V1.cell? ⟨F, 4, none⟩ = some (.slice afc t.copies.length cfc) := qqF 4
    clear qqF
    have qqA := cellOf hA.out.box
    have m5 : V1.cell? ⟨F + 2, 0, none⟩ = some (.int .i64 (t.w : Int)) := qqA 0
    have m6 : V1.cell? ⟨F + 2, 1, none⟩ = some (.slice (some ⟨ga, 0, none⟩) (nw t.w) (nw t.w)) := qqA 1
    clear qqA
    have qqB := cellOf hB.out.box
    have m7 : V1.cell? ⟨F + 3, 0, none⟩ = some (.int .i64 (t.w : Int)) := qqB 0
    have m8 : V1.cell? ⟨F + 3, 1, none⟩ = some (.slice (some ⟨gb, 0, none⟩) (nw t.w) (nw t.w)) := qqB 1
    clear qqB
    have l0 : Ext No V1 V1 := Ext.refl _ _
    have hFl : F + 3 < V1.heap.size := lt_of_block hB.out.box
    go_region_held3 (fun w' => w'.cell? ⟨F, 0, none⟩ = some (.int .i64 (t.w : Int)) ∧ w'.cell? ⟨F, 1, none⟩ = some (.slice afg (nw t.w) cfg) ∧ w'.cell? ⟨F, 2, none⟩ = some (.int .i64 (t.w : Int)) ∧ w'.cell? ⟨F, 3, none⟩ = some (.slice afk (nw t.w) cfk) ∧ w'.cell? ⟨F, 4, none⟩ = some (.slice afc t.copies.length cfc) ∧ w'.cell? ⟨F + 2, 0, none⟩ = some (.int .i64 (t.w : Int)) ∧ w'.cell? ⟨F + 2, 1, none⟩ = some (.slice (some ⟨ga, 0, none⟩) (nw t.w) (nw t.w)) ∧ w'.cell? ⟨F + 3, 0, none⟩ = some (.int .i64 (t.w : Int)) ∧ w'.cell? ⟨F + 3, 1, none⟩ = some (.slice (some ⟨gb, 0, none⟩) (nw t.w) (nw t.w)) ∧ Ext No V1 w')
      ((go_split_ands; refine ⟨?_, ?_, ?_, ?_, ?_, ?_, ?_, ?_, ?_, ?_⟩ <;> (repeat (first | (with_reducible assumption) | (with_reducible exact Ext.refl _ _) | (with_reducible refine keepD ?_) | (with_reducible refine keepA ?_) | (with_reducible refine Ext.drew ?_) | (with_reducible refine Ext.alloc ?_ _) | (with_reducible refine BoxR.drew ?_) | (with_reducible refine BoxR.alloc ?_ _) | (with_reducible refine BoxR.set ?_ _ _) | ((with_reducible refine keepS ?_ ?_); (first | (with_reducible assumption) | omega | (simp; omega) | (exact Nat.le_refl _))) | (with_reducible refine Ext.setAt ?_ _ _) | ((with_reducible refine Ext.own ?_ ?_ _); rotate_left; (first | (with_reducible assumption) | omega | (simp; omega) | (exact Nat.le_refl _))) | (with_reducible refine keepN hyA ?_) | (with_reducible refine Ext.transNo ?_ hyA) | (with_reducible refine BoxR.ext ?_ hyA)))))
      (first
        | ((go_at_call 31); (try go_split_ands); (with_reducible refine (lapply_w t t.w m _ _ _ _ _ rfl (hF.out.tr.extNo ?_) (hA.out.set.extNo ?_)).mono ?_); (with_reducible assumption); (with_reducible assumption); (rintro e11 w11 ⟨a11, c11, rfl, h11, hyA⟩); (have hx11 := Ext.transNo (show Ext No V1 _ from by with_reducible assumption) hyA); (have hy11 := hyA); (have hsz11 := hx11.size))
        | ((go_at_call 31); (try go_split_ands); (with_reducible refine (lapply_w t t.w q _ _ _ _ _ rfl (hF.out.tr.extNo ?_) (hB.out.set.extNo ?_)).mono ?_); (with_reducible assumption); (with_reducible assumption); (rintro e12 w12 ⟨a12, c12, rfl, h12, hyA⟩); (have hx12 := Ext.transNo (show Ext No V1 _ from by with_reducible assumption) hyA); (have hy12 := hyA); (have hsz12 := hx12.size))
        | ((go_at_call 30); (try go_split_ands); (with_reducible refine (union_lo t.w (applyT t m) (applyT t q) _ _ _ (h11.out.extNo ?_) (h12.out.extNo ?_)).mono ?_); (repeat (first | (with_reducible assumption) | (with_reducible exact Ext.refl _ _) | (with_reducible refine Ext.alloc ?_ _) | (with_reducible refine Ext.drew ?_) | (with_reducible refine Ext.transNo ?_ hy12))); (have hx6 := (show Ext No V1 _ from by with_reducible assumption)); (rintro e7 w7 ⟨a7, c7, rfl, hs7, hyA⟩); (have hyC := hyA); (have hx7 := Ext.transNo (show Ext No V1 _ from by with_reducible assumption) hyC); (first | (with_reducible have hi := two_facts2 hyC (alloc_top (o := (.cells #[.int .i64 0, .slice none 0 0] 25)) rfl)) | (with_reducible have hi := two_facts2 hyC (hy12.blk (alloc_top (o := (.cells #[.int .i64 0, .slice none 0 0] 25)) rfl) no_no)) | (with_reducible have hi := two_facts2 hyC (hy12.blk (hy11.blk (alloc_top (o := (.cells #[.int .i64 0, .slice none 0 0] 25)) rfl) no_no) no_no)) | skip); (try ((obtain ⟨hi, hlt⟩ := hi); (have HI := Lib.hid hi); (have HL := Lib.hid hlt); (have cI := cellOf hi); (have fI := freeOf hi); (clear hi hlt)))))
    all_goals
      go_wp2_with fail
      go_meet
      refine ⟨_, a7, c7, rfl, rfl, Lib.hid ?_, Lib.hid ?_⟩
      · first
        | (with_reducible exact ⟨alloc_top rfl, hs7.out.no.extNo ((Ext.refl _ _).alloc _)⟩)
        | exact ⟨(set_same (j := 1) (set_same (j := 0) HI.out)).trans rfl, (hs7.out.early2 HL.out).no⟩
      · first
        | (with_reducible exact hx7.alloc _)
        | exact ext2 hx7 hsz12
        | exact ext2 hx7 hsz11
        | exact ext2 hx7 (Nat.le_refl _)
  case rest =>
  obtain ⟨DV, aV, cV, rfl, rfl, hV, hyV⟩ := hcut
  have hy := hyV.out
  clear hyV
  have kF := Lib.hid (hF.out.ext hy)
  have kG := Lib.hid (hG.out.ext hy)
  have kA := Lib.hid (hA.out.ext hy)
  have kB := Lib.hid (hB.out.ext hy)
  have kU := Lib.hid (hU.out.ext hy)
  have kE := Lib.hid (HX.out.transNo hy)
  have kT := Lib.hid (hTB.out.ext hy)
  clear hF hG hA hB hU HX hTB
  have hF := kF
  have hG := kG
  have hA := kA
  have hB := kB
  have hU := kU
  have HX := kE
  have hTB := kT
  clear kF kG kA kB kU kE kT
  clear hy
  have cF := cellOf hF.out.box
  go_wp2_with fail
  clear cF
  refine (canon8M No t t.w _ _ _ _ rfl (fun _ e => e.elim) hw8 hTB.out hF.out.tr).mono ?_
  rintro eC u2 ⟨aCg, cCg, aCk, cCk, aCc, nC, cCc, rfl, hC0, hy⟩
  have hz := hy.alloc (.cells #[.int .i64 (t.w : Int), .slice aCg (nw t.w) cCg, .int .i64 (t.w : Int), .slice aCk (nw t.w) cCk, .slice aCc nC cCc] 28)
  have hz1 : Ext No u2 (u2.alloc (.cells #[.int .i64 (t.w : Int), .slice aCg (nw t.w) cCg, .int .i64 (t.w : Int), .slice aCk (nw t.w) cCk, .slice aCc nC cCc] 28)) := (Ext.refl _ _).alloc _
  have kF := Lib.hid (hF.out.ext hz)
  have kG := Lib.hid (hG.out.ext hz)
  have kA := Lib.hid (hA.out.ext hz)
  have kB := Lib.hid (hB.out.ext hz)
  have kU := Lib.hid (hU.out.ext hz)
  have kV := Lib.hid (hV.out.ext hz)
  have kC := Lib.hid (show TrBoxM No u2.heap.size t.w nC (canonT t) aCg cCg aCk cCk aCc cCc (u2.alloc (.cells #[.int .i64 (t.w : Int), .slice aCg (nw t.w) cCg, .int .i64 (t.w : Int), .slice aCk (nw t.w) cCk, .slice aCc nC cCc] 28)) from ⟨alloc_top rfl, hC0.out.extNo hz1⟩)
  have kE := Lib.hid (HX.out.transNo hz)
  have kT := Lib.hid (hTB.out.ext hz)
  clear hF hG hA hB hU hV hC0 hy hz hz1 HX hTB
  have xG := cellOf kG.out.box
  go_wp2_with fail
  clear xG
  generalize (u2.alloc (.cells #[.int .i64 (t.w : Int), .slice aCg (nw t.w) cCg, .int .i64 (t.w : Int), .slice aCk (nw t.w) cCk, .slice aCc nC cCc] 28)) = V2 at *
  generalize u2.heap.size = DC at *
  have hF := kF
  have hG := kG
  have hA := kA
  have hB := kB
  have hU := kU
  have hV := kV
  have hC := kC
  have HX := kE
  have hTB := kT
  clear kF kG kA kB kU kV kC kE kT
  refine (canon8M No u t.w _ _ _ _ HWG.out (fun _ e => e.elim) hw8 hTB.out hG.out.tr).mono ?_
  rintro eD u3 ⟨aDg, cDg, aDk, cDk, aDc, nD, cDc, rfl, hD0, hy⟩
  have hz := hy.alloc (.cells #[.int .i64 (t.w : Int), .slice aDg (nw t.w) cDg, .int .i64 (t.w : Int), .slice aDk (nw t.w) cDk, .slice aDc nD cDc] 28)
  have hz1 : Ext No u3 (u3.alloc (.cells #[.int .i64 (t.w : Int), .slice aDg (nw t.w) cDg, .int .i64 (t.w : Int), .slice aDk (nw t.w) cDk, .slice aDc nD cDc] 28)) := (Ext.refl _ _).alloc _
  have kF := Lib.hid (hF.out.ext hz)
  have kG := Lib.hid (hG.out.ext hz)
  have kA := Lib.hid (hA.out.ext hz)
  have kB := Lib.hid (hB.out.ext hz)
  have kU := Lib.hid (hU.out.ext hz)
  have kV := Lib.hid (hV.out.ext hz)
  have kC := Lib.hid (hC.out.ext hz)
  have kD := Lib.hid (show TrBoxM No u3.heap.size t.w nD (canonT u) aDg cDg aDk cDk aDc cDc (u3.alloc (.cells #[.int .i64 (t.w : Int), .slice aDg (nw t.w) cDg, .int .i64 (t.w : Int), .slice aDk (nw t.w) cDk, .slice aDc nD cDc] 28)) from ⟨alloc_top rfl, hD0.out.extNo hz1⟩)
  have kE := Lib.hid (HX.out.transNo hz)
  have kT := Lib.hid (hTB.out.ext hz)
  clear hF hG hA hB hU hV hC hD0 hy hz hz1 HX hTB
  go_wp2_with fail
  generalize (u3.alloc (.cells #[.int .i64 (t.w : Int), .slice aDg (nw t.w) cDg, .int .i64 (t.w : Int), .slice aDk (nw t.w) cDk, .slice aDc nD cDc] 28)) = V3 at *
  generalize u3.heap.size = DD at *
  have hF := kF
  have hG := kG
  have hA := kA
  have hB := kB
  have hU := kU
  have hV := kV
  have hC := kC
  have hD := kD
  have HX := kE
  have hTB := kT
  clear kF kG kA kB kU kV kC kD kE kT
  have hot := hF.out.tr.ok
  have hou := hG.out.tr.ok
  have hoc : TrOk (canonT t) := hC.out.tr.ok
  have hod : TrOk (canonT u) := hD.out.tr.ok
  have hml := hA.out.set.hm
  have hql := hB.out.set.hm
  have HWC := Lib.hid (show (canonT u).w = t.w from HWG.out)
  have EO : Hid (applyT t (orN m q) = orN (applyT t m) (applyT t q)) := Lib.hid (apply_or hot hml hql)
  have EM : Hid (applyT (canonT t) m = applyT t m) := Lib.hid (mean_canon hot hoc hml)
  have ES := Lib.hid (same_canon hot hou HWG.out hoc hod)
  have ET := Lib.hid (same_self hot hoc)
  have EB : Hid (belowB t u = true → subN (applyT t m) (applyT u m) = true) := Lib.hid (fun h => (below_iff hot hou HWG.out).1 h m hml)
  clear hot hou hoc hod hml hql
  have qqF := cellOf hF.out.box
  have m0 : V3.cell? ⟨F, 0, none⟩ = some (.int .i64 (t.w : Int)) := qqF 0
  have m1 : V3.cell? ⟨F, 1, none⟩ = some (.slice afg (nw t.w) cfg) := qqF 1
  have m2 : V3.cell? ⟨F, 2, none⟩ = some (.int .i64 (t.w : Int)) := qqF 2
  have m3 : V3.cell? ⟨F, 3, none⟩ = some (.slice afk (nw t.w) cfk) := qqF 3
  have m4 : V3.cell? ⟨F, 4, none⟩ = some (.slice afc t.copies.length cfc) := qqF 4
  clear qqF
  have qqG := cellOf hG.out.box
  have m5 : V3.cell? ⟨F + 1, 0, none⟩ = some (.int .i64 (t.w : Int)) := qqG 0
  have m6 : V3.cell? ⟨F + 1, 1, none⟩ = some (.slice agg (nw t.w) cgg) := qqG 1
  have m7 : V3.cell? ⟨F + 1, 2, none⟩ = some (.int .i64 (t.w : Int)) := qqG 2
  have m8 : V3.cell? ⟨F + 1, 3, none⟩ = some (.slice agk (nw t.w) cgk) := qqG 3
  have m9 : V3.cell? ⟨F + 1, 4, none⟩ = some (.slice agc u.copies.length cgc) := qqG 4
  clear qqG
  have qqA := cellOf hA.out.box
  have m10 : V3.cell? ⟨F + 2, 0, none⟩ = some (.int .i64 (t.w : Int)) := qqA 0
  have m11 : V3.cell? ⟨F + 2, 1, none⟩ = some (.slice (some ⟨ga, 0, none⟩) (nw t.w) (nw t.w)) := qqA 1
  clear qqA
  have qqB := cellOf hB.out.box
  have m12 : V3.cell? ⟨F + 3, 0, none⟩ = some (.int .i64 (t.w : Int)) := qqB 0
  have m13 : V3.cell? ⟨F + 3, 1, none⟩ = some (.slice (some ⟨gb, 0, none⟩) (nw t.w) (nw t.w)) := qqB 1
  clear qqB
  have qqU := cellOf hU.out.box
  have m14 : V3.cell? ⟨DU, 0, none⟩ = some (.int .i64 (t.w : Int)) := qqU 0
  have m15 : V3.cell? ⟨DU, 1, none⟩ = some (.slice aU (nw t.w) cU) := qqU 1
  clear qqU
  have qqV := cellOf hV.out.box
  have m16 : V3.cell? ⟨DV, 0, none⟩ = some (.int .i64 (t.w : Int)) := qqV 0
  have m17 : V3.cell? ⟨DV, 1, none⟩ = some (.slice aV (nw t.w) cV) := qqV 1
  clear qqV
  have qqC := cellOf hC.out.box
  have m18 : V3.cell? ⟨DC, 0, none⟩ = some (.int .i64 (t.w : Int)) := qqC 0
  have m19 : V3.cell? ⟨DC, 1, none⟩ = some (.slice aCg (nw t.w) cCg) := qqC 1
  have m20 : V3.cell? ⟨DC, 2, none⟩ = some (.int .i64 (t.w : Int)) := qqC 2
  have m21 : V3.cell? ⟨DC, 3, none⟩ = some (.slice aCk (nw t.w) cCk) := qqC 3
  have m22 : V3.cell? ⟨DC, 4, none⟩ = some (.slice aCc nC cCc) := qqC 4
  clear qqC
  have qqD := cellOf hD.out.box
  have m23 : V3.cell? ⟨DD, 0, none⟩ = some (.int .i64 (t.w : Int)) := qqD 0
  have m24 : V3.cell? ⟨DD, 1, none⟩ = some (.slice aDg (nw t.w) cDg) := qqD 1
  have m25 : V3.cell? ⟨DD, 2, none⟩ = some (.int .i64 (t.w : Int)) := qqD 2
  have m26 : V3.cell? ⟨DD, 3, none⟩ = some (.slice aDk (nw t.w) cDk) := qqD 3
  have m27 : V3.cell? ⟨DD, 4, none⟩ = some (.slice aDc nD cDc) := qqD 4
  clear qqD
  have l0 : Ext No V3 V3 := Ext.refl _ _
  go_wp2_with fail
  have hqb : ∃ b : Bool, Hid (eqD (canonT t) (canonT u) = b) ∧ Hid ((belowB t u && belowB u t) = b) := ⟨_, Lib.hid rfl, Lib.hid ES.out⟩
  obtain ⟨bb, HB1, HB2⟩ := hqb
  go_region_held3 (fun w' => w'.cell? ⟨F, 0, none⟩ = some (.int .i64 (t.w : Int)) ∧ w'.cell? ⟨F, 1, none⟩ = some (.slice afg (nw t.w) cfg) ∧ w'.cell? ⟨F, 2, none⟩ = some (.int .i64 (t.w : Int)) ∧ w'.cell? ⟨F, 3, none⟩ = some (.slice afk (nw t.w) cfk) ∧ w'.cell? ⟨F, 4, none⟩ = some (.slice afc t.copies.length cfc) ∧ w'.cell? ⟨F + 1, 0, none⟩ = some (.int .i64 (t.w : Int)) ∧ w'.cell? ⟨F + 1, 1, none⟩ = some (.slice agg (nw t.w) cgg) ∧ w'.cell? ⟨F + 1, 2, none⟩ = some (.int .i64 (t.w : Int)) ∧ w'.cell? ⟨F + 1, 3, none⟩ = some (.slice agk (nw t.w) cgk) ∧ w'.cell? ⟨F + 1, 4, none⟩ = some (.slice agc u.copies.length cgc) ∧ w'.cell? ⟨F + 2, 0, none⟩ = some (.int .i64 (t.w : Int)) ∧ w'.cell? ⟨F + 2, 1, none⟩ = some (.slice (some ⟨ga, 0, none⟩) (nw t.w) (nw t.w)) ∧ w'.cell? ⟨F + 3, 0, none⟩ = some (.int .i64 (t.w : Int)) ∧ w'.cell? ⟨F + 3, 1, none⟩ = some (.slice (some ⟨gb, 0, none⟩) (nw t.w) (nw t.w)) ∧ w'.cell? ⟨DU, 0, none⟩ = some (.int .i64 (t.w : Int)) ∧ w'.cell? ⟨DU, 1, none⟩ = some (.slice aU (nw t.w) cU) ∧ w'.cell? ⟨DV, 0, none⟩ = some (.int .i64 (t.w : Int)) ∧ w'.cell? ⟨DV, 1, none⟩ = some (.slice aV (nw t.w) cV) ∧ w'.cell? ⟨DC, 0, none⟩ = some (.int .i64 (t.w : Int)) ∧ w'.cell? ⟨DC, 1, none⟩ = some (.slice aCg (nw t.w) cCg) ∧ w'.cell? ⟨DC, 2, none⟩ = some (.int .i64 (t.w : Int)) ∧ w'.cell? ⟨DC, 3, none⟩ = some (.slice aCk (nw t.w) cCk) ∧ w'.cell? ⟨DC, 4, none⟩ = some (.slice aCc nC cCc) ∧ w'.cell? ⟨DD, 0, none⟩ = some (.int .i64 (t.w : Int)) ∧ w'.cell? ⟨DD, 1, none⟩ = some (.slice aDg (nw t.w) cDg) ∧ w'.cell? ⟨DD, 2, none⟩ = some (.int .i64 (t.w : Int)) ∧ w'.cell? ⟨DD, 3, none⟩ = some (.slice aDk (nw t.w) cDk) ∧ w'.cell? ⟨DD, 4, none⟩ = some (.slice aDc nD cDc) ∧ Ext No V3 w')
    ((go_split_ands; refine ⟨?_, ?_, ?_, ?_, ?_, ?_, ?_, ?_, ?_, ?_, ?_, ?_, ?_, ?_, ?_, ?_, ?_, ?_, ?_, ?_, ?_, ?_, ?_, ?_, ?_, ?_, ?_, ?_, ?_⟩ <;> (first | (with_reducible assumption) | (with_reducible exact Ext.drew (by with_reducible assumption)) | (with_reducible exact Ext.alloc (by with_reducible assumption) _) | (with_reducible exact keepN hyA (by with_reducible assumption)) | (with_reducible exact keepD (by with_reducible assumption)) | (with_reducible exact Ext.transNo (by with_reducible assumption) hyA))))
    (first
      | ((go_at_call 31); (try go_split_ands); (with_reducible refine (lapply_w t t.w (orN m q) _ _ _ _ _ rfl (hF.out.tr.extNo ?_) (hU.out.set.extNo ?_)).mono ?_); (with_reducible assumption); (with_reducible assumption); (rintro e31 w31 ⟨a31, c31, rfl, h31, hyA⟩); (have hx31 := Ext.transNo (show Ext No V3 _ from by with_reducible assumption) hyA); (have hy31 := hyA); (have hsz31 := hx31.size))
      | ((go_at_call 32); (try go_split_ands); (with_reducible refine (rsame_set t.w (orN (applyT t m) (applyT t q)) _ _ _ ?_ (hV.out.set.extNo ?_)).mono ?_); (rw [← EO.out]; exact h31.out.no); (with_reducible assumption); (rintro e32 w32 ⟨rfl, hyA⟩); (have hx32 := Ext.transNo (show Ext No V3 _ from by with_reducible assumption) hyA); (have hy32 := hyA); (have hsz32 := hx32.size))
      | ((go_at_call 31); (try go_split_ands); (with_reducible refine (lapply_w (canonT t) t.w m _ _ _ _ _ rfl (hC.out.tr.extNo ?_) (hA.out.set.extNo ?_)).mono ?_); (with_reducible assumption); (with_reducible assumption); (rintro e33 w33 ⟨a33, c33, rfl, h33, hyA⟩); (have hx33 := Ext.transNo (show Ext No V3 _ from by with_reducible assumption) hyA); (have hy33 := hyA); (have hsz33 := hx33.size))
      | ((go_at_call 31); (try go_split_ands); (with_reducible refine (lapply_w t t.w m _ _ _ _ _ rfl (hF.out.tr.extNo ?_) (hA.out.set.extNo ?_)).mono ?_); (with_reducible assumption); (with_reducible assumption); (rintro e34 w34 ⟨a34, c34, rfl, h34, hyA⟩); (have hx34 := Ext.transNo (show Ext No V3 _ from by with_reducible assumption) hyA); (have hy34 := hyA); (have hsz34 := hx34.size))
      | ((go_at_call 32); (try go_split_ands); (with_reducible refine (rsame_set t.w (applyT t m) _ _ _ ?_ h34.out.no).mono ?_); (rw [← EM.out]; exact (h33.out.extNo hy34).no); (rintro e35 w35 ⟨rfl, hyA⟩); (have hx35 := Ext.transNo (show Ext No V3 _ from by with_reducible assumption) hyA); (have hy35 := hyA); (have hsz35 := hx35.size)))
  go_wp2_with fail
  have hy := (show Ext No V3 w35 from by with_reducible assumption)
  have kF := Lib.hid (hF.out.ext hy)
  have kG := Lib.hid (hG.out.ext hy)
  have kA := Lib.hid (hA.out.ext hy)
  have kB := Lib.hid (hB.out.ext hy)
  have kU := Lib.hid (hU.out.ext hy)
  have kV := Lib.hid (hV.out.ext hy)
  have kC := Lib.hid (hC.out.ext hy)
  have kD := Lib.hid (hD.out.ext hy)
  have kE := Lib.hid (HX.out.transNo hy)
  have kT := Lib.hid (hTB.out.ext hy)
  clear hF hG hA hB hU hV hC hD HX hTB
  have hF := kF
  have hG := kG
  have hA := kA
  have hB := kB
  have hU := kU
  have hV := kV
  have hC := kC
  have hD := kD
  have HX := kE
  have hTB := kT
  clear kF kG kA kB kU kV kC kD kE kT
  have qqF := cellOf hF.out.box
  have n0 : w35.cell? ⟨F, 0, none⟩ = some (.int .i64 (t.w : Int)) := qqF 0
  have n1 : w35.cell? ⟨F, 1, none⟩ = some (.slice afg (nw t.w) cfg) := qqF 1
  have n2 : w35.cell? ⟨F, 2, none⟩ = some (.int .i64 (t.w : Int)) := qqF 2
  have n3 : w35.cell? ⟨F, 3, none⟩ = some (.slice afk (nw t.w) cfk) := qqF 3
  have n4 : w35.cell? ⟨F, 4, none⟩ = some (.slice afc t.copies.length cfc) := qqF 4
  clear qqF
  have qqG := cellOf hG.out.box
  have n5 : w35.cell? ⟨F + 1, 0, none⟩ = some (.int .i64 (t.w : Int)) := qqG 0
  have n6 : w35.cell? ⟨F + 1, 1, none⟩ = some (.slice agg (nw t.w) cgg) := qqG 1
  have n7 : w35.cell? ⟨F + 1, 2, none⟩ = some (.int .i64 (t.w : Int)) := qqG 2
  have n8 : w35.cell? ⟨F + 1, 3, none⟩ = some (.slice agk (nw t.w) cgk) := qqG 3
  have n9 : w35.cell? ⟨F + 1, 4, none⟩ = some (.slice agc u.copies.length cgc) := qqG 4
  clear qqG
  have qqA := cellOf hA.out.box
  have n10 : w35.cell? ⟨F + 2, 0, none⟩ = some (.int .i64 (t.w : Int)) := qqA 0
  have n11 : w35.cell? ⟨F + 2, 1, none⟩ = some (.slice (some ⟨ga, 0, none⟩) (nw t.w) (nw t.w)) := qqA 1
  clear qqA
  have qqB := cellOf hB.out.box
  have n12 : w35.cell? ⟨F + 3, 0, none⟩ = some (.int .i64 (t.w : Int)) := qqB 0
  have n13 : w35.cell? ⟨F + 3, 1, none⟩ = some (.slice (some ⟨gb, 0, none⟩) (nw t.w) (nw t.w)) := qqB 1
  clear qqB
  have qqU := cellOf hU.out.box
  have n14 : w35.cell? ⟨DU, 0, none⟩ = some (.int .i64 (t.w : Int)) := qqU 0
  have n15 : w35.cell? ⟨DU, 1, none⟩ = some (.slice aU (nw t.w) cU) := qqU 1
  clear qqU
  have qqV := cellOf hV.out.box
  have n16 : w35.cell? ⟨DV, 0, none⟩ = some (.int .i64 (t.w : Int)) := qqV 0
  have n17 : w35.cell? ⟨DV, 1, none⟩ = some (.slice aV (nw t.w) cV) := qqV 1
  clear qqV
  have qqC := cellOf hC.out.box
  have n18 : w35.cell? ⟨DC, 0, none⟩ = some (.int .i64 (t.w : Int)) := qqC 0
  have n19 : w35.cell? ⟨DC, 1, none⟩ = some (.slice aCg (nw t.w) cCg) := qqC 1
  have n20 : w35.cell? ⟨DC, 2, none⟩ = some (.int .i64 (t.w : Int)) := qqC 2
  have n21 : w35.cell? ⟨DC, 3, none⟩ = some (.slice aCk (nw t.w) cCk) := qqC 3
  have n22 : w35.cell? ⟨DC, 4, none⟩ = some (.slice aCc nC cCc) := qqC 4
  clear qqC
  have qqD := cellOf hD.out.box
  have n23 : w35.cell? ⟨DD, 0, none⟩ = some (.int .i64 (t.w : Int)) := qqD 0
  have n24 : w35.cell? ⟨DD, 1, none⟩ = some (.slice aDg (nw t.w) cDg) := qqD 1
  have n25 : w35.cell? ⟨DD, 2, none⟩ = some (.int .i64 (t.w : Int)) := qqD 2
  have n26 : w35.cell? ⟨DD, 3, none⟩ = some (.slice aDk (nw t.w) cDk) := qqD 3
  have n27 : w35.cell? ⟨DD, 4, none⟩ = some (.slice aDc nD cDc) := qqD 4
  clear qqD
  clear hy
  have l1 : Ext No w35 w35 := Ext.refl _ _
  cases hbb : belowB t u
  · have HBB := Lib.hid hbb
    clear hbb
    cases bb
    ·
      refine wp_region_held_drew (S := (fun w' => w'.cell? ⟨F, 0, none⟩ = some (.int .i64 (t.w : Int)) ∧ w'.cell? ⟨F, 1, none⟩ = some (.slice afg (nw t.w) cfg) ∧ w'.cell? ⟨F, 2, none⟩ = some (.int .i64 (t.w : Int)) ∧ w'.cell? ⟨F, 3, none⟩ = some (.slice afk (nw t.w) cfk) ∧ w'.cell? ⟨F, 4, none⟩ = some (.slice afc t.copies.length cfc) ∧ w'.cell? ⟨F + 1, 0, none⟩ = some (.int .i64 (t.w : Int)) ∧ w'.cell? ⟨F + 1, 1, none⟩ = some (.slice agg (nw t.w) cgg) ∧ w'.cell? ⟨F + 1, 2, none⟩ = some (.int .i64 (t.w : Int)) ∧ w'.cell? ⟨F + 1, 3, none⟩ = some (.slice agk (nw t.w) cgk) ∧ w'.cell? ⟨F + 1, 4, none⟩ = some (.slice agc u.copies.length cgc) ∧ w'.cell? ⟨F + 2, 0, none⟩ = some (.int .i64 (t.w : Int)) ∧ w'.cell? ⟨F + 2, 1, none⟩ = some (.slice (some ⟨ga, 0, none⟩) (nw t.w) (nw t.w)) ∧ w'.cell? ⟨F + 3, 0, none⟩ = some (.int .i64 (t.w : Int)) ∧ w'.cell? ⟨F + 3, 1, none⟩ = some (.slice (some ⟨gb, 0, none⟩) (nw t.w) (nw t.w)) ∧ w'.cell? ⟨DU, 0, none⟩ = some (.int .i64 (t.w : Int)) ∧ w'.cell? ⟨DU, 1, none⟩ = some (.slice aU (nw t.w) cU) ∧ w'.cell? ⟨DV, 0, none⟩ = some (.int .i64 (t.w : Int)) ∧ w'.cell? ⟨DV, 1, none⟩ = some (.slice aV (nw t.w) cV) ∧ w'.cell? ⟨DC, 0, none⟩ = some (.int .i64 (t.w : Int)) ∧ w'.cell? ⟨DC, 1, none⟩ = some (.slice aCg (nw t.w) cCg) ∧ w'.cell? ⟨DC, 2, none⟩ = some (.int .i64 (t.w : Int)) ∧ w'.cell? ⟨DC, 3, none⟩ = some (.slice aCk (nw t.w) cCk) ∧ w'.cell? ⟨DC, 4, none⟩ = some (.slice aCc nC cCc) ∧ w'.cell? ⟨DD, 0, none⟩ = some (.int .i64 (t.w : Int)) ∧ w'.cell? ⟨DD, 1, none⟩ = some (.slice aDg (nw t.w) cDg) ∧ w'.cell? ⟨DD, 2, none⟩ = some (.int .i64 (t.w : Int)) ∧ w'.cell? ⟨DD, 3, none⟩ = some (.slice aDk (nw t.w) cDk) ∧ w'.cell? ⟨DD, 4, none⟩ = some (.slice aDc nD cDc) ∧ Ext No w35 w')) (by kernel_rfl) ?_ (fun hHeld => ?_)
      · ((go_split_ands; refine ⟨?_, ?_, ?_, ?_, ?_, ?_, ?_, ?_, ?_, ?_, ?_, ?_, ?_, ?_, ?_, ?_, ?_, ?_, ?_, ?_, ?_, ?_, ?_, ?_, ?_, ?_, ?_, ?_, ?_⟩ <;> (first | (with_reducible assumption) | (with_reducible exact Ext.drew (by with_reducible assumption)) | (with_reducible exact Ext.alloc (by with_reducible assumption) _) | (with_reducible exact keepN hyA (by with_reducible assumption)) | (with_reducible exact keepD (by with_reducible assumption)) | (with_reducible exact Ext.transNo (by with_reducible assumption) hyA))))
      refine held_take (i := 0) (v := ?_) rfl (by kernel_rfl) (by kernel_rfl) (by kernel_rfl) (fun _ _ _ h => h) rfl (fun w hSw => ?_) hHeld ?_
      rotate_left
      · (try dsimp only at hSw); go_simp; (try with_reducible rfl)
      try simp only [Act.put, List.setIfInBounds_toArray, List.set_cons_zero, List.set_cons_succ]
      refine held_take (i := 1) (v := ?_) rfl (by kernel_rfl) (by kernel_rfl) (by kernel_rfl) (fun _ _ _ h => h) rfl (fun w hSw => ?_) hHeld ?_
      rotate_left
      · (try dsimp only at hSw); go_simp; (try with_reducible rfl)
      try simp only [Act.put, List.setIfInBounds_toArray, List.set_cons_zero, List.set_cons_succ]
      refine held_take (i := 3) (v := ?_) rfl (by kernel_rfl) (by kernel_rfl) (by kernel_rfl) (fun _ _ _ h => h) rfl (fun w hSw => ?_) hHeld ?_
      rotate_left
      · (try dsimp only at hSw); go_simp; (try with_reducible rfl)
      try simp only [Act.put, List.setIfInBounds_toArray, List.set_cons_zero, List.set_cons_succ]
      refine held_take (i := 4) (v := ?_) rfl (by kernel_rfl) (by kernel_rfl) (by kernel_rfl) (fun _ _ _ h => h) rfl (fun w hSw => ?_) hHeld ?_
      rotate_left
      · (try dsimp only at hSw); go_simp; (try with_reducible rfl)
      try simp only [Act.put, List.setIfInBounds_toArray, List.set_cons_zero, List.set_cons_succ]
      refine held_call (i := 2) rfl (by kernel_rfl) rfl (fun K hK => ?_)
      ((have hEx := hHeld.2.2.2.2.2.2.2.2.2.2.2.2.2.2.2.2.2.2.2.2.2.2.2.2.2.2.2.2); (try dsimp only at hEx); (try go_simp); (go_at_call 33); (with_reducible refine (tsame_b t u t.w _ _ _ _ _ _ _ _ HB2.out rfl HWG.out (hTB.out.ext ?_) (hF.out.tr.extNo ?_) (hG.out.tr.extNo ?_)).mono ?_); (exact hEx); (exact hEx); (exact hEx); (rintro e41 w41 ⟨rfl, hyA⟩); (have hy41 := hyA); go_simp)
      refine hK.out _ _ ?_ (fun hNew => ?_)
      · ((go_split_ands; refine ⟨?_, ?_, ?_, ?_, ?_, ?_, ?_, ?_, ?_, ?_, ?_, ?_, ?_, ?_, ?_, ?_, ?_, ?_, ?_, ?_, ?_, ?_, ?_, ?_, ?_, ?_, ?_, ?_, ?_⟩ <;> (first | (with_reducible assumption) | (with_reducible exact Ext.drew (by with_reducible assumption)) | (with_reducible exact Ext.alloc (by with_reducible assumption) _) | (with_reducible exact keepN hyA (by with_reducible assumption)) | (with_reducible exact keepD (by with_reducible assumption)) | (with_reducible exact Ext.transNo (by with_reducible assumption) hyA))))
      clear hK K hHeld
      have hHeld := hNew
      clear hNew
      refine held_call (i := 5) rfl (by kernel_rfl) rfl (fun K hK => ?_)
      ((have hEx := hHeld.2.2.2.2.2.2.2.2.2.2.2.2.2.2.2.2.2.2.2.2.2.2.2.2.2.2.2.2); (try dsimp only at hEx); (try go_simp); (go_at_call 26); (with_reducible refine (requals_b (canonT t) (canonT u) t.w _ _ _ _ _ _ _ _ HB1.out rfl HWC.out (hC.out.tr.extNo ?_) (hD.out.tr.extNo ?_)).mono ?_); (exact hEx); (exact hEx); (rintro e42 w42 ⟨rfl, hyA⟩); (have hy42 := hyA); go_simp)
      refine hK.out _ _ ?_ (fun hNew => ?_)
      · ((go_split_ands; refine ⟨?_, ?_, ?_, ?_, ?_, ?_, ?_, ?_, ?_, ?_, ?_, ?_, ?_, ?_, ?_, ?_, ?_, ?_, ?_, ?_, ?_, ?_, ?_, ?_, ?_, ?_, ?_, ?_, ?_⟩ <;> (first | (with_reducible assumption) | (with_reducible exact Ext.drew (by with_reducible assumption)) | (with_reducible exact Ext.alloc (by with_reducible assumption) _) | (with_reducible exact keepN hyA (by with_reducible assumption)) | (with_reducible exact keepD (by with_reducible assumption)) | (with_reducible exact Ext.transNo (by with_reducible assumption) hyA))))
      clear hK K hHeld
      have hHeld := hNew
      clear hNew
      refine held_take (i := 6) (v := ?_) rfl (by kernel_rfl) (by kernel_rfl) (by kernel_rfl) (fun _ _ _ h => h) rfl (fun w hSw => ?_) hHeld ?_
      rotate_left
      · (try dsimp only at hSw); go_simp; (try with_reducible rfl)
      try simp only [Act.put, List.setIfInBounds_toArray, List.set_cons_zero, List.set_cons_succ]
      refine held_take (i := 7) (v := ?_) rfl (by kernel_rfl) (by kernel_rfl) (by kernel_rfl) (fun _ _ _ h => h) rfl (fun w hSw => ?_) hHeld ?_
      rotate_left
      · (try dsimp only at hSw); go_simp; (try with_reducible rfl)
      try simp only [Act.put, List.setIfInBounds_toArray, List.set_cons_zero, List.set_cons_succ]
      refine held_take (i := 8) (v := ?_) rfl (by kernel_rfl) (by kernel_rfl) (by kernel_rfl) (fun _ _ _ h => h) rfl (fun w hSw => ?_) hHeld ?_
      rotate_left
      · (try dsimp only at hSw); go_simp; (try with_reducible rfl)
      try simp only [Act.put, List.setIfInBounds_toArray, List.set_cons_zero, List.set_cons_succ]
      refine held_take (i := 9) (v := ?_) rfl (by kernel_rfl) (by kernel_rfl) (by kernel_rfl) (fun _ _ _ h => h) rfl (fun w hSw => ?_) hHeld ?_
      rotate_left
      · (try dsimp only at hSw); go_simp; (try with_reducible rfl)
      try simp only [Act.put, List.setIfInBounds_toArray, List.set_cons_zero, List.set_cons_succ]
      refine held_call (i := 10) rfl (by kernel_rfl) rfl (fun K hK => ?_)
      ((have hEx := hHeld.2.2.2.2.2.2.2.2.2.2.2.2.2.2.2.2.2.2.2.2.2.2.2.2.2.2.2.2); (try dsimp only at hEx); (try go_simp); (go_at_call 33); (with_reducible refine (tsame_b t (canonT t) t.w true _ _ _ _ _ _ _ ET.out rfl rfl (hTB.out.ext ?_) (hF.out.tr.extNo ?_) (hC.out.tr.extNo ?_)).mono ?_); (exact hEx); (exact hEx); (exact hEx); (rintro e43 w43 ⟨rfl, hyA⟩); (have hy43 := hyA); go_simp)
      refine hK.out _ _ ?_ (fun hNew => ?_)
      · ((go_split_ands; refine ⟨?_, ?_, ?_, ?_, ?_, ?_, ?_, ?_, ?_, ?_, ?_, ?_, ?_, ?_, ?_, ?_, ?_, ?_, ?_, ?_, ?_, ?_, ?_, ?_, ?_, ?_, ?_, ?_, ?_⟩ <;> (first | (with_reducible assumption) | (with_reducible exact Ext.drew (by with_reducible assumption)) | (with_reducible exact Ext.alloc (by with_reducible assumption) _) | (with_reducible exact keepN hyA (by with_reducible assumption)) | (with_reducible exact keepD (by with_reducible assumption)) | (with_reducible exact Ext.transNo (by with_reducible assumption) hyA))))
      clear hK K hHeld
      have hHeld := hNew
      clear hNew
      refine held_take (i := 11) (v := ?_) rfl (by kernel_rfl) (by kernel_rfl) (by kernel_rfl) (fun _ _ _ h => h) rfl (fun w hSw => ?_) hHeld ?_
      rotate_left
      · (try dsimp only at hSw); go_simp; (try with_reducible rfl)
      try simp only [Act.put, List.setIfInBounds_toArray, List.set_cons_zero, List.set_cons_succ]
      refine held_take (i := 12) (v := ?_) rfl (by kernel_rfl) (by kernel_rfl) (by kernel_rfl) (fun _ _ _ h => h) rfl (fun w hSw => ?_) hHeld ?_
      rotate_left
      · (try dsimp only at hSw); go_simp; (try with_reducible rfl)
      try simp only [Act.put, List.setIfInBounds_toArray, List.set_cons_zero, List.set_cons_succ]
      refine held_take (i := 13) (v := ?_) rfl (by kernel_rfl) (by kernel_rfl) (by kernel_rfl) (fun _ _ _ h => h) rfl (fun w hSw => ?_) hHeld ?_
      rotate_left
      · (try dsimp only at hSw); go_simp; (try with_reducible rfl)
      try simp only [Act.put, List.setIfInBounds_toArray, List.set_cons_zero, List.set_cons_succ]
      refine held_take (i := 14) (v := ?_) rfl (by kernel_rfl) (by kernel_rfl) (by kernel_rfl) (fun _ _ _ h => h) rfl (fun w hSw => ?_) hHeld ?_
      rotate_left
      · (try dsimp only at hSw); go_simp; (try with_reducible rfl)
      try simp only [Act.put, List.setIfInBounds_toArray, List.set_cons_zero, List.set_cons_succ]
      refine held_call (i := 15) rfl (by kernel_rfl) rfl (fun K hK => ?_)
      ((have hEx := hHeld.2.2.2.2.2.2.2.2.2.2.2.2.2.2.2.2.2.2.2.2.2.2.2.2.2.2.2.2); (try dsimp only at hEx); (try go_simp); (go_at_call 34); (with_reducible refine (below_b t u t.w false _ _ _ _ _ _ _ HBB.out rfl HWG.out (hTB.out.ext ?_) (hF.out.tr.extNo ?_) (hG.out.tr.extNo ?_)).mono ?_); (exact hEx); (exact hEx); (exact hEx); (rintro e44 w44 ⟨rfl, hyA⟩); (have hy44 := hyA); go_simp)
      refine hK.out _ _ ?_ (fun hNew => ?_)
      · ((go_split_ands; refine ⟨?_, ?_, ?_, ?_, ?_, ?_, ?_, ?_, ?_, ?_, ?_, ?_, ?_, ?_, ?_, ?_, ?_, ?_, ?_, ?_, ?_, ?_, ?_, ?_, ?_, ?_, ?_, ?_, ?_⟩ <;> (first | (with_reducible assumption) | (with_reducible exact Ext.drew (by with_reducible assumption)) | (with_reducible exact Ext.alloc (by with_reducible assumption) _) | (with_reducible exact keepN hyA (by with_reducible assumption)) | (with_reducible exact keepD (by with_reducible assumption)) | (with_reducible exact Ext.transNo (by with_reducible assumption) hyA))))
      clear hK K hHeld
      have hHeld := hNew
      clear hNew
      refine held_take (i := 16) (v := ?_) rfl (by kernel_rfl) (by kernel_rfl) (by kernel_rfl) (fun _ _ _ h => h) rfl (fun w hSw => ?_) hHeld ?_
      rotate_left
      · (try dsimp only at hSw); go_simp; (try with_reducible rfl)
      try simp only [Act.put, List.setIfInBounds_toArray, List.set_cons_zero, List.set_cons_succ]
      refine held_take (i := 17) (v := ?_) rfl (by kernel_rfl) (by kernel_rfl) (by kernel_rfl) (fun _ _ _ h => h) rfl (fun w hSw => ?_) hHeld ?_
      rotate_left
      · (try dsimp only at hSw); go_simp; (try with_reducible rfl)
      try simp only [Act.put, List.setIfInBounds_toArray, List.set_cons_zero, List.set_cons_succ]
      refine held_skip (i := 18) rfl (by kernel_rfl) (by kernel_rfl) (by kernel_rfl) (fun _ _ _ h => h) rfl hHeld ?_
      try simp only [Act.put, List.setIfInBounds_toArray, List.set_cons_zero, List.set_cons_succ]
      refine held_skip (i := 19) rfl (by kernel_rfl) (by kernel_rfl) (by kernel_rfl) (fun _ _ _ h => h) rfl hHeld ?_
      try simp only [Act.put, List.setIfInBounds_toArray, List.set_cons_zero, List.set_cons_succ]
      refine held_skip (i := 20) rfl (by kernel_rfl) (by kernel_rfl) (by kernel_rfl) (fun _ _ _ h => h) rfl hHeld ?_
      try simp only [Act.put, List.setIfInBounds_toArray, List.set_cons_zero, List.set_cons_succ]
      refine held_skip (i := 21) rfl (by kernel_rfl) (by kernel_rfl) (by kernel_rfl) (fun _ _ _ h => h) rfl hHeld ?_
      try simp only [Act.put, List.setIfInBounds_toArray, List.set_cons_zero, List.set_cons_succ]
      refine held_skip (i := 22) rfl (by kernel_rfl) (by kernel_rfl) (by kernel_rfl) (fun _ _ _ h => h) rfl hHeld ?_
      try simp only [Act.put, List.setIfInBounds_toArray, List.set_cons_zero, List.set_cons_succ]
      refine held_skip (i := 23) rfl (by kernel_rfl) (by kernel_rfl) (by kernel_rfl) (fun _ _ _ h => h) rfl hHeld ?_
      try simp only [Act.put, List.setIfInBounds_toArray, List.set_cons_zero, List.set_cons_succ]
      refine held_skip (i := 24) rfl (by kernel_rfl) (by kernel_rfl) (by kernel_rfl) (fun _ _ _ h => h) rfl hHeld ?_
      try simp only [Act.put, List.setIfInBounds_toArray, List.set_cons_zero, List.set_cons_succ]
      refine held_take (i := 25) (v := ?_) rfl (by kernel_rfl) (by kernel_rfl) (by kernel_rfl) (fun _ _ _ h => h) rfl (fun w hSw => ?_) hHeld ?_
      rotate_left
      · (try dsimp only at hSw); go_simp; (try with_reducible rfl)
      try simp only [Act.put, List.setIfInBounds_toArray, List.set_cons_zero, List.set_cons_succ]
      refine held_take (i := 26) (v := ?_) rfl (by kernel_rfl) (by kernel_rfl) (by kernel_rfl) (fun _ _ _ h => h) rfl (fun w hSw => ?_) hHeld ?_
      rotate_left
      · (try dsimp only at hSw); go_simp; (try with_reducible rfl)
      try simp only [Act.put, List.setIfInBounds_toArray, List.set_cons_zero, List.set_cons_succ]
      refine held_take (i := 27) (v := ?_) rfl (by kernel_rfl) (by kernel_rfl) (by kernel_rfl) (fun _ _ _ h => h) rfl (fun w hSw => ?_) hHeld ?_
      rotate_left
      · (try dsimp only at hSw); go_simp; (try with_reducible rfl)
      try simp only [Act.put, List.setIfInBounds_toArray, List.set_cons_zero, List.set_cons_succ]
      refine held_call (i := 28) rfl (by kernel_rfl) rfl (fun K hK => ?_)
      ((have hEx := hHeld.2.2.2.2.2.2.2.2.2.2.2.2.2.2.2.2.2.2.2.2.2.2.2.2.2.2.2.2); (try dsimp only at hEx); (try go_simp); (go_at_call 21); (with_reducible refine (sane_any _).mono ?_); (rintro e48 w48 ⟨rfl, hyA⟩); (have hy48 := hyA); go_simp)
      refine hK.out _ _ ?_ (fun hNew => ?_)
      · ((go_split_ands; refine ⟨?_, ?_, ?_, ?_, ?_, ?_, ?_, ?_, ?_, ?_, ?_, ?_, ?_, ?_, ?_, ?_, ?_, ?_, ?_, ?_, ?_, ?_, ?_, ?_, ?_, ?_, ?_, ?_, ?_⟩ <;> (first | (with_reducible assumption) | (with_reducible exact Ext.drew (by with_reducible assumption)) | (with_reducible exact Ext.alloc (by with_reducible assumption) _) | (with_reducible exact keepN hyA (by with_reducible assumption)) | (with_reducible exact keepD (by with_reducible assumption)) | (with_reducible exact Ext.transNo (by with_reducible assumption) hyA))))
      clear hK K hHeld
      have hHeld := hNew
      clear hNew
      refine held_take (i := 29) (v := ?_) rfl (by kernel_rfl) (by kernel_rfl) (by kernel_rfl) (fun _ _ _ h => h) rfl (fun w hSw => ?_) hHeld ?_
      rotate_left
      · (try dsimp only at hSw); go_simp; (try with_reducible rfl)
      try simp only [Act.put, List.setIfInBounds_toArray, List.set_cons_zero, List.set_cons_succ]
      refine held_take (i := 30) (v := ?_) rfl (by kernel_rfl) (by kernel_rfl) (by kernel_rfl) (fun _ _ _ h => h) rfl (fun w hSw => ?_) hHeld ?_
      rotate_left
      · (try dsimp only at hSw); go_simp; (try with_reducible rfl)
      try simp only [Act.put, List.setIfInBounds_toArray, List.set_cons_zero, List.set_cons_succ]
      refine wpAnyH_done (by kernel_rfl) ?_ _
      have hEx := hHeld.2.2.2.2.2.2.2.2.2.2.2.2.2.2.2.2.2.2.2.2.2.2.2.2.2.2.2.2
      go_wp2_with fail
      go_ret
      exact ⟨rfl, HX.out.transNo hEx⟩
    ·
      refine wp_region_held_drew (S := (fun w' => w'.cell? ⟨F, 0, none⟩ = some (.int .i64 (t.w : Int)) ∧ w'.cell? ⟨F, 1, none⟩ = some (.slice afg (nw t.w) cfg) ∧ w'.cell? ⟨F, 2, none⟩ = some (.int .i64 (t.w : Int)) ∧ w'.cell? ⟨F, 3, none⟩ = some (.slice afk (nw t.w) cfk) ∧ w'.cell? ⟨F, 4, none⟩ = some (.slice afc t.copies.length cfc) ∧ w'.cell? ⟨F + 1, 0, none⟩ = some (.int .i64 (t.w : Int)) ∧ w'.cell? ⟨F + 1, 1, none⟩ = some (.slice agg (nw t.w) cgg) ∧ w'.cell? ⟨F + 1, 2, none⟩ = some (.int .i64 (t.w : Int)) ∧ w'.cell? ⟨F + 1, 3, none⟩ = some (.slice agk (nw t.w) cgk) ∧ w'.cell? ⟨F + 1, 4, none⟩ = some (.slice agc u.copies.length cgc) ∧ w'.cell? ⟨F + 2, 0, none⟩ = some (.int .i64 (t.w : Int)) ∧ w'.cell? ⟨F + 2, 1, none⟩ = some (.slice (some ⟨ga, 0, none⟩) (nw t.w) (nw t.w)) ∧ w'.cell? ⟨F + 3, 0, none⟩ = some (.int .i64 (t.w : Int)) ∧ w'.cell? ⟨F + 3, 1, none⟩ = some (.slice (some ⟨gb, 0, none⟩) (nw t.w) (nw t.w)) ∧ w'.cell? ⟨DU, 0, none⟩ = some (.int .i64 (t.w : Int)) ∧ w'.cell? ⟨DU, 1, none⟩ = some (.slice aU (nw t.w) cU) ∧ w'.cell? ⟨DV, 0, none⟩ = some (.int .i64 (t.w : Int)) ∧ w'.cell? ⟨DV, 1, none⟩ = some (.slice aV (nw t.w) cV) ∧ w'.cell? ⟨DC, 0, none⟩ = some (.int .i64 (t.w : Int)) ∧ w'.cell? ⟨DC, 1, none⟩ = some (.slice aCg (nw t.w) cCg) ∧ w'.cell? ⟨DC, 2, none⟩ = some (.int .i64 (t.w : Int)) ∧ w'.cell? ⟨DC, 3, none⟩ = some (.slice aCk (nw t.w) cCk) ∧ w'.cell? ⟨DC, 4, none⟩ = some (.slice aCc nC cCc) ∧ w'.cell? ⟨DD, 0, none⟩ = some (.int .i64 (t.w : Int)) ∧ w'.cell? ⟨DD, 1, none⟩ = some (.slice aDg (nw t.w) cDg) ∧ w'.cell? ⟨DD, 2, none⟩ = some (.int .i64 (t.w : Int)) ∧ w'.cell? ⟨DD, 3, none⟩ = some (.slice aDk (nw t.w) cDk) ∧ w'.cell? ⟨DD, 4, none⟩ = some (.slice aDc nD cDc) ∧ Ext No w35 w')) (by kernel_rfl) ?_ (fun hHeld => ?_)
      · ((go_split_ands; refine ⟨?_, ?_, ?_, ?_, ?_, ?_, ?_, ?_, ?_, ?_, ?_, ?_, ?_, ?_, ?_, ?_, ?_, ?_, ?_, ?_, ?_, ?_, ?_, ?_, ?_, ?_, ?_, ?_, ?_⟩ <;> (first | (with_reducible assumption) | (with_reducible exact Ext.drew (by with_reducible assumption)) | (with_reducible exact Ext.alloc (by with_reducible assumption) _) | (with_reducible exact keepN hyA (by with_reducible assumption)) | (with_reducible exact keepD (by with_reducible assumption)) | (with_reducible exact Ext.transNo (by with_reducible assumption) hyA))))
      refine held_take (i := 0) (v := ?_) rfl (by kernel_rfl) (by kernel_rfl) (by kernel_rfl) (fun _ _ _ h => h) rfl (fun w hSw => ?_) hHeld ?_
      rotate_left
      · (try dsimp only at hSw); go_simp; (try with_reducible rfl)
      try simp only [Act.put, List.setIfInBounds_toArray, List.set_cons_zero, List.set_cons_succ]
      refine held_take (i := 1) (v := ?_) rfl (by kernel_rfl) (by kernel_rfl) (by kernel_rfl) (fun _ _ _ h => h) rfl (fun w hSw => ?_) hHeld ?_
      rotate_left
      · (try dsimp only at hSw); go_simp; (try with_reducible rfl)
      try simp only [Act.put, List.setIfInBounds_toArray, List.set_cons_zero, List.set_cons_succ]
      refine held_take (i := 3) (v := ?_) rfl (by kernel_rfl) (by kernel_rfl) (by kernel_rfl) (fun _ _ _ h => h) rfl (fun w hSw => ?_) hHeld ?_
      rotate_left
      · (try dsimp only at hSw); go_simp; (try with_reducible rfl)
      try simp only [Act.put, List.setIfInBounds_toArray, List.set_cons_zero, List.set_cons_succ]
      refine held_take (i := 4) (v := ?_) rfl (by kernel_rfl) (by kernel_rfl) (by kernel_rfl) (fun _ _ _ h => h) rfl (fun w hSw => ?_) hHeld ?_
      rotate_left
      · (try dsimp only at hSw); go_simp; (try with_reducible rfl)
      try simp only [Act.put, List.setIfInBounds_toArray, List.set_cons_zero, List.set_cons_succ]
      refine held_call (i := 2) rfl (by kernel_rfl) rfl (fun K hK => ?_)
      ((have hEx := hHeld.2.2.2.2.2.2.2.2.2.2.2.2.2.2.2.2.2.2.2.2.2.2.2.2.2.2.2.2); (try dsimp only at hEx); (try go_simp); (go_at_call 33); (with_reducible refine (tsame_b t u t.w _ _ _ _ _ _ _ _ HB2.out rfl HWG.out (hTB.out.ext ?_) (hF.out.tr.extNo ?_) (hG.out.tr.extNo ?_)).mono ?_); (exact hEx); (exact hEx); (exact hEx); (rintro e41 w41 ⟨rfl, hyA⟩); (have hy41 := hyA); go_simp)
      refine hK.out _ _ ?_ (fun hNew => ?_)
      · ((go_split_ands; refine ⟨?_, ?_, ?_, ?_, ?_, ?_, ?_, ?_, ?_, ?_, ?_, ?_, ?_, ?_, ?_, ?_, ?_, ?_, ?_, ?_, ?_, ?_, ?_, ?_, ?_, ?_, ?_, ?_, ?_⟩ <;> (first | (with_reducible assumption) | (with_reducible exact Ext.drew (by with_reducible assumption)) | (with_reducible exact Ext.alloc (by with_reducible assumption) _) | (with_reducible exact keepN hyA (by with_reducible assumption)) | (with_reducible exact keepD (by with_reducible assumption)) | (with_reducible exact Ext.transNo (by with_reducible assumption) hyA))))
      clear hK K hHeld
      have hHeld := hNew
      clear hNew
      refine held_call (i := 5) rfl (by kernel_rfl) rfl (fun K hK => ?_)
      ((have hEx := hHeld.2.2.2.2.2.2.2.2.2.2.2.2.2.2.2.2.2.2.2.2.2.2.2.2.2.2.2.2); (try dsimp only at hEx); (try go_simp); (go_at_call 26); (with_reducible refine (requals_b (canonT t) (canonT u) t.w _ _ _ _ _ _ _ _ HB1.out rfl HWC.out (hC.out.tr.extNo ?_) (hD.out.tr.extNo ?_)).mono ?_); (exact hEx); (exact hEx); (rintro e42 w42 ⟨rfl, hyA⟩); (have hy42 := hyA); go_simp)
      refine hK.out _ _ ?_ (fun hNew => ?_)
      · ((go_split_ands; refine ⟨?_, ?_, ?_, ?_, ?_, ?_, ?_, ?_, ?_, ?_, ?_, ?_, ?_, ?_, ?_, ?_, ?_, ?_, ?_, ?_, ?_, ?_, ?_, ?_, ?_, ?_, ?_, ?_, ?_⟩ <;> (first | (with_reducible assumption) | (with_reducible exact Ext.drew (by with_reducible assumption)) | (with_reducible exact Ext.alloc (by with_reducible assumption) _) | (with_reducible exact keepN hyA (by with_reducible assumption)) | (with_reducible exact keepD (by with_reducible assumption)) | (with_reducible exact Ext.transNo (by with_reducible assumption) hyA))))
      clear hK K hHeld
      have hHeld := hNew
      clear hNew
      refine held_take (i := 6) (v := ?_) rfl (by kernel_rfl) (by kernel_rfl) (by kernel_rfl) (fun _ _ _ h => h) rfl (fun w hSw => ?_) hHeld ?_
      rotate_left
      · (try dsimp only at hSw); go_simp; (try with_reducible rfl)
      try simp only [Act.put, List.setIfInBounds_toArray, List.set_cons_zero, List.set_cons_succ]
      refine held_take (i := 7) (v := ?_) rfl (by kernel_rfl) (by kernel_rfl) (by kernel_rfl) (fun _ _ _ h => h) rfl (fun w hSw => ?_) hHeld ?_
      rotate_left
      · (try dsimp only at hSw); go_simp; (try with_reducible rfl)
      try simp only [Act.put, List.setIfInBounds_toArray, List.set_cons_zero, List.set_cons_succ]
      refine held_take (i := 8) (v := ?_) rfl (by kernel_rfl) (by kernel_rfl) (by kernel_rfl) (fun _ _ _ h => h) rfl (fun w hSw => ?_) hHeld ?_
      rotate_left
      · (try dsimp only at hSw); go_simp; (try with_reducible rfl)
      try simp only [Act.put, List.setIfInBounds_toArray, List.set_cons_zero, List.set_cons_succ]
      refine held_take (i := 9) (v := ?_) rfl (by kernel_rfl) (by kernel_rfl) (by kernel_rfl) (fun _ _ _ h => h) rfl (fun w hSw => ?_) hHeld ?_
      rotate_left
      · (try dsimp only at hSw); go_simp; (try with_reducible rfl)
      try simp only [Act.put, List.setIfInBounds_toArray, List.set_cons_zero, List.set_cons_succ]
      refine held_call (i := 10) rfl (by kernel_rfl) rfl (fun K hK => ?_)
      ((have hEx := hHeld.2.2.2.2.2.2.2.2.2.2.2.2.2.2.2.2.2.2.2.2.2.2.2.2.2.2.2.2); (try dsimp only at hEx); (try go_simp); (go_at_call 33); (with_reducible refine (tsame_b t (canonT t) t.w true _ _ _ _ _ _ _ ET.out rfl rfl (hTB.out.ext ?_) (hF.out.tr.extNo ?_) (hC.out.tr.extNo ?_)).mono ?_); (exact hEx); (exact hEx); (exact hEx); (rintro e43 w43 ⟨rfl, hyA⟩); (have hy43 := hyA); go_simp)
      refine hK.out _ _ ?_ (fun hNew => ?_)
      · ((go_split_ands; refine ⟨?_, ?_, ?_, ?_, ?_, ?_, ?_, ?_, ?_, ?_, ?_, ?_, ?_, ?_, ?_, ?_, ?_, ?_, ?_, ?_, ?_, ?_, ?_, ?_, ?_, ?_, ?_, ?_, ?_⟩ <;> (first | (with_reducible assumption) | (with_reducible exact Ext.drew (by with_reducible assumption)) | (with_reducible exact Ext.alloc (by with_reducible assumption) _) | (with_reducible exact keepN hyA (by with_reducible assumption)) | (with_reducible exact keepD (by with_reducible assumption)) | (with_reducible exact Ext.transNo (by with_reducible assumption) hyA))))
      clear hK K hHeld
      have hHeld := hNew
      clear hNew
      refine held_take (i := 11) (v := ?_) rfl (by kernel_rfl) (by kernel_rfl) (by kernel_rfl) (fun _ _ _ h => h) rfl (fun w hSw => ?_) hHeld ?_
      rotate_left
      · (try dsimp only at hSw); go_simp; (try with_reducible rfl)
      try simp only [Act.put, List.setIfInBounds_toArray, List.set_cons_zero, List.set_cons_succ]
      refine held_take (i := 12) (v := ?_) rfl (by kernel_rfl) (by kernel_rfl) (by kernel_rfl) (fun _ _ _ h => h) rfl (fun w hSw => ?_) hHeld ?_
      rotate_left
      · (try dsimp only at hSw); go_simp; (try with_reducible rfl)
      try simp only [Act.put, List.setIfInBounds_toArray, List.set_cons_zero, List.set_cons_succ]
      refine held_take (i := 13) (v := ?_) rfl (by kernel_rfl) (by kernel_rfl) (by kernel_rfl) (fun _ _ _ h => h) rfl (fun w hSw => ?_) hHeld ?_
      rotate_left
      · (try dsimp only at hSw); go_simp; (try with_reducible rfl)
      try simp only [Act.put, List.setIfInBounds_toArray, List.set_cons_zero, List.set_cons_succ]
      refine held_take (i := 14) (v := ?_) rfl (by kernel_rfl) (by kernel_rfl) (by kernel_rfl) (fun _ _ _ h => h) rfl (fun w hSw => ?_) hHeld ?_
      rotate_left
      · (try dsimp only at hSw); go_simp; (try with_reducible rfl)
      try simp only [Act.put, List.setIfInBounds_toArray, List.set_cons_zero, List.set_cons_succ]
      refine held_call (i := 15) rfl (by kernel_rfl) rfl (fun K hK => ?_)
      ((have hEx := hHeld.2.2.2.2.2.2.2.2.2.2.2.2.2.2.2.2.2.2.2.2.2.2.2.2.2.2.2.2); (try dsimp only at hEx); (try go_simp); (go_at_call 34); (with_reducible refine (below_b t u t.w false _ _ _ _ _ _ _ HBB.out rfl HWG.out (hTB.out.ext ?_) (hF.out.tr.extNo ?_) (hG.out.tr.extNo ?_)).mono ?_); (exact hEx); (exact hEx); (exact hEx); (rintro e44 w44 ⟨rfl, hyA⟩); (have hy44 := hyA); go_simp)
      refine hK.out _ _ ?_ (fun hNew => ?_)
      · ((go_split_ands; refine ⟨?_, ?_, ?_, ?_, ?_, ?_, ?_, ?_, ?_, ?_, ?_, ?_, ?_, ?_, ?_, ?_, ?_, ?_, ?_, ?_, ?_, ?_, ?_, ?_, ?_, ?_, ?_, ?_, ?_⟩ <;> (first | (with_reducible assumption) | (with_reducible exact Ext.drew (by with_reducible assumption)) | (with_reducible exact Ext.alloc (by with_reducible assumption) _) | (with_reducible exact keepN hyA (by with_reducible assumption)) | (with_reducible exact keepD (by with_reducible assumption)) | (with_reducible exact Ext.transNo (by with_reducible assumption) hyA))))
      clear hK K hHeld
      have hHeld := hNew
      clear hNew
      refine held_take (i := 16) (v := ?_) rfl (by kernel_rfl) (by kernel_rfl) (by kernel_rfl) (fun _ _ _ h => h) rfl (fun w hSw => ?_) hHeld ?_
      rotate_left
      · (try dsimp only at hSw); go_simp; (try with_reducible rfl)
      try simp only [Act.put, List.setIfInBounds_toArray, List.set_cons_zero, List.set_cons_succ]
      refine held_take (i := 17) (v := ?_) rfl (by kernel_rfl) (by kernel_rfl) (by kernel_rfl) (fun _ _ _ h => h) rfl (fun w hSw => ?_) hHeld ?_
      rotate_left
      · (try dsimp only at hSw); go_simp; (try with_reducible rfl)
      try simp only [Act.put, List.setIfInBounds_toArray, List.set_cons_zero, List.set_cons_succ]
      refine held_skip (i := 18) rfl (by kernel_rfl) (by kernel_rfl) (by kernel_rfl) (fun _ _ _ h => h) rfl hHeld ?_
      try simp only [Act.put, List.setIfInBounds_toArray, List.set_cons_zero, List.set_cons_succ]
      refine held_skip (i := 19) rfl (by kernel_rfl) (by kernel_rfl) (by kernel_rfl) (fun _ _ _ h => h) rfl hHeld ?_
      try simp only [Act.put, List.setIfInBounds_toArray, List.set_cons_zero, List.set_cons_succ]
      refine held_skip (i := 20) rfl (by kernel_rfl) (by kernel_rfl) (by kernel_rfl) (fun _ _ _ h => h) rfl hHeld ?_
      try simp only [Act.put, List.setIfInBounds_toArray, List.set_cons_zero, List.set_cons_succ]
      refine held_skip (i := 21) rfl (by kernel_rfl) (by kernel_rfl) (by kernel_rfl) (fun _ _ _ h => h) rfl hHeld ?_
      try simp only [Act.put, List.setIfInBounds_toArray, List.set_cons_zero, List.set_cons_succ]
      refine held_skip (i := 22) rfl (by kernel_rfl) (by kernel_rfl) (by kernel_rfl) (fun _ _ _ h => h) rfl hHeld ?_
      try simp only [Act.put, List.setIfInBounds_toArray, List.set_cons_zero, List.set_cons_succ]
      refine held_skip (i := 23) rfl (by kernel_rfl) (by kernel_rfl) (by kernel_rfl) (fun _ _ _ h => h) rfl hHeld ?_
      try simp only [Act.put, List.setIfInBounds_toArray, List.set_cons_zero, List.set_cons_succ]
      refine held_skip (i := 24) rfl (by kernel_rfl) (by kernel_rfl) (by kernel_rfl) (fun _ _ _ h => h) rfl hHeld ?_
      try simp only [Act.put, List.setIfInBounds_toArray, List.set_cons_zero, List.set_cons_succ]
      refine held_take (i := 25) (v := ?_) rfl (by kernel_rfl) (by kernel_rfl) (by kernel_rfl) (fun _ _ _ h => h) rfl (fun w hSw => ?_) hHeld ?_
      rotate_left
      · (try dsimp only at hSw); go_simp; (try with_reducible rfl)
      try simp only [Act.put, List.setIfInBounds_toArray, List.set_cons_zero, List.set_cons_succ]
      refine held_take (i := 26) (v := ?_) rfl (by kernel_rfl) (by kernel_rfl) (by kernel_rfl) (fun _ _ _ h => h) rfl (fun w hSw => ?_) hHeld ?_
      rotate_left
      · (try dsimp only at hSw); go_simp; (try with_reducible rfl)
      try simp only [Act.put, List.setIfInBounds_toArray, List.set_cons_zero, List.set_cons_succ]
      refine held_take (i := 27) (v := ?_) rfl (by kernel_rfl) (by kernel_rfl) (by kernel_rfl) (fun _ _ _ h => h) rfl (fun w hSw => ?_) hHeld ?_
      rotate_left
      · (try dsimp only at hSw); go_simp; (try with_reducible rfl)
      try simp only [Act.put, List.setIfInBounds_toArray, List.set_cons_zero, List.set_cons_succ]
      refine held_call (i := 28) rfl (by kernel_rfl) rfl (fun K hK => ?_)
      ((have hEx := hHeld.2.2.2.2.2.2.2.2.2.2.2.2.2.2.2.2.2.2.2.2.2.2.2.2.2.2.2.2); (try dsimp only at hEx); (try go_simp); (go_at_call 21); (with_reducible refine (sane_any _).mono ?_); (rintro e48 w48 ⟨rfl, hyA⟩); (have hy48 := hyA); go_simp)
      refine hK.out _ _ ?_ (fun hNew => ?_)
      · ((go_split_ands; refine ⟨?_, ?_, ?_, ?_, ?_, ?_, ?_, ?_, ?_, ?_, ?_, ?_, ?_, ?_, ?_, ?_, ?_, ?_, ?_, ?_, ?_, ?_, ?_, ?_, ?_, ?_, ?_, ?_, ?_⟩ <;> (first | (with_reducible assumption) | (with_reducible exact Ext.drew (by with_reducible assumption)) | (with_reducible exact Ext.alloc (by with_reducible assumption) _) | (with_reducible exact keepN hyA (by with_reducible assumption)) | (with_reducible exact keepD (by with_reducible assumption)) | (with_reducible exact Ext.transNo (by with_reducible assumption) hyA))))
      clear hK K hHeld
      have hHeld := hNew
      clear hNew
      refine held_take (i := 29) (v := ?_) rfl (by kernel_rfl) (by kernel_rfl) (by kernel_rfl) (fun _ _ _ h => h) rfl (fun w hSw => ?_) hHeld ?_
      rotate_left
      · (try dsimp only at hSw); go_simp; (try with_reducible rfl)
      try simp only [Act.put, List.setIfInBounds_toArray, List.set_cons_zero, List.set_cons_succ]
      refine held_take (i := 30) (v := ?_) rfl (by kernel_rfl) (by kernel_rfl) (by kernel_rfl) (fun _ _ _ h => h) rfl (fun w hSw => ?_) hHeld ?_
      rotate_left
      · (try dsimp only at hSw); go_simp; (try with_reducible rfl)
      try simp only [Act.put, List.setIfInBounds_toArray, List.set_cons_zero, List.set_cons_succ]
      refine wpAnyH_done (by kernel_rfl) ?_ _
      have hEx := hHeld.2.2.2.2.2.2.2.2.2.2.2.2.2.2.2.2.2.2.2.2.2.2.2.2.2.2.2.2
      go_wp2_with fail
      go_ret
      exact ⟨rfl, HX.out.transNo hEx⟩
  · have HBB := Lib.hid hbb
    clear hbb
    cases bb
    ·
      refine wp_region_held_drew (S := (fun w' => w'.cell? ⟨F, 0, none⟩ = some (.int .i64 (t.w : Int)) ∧ w'.cell? ⟨F, 1, none⟩ = some (.slice afg (nw t.w) cfg) ∧ w'.cell? ⟨F, 2, none⟩ = some (.int .i64 (t.w : Int)) ∧ w'.cell? ⟨F, 3, none⟩ = some (.slice afk (nw t.w) cfk) ∧ w'.cell? ⟨F, 4, none⟩ = some (.slice afc t.copies.length cfc) ∧ w'.cell? ⟨F + 1, 0, none⟩ = some (.int .i64 (t.w : Int)) ∧ w'.cell? ⟨F + 1, 1, none⟩ = some (.slice agg (nw t.w) cgg) ∧ w'.cell? ⟨F + 1, 2, none⟩ = some (.int .i64 (t.w : Int)) ∧ w'.cell? ⟨F + 1, 3, none⟩ = some (.slice agk (nw t.w) cgk) ∧ w'.cell? ⟨F + 1, 4, none⟩ = some (.slice agc u.copies.length cgc) ∧ w'.cell? ⟨F + 2, 0, none⟩ = some (.int .i64 (t.w : Int)) ∧ w'.cell? ⟨F + 2, 1, none⟩ = some (.slice (some ⟨ga, 0, none⟩) (nw t.w) (nw t.w)) ∧ w'.cell? ⟨F + 3, 0, none⟩ = some (.int .i64 (t.w : Int)) ∧ w'.cell? ⟨F + 3, 1, none⟩ = some (.slice (some ⟨gb, 0, none⟩) (nw t.w) (nw t.w)) ∧ w'.cell? ⟨DU, 0, none⟩ = some (.int .i64 (t.w : Int)) ∧ w'.cell? ⟨DU, 1, none⟩ = some (.slice aU (nw t.w) cU) ∧ w'.cell? ⟨DV, 0, none⟩ = some (.int .i64 (t.w : Int)) ∧ w'.cell? ⟨DV, 1, none⟩ = some (.slice aV (nw t.w) cV) ∧ w'.cell? ⟨DC, 0, none⟩ = some (.int .i64 (t.w : Int)) ∧ w'.cell? ⟨DC, 1, none⟩ = some (.slice aCg (nw t.w) cCg) ∧ w'.cell? ⟨DC, 2, none⟩ = some (.int .i64 (t.w : Int)) ∧ w'.cell? ⟨DC, 3, none⟩ = some (.slice aCk (nw t.w) cCk) ∧ w'.cell? ⟨DC, 4, none⟩ = some (.slice aCc nC cCc) ∧ w'.cell? ⟨DD, 0, none⟩ = some (.int .i64 (t.w : Int)) ∧ w'.cell? ⟨DD, 1, none⟩ = some (.slice aDg (nw t.w) cDg) ∧ w'.cell? ⟨DD, 2, none⟩ = some (.int .i64 (t.w : Int)) ∧ w'.cell? ⟨DD, 3, none⟩ = some (.slice aDk (nw t.w) cDk) ∧ w'.cell? ⟨DD, 4, none⟩ = some (.slice aDc nD cDc) ∧ Ext No w35 w')) (by kernel_rfl) ?_ (fun hHeld => ?_)
      · ((go_split_ands; refine ⟨?_, ?_, ?_, ?_, ?_, ?_, ?_, ?_, ?_, ?_, ?_, ?_, ?_, ?_, ?_, ?_, ?_, ?_, ?_, ?_, ?_, ?_, ?_, ?_, ?_, ?_, ?_, ?_, ?_⟩ <;> (first | (with_reducible assumption) | (with_reducible exact Ext.drew (by with_reducible assumption)) | (with_reducible exact Ext.alloc (by with_reducible assumption) _) | (with_reducible exact keepN hyA (by with_reducible assumption)) | (with_reducible exact keepD (by with_reducible assumption)) | (with_reducible exact Ext.transNo (by with_reducible assumption) hyA))))
      refine held_take (i := 0) (v := ?_) rfl (by kernel_rfl) (by kernel_rfl) (by kernel_rfl) (fun _ _ _ h => h) rfl (fun w hSw => ?_) hHeld ?_
      rotate_left
      · (try dsimp only at hSw); go_simp; (try with_reducible rfl)
      try simp only [Act.put, List.setIfInBounds_toArray, List.set_cons_zero, List.set_cons_succ]
      refine held_take (i := 1) (v := ?_) rfl (by kernel_rfl) (by kernel_rfl) (by kernel_rfl) (fun _ _ _ h => h) rfl (fun w hSw => ?_) hHeld ?_
      rotate_left
      · (try dsimp only at hSw); go_simp; (try with_reducible rfl)
      try simp only [Act.put, List.setIfInBounds_toArray, List.set_cons_zero, List.set_cons_succ]
      refine held_take (i := 3) (v := ?_) rfl (by kernel_rfl) (by kernel_rfl) (by kernel_rfl) (fun _ _ _ h => h) rfl (fun w hSw => ?_) hHeld ?_
      rotate_left
      · (try dsimp only at hSw); go_simp; (try with_reducible rfl)
      try simp only [Act.put, List.setIfInBounds_toArray, List.set_cons_zero, List.set_cons_succ]
      refine held_take (i := 4) (v := ?_) rfl (by kernel_rfl) (by kernel_rfl) (by kernel_rfl) (fun _ _ _ h => h) rfl (fun w hSw => ?_) hHeld ?_
      rotate_left
      · (try dsimp only at hSw); go_simp; (try with_reducible rfl)
      try simp only [Act.put, List.setIfInBounds_toArray, List.set_cons_zero, List.set_cons_succ]
      refine held_call (i := 2) rfl (by kernel_rfl) rfl (fun K hK => ?_)
      ((have hEx := hHeld.2.2.2.2.2.2.2.2.2.2.2.2.2.2.2.2.2.2.2.2.2.2.2.2.2.2.2.2); (try dsimp only at hEx); (try go_simp); (go_at_call 33); (with_reducible refine (tsame_b t u t.w _ _ _ _ _ _ _ _ HB2.out rfl HWG.out (hTB.out.ext ?_) (hF.out.tr.extNo ?_) (hG.out.tr.extNo ?_)).mono ?_); (exact hEx); (exact hEx); (exact hEx); (rintro e41 w41 ⟨rfl, hyA⟩); (have hy41 := hyA); go_simp)
      refine hK.out _ _ ?_ (fun hNew => ?_)
      · ((go_split_ands; refine ⟨?_, ?_, ?_, ?_, ?_, ?_, ?_, ?_, ?_, ?_, ?_, ?_, ?_, ?_, ?_, ?_, ?_, ?_, ?_, ?_, ?_, ?_, ?_, ?_, ?_, ?_, ?_, ?_, ?_⟩ <;> (first | (with_reducible assumption) | (with_reducible exact Ext.drew (by with_reducible assumption)) | (with_reducible exact Ext.alloc (by with_reducible assumption) _) | (with_reducible exact keepN hyA (by with_reducible assumption)) | (with_reducible exact keepD (by with_reducible assumption)) | (with_reducible exact Ext.transNo (by with_reducible assumption) hyA))))
      clear hK K hHeld
      have hHeld := hNew
      clear hNew
      refine held_call (i := 5) rfl (by kernel_rfl) rfl (fun K hK => ?_)
      ((have hEx := hHeld.2.2.2.2.2.2.2.2.2.2.2.2.2.2.2.2.2.2.2.2.2.2.2.2.2.2.2.2); (try dsimp only at hEx); (try go_simp); (go_at_call 26); (with_reducible refine (requals_b (canonT t) (canonT u) t.w _ _ _ _ _ _ _ _ HB1.out rfl HWC.out (hC.out.tr.extNo ?_) (hD.out.tr.extNo ?_)).mono ?_); (exact hEx); (exact hEx); (rintro e42 w42 ⟨rfl, hyA⟩); (have hy42 := hyA); go_simp)
      refine hK.out _ _ ?_ (fun hNew => ?_)
      · ((go_split_ands; refine ⟨?_, ?_, ?_, ?_, ?_, ?_, ?_, ?_, ?_, ?_, ?_, ?_, ?_, ?_, ?_, ?_, ?_, ?_, ?_, ?_, ?_, ?_, ?_, ?_, ?_, ?_, ?_, ?_, ?_⟩ <;> (first | (with_reducible assumption) | (with_reducible exact Ext.drew (by with_reducible assumption)) | (with_reducible exact Ext.alloc (by with_reducible assumption) _) | (with_reducible exact keepN hyA (by with_reducible assumption)) | (with_reducible exact keepD (by with_reducible assumption)) | (with_reducible exact Ext.transNo (by with_reducible assumption) hyA))))
      clear hK K hHeld
      have hHeld := hNew
      clear hNew
      refine held_take (i := 6) (v := ?_) rfl (by kernel_rfl) (by kernel_rfl) (by kernel_rfl) (fun _ _ _ h => h) rfl (fun w hSw => ?_) hHeld ?_
      rotate_left
      · (try dsimp only at hSw); go_simp; (try with_reducible rfl)
      try simp only [Act.put, List.setIfInBounds_toArray, List.set_cons_zero, List.set_cons_succ]
      refine held_take (i := 7) (v := ?_) rfl (by kernel_rfl) (by kernel_rfl) (by kernel_rfl) (fun _ _ _ h => h) rfl (fun w hSw => ?_) hHeld ?_
      rotate_left
      · (try dsimp only at hSw); go_simp; (try with_reducible rfl)
      try simp only [Act.put, List.setIfInBounds_toArray, List.set_cons_zero, List.set_cons_succ]
      refine held_take (i := 8) (v := ?_) rfl (by kernel_rfl) (by kernel_rfl) (by kernel_rfl) (fun _ _ _ h => h) rfl (fun w hSw => ?_) hHeld ?_
      rotate_left
      · (try dsimp only at hSw); go_simp; (try with_reducible rfl)
      try simp only [Act.put, List.setIfInBounds_toArray, List.set_cons_zero, List.set_cons_succ]
      refine held_take (i := 9) (v := ?_) rfl (by kernel_rfl) (by kernel_rfl) (by kernel_rfl) (fun _ _ _ h => h) rfl (fun w hSw => ?_) hHeld ?_
      rotate_left
      · (try dsimp only at hSw); go_simp; (try with_reducible rfl)
      try simp only [Act.put, List.setIfInBounds_toArray, List.set_cons_zero, List.set_cons_succ]
      refine held_call (i := 10) rfl (by kernel_rfl) rfl (fun K hK => ?_)
      ((have hEx := hHeld.2.2.2.2.2.2.2.2.2.2.2.2.2.2.2.2.2.2.2.2.2.2.2.2.2.2.2.2); (try dsimp only at hEx); (try go_simp); (go_at_call 33); (with_reducible refine (tsame_b t (canonT t) t.w true _ _ _ _ _ _ _ ET.out rfl rfl (hTB.out.ext ?_) (hF.out.tr.extNo ?_) (hC.out.tr.extNo ?_)).mono ?_); (exact hEx); (exact hEx); (exact hEx); (rintro e43 w43 ⟨rfl, hyA⟩); (have hy43 := hyA); go_simp)
      refine hK.out _ _ ?_ (fun hNew => ?_)
      · ((go_split_ands; refine ⟨?_, ?_, ?_, ?_, ?_, ?_, ?_, ?_, ?_, ?_, ?_, ?_, ?_, ?_, ?_, ?_, ?_, ?_, ?_, ?_, ?_, ?_, ?_, ?_, ?_, ?_, ?_, ?_, ?_⟩ <;> (first | (with_reducible assumption) | (with_reducible exact Ext.drew (by with_reducible assumption)) | (with_reducible exact Ext.alloc (by with_reducible assumption) _) | (with_reducible exact keepN hyA (by with_reducible assumption)) | (with_reducible exact keepD (by with_reducible assumption)) | (with_reducible exact Ext.transNo (by with_reducible assumption) hyA))))
      clear hK K hHeld
      have hHeld := hNew
      clear hNew
      refine held_take (i := 11) (v := ?_) rfl (by kernel_rfl) (by kernel_rfl) (by kernel_rfl) (fun _ _ _ h => h) rfl (fun w hSw => ?_) hHeld ?_
      rotate_left
      · (try dsimp only at hSw); go_simp; (try with_reducible rfl)
      try simp only [Act.put, List.setIfInBounds_toArray, List.set_cons_zero, List.set_cons_succ]
      refine held_take (i := 12) (v := ?_) rfl (by kernel_rfl) (by kernel_rfl) (by kernel_rfl) (fun _ _ _ h => h) rfl (fun w hSw => ?_) hHeld ?_
      rotate_left
      · (try dsimp only at hSw); go_simp; (try with_reducible rfl)
      try simp only [Act.put, List.setIfInBounds_toArray, List.set_cons_zero, List.set_cons_succ]
      refine held_take (i := 13) (v := ?_) rfl (by kernel_rfl) (by kernel_rfl) (by kernel_rfl) (fun _ _ _ h => h) rfl (fun w hSw => ?_) hHeld ?_
      rotate_left
      · (try dsimp only at hSw); go_simp; (try with_reducible rfl)
      try simp only [Act.put, List.setIfInBounds_toArray, List.set_cons_zero, List.set_cons_succ]
      refine held_take (i := 14) (v := ?_) rfl (by kernel_rfl) (by kernel_rfl) (by kernel_rfl) (fun _ _ _ h => h) rfl (fun w hSw => ?_) hHeld ?_
      rotate_left
      · (try dsimp only at hSw); go_simp; (try with_reducible rfl)
      try simp only [Act.put, List.setIfInBounds_toArray, List.set_cons_zero, List.set_cons_succ]
      refine held_call (i := 15) rfl (by kernel_rfl) rfl (fun K hK => ?_)
      ((have hEx := hHeld.2.2.2.2.2.2.2.2.2.2.2.2.2.2.2.2.2.2.2.2.2.2.2.2.2.2.2.2); (try dsimp only at hEx); (try go_simp); (go_at_call 34); (with_reducible refine (below_b t u t.w true _ _ _ _ _ _ _ HBB.out rfl HWG.out (hTB.out.ext ?_) (hF.out.tr.extNo ?_) (hG.out.tr.extNo ?_)).mono ?_); (exact hEx); (exact hEx); (exact hEx); (rintro e44 w44 ⟨rfl, hyA⟩); (have hy44 := hyA); go_simp)
      refine hK.out _ _ ?_ (fun hNew => ?_)
      · ((go_split_ands; refine ⟨?_, ?_, ?_, ?_, ?_, ?_, ?_, ?_, ?_, ?_, ?_, ?_, ?_, ?_, ?_, ?_, ?_, ?_, ?_, ?_, ?_, ?_, ?_, ?_, ?_, ?_, ?_, ?_, ?_⟩ <;> (first | (with_reducible assumption) | (with_reducible exact Ext.drew (by with_reducible assumption)) | (with_reducible exact Ext.alloc (by with_reducible assumption) _) | (with_reducible exact keepN hyA (by with_reducible assumption)) | (with_reducible exact keepD (by with_reducible assumption)) | (with_reducible exact Ext.transNo (by with_reducible assumption) hyA))))
      clear hK K hHeld
      have hHeld := hNew
      clear hNew
      refine held_take (i := 16) (v := ?_) rfl (by kernel_rfl) (by kernel_rfl) (by kernel_rfl) (fun _ _ _ h => h) rfl (fun w hSw => ?_) hHeld ?_
      rotate_left
      · (try dsimp only at hSw); go_simp; (try with_reducible rfl)
      try simp only [Act.put, List.setIfInBounds_toArray, List.set_cons_zero, List.set_cons_succ]
      refine held_take (i := 17) (v := ?_) rfl (by kernel_rfl) (by kernel_rfl) (by kernel_rfl) (fun _ _ _ h => h) rfl (fun w hSw => ?_) hHeld ?_
      rotate_left
      · (try dsimp only at hSw); go_simp; (try with_reducible rfl)
      try simp only [Act.put, List.setIfInBounds_toArray, List.set_cons_zero, List.set_cons_succ]
      refine held_take (i := 18) (v := ?_) rfl (by kernel_rfl) (by kernel_rfl) (by kernel_rfl) (fun _ _ _ h => h) rfl (fun w hSw => ?_) hHeld ?_
      rotate_left
      · (try dsimp only at hSw); go_simp; (try with_reducible rfl)
      try simp only [Act.put, List.setIfInBounds_toArray, List.set_cons_zero, List.set_cons_succ]
      refine held_take (i := 19) (v := ?_) rfl (by kernel_rfl) (by kernel_rfl) (by kernel_rfl) (fun _ _ _ h => h) rfl (fun w hSw => ?_) hHeld ?_
      rotate_left
      · (try dsimp only at hSw); go_simp; (try with_reducible rfl)
      try simp only [Act.put, List.setIfInBounds_toArray, List.set_cons_zero, List.set_cons_succ]
      refine held_take (i := 21) (v := ?_) rfl (by kernel_rfl) (by kernel_rfl) (by kernel_rfl) (fun _ _ _ h => h) rfl (fun w hSw => ?_) hHeld ?_
      rotate_left
      · (try dsimp only at hSw); go_simp; (try with_reducible rfl)
      try simp only [Act.put, List.setIfInBounds_toArray, List.set_cons_zero, List.set_cons_succ]
      refine held_take (i := 22) (v := ?_) rfl (by kernel_rfl) (by kernel_rfl) (by kernel_rfl) (fun _ _ _ h => h) rfl (fun w hSw => ?_) hHeld ?_
      rotate_left
      · (try dsimp only at hSw); go_simp; (try with_reducible rfl)
      try simp only [Act.put, List.setIfInBounds_toArray, List.set_cons_zero, List.set_cons_succ]
      refine held_call (i := 20) rfl (by kernel_rfl) rfl (fun K hK => ?_)
      ((have hEx := hHeld.2.2.2.2.2.2.2.2.2.2.2.2.2.2.2.2.2.2.2.2.2.2.2.2.2.2.2.2); (try dsimp only at hEx); (try go_simp); (go_at_call 31); (with_reducible refine (lapply_w t t.w m _ _ _ _ _ rfl (hF.out.tr.extNo ?_) (hA.out.set.extNo ?_)).mono ?_); (exact hEx); (exact hEx); (rintro e45 w45 ⟨a45, c45, rfl, h45, hyA⟩); (have hy45 := hyA); go_simp)
      refine hK.out _ _ ?_ (fun hNew => ?_)
      · ((go_split_ands; refine ⟨?_, ?_, ?_, ?_, ?_, ?_, ?_, ?_, ?_, ?_, ?_, ?_, ?_, ?_, ?_, ?_, ?_, ?_, ?_, ?_, ?_, ?_, ?_, ?_, ?_, ?_, ?_, ?_, ?_⟩ <;> (first | (with_reducible assumption) | (with_reducible exact Ext.drew (by with_reducible assumption)) | (with_reducible exact Ext.alloc (by with_reducible assumption) _) | (with_reducible exact keepN hyA (by with_reducible assumption)) | (with_reducible exact keepD (by with_reducible assumption)) | (with_reducible exact Ext.transNo (by with_reducible assumption) hyA))))
      clear hK K hHeld
      have hHeld := hNew
      clear hNew
      refine held_call (i := 23) rfl (by kernel_rfl) rfl (fun K hK => ?_)
      ((have hEx := hHeld.2.2.2.2.2.2.2.2.2.2.2.2.2.2.2.2.2.2.2.2.2.2.2.2.2.2.2.2); (try dsimp only at hEx); (try go_simp); (go_at_call 31); (with_reducible refine (lapply_w u t.w m _ _ _ _ _ HWG.out (hG.out.tr.extNo ?_) (hA.out.set.extNo ?_)).mono ?_); (exact hEx); (exact hEx); (rintro e46 w46 ⟨a46, c46, rfl, h46, hyA⟩); (have hy46 := hyA); go_simp)
      refine hK.out _ _ ?_ (fun hNew => ?_)
      · ((go_split_ands; refine ⟨?_, ?_, ?_, ?_, ?_, ?_, ?_, ?_, ?_, ?_, ?_, ?_, ?_, ?_, ?_, ?_, ?_, ?_, ?_, ?_, ?_, ?_, ?_, ?_, ?_, ?_, ?_, ?_, ?_⟩ <;> (first | (with_reducible assumption) | (with_reducible exact Ext.drew (by with_reducible assumption)) | (with_reducible exact Ext.alloc (by with_reducible assumption) _) | (with_reducible exact keepN hyA (by with_reducible assumption)) | (with_reducible exact keepD (by with_reducible assumption)) | (with_reducible exact Ext.transNo (by with_reducible assumption) hyA))))
      clear hK K hHeld
      have hHeld := hNew
      clear hNew
      refine held_call (i := 24) rfl (by kernel_rfl) rfl (fun K hK => ?_)
      ((have hEx := hHeld.2.2.2.2.2.2.2.2.2.2.2.2.2.2.2.2.2.2.2.2.2.2.2.2.2.2.2.2); (try dsimp only at hEx); (try go_simp); (go_at_call 35); (with_reducible refine (subset_true t.w (applyT t m) (applyT u m) _ _ _ (EB.out HBB.out) (h45.out.no.extNo hy46) h46.out.no).mono ?_); (rintro e47 w47 ⟨rfl, hyA⟩); (have hy47 := hyA); go_simp)
      refine hK.out _ _ ?_ (fun hNew => ?_)
      · ((go_split_ands; refine ⟨?_, ?_, ?_, ?_, ?_, ?_, ?_, ?_, ?_, ?_, ?_, ?_, ?_, ?_, ?_, ?_, ?_, ?_, ?_, ?_, ?_, ?_, ?_, ?_, ?_, ?_, ?_, ?_, ?_⟩ <;> (first | (with_reducible assumption) | (with_reducible exact Ext.drew (by with_reducible assumption)) | (with_reducible exact Ext.alloc (by with_reducible assumption) _) | (with_reducible exact keepN hyA (by with_reducible assumption)) | (with_reducible exact keepD (by with_reducible assumption)) | (with_reducible exact Ext.transNo (by with_reducible assumption) hyA))))
      clear hK K hHeld
      have hHeld := hNew
      clear hNew
      refine held_take (i := 25) (v := ?_) rfl (by kernel_rfl) (by kernel_rfl) (by kernel_rfl) (fun _ _ _ h => h) rfl (fun w hSw => ?_) hHeld ?_
      rotate_left
      · (try dsimp only at hSw); go_simp; (try with_reducible rfl)
      try simp only [Act.put, List.setIfInBounds_toArray, List.set_cons_zero, List.set_cons_succ]
      refine held_take (i := 26) (v := ?_) rfl (by kernel_rfl) (by kernel_rfl) (by kernel_rfl) (fun _ _ _ h => h) rfl (fun w hSw => ?_) hHeld ?_
      rotate_left
      · (try dsimp only at hSw); go_simp; (try with_reducible rfl)
      try simp only [Act.put, List.setIfInBounds_toArray, List.set_cons_zero, List.set_cons_succ]
      refine held_take (i := 27) (v := ?_) rfl (by kernel_rfl) (by kernel_rfl) (by kernel_rfl) (fun _ _ _ h => h) rfl (fun w hSw => ?_) hHeld ?_
      rotate_left
      · (try dsimp only at hSw); go_simp; (try with_reducible rfl)
      try simp only [Act.put, List.setIfInBounds_toArray, List.set_cons_zero, List.set_cons_succ]
      refine held_call (i := 28) rfl (by kernel_rfl) rfl (fun K hK => ?_)
      ((have hEx := hHeld.2.2.2.2.2.2.2.2.2.2.2.2.2.2.2.2.2.2.2.2.2.2.2.2.2.2.2.2); (try dsimp only at hEx); (try go_simp); (go_at_call 21); (with_reducible refine (sane_any _).mono ?_); (rintro e48 w48 ⟨rfl, hyA⟩); (have hy48 := hyA); go_simp)
      refine hK.out _ _ ?_ (fun hNew => ?_)
      · ((go_split_ands; refine ⟨?_, ?_, ?_, ?_, ?_, ?_, ?_, ?_, ?_, ?_, ?_, ?_, ?_, ?_, ?_, ?_, ?_, ?_, ?_, ?_, ?_, ?_, ?_, ?_, ?_, ?_, ?_, ?_, ?_⟩ <;> (first | (with_reducible assumption) | (with_reducible exact Ext.drew (by with_reducible assumption)) | (with_reducible exact Ext.alloc (by with_reducible assumption) _) | (with_reducible exact keepN hyA (by with_reducible assumption)) | (with_reducible exact keepD (by with_reducible assumption)) | (with_reducible exact Ext.transNo (by with_reducible assumption) hyA))))
      clear hK K hHeld
      have hHeld := hNew
      clear hNew
      refine held_take (i := 29) (v := ?_) rfl (by kernel_rfl) (by kernel_rfl) (by kernel_rfl) (fun _ _ _ h => h) rfl (fun w hSw => ?_) hHeld ?_
      rotate_left
      · (try dsimp only at hSw); go_simp; (try with_reducible rfl)
      try simp only [Act.put, List.setIfInBounds_toArray, List.set_cons_zero, List.set_cons_succ]
      refine held_take (i := 30) (v := ?_) rfl (by kernel_rfl) (by kernel_rfl) (by kernel_rfl) (fun _ _ _ h => h) rfl (fun w hSw => ?_) hHeld ?_
      rotate_left
      · (try dsimp only at hSw); go_simp; (try with_reducible rfl)
      try simp only [Act.put, List.setIfInBounds_toArray, List.set_cons_zero, List.set_cons_succ]
      refine wpAnyH_done (by kernel_rfl) ?_ _
      have hEx := hHeld.2.2.2.2.2.2.2.2.2.2.2.2.2.2.2.2.2.2.2.2.2.2.2.2.2.2.2.2
      go_wp2_with fail
      go_ret
      exact ⟨rfl, HX.out.transNo hEx⟩
    ·
      refine wp_region_held_drew (S := (fun w' => w'.cell? ⟨F, 0, none⟩ = some (.int .i64 (t.w : Int)) ∧ w'.cell? ⟨F, 1, none⟩ = some (.slice afg (nw t.w) cfg) ∧ w'.cell? ⟨F, 2, none⟩ = some (.int .i64 (t.w : Int)) ∧ w'.cell? ⟨F, 3, none⟩ = some (.slice afk (nw t.w) cfk) ∧ w'.cell? ⟨F, 4, none⟩ = some (.slice afc t.copies.length cfc) ∧ w'.cell? ⟨F + 1, 0, none⟩ = some (.int .i64 (t.w : Int)) ∧ w'.cell? ⟨F + 1, 1, none⟩ = some (.slice agg (nw t.w) cgg) ∧ w'.cell? ⟨F + 1, 2, none⟩ = some (.int .i64 (t.w : Int)) ∧ w'.cell? ⟨F + 1, 3, none⟩ = some (.slice agk (nw t.w) cgk) ∧ w'.cell? ⟨F + 1, 4, none⟩ = some (.slice agc u.copies.length cgc) ∧ w'.cell? ⟨F + 2, 0, none⟩ = some (.int .i64 (t.w : Int)) ∧ w'.cell? ⟨F + 2, 1, none⟩ = some (.slice (some ⟨ga, 0, none⟩) (nw t.w) (nw t.w)) ∧ w'.cell? ⟨F + 3, 0, none⟩ = some (.int .i64 (t.w : Int)) ∧ w'.cell? ⟨F + 3, 1, none⟩ = some (.slice (some ⟨gb, 0, none⟩) (nw t.w) (nw t.w)) ∧ w'.cell? ⟨DU, 0, none⟩ = some (.int .i64 (t.w : Int)) ∧ w'.cell? ⟨DU, 1, none⟩ = some (.slice aU (nw t.w) cU) ∧ w'.cell? ⟨DV, 0, none⟩ = some (.int .i64 (t.w : Int)) ∧ w'.cell? ⟨DV, 1, none⟩ = some (.slice aV (nw t.w) cV) ∧ w'.cell? ⟨DC, 0, none⟩ = some (.int .i64 (t.w : Int)) ∧ w'.cell? ⟨DC, 1, none⟩ = some (.slice aCg (nw t.w) cCg) ∧ w'.cell? ⟨DC, 2, none⟩ = some (.int .i64 (t.w : Int)) ∧ w'.cell? ⟨DC, 3, none⟩ = some (.slice aCk (nw t.w) cCk) ∧ w'.cell? ⟨DC, 4, none⟩ = some (.slice aCc nC cCc) ∧ w'.cell? ⟨DD, 0, none⟩ = some (.int .i64 (t.w : Int)) ∧ w'.cell? ⟨DD, 1, none⟩ = some (.slice aDg (nw t.w) cDg) ∧ w'.cell? ⟨DD, 2, none⟩ = some (.int .i64 (t.w : Int)) ∧ w'.cell? ⟨DD, 3, none⟩ = some (.slice aDk (nw t.w) cDk) ∧ w'.cell? ⟨DD, 4, none⟩ = some (.slice aDc nD cDc) ∧ Ext No w35 w')) (by kernel_rfl) ?_ (fun hHeld => ?_)
      · ((go_split_ands; refine ⟨?_, ?_, ?_, ?_, ?_, ?_, ?_, ?_, ?_, ?_, ?_, ?_, ?_, ?_, ?_, ?_, ?_, ?_, ?_, ?_, ?_, ?_, ?_, ?_, ?_, ?_, ?_, ?_, ?_⟩ <;> (first | (with_reducible assumption) | (with_reducible exact Ext.drew (by with_reducible assumption)) | (with_reducible exact Ext.alloc (by with_reducible assumption) _) | (with_reducible exact keepN hyA (by with_reducible assumption)) | (with_reducible exact keepD (by with_reducible assumption)) | (with_reducible exact Ext.transNo (by with_reducible assumption) hyA))))
      refine held_take (i := 0) (v := ?_) rfl (by kernel_rfl) (by kernel_rfl) (by kernel_rfl) (fun _ _ _ h => h) rfl (fun w hSw => ?_) hHeld ?_
      rotate_left
      · (try dsimp only at hSw); go_simp; (try with_reducible rfl)
      try simp only [Act.put, List.setIfInBounds_toArray, List.set_cons_zero, List.set_cons_succ]
      refine held_take (i := 1) (v := ?_) rfl (by kernel_rfl) (by kernel_rfl) (by kernel_rfl) (fun _ _ _ h => h) rfl (fun w hSw => ?_) hHeld ?_
      rotate_left
      · (try dsimp only at hSw); go_simp; (try with_reducible rfl)
      try simp only [Act.put, List.setIfInBounds_toArray, List.set_cons_zero, List.set_cons_succ]
      refine held_take (i := 3) (v := ?_) rfl (by kernel_rfl) (by kernel_rfl) (by kernel_rfl) (fun _ _ _ h => h) rfl (fun w hSw => ?_) hHeld ?_
      rotate_left
      · (try dsimp only at hSw); go_simp; (try with_reducible rfl)
      try simp only [Act.put, List.setIfInBounds_toArray, List.set_cons_zero, List.set_cons_succ]
      refine held_take (i := 4) (v := ?_) rfl (by kernel_rfl) (by kernel_rfl) (by kernel_rfl) (fun _ _ _ h => h) rfl (fun w hSw => ?_) hHeld ?_
      rotate_left
      · (try dsimp only at hSw); go_simp; (try with_reducible rfl)
      try simp only [Act.put, List.setIfInBounds_toArray, List.set_cons_zero, List.set_cons_succ]
      refine held_call (i := 2) rfl (by kernel_rfl) rfl (fun K hK => ?_)
      ((have hEx := hHeld.2.2.2.2.2.2.2.2.2.2.2.2.2.2.2.2.2.2.2.2.2.2.2.2.2.2.2.2); (try dsimp only at hEx); (try go_simp); (go_at_call 33); (with_reducible refine (tsame_b t u t.w _ _ _ _ _ _ _ _ HB2.out rfl HWG.out (hTB.out.ext ?_) (hF.out.tr.extNo ?_) (hG.out.tr.extNo ?_)).mono ?_); (exact hEx); (exact hEx); (exact hEx); (rintro e41 w41 ⟨rfl, hyA⟩); (have hy41 := hyA); go_simp)
      refine hK.out _ _ ?_ (fun hNew => ?_)
      · ((go_split_ands; refine ⟨?_, ?_, ?_, ?_, ?_, ?_, ?_, ?_, ?_, ?_, ?_, ?_, ?_, ?_, ?_, ?_, ?_, ?_, ?_, ?_, ?_, ?_, ?_, ?_, ?_, ?_, ?_, ?_, ?_⟩ <;> (first | (with_reducible assumption) | (with_reducible exact Ext.drew (by with_reducible assumption)) | (with_reducible exact Ext.alloc (by with_reducible assumption) _) | (with_reducible exact keepN hyA (by with_reducible assumption)) | (with_reducible exact keepD (by with_reducible assumption)) | (with_reducible exact Ext.transNo (by with_reducible assumption) hyA))))
      clear hK K hHeld
      have hHeld := hNew
      clear hNew
      refine held_call (i := 5) rfl (by kernel_rfl) rfl (fun K hK => ?_)
      ((have hEx := hHeld.2.2.2.2.2.2.2.2.2.2.2.2.2.2.2.2.2.2.2.2.2.2.2.2.2.2.2.2); (try dsimp only at hEx); (try go_simp); (go_at_call 26); (with_reducible refine (requals_b (canonT t) (canonT u) t.w _ _ _ _ _ _ _ _ HB1.out rfl HWC.out (hC.out.tr.extNo ?_) (hD.out.tr.extNo ?_)).mono ?_); (exact hEx); (exact hEx); (rintro e42 w42 ⟨rfl, hyA⟩); (have hy42 := hyA); go_simp)
      refine hK.out _ _ ?_ (fun hNew => ?_)
      · ((go_split_ands; refine ⟨?_, ?_, ?_, ?_, ?_, ?_, ?_, ?_, ?_, ?_, ?_, ?_, ?_, ?_, ?_, ?_, ?_, ?_, ?_, ?_, ?_, ?_, ?_, ?_, ?_, ?_, ?_, ?_, ?_⟩ <;> (first | (with_reducible assumption) | (with_reducible exact Ext.drew (by with_reducible assumption)) | (with_reducible exact Ext.alloc (by with_reducible assumption) _) | (with_reducible exact keepN hyA (by with_reducible assumption)) | (with_reducible exact keepD (by with_reducible assumption)) | (with_reducible exact Ext.transNo (by with_reducible assumption) hyA))))
      clear hK K hHeld
      have hHeld := hNew
      clear hNew
      refine held_take (i := 6) (v := ?_) rfl (by kernel_rfl) (by kernel_rfl) (by kernel_rfl) (fun _ _ _ h => h) rfl (fun w hSw => ?_) hHeld ?_
      rotate_left
      · (try dsimp only at hSw); go_simp; (try with_reducible rfl)
      try simp only [Act.put, List.setIfInBounds_toArray, List.set_cons_zero, List.set_cons_succ]
      refine held_take (i := 7) (v := ?_) rfl (by kernel_rfl) (by kernel_rfl) (by kernel_rfl) (fun _ _ _ h => h) rfl (fun w hSw => ?_) hHeld ?_
      rotate_left
      · (try dsimp only at hSw); go_simp; (try with_reducible rfl)
      try simp only [Act.put, List.setIfInBounds_toArray, List.set_cons_zero, List.set_cons_succ]
      refine held_take (i := 8) (v := ?_) rfl (by kernel_rfl) (by kernel_rfl) (by kernel_rfl) (fun _ _ _ h => h) rfl (fun w hSw => ?_) hHeld ?_
      rotate_left
      · (try dsimp only at hSw); go_simp; (try with_reducible rfl)
      try simp only [Act.put, List.setIfInBounds_toArray, List.set_cons_zero, List.set_cons_succ]
      refine held_take (i := 9) (v := ?_) rfl (by kernel_rfl) (by kernel_rfl) (by kernel_rfl) (fun _ _ _ h => h) rfl (fun w hSw => ?_) hHeld ?_
      rotate_left
      · (try dsimp only at hSw); go_simp; (try with_reducible rfl)
      try simp only [Act.put, List.setIfInBounds_toArray, List.set_cons_zero, List.set_cons_succ]
      refine held_call (i := 10) rfl (by kernel_rfl) rfl (fun K hK => ?_)
      ((have hEx := hHeld.2.2.2.2.2.2.2.2.2.2.2.2.2.2.2.2.2.2.2.2.2.2.2.2.2.2.2.2); (try dsimp only at hEx); (try go_simp); (go_at_call 33); (with_reducible refine (tsame_b t (canonT t) t.w true _ _ _ _ _ _ _ ET.out rfl rfl (hTB.out.ext ?_) (hF.out.tr.extNo ?_) (hC.out.tr.extNo ?_)).mono ?_); (exact hEx); (exact hEx); (exact hEx); (rintro e43 w43 ⟨rfl, hyA⟩); (have hy43 := hyA); go_simp)
      refine hK.out _ _ ?_ (fun hNew => ?_)
      · ((go_split_ands; refine ⟨?_, ?_, ?_, ?_, ?_, ?_, ?_, ?_, ?_, ?_, ?_, ?_, ?_, ?_, ?_, ?_, ?_, ?_, ?_, ?_, ?_, ?_, ?_, ?_, ?_, ?_, ?_, ?_, ?_⟩ <;> (first | (with_reducible assumption) | (with_reducible exact Ext.drew (by with_reducible assumption)) | (with_reducible exact Ext.alloc (by with_reducible assumption) _) | (with_reducible exact keepN hyA (by with_reducible assumption)) | (with_reducible exact keepD (by with_reducible assumption)) | (with_reducible exact Ext.transNo (by with_reducible assumption) hyA))))
      clear hK K hHeld
      have hHeld := hNew
      clear hNew
      refine held_take (i := 11) (v := ?_) rfl (by kernel_rfl) (by kernel_rfl) (by kernel_rfl) (fun _ _ _ h => h) rfl (fun w hSw => ?_) hHeld ?_
      rotate_left
      · (try dsimp only at hSw); go_simp; (try with_reducible rfl)
      try simp only [Act.put, List.setIfInBounds_toArray, List.set_cons_zero, List.set_cons_succ]
      refine held_take (i := 12) (v := ?_) rfl (by kernel_rfl) (by kernel_rfl) (by kernel_rfl) (fun _ _ _ h => h) rfl (fun w hSw => ?_) hHeld ?_
      rotate_left
      · (try dsimp only at hSw); go_simp; (try with_reducible rfl)
      try simp only [Act.put, List.setIfInBounds_toArray, List.set_cons_zero, List.set_cons_succ]
      refine held_take (i := 13) (v := ?_) rfl (by kernel_rfl) (by kernel_rfl) (by kernel_rfl) (fun _ _ _ h => h) rfl (fun w hSw => ?_) hHeld ?_
      rotate_left
      · (try dsimp only at hSw); go_simp; (try with_reducible rfl)
      try simp only [Act.put, List.setIfInBounds_toArray, List.set_cons_zero, List.set_cons_succ]
      refine held_take (i := 14) (v := ?_) rfl (by kernel_rfl) (by kernel_rfl) (by kernel_rfl) (fun _ _ _ h => h) rfl (fun w hSw => ?_) hHeld ?_
      rotate_left
      · (try dsimp only at hSw); go_simp; (try with_reducible rfl)
      try simp only [Act.put, List.setIfInBounds_toArray, List.set_cons_zero, List.set_cons_succ]
      refine held_call (i := 15) rfl (by kernel_rfl) rfl (fun K hK => ?_)
      ((have hEx := hHeld.2.2.2.2.2.2.2.2.2.2.2.2.2.2.2.2.2.2.2.2.2.2.2.2.2.2.2.2); (try dsimp only at hEx); (try go_simp); (go_at_call 34); (with_reducible refine (below_b t u t.w true _ _ _ _ _ _ _ HBB.out rfl HWG.out (hTB.out.ext ?_) (hF.out.tr.extNo ?_) (hG.out.tr.extNo ?_)).mono ?_); (exact hEx); (exact hEx); (exact hEx); (rintro e44 w44 ⟨rfl, hyA⟩); (have hy44 := hyA); go_simp)
      refine hK.out _ _ ?_ (fun hNew => ?_)
      · ((go_split_ands; refine ⟨?_, ?_, ?_, ?_, ?_, ?_, ?_, ?_, ?_, ?_, ?_, ?_, ?_, ?_, ?_, ?_, ?_, ?_, ?_, ?_, ?_, ?_, ?_, ?_, ?_, ?_, ?_, ?_, ?_⟩ <;> (first | (with_reducible assumption) | (with_reducible exact Ext.drew (by with_reducible assumption)) | (with_reducible exact Ext.alloc (by with_reducible assumption) _) | (with_reducible exact keepN hyA (by with_reducible assumption)) | (with_reducible exact keepD (by with_reducible assumption)) | (with_reducible exact Ext.transNo (by with_reducible assumption) hyA))))
      clear hK K hHeld
      have hHeld := hNew
      clear hNew
      refine held_take (i := 16) (v := ?_) rfl (by kernel_rfl) (by kernel_rfl) (by kernel_rfl) (fun _ _ _ h => h) rfl (fun w hSw => ?_) hHeld ?_
      rotate_left
      · (try dsimp only at hSw); go_simp; (try with_reducible rfl)
      try simp only [Act.put, List.setIfInBounds_toArray, List.set_cons_zero, List.set_cons_succ]
      refine held_take (i := 17) (v := ?_) rfl (by kernel_rfl) (by kernel_rfl) (by kernel_rfl) (fun _ _ _ h => h) rfl (fun w hSw => ?_) hHeld ?_
      rotate_left
      · (try dsimp only at hSw); go_simp; (try with_reducible rfl)
      try simp only [Act.put, List.setIfInBounds_toArray, List.set_cons_zero, List.set_cons_succ]
      refine held_take (i := 18) (v := ?_) rfl (by kernel_rfl) (by kernel_rfl) (by kernel_rfl) (fun _ _ _ h => h) rfl (fun w hSw => ?_) hHeld ?_
      rotate_left
      · (try dsimp only at hSw); go_simp; (try with_reducible rfl)
      try simp only [Act.put, List.setIfInBounds_toArray, List.set_cons_zero, List.set_cons_succ]
      refine held_take (i := 19) (v := ?_) rfl (by kernel_rfl) (by kernel_rfl) (by kernel_rfl) (fun _ _ _ h => h) rfl (fun w hSw => ?_) hHeld ?_
      rotate_left
      · (try dsimp only at hSw); go_simp; (try with_reducible rfl)
      try simp only [Act.put, List.setIfInBounds_toArray, List.set_cons_zero, List.set_cons_succ]
      refine held_take (i := 21) (v := ?_) rfl (by kernel_rfl) (by kernel_rfl) (by kernel_rfl) (fun _ _ _ h => h) rfl (fun w hSw => ?_) hHeld ?_
      rotate_left
      · (try dsimp only at hSw); go_simp; (try with_reducible rfl)
      try simp only [Act.put, List.setIfInBounds_toArray, List.set_cons_zero, List.set_cons_succ]
      refine held_take (i := 22) (v := ?_) rfl (by kernel_rfl) (by kernel_rfl) (by kernel_rfl) (fun _ _ _ h => h) rfl (fun w hSw => ?_) hHeld ?_
      rotate_left
      · (try dsimp only at hSw); go_simp; (try with_reducible rfl)
      try simp only [Act.put, List.setIfInBounds_toArray, List.set_cons_zero, List.set_cons_succ]
      refine held_call (i := 20) rfl (by kernel_rfl) rfl (fun K hK => ?_)
      ((have hEx := hHeld.2.2.2.2.2.2.2.2.2.2.2.2.2.2.2.2.2.2.2.2.2.2.2.2.2.2.2.2); (try dsimp only at hEx); (try go_simp); (go_at_call 31); (with_reducible refine (lapply_w t t.w m _ _ _ _ _ rfl (hF.out.tr.extNo ?_) (hA.out.set.extNo ?_)).mono ?_); (exact hEx); (exact hEx); (rintro e45 w45 ⟨a45, c45, rfl, h45, hyA⟩); (have hy45 := hyA); go_simp)
      refine hK.out _ _ ?_ (fun hNew => ?_)
      · ((go_split_ands; refine ⟨?_, ?_, ?_, ?_, ?_, ?_, ?_, ?_, ?_, ?_, ?_, ?_, ?_, ?_, ?_, ?_, ?_, ?_, ?_, ?_, ?_, ?_, ?_, ?_, ?_, ?_, ?_, ?_, ?_⟩ <;> (first | (with_reducible assumption) | (with_reducible exact Ext.drew (by with_reducible assumption)) | (with_reducible exact Ext.alloc (by with_reducible assumption) _) | (with_reducible exact keepN hyA (by with_reducible assumption)) | (with_reducible exact keepD (by with_reducible assumption)) | (with_reducible exact Ext.transNo (by with_reducible assumption) hyA))))
      clear hK K hHeld
      have hHeld := hNew
      clear hNew
      refine held_call (i := 23) rfl (by kernel_rfl) rfl (fun K hK => ?_)
      ((have hEx := hHeld.2.2.2.2.2.2.2.2.2.2.2.2.2.2.2.2.2.2.2.2.2.2.2.2.2.2.2.2); (try dsimp only at hEx); (try go_simp); (go_at_call 31); (with_reducible refine (lapply_w u t.w m _ _ _ _ _ HWG.out (hG.out.tr.extNo ?_) (hA.out.set.extNo ?_)).mono ?_); (exact hEx); (exact hEx); (rintro e46 w46 ⟨a46, c46, rfl, h46, hyA⟩); (have hy46 := hyA); go_simp)
      refine hK.out _ _ ?_ (fun hNew => ?_)
      · ((go_split_ands; refine ⟨?_, ?_, ?_, ?_, ?_, ?_, ?_, ?_, ?_, ?_, ?_, ?_, ?_, ?_, ?_, ?_, ?_, ?_, ?_, ?_, ?_, ?_, ?_, ?_, ?_, ?_, ?_, ?_, ?_⟩ <;> (first | (with_reducible assumption) | (with_reducible exact Ext.drew (by with_reducible assumption)) | (with_reducible exact Ext.alloc (by with_reducible assumption) _) | (with_reducible exact keepN hyA (by with_reducible assumption)) | (with_reducible exact keepD (by with_reducible assumption)) | (with_reducible exact Ext.transNo (by with_reducible assumption) hyA))))
      clear hK K hHeld
      have hHeld := hNew
      clear hNew
      refine held_call (i := 24) rfl (by kernel_rfl) rfl (fun K hK => ?_)
      ((have hEx := hHeld.2.2.2.2.2.2.2.2.2.2.2.2.2.2.2.2.2.2.2.2.2.2.2.2.2.2.2.2); (try dsimp only at hEx); (try go_simp); (go_at_call 35); (with_reducible refine (subset_true t.w (applyT t m) (applyT u m) _ _ _ (EB.out HBB.out) (h45.out.no.extNo hy46) h46.out.no).mono ?_); (rintro e47 w47 ⟨rfl, hyA⟩); (have hy47 := hyA); go_simp)
      refine hK.out _ _ ?_ (fun hNew => ?_)
      · ((go_split_ands; refine ⟨?_, ?_, ?_, ?_, ?_, ?_, ?_, ?_, ?_, ?_, ?_, ?_, ?_, ?_, ?_, ?_, ?_, ?_, ?_, ?_, ?_, ?_, ?_, ?_, ?_, ?_, ?_, ?_, ?_⟩ <;> (first | (with_reducible assumption) | (with_reducible exact Ext.drew (by with_reducible assumption)) | (with_reducible exact Ext.alloc (by with_reducible assumption) _) | (with_reducible exact keepN hyA (by with_reducible assumption)) | (with_reducible exact keepD (by with_reducible assumption)) | (with_reducible exact Ext.transNo (by with_reducible assumption) hyA))))
      clear hK K hHeld
      have hHeld := hNew
      clear hNew
      refine held_take (i := 25) (v := ?_) rfl (by kernel_rfl) (by kernel_rfl) (by kernel_rfl) (fun _ _ _ h => h) rfl (fun w hSw => ?_) hHeld ?_
      rotate_left
      · (try dsimp only at hSw); go_simp; (try with_reducible rfl)
      try simp only [Act.put, List.setIfInBounds_toArray, List.set_cons_zero, List.set_cons_succ]
      refine held_take (i := 26) (v := ?_) rfl (by kernel_rfl) (by kernel_rfl) (by kernel_rfl) (fun _ _ _ h => h) rfl (fun w hSw => ?_) hHeld ?_
      rotate_left
      · (try dsimp only at hSw); go_simp; (try with_reducible rfl)
      try simp only [Act.put, List.setIfInBounds_toArray, List.set_cons_zero, List.set_cons_succ]
      refine held_take (i := 27) (v := ?_) rfl (by kernel_rfl) (by kernel_rfl) (by kernel_rfl) (fun _ _ _ h => h) rfl (fun w hSw => ?_) hHeld ?_
      rotate_left
      · (try dsimp only at hSw); go_simp; (try with_reducible rfl)
      try simp only [Act.put, List.setIfInBounds_toArray, List.set_cons_zero, List.set_cons_succ]
      refine held_call (i := 28) rfl (by kernel_rfl) rfl (fun K hK => ?_)
      ((have hEx := hHeld.2.2.2.2.2.2.2.2.2.2.2.2.2.2.2.2.2.2.2.2.2.2.2.2.2.2.2.2); (try dsimp only at hEx); (try go_simp); (go_at_call 21); (with_reducible refine (sane_any _).mono ?_); (rintro e48 w48 ⟨rfl, hyA⟩); (have hy48 := hyA); go_simp)
      refine hK.out _ _ ?_ (fun hNew => ?_)
      · ((go_split_ands; refine ⟨?_, ?_, ?_, ?_, ?_, ?_, ?_, ?_, ?_, ?_, ?_, ?_, ?_, ?_, ?_, ?_, ?_, ?_, ?_, ?_, ?_, ?_, ?_, ?_, ?_, ?_, ?_, ?_, ?_⟩ <;> (first | (with_reducible assumption) | (with_reducible exact Ext.drew (by with_reducible assumption)) | (with_reducible exact Ext.alloc (by with_reducible assumption) _) | (with_reducible exact keepN hyA (by with_reducible assumption)) | (with_reducible exact keepD (by with_reducible assumption)) | (with_reducible exact Ext.transNo (by with_reducible assumption) hyA))))
      clear hK K hHeld
      have hHeld := hNew
      clear hNew
      refine held_take (i := 29) (v := ?_) rfl (by kernel_rfl) (by kernel_rfl) (by kernel_rfl) (fun _ _ _ h => h) rfl (fun w hSw => ?_) hHeld ?_
      rotate_left
      · (try dsimp only at hSw); go_simp; (try with_reducible rfl)
      try simp only [Act.put, List.setIfInBounds_toArray, List.set_cons_zero, List.set_cons_succ]
      refine held_take (i := 30) (v := ?_) rfl (by kernel_rfl) (by kernel_rfl) (by kernel_rfl) (fun _ _ _ h => h) rfl (fun w hSw => ?_) hHeld ?_
      rotate_left
      · (try dsimp only at hSw); go_simp; (try with_reducible rfl)
      try simp only [Act.put, List.setIfInBounds_toArray, List.set_cons_zero, List.set_cons_succ]
      refine wpAnyH_done (by kernel_rfl) ?_ _
      have hEx := hHeld.2.2.2.2.2.2.2.2.2.2.2.2.2.2.2.2.2.2.2.2.2.2.2.2.2.2.2.2
      go_wp2_with fail
      go_ret
      exact ⟨rfl, HX.out.transNo hEx⟩
end Go.Proofs.YtgakojgkkdmabaaDoor

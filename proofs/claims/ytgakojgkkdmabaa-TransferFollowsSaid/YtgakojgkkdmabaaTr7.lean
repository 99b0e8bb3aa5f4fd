/- transfer: Follows, apply. -/
import Derived.Test.YtgakojgkkdmabaaTr6
namespace Go.Proofs.Ytgakojgkkdmabaa
open Go Go.RowKit

def rawT (t : TrD) : RawT := ⟨setN t.w t.gen, setN t.w t.kill, t.copies⟩
theorem validT_ok {t : TrD} (h : TrOk t) : validT (rawT t) = true := by
  have hh : headT (rawT t) = true := by
    unfold headT
    rw [show validB (rawT t).gen = true from validB_set h.w h.gen, show validB (rawT t).kill = true from validB_set h.w h.kill, decide_eq_true (show (rawT t).gen.width = (rawT t).kill.width from rfl), decide_eq_true (show (rawT t).copies.length ≤ 64 from h.len)]; rfl
  refine validT_all hh (fun i hi => ?_)
  obtain ⟨h1, h2⟩ := h.inr i hi
  unfold copyOk
  have e1 : inB (rawT t).gen.width (rawT t).copies[i].1 = true := h1
  have e2 : inB (rawT t).gen.width (rawT t).copies[i].2 = true := h2
  rw [e1, e2]
  cases i with
  | zero => rfl
  | succ i =>
    have := h.sorted i hi
    have e3 : compareZ ((rawT t).copies[i + 1 - 1]'(by have : (rawT t).copies.length = t.copies.length := rfl; omega)) (rawT t).copies[i + 1] < 0 := this
    rw [decide_eq_true e3]; simp
theorem validT_ex {r : RawT} (h : validT r = true) (hg : ∀ n ∈ r.gen.words, n < 2 ^ 64) (hk : ∀ n ∈ r.kill.words, n < 2 ^ 64) : ∃ t, TrOk t ∧ r = rawT t := by
  simp only [validT, headT, Bool.and_eq_true, decide_eq_true_eq] at h
  obtain ⟨⟨h1, h2, h3, h4⟩, h5⟩ := h
  obtain ⟨w, m, hw, hm, e1⟩ := (validB_iff hg).1 h1
  obtain ⟨w', k, hw', hk', e2⟩ := (validB_iff hk).1 h2
  obtain ⟨gen, kill, copies⟩ := r
  simp only at e1 e2 h3 h4 h5
  subst e1 e2
  have : w = w' := by have : (w : Int) = (w' : Int) := h3; omega
  subst this
  refine ⟨⟨w, m, k, copies⟩, ⟨hw, hm, hk', h4, fun i hi => ?_, fun i hi => ?_⟩, rfl⟩
  · have := h5 i hi
    simp only [copyOk, Bool.and_eq_true] at this
    exact ⟨this.1, this.2.1⟩
  · have := h5 (i + 1) hi
    simp only [copyOk, Bool.and_eq_true, Bool.or_eq_true, decide_eq_true_eq] at this
    rcases this.2.2 with h | h
    · omega
    · exact h
theorem TrAt.raw {M : Nat → Prop} {W : World} {sg sk sc : Value} {t : TrD} (h : TrAt M W sg sk sc t) : RawTAt M W sg sk sc (rawT t) := ⟨h.gen.words, h.kill.words, h.copies⟩
theorem RawTAt.tr {M : Nat → Prop} {W : World} {sg sk sc : Value} {t : TrD} (h : RawTAt M W sg sk sc (rawT t)) (ho : TrOk t) : TrAt M W sg sk sc t := ⟨⟨h.gen, ho.w, ho.gen⟩, ⟨h.kill, ho.w, ho.kill⟩, h.copies, ho⟩
/-- Valid of a valid function -/
theorem validTr_any (t : TrD) (sg sk sc : Value) (W : World) (h : TrAt No W sg sk sc t) : Calls Try.prog 15 #[.agg #[.int .i64 (t.w : Int), sg, .int .i64 (t.w : Int), sk, sc]] W (BoolPost true W) :=
  (validT_any (rawT t) sg sk sc W h.raw).mono fun _ _ hh => by rw [validT_ok h.ok] at hh; exact hh

def followsX (t : TrD) (a b : Int) : Bool := inB t.w a && (inB t.w b && followsB t a b)
set_option maxRecDepth 100000 in
set_option maxHeartbeats 1000000 in
theorem Follows_any (t : TrD) (sg sk sc : Value) (a b : Int) (W : World) (h : TrAt No W sg sk sc t) : Calls Try.prog 10 #[.agg #[.int .i64 (t.w : Int), sg, .int .i64 (t.w : Int), sk, sc], .int .i64 a, .int .i64 b] W (BoolPost (followsX t a b) W) := by
  have H := Lib.hid h
  obtain ⟨ag, ng, cg, rfl⟩ := h.gen.shaped
  obtain ⟨ak, nk, ck, rfl⟩ := h.kill.shaped
  obtain ⟨ac, nc, cc, rfl⟩ := h.copies.shaped
  clear h
  unfold followsX
  cases ha : inB t.w a with
  | false =>
    go_enter Try.func10, Try.ntmps10
    go_wp2_with fail
    refine (validTr_any t _ _ _ _ (H.out.extNo ((Ext.refl _ _).alloc _))).mono ?_
    rintro e1 w1 ⟨rfl, hx1⟩
    have hB := hx1.blk (alloc_top (w := W) rfl) no_no
    have hxa : Ext No W w1 := ((Ext.refl _ _).alloc _).transNo hx1
    have cB := cellOf hB
    clear hx1
    go_wp2_with fail
    refine (bit_any _ _ _ _ _ a _ (shp _ _ _) (shp _ _ _) (shp _ _ _)).mono ?_
    rintro e2 w2 ⟨rfl, hx2⟩
    rw [ha]
    go_wp2
    go_ret
    exact ⟨rfl, hxa.transNo hx2⟩
  | true =>
    cases hb : inB t.w b with
    | false =>
      go_enter Try.func10, Try.ntmps10
      go_wp2_with fail
      refine (validTr_any t _ _ _ _ (H.out.extNo ((Ext.refl _ _).alloc _))).mono ?_
      rintro e1 w1 ⟨rfl, hx1⟩
      have hB := hx1.blk (alloc_top (w := W) rfl) no_no
      have hxa : Ext No W w1 := ((Ext.refl _ _).alloc _).transNo hx1
      have cB := cellOf hB
      clear hx1
      go_wp2_with fail
      refine (bit_any _ _ _ _ _ a _ (shp _ _ _) (shp _ _ _) (shp _ _ _)).mono ?_
      rintro e2 w2 ⟨rfl, hx2⟩
      rw [ha]
      replace hB := hx2.blk hB no_no
      replace hxa := hxa.transNo hx2
      clear hx2 cB
      have cB := cellOf hB
      go_wp2_with fail
      refine (bit_any _ _ _ _ _ b _ (shp _ _ _) (shp _ _ _) (shp _ _ _)).mono ?_
      rintro e3 w3 ⟨rfl, hx3⟩
      rw [hb]
      go_wp2
      go_ret
      exact ⟨rfl, hxa.transNo hx3⟩
    | true =>
      rw [Bool.true_and, Bool.true_and]
      go_enter Try.func10, Try.ntmps10
      go_wp2_with fail
      refine (validTr_any t _ _ _ _ (H.out.extNo ((Ext.refl _ _).alloc _))).mono ?_
      rintro e1 w1 ⟨rfl, hx1⟩
      have hB := hx1.blk (alloc_top (w := W) rfl) no_no
      have hxa : Ext No W w1 := ((Ext.refl _ _).alloc _).transNo hx1
      have cB := cellOf hB
      clear hx1
      go_wp2_with fail
      refine (bit_any _ _ _ _ _ a _ (shp _ _ _) (shp _ _ _) (shp _ _ _)).mono ?_
      rintro e2 w2 ⟨rfl, hx2⟩
      rw [ha]
      replace hB := hx2.blk hB no_no
      replace hxa := hxa.transNo hx2
      clear hx2 cB
      have cB := cellOf hB
      go_wp2_with fail
      refine (bit_any _ _ _ _ _ b _ (shp _ _ _) (shp _ _ _) (shp _ _ _)).mono ?_
      rintro e3 w3 ⟨rfl, hx3⟩
      rw [hb]
      replace hB := hx3.blk hB no_no
      replace hxa := hxa.transNo hx3
      clear hx3 cB
      have cB := cellOf hB
      go_wp2_with fail
      refine (follows_any t _ _ _ a b _ (H.out.extNo hxa)).mono ?_
      rintro e4 w4 ⟨rfl, hx4⟩
      go_wp2
      all_goals
        go_ret
        exact ⟨rfl, hxa.transNo hx4⟩
end Go.Proofs.Ytgakojgkkdmabaa

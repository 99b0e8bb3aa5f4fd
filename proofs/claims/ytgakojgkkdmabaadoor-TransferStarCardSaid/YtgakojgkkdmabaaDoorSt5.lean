/- The walk of TransferStar. -/
import Derived.Test.YtgakojgkkdmabaaDoorSt4
import Derived.Test.YtgakojgkkdmabaaDoorSt2
import Derived.Test.YtgakojgkkdmabaaDoorSp2
import Derived.Test.YtgakojgkkdmabaaDoorREq
import Derived.Test.YtgakojgkkdmabaaDoorTr17
set_option linter.unusedVariables false
set_option linter.unusedSimpArgs false
namespace Go.Proofs.YtgakojgkkdmabaaDoor
open Go Go.RowKit
theorem WordsAt.clear {M : Nat → Prop} {w : World} {D : Nat} {sl : Value} {l : List Nat} {x y : Int} {a1 a2 a3 : Option Addr} {n1 n2 n3 c1 c2 c3 : Nat} {T : TypeId} (h : WordsAt M w sl l) (hD : w.heap[D]? = some (.cells #[.int .i64 x, .slice a1 n1 c1, .int .i64 y, .slice a2 n2 c2, .slice a3 n3 c3] T (0, 0))) : WordsAt (fun b => M b ∨ b = D) w sl l := by
  obtain ⟨⟨h1, h2, a, cap, h3, hcp, h4⟩, hlt⟩ := h
  refine ⟨⟨h1, h2, a, cap, h3, hcp, ?_⟩, hlt⟩
  rcases h4 with h4 | ⟨b, off, h5, h6, h7, h8⟩
  · exact .inl h4
  · by_cases h0 : l.length = 0
    · exact .inl h0
    · refine .inr ⟨b, off, h5, h6, ?_, h8⟩
      rintro (e | e)
      · exact h7 e
      · subst e
        have := h8 0 _ (u64s_get l 0 (by omega))
        rw [cellOf hD] at this
        rcases off with _ | _ | _ | _ | _ | n <;> simp at this
theorem CopiesAt.clear {M : Nat → Prop} {w : World} {D : Nat} {sl : Value} {l : List (Int × Int)} {x y : Int} {a1 a2 a3 : Option Addr} {n1 n2 n3 c1 c2 c3 : Nat} {T : TypeId} (h : CopiesAt M w sl l) (hD : w.heap[D]? = some (.cells #[.int .i64 x, .slice a1 n1 c1, .int .i64 y, .slice a2 n2 c2, .slice a3 n3 c3] T (0, 0))) : CopiesAt (fun b => M b ∨ b = D) w sl l := by
  obtain ⟨h1, h2, a, cap, h3, hcp, h4⟩ := h
  refine ⟨h1, h2, a, cap, h3, hcp, ?_⟩
  rcases h4 with h4 | ⟨b, off, h5, h6, h7, h8⟩
  · exact .inl h4
  · by_cases h0 : l.length = 0
    · exact .inl h0
    · refine .inr ⟨b, off, h5, h6, ?_, h8⟩
      rintro (e | e)
      · exact h7 e
      · subst e
        have e0 := h8 0 _ ((flatC_get l 0 0 (by omega) (by omega)).trans rfl)
        have e1 := h8 1 _ ((flatC_get l 0 1 (by omega) (by omega)).trans rfl)
        rw [cellOf hD] at e0 e1
        rcases off with _ | _ | _ | _ | _ | n <;> simp at e0 e1
/-- no row of a function lies in a box that holds a function -/
theorem RawTAt.clear {M : Nat → Prop} {w : World} {D : Nat} {sg sk sc : Value} {r : RawT} {x y : Int} {a1 a2 a3 : Option Addr} {n1 n2 n3 c1 c2 c3 : Nat} {T : TypeId} (h : RawTAt M w sg sk sc r) (hD : w.heap[D]? = some (.cells #[.int .i64 x, .slice a1 n1 c1, .int .i64 y, .slice a2 n2 c2, .slice a3 n3 c3] T (0, 0))) : RawTAt (fun b => M b ∨ b = D) w sg sk sc r :=
  ⟨h.gen.clear hD, h.kill.clear hD, CopiesAt.clear h.copies hD⟩
set_option maxRecDepth 100000 in
set_option maxHeartbeats 8000000 in
theorem transferStar_any (tl g1 k1 c1 : Value) (zs : List Int) (f : RawT) (w : World) (ht : Ints No w .i64 tl zs) (h : RawTAt No w g1 k1 c1 f) (hT : TabW w) :
    Calls Tryd.prog 5 #[tl, .agg #[.int .i64 f.gen.width, g1, .int .i64 f.kill.width, k1, c1]] w fun e w' => e = .returned (.bool true) ∧ Ext No w w' := by
  have H := Lib.hid h
  have HTB := Lib.hid hT
  have HT := Lib.hid ht
  obtain ⟨at', ct', rfl⟩ := ht.slice
  obtain ⟨ag, cg, rfl⟩ := h.gen.slice
  obtain ⟨ak, ck, rfl⟩ := h.kill.slice
  obtain ⟨ac, cc, rfl⟩ := Row.slice h.copies
  clear h ht hT
  go_enter Tryd.func5, Tryd.ntmps5
  go_wp2_with fail
  have hxA : Ext No w (w.alloc (.cells #[.int .i64 f.gen.width, .slice ag f.gen.words.length cg, .int .i64 f.kill.width, .slice ak f.kill.words.length ck, .slice ac f.copies.length cc] 28)) := (Ext.refl _ _).alloc _
  have hbA := alloc_top (w := w) (o := .cells #[.int .i64 f.gen.width, .slice ag f.gen.words.length cg, .int .i64 f.kill.width, .slice ak f.kill.words.length ck, .slice ac f.copies.length cc] 28) rfl
  refine (new_any _ zs _ (HT.out.extNo hxA)).mono ?_
  rintro e0 w0 ⟨rfl, ht0, hx0, hs0⟩
  have htb : w.heap.size < (w.alloc (.cells #[.int .i64 f.gen.width, .slice ag f.gen.words.length cg, .int .i64 f.kill.width, .slice ak f.kill.words.length ck, .slice ac f.copies.length cc] 28)).heap.size := by simp
  have HX := Lib.hid (hxA.transNo hx0)
  have HA := Lib.hid (hx0.blk hbA no_no)
  have HT0 := Lib.hid ht0
  have cA := cellOf HA.out
  clear hxA hbA hx0 hs0 ht0
  generalize (w.alloc (.cells #[.int .i64 f.gen.width, .slice ag f.gen.words.length cg, .int .i64 f.kill.width, .slice ak f.kill.words.length ck, .slice ac f.copies.length cc] 28)).heap.size = tb at *
  go_wp2_with fail
  clear cA
  go_loopw [6] (fun i wr => ∃ k : Nat, k ≤ 5 ∧ i = .int .i64 k ∧ Hid (TapeOk wr tb) ∧ Hid (Ext No w wr) ∧ Hid (wr.heap[w.heap.size]? = some (.cells #[.int .i64 f.gen.width, .slice ag f.gen.words.length cg, .int .i64 f.kill.width, .slice ak f.kill.words.length ck, .slice ac f.copies.length cc] 28 (0, 0)))) (fun i _ => 5 - (intOf i).toNat)
  case atStart => exact ⟨0, Nat.zero_le _, rfl, HT0, HX, HA⟩
  case round =>
    clear HT0 HX HA
    obtain ⟨k, hk, rfl, ht, hx, hA⟩ := hrel
    rename World => wr
    have hpos : (0 : Int) ≤ (k : Int) := by omega
    by_cases hlt : k < 5
    · have hlz : (k : Int) < 5 := by omega
      have HKK : Hid (Value.int .i64 ((k : Int) + 1) = .int .i64 ((k + 1 : Nat) : Int)) := Lib.hid (by rw [show ((k + 1 : Nat) : Int) = (k : Int) + 1 from by omega])
      go_wp2_with fail
      refine (width_any _ _ ht.out).mono ?_
      rintro e1 w1 ⟨W8, hw8, rfl, ht1, hx1⟩
      have hlt0 := ht.out.lt
      go_wp2_with fail
      refine (gtr_any _ W8 _ (by omega) ht1).mono ?_
      rintro e2 w2 ⟨t, sg, sk, sc, hw, rfl, hF, ht2, hx2⟩
      subst hw
      have hFr := hF.out.raw.no
      obtain ⟨a1, c1, rfl⟩ := hF.out.gen.slice
      obtain ⟨a2, c2, rfl⟩ := hF.out.kill.slice
      obtain ⟨a3, c3, rfl⟩ := Row.slice hF.out.copies
      have hxw := (hx.out.trans2 hx1 (fun i hi e => by unfold At at e; omega)).trans2 hx2 (fun i hi e => by unfold At at e; omega)
      have hx5 := (Ext.refl No w2).alloc (.cells #[.int .i64 (t.w : Int), .slice a1 (nw t.w) c1, .int .i64 (t.w : Int), .slice a2 (nw t.w) c2, .slice a3 t.copies.length c3] 28)
      have hD := alloc_top (w := w2) (o := (.cells #[.int .i64 (t.w : Int), .slice a1 (nw t.w) c1, .int .i64 (t.w : Int), .slice a2 (nw t.w) c2, .slice a3 t.copies.length c3] 28)) rfl
      have hA2 := alloc_under (o := (.cells #[.int .i64 (t.w : Int), .slice a1 (nw t.w) c1, .int .i64 (t.w : Int), .slice a2 (nw t.w) c2, .slice a3 t.copies.length c3] 28)) ((hx1.trans hx2).blk hA.out (by unfold At; omega))
      have hFr5 := hFr.extNo hx5
      have ht5 := ht2.ext hx5
      have hxw5 := hxw.transNo hx5
      by_cases h4 : k = 4
      · subst h4
        go_wp2_with fail
        have hlt1 := ht1.lt
        have hRa : RawTAt (At tb) (w2.alloc (.cells #[.int .i64 (t.w : Int), .slice a1 (nw t.w) c1, .int .i64 (t.w : Int), .slice a2 (nw t.w) c2, .slice a3 t.copies.length c3] 28)) (.slice a1 (nw t.w) c1) (.slice a2 (nw t.w) c2) (.slice a3 t.copies.length c3) (rawT t) := (hF.out.raw.mono (fun i hi e => by unfold At at e; unfold Lo; omega)).extNo hx5
        have hok := hF.out.ok
        have hwl : (rawT t).gen.words.length ≤ 1048576 := by have : (rawT t).gen.words.length = nw t.w := wordsN_len ..; have := hok.w; unfold nw at *; omega
        have hwk : (rawT t).kill.words.length ≤ 1048576 := by have : (rawT t).kill.words.length = nw t.w := wordsN_len ..; have := hok.w; unfold nw at *; omega
        have hwc : (rawT t).copies.length ≤ 1048576 := by have := hok.len; show t.copies.length ≤ _; omega
        refine (spoilT_any tb (rawT t) _ _ _ _ hRa hwl hwk hwc ht5).mono ?_
        rintro e3 w3 ⟨r, sg, sk, sc, rfl, hR, ht3, hx3⟩
        obtain ⟨r1, s1, rfl⟩ := hR.out.gen.slice
        obtain ⟨r2, s2, rfl⟩ := hR.out.kill.slice
        obtain ⟨r3, s3, rfl⟩ := Row.slice hR.out.copies
        have hsz2 := hx2.size
        have hD3 := hx3.blk hD (by unfold At; omega)
        have hA3 := hx3.blk hA2 (by unfold At; omega)
        have hRc := hR.out.clear hD3
        have hE := set5 w3 w2.heap.size (.int .i64 r.gen.width) (.slice r1 r.gen.words.length s1) (.int .i64 r.kill.width) (.slice r2 r.kill.words.length s2) (.slice r3 r.copies.length s3)
        have hDV := BoxR.fin5 ⟨_, rfl, hD3⟩ (.int .i64 r.gen.width) (.slice r1 r.gen.words.length s1) (.int .i64 r.kill.width) (.slice r2 r.kill.words.length s2) (.slice r3 r.copies.length s3)
        have hRV := (hRc.ext hE (fun i _ e => .inr e)).no
        have hAV := hE.blk hA3 (by unfold At; omega)
        have htV := ht3.extAbove hE (fun i hi e => by unfold At at e; omega)
        have hyV := (hxw5.trans2 hx3 (fun i hi e => by unfold At at e; omega)).trans2 hE (fun i hi e => by unfold At at e; omega)
        have cD3 := cellOf hD3
        have fD3 := freeOf hD3
        clear hx5 hxw hx1 hx2 ht1 ht2 hFr hFr5 hD hA2 ht5 hxw5 hF hx hA ht hE hD3 hA3 hRc hR ht3 hx3 hRa hok hwl hwk hwc
        obtain ⟨q, e0, hq⟩ := star_both r hRV.gen.lt hRV.kill.lt
        have HQ := Lib.hid hq
        have HRV := Lib.hid hRV
        clear hq hRV
        have cD := cellOf hDV
        go_wp2_with fail
        clear cD cD3 fD3
        show Calls Tryd.prog _ _ (((((w3.setCell ⟨w2.heap.size, 0, none⟩ (.int .i64 r.gen.width)).setCell ⟨w2.heap.size, 1, none⟩ (.slice r1 r.gen.words.length s1)).setCell ⟨w2.heap.size, 2, none⟩ (.int .i64 r.kill.width)).setCell ⟨w2.heap.size, 3, none⟩ (.slice r2 r.kill.words.length s2)).setCell ⟨w2.heap.size, 4, none⟩ (.slice r3 r.copies.length s3)) _
        generalize (((((w3.setCell ⟨w2.heap.size, 0, none⟩ (.int .i64 r.gen.width)).setCell ⟨w2.heap.size, 1, none⟩ (.slice r1 r.gen.words.length s1)).setCell ⟨w2.heap.size, 2, none⟩ (.int .i64 r.kill.width)).setCell ⟨w2.heap.size, 3, none⟩ (.slice r2 r.kill.words.length s2)).setCell ⟨w2.heap.size, 4, none⟩ (.slice r3 r.copies.length s3)) = V at *
        refine ((HQ.out No _ _ _ _ (fun _ x => x.elim) HRV.out).1 (HTB.out.ext hyV)).mono ?_
        rintro e6 w6 ⟨m1, n1, m2, n2, m3, n3, rfl, hq6, hx6⟩
        have hy6 := hyV.transNo hx6
        have hE6 := alloc_top (w := w6) (o := (.cells #[.int .i64 q.gen.width, .slice m1 q.gen.words.length n1, .int .i64 q.kill.width, .slice m2 q.kill.words.length n2, .slice m3 q.copies.length n3] 28)) rfl
        have hD6 := alloc_under (o := (.cells #[.int .i64 q.gen.width, .slice m1 q.gen.words.length n1, .int .i64 q.kill.width, .slice m2 q.kill.words.length n2, .slice m3 q.copies.length n3] 28)) (hx6.blk hDV no_no)
        have cD := cellOf hD6
        have hz6 := hx6.transNo ((Ext.refl No _).alloc (.cells #[.int .i64 q.gen.width, .slice m1 q.gen.words.length n1, .int .i64 q.kill.width, .slice m2 q.kill.words.length n2, .slice m3 q.copies.length n3] 28))
        go_wp2_with fail
        clear cD
        refine ((HQ.out No _ _ _ _ (fun _ x => x.elim) (HRV.out.extNo hz6)).2).mono ?_
        rintro e7 w7 ⟨b1, d1, b2, d2, b3, d3, rfl, hq7, hx7⟩
        have cE := cellOf (alloc_under (o := (.cells #[.int .i64 q.gen.width, .slice b1 q.gen.words.length d1, .int .i64 q.kill.width, .slice b2 q.kill.words.length d2, .slice b3 q.copies.length d3] 28)) (hx7.blk hE6 no_no))
        have cF := cellOf (alloc_top (w := w7) (o := (.cells #[.int .i64 q.gen.width, .slice b1 q.gen.words.length d1, .int .i64 q.kill.width, .slice b2 q.kill.words.length d2, .slice b3 q.copies.length d3] 28)) rfl)
        go_wp2_with fail
        clear cE cF
        refine (requals_any q q _ _ _ _ _ _ _ (hq6.out.extNo ((((Ext.refl No _).alloc (.cells #[.int .i64 q.gen.width, .slice m1 q.gen.words.length n1, .int .i64 q.kill.width, .slice m2 q.kill.words.length n2, .slice m3 q.copies.length n3] 28)).transNo hx7).alloc _)) (hq7.out.extNo ((Ext.refl No _).alloc _))).mono ?_
        rintro e8 w8 ⟨rfl, hx8⟩
        rw [eqT_all (by simp [sameB]) (by simp [sameB]) rfl]
        have hzF := ((hz6.transNo hx7).alloc (.cells #[.int .i64 q.gen.width, .slice b1 q.gen.words.length d1, .int .i64 q.kill.width, .slice b2 q.kill.words.length d2, .slice b3 q.copies.length d3] 28)).transNo hx8
        go_wp2_with fail
        go_roundw
        case rel => exact ⟨_, by omega, HKK.out, Lib.hid (htV.ext hzF), Lib.hid (hyV.transNo hzF), Lib.hid (hzF.blk hAV no_no)⟩
        case measure => simp [intOf]
      · have h4z : ¬ ((k : Int) = 4) := by omega
        have hyV := hxw5
        have hRV := hFr5
        have hDV := hD
        have hAV := hA2
        have htV := ht5
        clear hx5 hxw hx1 hx2 ht1 ht2 hFr hFr5 hD hA2 ht5 hxw5 hF hx hA ht
        obtain ⟨q, e0, hq⟩ := star_both (rawT t) hRV.gen.lt hRV.kill.lt
        have HQ := Lib.hid hq
        have HRV := Lib.hid hRV
        clear hq hRV
        have cD := cellOf hDV
        go_wp2_with fail
        clear cD
        refine ((HQ.out No _ _ _ _ (fun _ x => x.elim) HRV.out).1 (HTB.out.ext hyV)).mono ?_
        rintro e6 w6 ⟨m1, n1, m2, n2, m3, n3, rfl, hq6, hx6⟩
        have hy6 := hyV.transNo hx6
        have hE6 := alloc_top (w := w6) (o := (.cells #[.int .i64 q.gen.width, .slice m1 q.gen.words.length n1, .int .i64 q.kill.width, .slice m2 q.kill.words.length n2, .slice m3 q.copies.length n3] 28)) rfl
        have hD6 := alloc_under (o := (.cells #[.int .i64 q.gen.width, .slice m1 q.gen.words.length n1, .int .i64 q.kill.width, .slice m2 q.kill.words.length n2, .slice m3 q.copies.length n3] 28)) (hx6.blk hDV no_no)
        have cD := cellOf hD6
        have hz6 := hx6.transNo ((Ext.refl No _).alloc (.cells #[.int .i64 q.gen.width, .slice m1 q.gen.words.length n1, .int .i64 q.kill.width, .slice m2 q.kill.words.length n2, .slice m3 q.copies.length n3] 28))
        go_wp2_with fail
        clear cD
        refine ((HQ.out No _ _ _ _ (fun _ x => x.elim) (HRV.out.extNo hz6)).2).mono ?_
        rintro e7 w7 ⟨b1, d1, b2, d2, b3, d3, rfl, hq7, hx7⟩
        have cE := cellOf (alloc_under (o := (.cells #[.int .i64 q.gen.width, .slice b1 q.gen.words.length d1, .int .i64 q.kill.width, .slice b2 q.kill.words.length d2, .slice b3 q.copies.length d3] 28)) (hx7.blk hE6 no_no))
        have cF := cellOf (alloc_top (w := w7) (o := (.cells #[.int .i64 q.gen.width, .slice b1 q.gen.words.length d1, .int .i64 q.kill.width, .slice b2 q.kill.words.length d2, .slice b3 q.copies.length d3] 28)) rfl)
        go_wp2_with fail
        clear cE cF
        refine (requals_any q q _ _ _ _ _ _ _ (hq6.out.extNo ((((Ext.refl No _).alloc (.cells #[.int .i64 q.gen.width, .slice m1 q.gen.words.length n1, .int .i64 q.kill.width, .slice m2 q.kill.words.length n2, .slice m3 q.copies.length n3] 28)).transNo hx7).alloc _)) (hq7.out.extNo ((Ext.refl No _).alloc _))).mono ?_
        rintro e8 w8 ⟨rfl, hx8⟩
        rw [eqT_all (by simp [sameB]) (by simp [sameB]) rfl]
        have hzF := ((hz6.transNo hx7).alloc (.cells #[.int .i64 q.gen.width, .slice b1 q.gen.words.length d1, .int .i64 q.kill.width, .slice b2 q.kill.words.length d2, .slice b3 q.copies.length d3] 28)).transNo hx8
        go_wp2_with fail
        go_roundw
        case rel => exact ⟨_, by omega, HKK.out, Lib.hid (htV.ext hzF), Lib.hid (hyV.transNo hzF), Lib.hid (hzF.blk hAV no_no)⟩
        case measure => simp [intOf]; omega
    · have hge : ¬ ((k : Int) < 5) := by omega
      have cA := cellOf hA.out
      go_wp2_with fail
      clear cA
      refine (large_any f _ _ _ _ (H.out.extNo hx.out)).mono ?_
      rintro e1 w1 ⟨b, rfl, hx1⟩
      have hy1 := hx.out.transNo hx1
      have hA1 := Lib.hid (hx1.blk hA.out no_no)
      clear hx hA hx1 ht
      cases b with
      | true =>
        go_wp2_with fail
        refine (sane_any _).mono ?_
        rintro e2 w2 ⟨rfl, hx2⟩
        go_wp2_with fail
        go_ret
        exact ⟨rfl, hy1.transNo hx2⟩
      | false =>
        obtain ⟨q, e0, hq⟩ := star_both f H.out.gen.lt H.out.kill.lt
        have HQ := Lib.hid hq
        clear hq
        have cA := cellOf hA1.out
        go_wp2_with fail
        clear cA
        refine ((HQ.out No _ _ _ _ (fun _ x => x.elim) (H.out.extNo hy1)).1 (HTB.out.ext hy1)).mono ?_
        rintro e2 w2 ⟨a1, c1, a2, c2, a3, c3, rfl, hq1, hx2⟩
        have hy2 := hy1.transNo hx2
        have hA2 := Lib.hid (hx2.blk hA1.out no_no)
        have hD := Lib.hid (alloc_top (w := w2) (o := (.cells #[.int .i64 q.gen.width, .slice a1 q.gen.words.length c1, .int .i64 q.kill.width, .slice a2 q.kill.words.length c2, .slice a3 q.copies.length c3] 28)) rfl)
        have cA := cellOf (alloc_under (o := (.cells #[.int .i64 q.gen.width, .slice a1 q.gen.words.length c1, .int .i64 q.kill.width, .slice a2 q.kill.words.length c2, .slice a3 q.copies.length c3] 28)) hA2.out)
        clear hA1 hx2 hy1
        go_wp2_with fail
        clear cA
        refine ((HQ.out No _ _ _ _ (fun _ x => x.elim) (H.out.extNo (hy2.alloc (.cells #[.int .i64 q.gen.width, .slice a1 q.gen.words.length c1, .int .i64 q.kill.width, .slice a2 q.kill.words.length c2, .slice a3 q.copies.length c3] 28)))).2).mono ?_
        rintro e3 w3 ⟨b1, d1, b2, d2, b3, d3, rfl, hq2, hx3⟩
        have hy3 := (hy2.alloc (.cells #[.int .i64 q.gen.width, .slice a1 q.gen.words.length c1, .int .i64 q.kill.width, .slice a2 q.kill.words.length c2, .slice a3 q.copies.length c3] 28)).transNo hx3
        have hq3 := Lib.hid (hq1.out.extNo (((Ext.refl No _).alloc (.cells #[.int .i64 q.gen.width, .slice a1 q.gen.words.length c1, .int .i64 q.kill.width, .slice a2 q.kill.words.length c2, .slice a3 q.copies.length c3] 28)).transNo hx3))
        have cD := cellOf (alloc_under (o := (.cells #[.int .i64 q.gen.width, .slice b1 q.gen.words.length d1, .int .i64 q.kill.width, .slice b2 q.kill.words.length d2, .slice b3 q.copies.length d3] 28)) (hx3.blk hD.out no_no))
        have cE := cellOf (alloc_top (w := w3) (o := (.cells #[.int .i64 q.gen.width, .slice b1 q.gen.words.length d1, .int .i64 q.kill.width, .slice b2 q.kill.words.length d2, .slice b3 q.copies.length d3] 28)) rfl)
        clear hD hA2 hx3 hy2
        go_wp2_with fail
        clear cD cE
        refine (requals_any q q _ _ _ _ _ _ _ (hq3.out.extNo ((Ext.refl No _).alloc _)) (hq2.out.extNo ((Ext.refl No _).alloc _))).mono ?_
        rintro e4 w4 ⟨rfl, hx4⟩
        rw [eqT_all (by simp [sameB]) (by simp [sameB]) rfl]
        have hy4 := (hy3.alloc _).transNo hx4
        go_wp2_with fail
        refine (sane_any _).mono ?_
        rintro e5 w5 ⟨rfl, hx5⟩
        go_wp2_with fail
        go_ret
        exact ⟨rfl, hy4.transNo hx5⟩
end Go.Proofs.YtgakojgkkdmabaaDoor

/- The walk of TransferFollows. -/
import Derived.Test.YtgakojgkkdmabaaTr16
import Derived.Test.YtgakojgkkdmabaaTr17
namespace Go.Proofs.Ytgakojgkkdmabaa
open Go Go.RowKit

/-- what the law holds: a function, an argument, the value -/
structure FolM (w wr : World) (t : TrD) (s x F S X : Nat) (sg sk sc ss sx : Value) : Prop where
  ext : Ext No w wr
  boxF : wr.heap[F]? = some (.cells #[.int .i64 (t.w : Int), sg, .int .i64 (t.w : Int), sk, sc] 31 (0, 0))
  boxS : wr.heap[S]? = some (.cells #[.int .i64 (t.w : Int), ss] 28 (0, 0))
  boxX : wr.heap[X]? = some (.cells #[.int .i64 (t.w : Int), sx] 28 (0, 0))
  tr : TrAt No wr sg sk sc t
  sets : SetAt No wr ss t.w s
  setx : SetAt No wr sx t.w x
theorem FolM.stepNo {w wr w' : World} {t : TrD} {s x F S X : Nat} {sg sk sc ss sx : Value} (h : FolM w wr t s x F S X sg sk sc ss sx) (hx : Ext No wr w') : FolM w w' t s x F S X sg sk sc ss sx :=
  ⟨h.ext.transNo hx, hx.blk h.boxF no_no, hx.blk h.boxS no_no, hx.blk h.boxX no_no, h.tr.extNo hx, h.sets.extNo hx, h.setx.extNo hx⟩
theorem followsX_in {t : TrD} {a b : Nat} (ha : a < t.w) (hb : b < t.w) : followsX t a b = followsB t a b := by
  unfold followsX
  rw [show inB t.w a = true from decide_eq_true ⟨by omega, by omega⟩, show inB t.w b = true from decide_eq_true ⟨by omega, by omega⟩]; rfl

set_option maxRecDepth 100000 in
set_option maxHeartbeats 4000000 in
theorem transferFollows_any (tl : Value) (zs : List Int) (w : World) (ht : Ints No w .i64 tl zs) : Calls Try.prog 3 #[tl] w fun e w' => e = .returned (.bool true) ∧ Ext No w w' := by
  have HT := Lib.hid ht
  obtain ⟨at', ct', rfl⟩ := ht.slice
  clear ht
  go_enter Try.func3, Try.ntmps3
  go_wp2_with fail
  refine (new_any _ zs _ HT.out).mono ?_
  rintro e0 w0 ⟨rfl, ht0, hx0, hs0⟩
  have HT0 := Lib.hid ht0
  have HX0 := Lib.hid hx0
  clear ht0 hx0 hs0
  go_wp2_with fail
  refine (width_any _ _ HT0.out).mono ?_
  rintro e1 w1 ⟨W8, hw8, rfl, ht1, hx1⟩
  have HT1 := Lib.hid ht1
  have HX1 := Lib.hid (HX0.out.trans2 hx1 (fun i hi e => by cases e; exact absurd hi (Nat.lt_irrefl _)))
  clear HX0 HT0 ht1 hx1
  go_wp2_with fail
  have hlt1 := HT1.out.lt
  refine (gtr_any _ W8 _ (by omega) HT1.out).mono ?_
  rintro e2 w2 ⟨t, sg, sk, sc, hw, rfl, hT2, ht2, hx2⟩
  subst hw
  obtain ⟨ag, ng, cg, rfl⟩ := hT2.out.gen.shaped
  obtain ⟨ak, nk, ck, rfl⟩ := hT2.out.kill.shaped
  obtain ⟨ac, nc, cc, rfl⟩ := hT2.out.copies.shaped
  have HT2 := Lib.hid ht2
  have HX2 := Lib.hid (HX1.out.trans2 hx2 (fun i hi e => by cases e; exact absurd hi (Nat.lt_irrefl _)))
  clear HX1 HT1 ht2 hx2
  go_wp2_with fail
  refine (gset_any _ t.w _ (by omega) HT2.out).mono ?_
  rintro e3 w3 ⟨m, g, hm, rfl, hb, _, ht3, hx3⟩
  have HM := Lib.hid hm
  have hT3 := Lib.hid (hT2.out.ext hx3 (fun i _ e => by cases e; exact hlt1)).no
  have hS3 := Lib.hid (hb.out.setNo hT2.out.ok.w hm)
  have HX3 := Lib.hid (HX2.out.trans2 hx3 (fun i hi e => by cases e; exact absurd hi (Nat.lt_irrefl _)))
  clear HX2 HT2 hT2 hb hm ht3 hx3 hlt1
  go_wp2_with fail
  have hx4 : Ext No w3 ((w3.alloc (.cells #[.int .i64 (t.w : Int), .slice ag ng cg, .int .i64 (t.w : Int), .slice ak nk ck, .slice ac nc cc] 31)).alloc (.cells #[.int .i64 (t.w : Int), .slice (some ⟨g, 0, none⟩) (nw t.w) (nw t.w)] 28)) := ((Ext.refl _ _).alloc _).alloc _
  have hbF : ((w3.alloc (.cells #[.int .i64 (t.w : Int), .slice ag ng cg, .int .i64 (t.w : Int), .slice ak nk ck, .slice ac nc cc] 31)).alloc (.cells #[.int .i64 (t.w : Int), .slice (some ⟨g, 0, none⟩) (nw t.w) (nw t.w)] 28)).heap[w3.heap.size]? = some (.cells #[.int .i64 (t.w : Int), .slice ag ng cg, .int .i64 (t.w : Int), .slice ak nk ck, .slice ac nc cc] 31 (0, 0)) := alloc_under (alloc_top rfl)
  have hbS : ((w3.alloc (.cells #[.int .i64 (t.w : Int), .slice ag ng cg, .int .i64 (t.w : Int), .slice ak nk ck, .slice ac nc cc] 31)).alloc (.cells #[.int .i64 (t.w : Int), .slice (some ⟨g, 0, none⟩) (nw t.w) (nw t.w)] 28)).heap[w3.heap.size + 1]? = some (.cells #[.int .i64 (t.w : Int), .slice (some ⟨g, 0, none⟩) (nw t.w) (nw t.w)] 28 (0, 0)) := alloc_top (by simp)
  have hT4 := Lib.hid (hT3.out.extNo hx4)
  have hS4 := Lib.hid (hS3.out.extNo hx4)
  have HX4 := Lib.hid (HX3.out.transNo hx4)
  have HBF := Lib.hid hbF
  have HBS := Lib.hid hbS
  clear hx4 hbF hbS hT3 hS3 HX3
  generalize ((w3.alloc (.cells #[.int .i64 (t.w : Int), .slice ag ng cg, .int .i64 (t.w : Int), .slice ak nk ck, .slice ac nc cc] 31)).alloc (.cells #[.int .i64 (t.w : Int), .slice (some ⟨g, 0, none⟩) (nw t.w) (nw t.w)] 28)) = W4 at *
  generalize w3.heap.size = F at *
  refine (Apply_any (Lo W4.heap.size) t m _ _ _ _ _ (fun _ x => x) hT4.out hS4.out).mono ?_
  rintro e5 w5 ⟨ax, cx, rfl, hs5, hx5⟩
  have HM5 := Lib.hid (show FolM w (w5.alloc (.cells #[.int .i64 (t.w : Int), .slice ax (nw t.w) cx] 28)) t m (applyT t m) F (F + 1) w5.heap.size _ _ _ _ _ from
    ⟨(HX4.out.transNo hx5).alloc _, alloc_under (hx5.blk HBF.out no_no), alloc_under (hx5.blk HBS.out no_no), alloc_top rfl, hT4.out.extNo (hx5.alloc _), hS4.out.extNo (hx5.alloc _), hs5.out.no.extNo ((Ext.refl _ _).alloc _)⟩)
  clear hx5 hs5 HBF HBS HX4 hT4 hS4
  go_wp2_with fail
  generalize (w5.alloc (.cells #[.int .i64 (t.w : Int), .slice ax (nw t.w) cx] 28)) = W5 at *
  generalize w5.heap.size = X at *
  go_loopw [9] (fun b wr => ∃ (j : Nat), j ≤ t.w ∧ b = .int .i64 j ∧ Hid (FolM w wr t m (applyT t m) F (F + 1) X (.slice ag ng cg) (.slice ak nk ck) (.slice ac nc cc) (.slice (some ⟨g, 0, none⟩) (nw t.w) (nw t.w)) (.slice ax (nw t.w) cx))) (fun b _ => t.w - (intOf b).toNat)
  case atStart => exact ⟨0, Nat.zero_le _, rfl, HM5⟩
  case round =>
    clear HM5
    obtain ⟨j, hj, rfl, hm5⟩ := hrel
    rename World => wr
    by_cases hlt : j < t.w
    · have cF := cellOf hm5.out.boxF
      go_wp2_with fail
      refine (has_any t.w t.gen _ j _ hm5.out.tr.gen).mono ?_
      rintro e6 w6 ⟨rfl, hx6⟩
      have hm6 := Lib.hid (hm5.out.stepNo hx6)
      have HIN : Hid (hasZ t.w t.gen j = inK t m j 0) := Lib.hid rfl
      rw [HIN.out]
      clear cF hm5 hx6 HIN
      go_wp2_with fail
      obtain ⟨wo, rfl⟩ : ∃ wo : World, wo = wr := ⟨_, rfl⟩
      go_loopw [10, 11] (fun v a wr => ∃ (k : Nat), k ≤ t.w ∧ a = .int .i64 k ∧ v = .bool (inK t m j k) ∧ Hid (FolM w wr t m (applyT t m) F (F + 1) X (.slice ag ng cg) (.slice ak nk ck) (.slice ac nc cc) (.slice (some ⟨g, 0, none⟩) (nw t.w) (nw t.w)) (.slice ax (nw t.w) cx))) (fun _ a _ => t.w - (intOf a).toNat)
      case atStart => exact ⟨0, Nat.zero_le _, rfl, rfl, hm6⟩
      case round =>
        clear hm6
        obtain ⟨k, hk, rfl, rfl, hm6⟩ := hrel
        rename World => wi
        by_cases hlk : k < t.w
        · have HK : Hid (inK t m j (k + 1) = (inK t m j k || (hasZ t.w m k && followsB t k j))) := Lib.hid rfl
          have HF := Lib.hid (followsX_in hlk hlt)
          have HKK : Hid (Value.int .i64 ((k : Int) + 1) = .int .i64 ((k + 1 : Nat) : Int)) := Lib.hid (by rw [show ((k + 1 : Nat) : Int) = (k : Int) + 1 from by omega])
          have hm6c := hm6.out
          cases hin : inK t m j k with
          | true =>
            rw [hin] at HK
            clear HF
            have HK2 : Hid (inK t m j (k + 1) = true) := Lib.hid (by rw [HK.out]; rfl)
            clear HK hin hm6c
            go_wp2_with fail
            go_roundw
            case rel => exact ⟨k + 1, by omega, HKK.out, by rw [HK2.out], hm6⟩
            case measure => simp [intOf]; omega
          | false =>
            rw [hin] at HK
            have cS := cellOf hm6c.boxS
            cases hh : hasZ t.w m k with
            | false =>
              rw [hh] at HK
              clear HF
              have HK2 : Hid (inK t m j (k + 1) = false) := Lib.hid (by rw [HK.out]; rfl)
              have HH := Lib.hid hh
              clear HK hin hm6c hh
              go_wp2_with fail
              refine (has_any t.w m _ k _ hm6.out.sets).mono ?_
              rintro e7 w7 ⟨rfl, hx7⟩
              have hm7 := Lib.hid (hm6.out.stepNo hx7)
              rw [HH.out]
              clear hx7 hm6 cS
              go_wp2_with fail
              go_roundw
              case rel => exact ⟨k + 1, by omega, HKK.out, by rw [HK2.out], hm7⟩
              case measure => simp [intOf]; omega
            | true =>
              rw [hh] at HK
              have HK2 : Hid (inK t m j (k + 1) = followsB t k j) := Lib.hid (by rw [HK.out]; simp)
              have HH := Lib.hid hh
              clear HK hin hm6c hh
              go_wp2_with fail
              refine (has_any t.w m _ k _ hm6.out.sets).mono ?_
              rintro e7 w7 ⟨rfl, hx7⟩
              have hm7 := Lib.hid (hm6.out.stepNo hx7)
              rw [HH.out]
              clear hx7 hm6 cS
              have cF := cellOf hm7.out.boxF
              go_wp2_with fail
              refine (Follows_any t _ _ _ k j _ hm7.out.tr).mono ?_
              rintro e8 w8 ⟨rfl, hx8⟩
              have hm8 := Lib.hid (hm7.out.stepNo hx8)
              rw [HF.out]
              clear hx8 hm7 cF
              go_wp2_with fail
              all_goals
                go_roundw
                case rel => exact ⟨k + 1, by omega, HKK.out, by rw [HK2.out], hm8⟩
                case measure => simp [intOf]; omega
        · have hke : k = t.w := by omega
          subst hke
          have hlaw := Lib.hid (apply_law (s := m) hm6.out.tr.ok hlt)
          have cX := cellOf hm6.out.boxX
          go_wp2_with fail
          refine (has_any t.w (applyT t m) _ j _ hm6.out.setx).mono ?_
          rintro e7 w7 ⟨rfl, hx7⟩
          have hm7 := Lib.hid (hm6.out.stepNo hx7)
          rw [hlaw.out]
          have HKK : Hid (Value.int .i64 ((j : Int) + 1) = .int .i64 ((j + 1 : Nat) : Int)) := Lib.hid (by rw [show ((j + 1 : Nat) : Int) = (j : Int) + 1 from by omega])
          clear hx7 hm6 cX
          go_wp2_with fail
          go_roundw
          case rel => exact ⟨j + 1, by omega, HKK.out, hm7⟩
          case measure => simp [intOf]; omega
    · go_wp2_with fail
      refine (sane_any _).mono ?_
      rintro e6 w6 ⟨rfl, hx6⟩
      have hxf := hm5.out.ext.transNo hx6
      clear hx6 hm5
      go_wp2_with fail
      go_ret
      exact ⟨rfl, hxf⟩
end Go.Proofs.Ytgakojgkkdmabaa

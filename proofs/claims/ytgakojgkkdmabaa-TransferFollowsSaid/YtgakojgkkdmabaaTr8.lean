/- transfer: apply, Apply. -/
import Derived.Test.YtgakojgkkdmabaaTr7
namespace Go.Proofs.Ytgakojgkkdmabaa
open Go Go.RowKit

/-- the value so far: the first k copies followed -/
def applyN (t : TrD) (s : Nat) : Nat → Nat
  | 0 => orN (diffN s t.kill) t.gen
  | k + 1 => match t.copies[k]? with
    | none => applyN t s k
    | some c => if hasZ t.w s c.1 then applyN t s k ||| 2 ^ c.2.toNat else applyN t s k
def applyT (t : TrD) (s : Nat) : Nat := applyN t s t.copies.length
theorem applyN_lt {t : TrD} {s : Nat} (ho : TrOk t) (hs : s < 2 ^ t.w) : ∀ k, applyN t s k < 2 ^ t.w := by
  intro k
  induction k with
  | zero => exact orN_lt' (diffN_lt hs) ho.gen
  | succ k ih =>
    unfold applyN
    cases e : t.copies[k]? with
    | none => exact ih
    | some c =>
      simp only
      split
      · obtain ⟨hk, rfl⟩ := List.getElem?_eq_some_iff.1 e
        obtain ⟨b, hb, hb2⟩ := inB_true (ho.inr k hk).2
        refine orN_lt ih ?_
        rw [hb]
        exact bitN_lt (by omega)
      · exact ih
theorem applyN_succ {t : TrD} {s k : Nat} (hk : k < t.copies.length) : applyN t s (k + 1) = if hasZ t.w s t.copies[k].1 then applyN t s k ||| 2 ^ t.copies[k].2.toNat else applyN t s k := by
  rw [applyN, List.getElem?_eq_getElem hk]

/-- what apply holds: its two arguments, the set so far -/
structure ApMem (M : Nat → Prop) (W wr : World) (t : TrD) (s m D : Nat) (sg sk sc ss so : Value) : Prop where
  ext : Ext No W wr
  boxT : wr.heap[W.heap.size]? = some (.cells #[.int .i64 (t.w : Int), sg, .int .i64 (t.w : Int), sk, sc] 31 (0, 0))
  boxS : wr.heap[W.heap.size + 1]? = some (.cells #[.int .i64 (t.w : Int), ss] 28 (0, 0))
  boxC : wr.heap[W.heap.size + 2]? = some (.cells #[.int .i64 0, .slice none 0 0] 28 (0, 0))
  boxD : wr.heap[D]? = some (.cells #[.int .i64 (t.w : Int), so] 28 (0, 0))
  set : SetAt (fun b => M b ∨ b = W.heap.size + 2 ∨ b = D) wr so t.w m
  big : W.heap.size + 2 < D
section
variable {M : Nat → Prop} {W wr w' : World} {t : TrD} {s m m' D : Nat} {sg sk sc ss so so' : Value}
theorem ApMem.stepNo (h : ApMem M W wr t s m D sg sk sc ss so) (hx : Ext No wr w') : ApMem M W w' t s m D sg sk sc ss so :=
  ⟨h.ext.transNo hx, hx.blk h.boxT no_no, hx.blk h.boxS no_no, hx.blk h.boxC no_no, hx.blk h.boxD no_no, h.set.extNo hx, h.big⟩
theorem ApMem.put (h : ApMem M W wr t s m D sg sk sc ss so) (hs : SetAt (fun b => M b ∨ b = W.heap.size + 2 ∨ b = D) wr so' t.w m') : ApMem M W ((wr.setCell ⟨D, 0, none⟩ (.int .i64 (t.w : Int))).setCell ⟨D, 1, none⟩ so') t s m' D sg sk sc ss so' := by
  have h1 := h.big
  have hx := ext_two (u0 := .int .i64 (t.w : Int)) (u1 := so') h.ext D
  exact ⟨ext2 h.ext (by omega), hx.blk h.boxT (by unfold At; omega), hx.blk h.boxS (by unfold At; omega), hx.blk h.boxC (by unfold At; omega), (set_same (j := 1) (set_same (j := 0) h.boxD)).trans rfl, hs.ext hx (fun i _ e => .inr (.inr e)), h1⟩
theorem ApMem.hM (hM : ∀ b, M b → b < W.heap.size) (h : ApMem M W wr t s m D sg sk sc ss so) : ∀ b, (M b ∨ b = W.heap.size + 2 ∨ b = D) → b < wr.heap.size := fun b hb => by
  have h1 := lt_of_block h.boxD
  have h2 := h.big
  rcases hb with hb | rfl | rfl
  · have := hM b hb; omega
  · omega
  · exact h1
end

set_option maxRecDepth 100000 in
set_option maxHeartbeats 2000000 in
theorem apply_any (M : Nat → Prop) (t : TrD) (s : Nat) (sg sk sc ss : Value) (W : World) (hM : ∀ b, M b → b < W.heap.size) (h : TrAt No W sg sk sc t) (hs : SetAt No W ss t.w s) :
    Calls Try.prog 17 #[.agg #[.int .i64 (t.w : Int), sg, .int .i64 (t.w : Int), sk, sc], .agg #[.int .i64 (t.w : Int), ss]] W (SetPost M t.w (applyT t s) W) := by
  have H := Lib.hid h
  have HS := Lib.hid hs
  have HM := Lib.hid hM
  have HO := Lib.hid h.ok
  obtain ⟨ag, ng, cg, rfl⟩ := h.gen.shaped
  obtain ⟨ak, nk, ck, rfl⟩ := h.kill.shaped
  obtain ⟨ac, cc, rfl⟩ := Row.slice h.copies
  obtain ⟨as0, ns, cs, rfl⟩ := hs.shaped
  have hlen := h.ok.len
  clear h hs hM
  go_enter Try.func17, Try.ntmps17
  go_wp2_with fail
  have hx0 : Ext No W (((W.alloc (.cells #[.int .i64 (t.w : Int), .slice ag ng cg, .int .i64 (t.w : Int), .slice ak nk ck, .slice ac t.copies.length cc] 31)).alloc (.cells #[.int .i64 (t.w : Int), .slice as0 ns cs] 28)).alloc (.cells #[.int .i64 0, .slice none 0 0] 28)) := (((Ext.refl _ _).alloc _).alloc _).alloc _
  refine (diff_any (fun b => M b ∨ b = W.heap.size + 2) t.w s t.kill _ _ _ (fun b hb => ?_) (HS.out.extNo hx0) (H.out.kill.extNo hx0)).mono ?_
  · simp
    rcases hb with hb | hb
    · have := HM.out b hb; omega
    · omega
  rintro e1 w1 ⟨a1, c1, rfl, hs1, hx1⟩
  have hA := hx1.blk (alloc_under (alloc_under (alloc_top (w := W) rfl))) no_no
  have hB := hx1.blk (n := W.heap.size + 1) (alloc_under (alloc_top (by simp))) no_no
  have hC := hx1.blk (n := W.heap.size + 2) (alloc_top (by simp)) no_no
  have hszC := lt_of_block hC
  have hxa := hx0.transNo hx1
  have hxd : Ext No w1 (w1.alloc (.cells #[.int .i64 (t.w : Int), .slice a1 (nw t.w) c1] 28)) := (Ext.refl _ _).alloc _
  have hm1 := Lib.hid (show ApMem M W (w1.alloc (.cells #[.int .i64 (t.w : Int), .slice a1 (nw t.w) c1] 28)) t s (diffN s t.kill) w1.heap.size (.slice ag ng cg) (.slice ak nk ck) (.slice ac t.copies.length cc) (.slice as0 ns cs) (.slice a1 (nw t.w) c1) from
    ⟨hxa.transNo hxd, hxd.blk hA no_no, hxd.blk hB no_no, hxd.blk hC no_no, alloc_top rfl, ⟨⟨Row.newAt hs1.out.words.row hxd _ (fun i hi e => by
      rcases e with e | e | e
      · exact .inl e
      · exact .inr e
      · exact absurd hi (by omega)), hs1.out.words.lt⟩, hs1.out.hw, hs1.out.hm⟩, hszC⟩)
  have cA := cellOf (hxd.blk hA no_no)
  have cD := cellOf hm1.out.boxD
  clear hx0 hx1 hs1 hA hB hC hxa hxd
  go_wp2_with fail
  generalize (w1.alloc (.cells #[.int .i64 (t.w : Int), .slice a1 (nw t.w) c1] 28)) = W1 at *
  generalize w1.heap.size = D at *
  refine (union_any (fun b => M b ∨ b = W.heap.size + 2 ∨ b = D) t.w (diffN s t.kill) t.gen _ _ _ (hm1.out.hM HM.out) hm1.out.set.no (H.out.gen.extNo hm1.out.ext)).mono ?_
  rintro e2 w2 ⟨a2, c2, rfl, hs2, hx2⟩
  have hm2 := Lib.hid (hm1.out.stepNo hx2)
  clear hx2 hm1 cA cD
  have cD := cellOf hm2.out.boxD
  have fD := freeOf hm2.out.boxD
  have cA := cellOf hm2.out.boxT
  have hm3 := Lib.hid (hm2.out.put hs2.out)
  have hszC2 : W.heap.size ≠ D := by have := hm2.out.big; omega
  go_wp2_with fail
  clear hm2 cA cD fD hs2 hszC2
  generalize ((w2.setCell ⟨D, 0, none⟩ (.int .i64 (t.w : Int))).setCell ⟨D, 1, none⟩ (.slice a2 (nw t.w) c2)) = W2 at *
  go_loopw [26] (fun i wr => ∃ (k : Nat) (a' : Option Addr) (c' : Nat), k ≤ t.copies.length ∧ i = .int .i64 k ∧ Hid (ApMem M W wr t s (applyN t s k) D (.slice ag ng cg) (.slice ak nk ck) (.slice ac t.copies.length cc) (.slice as0 ns cs) (.slice a' (nw t.w) c'))) (fun i _ => t.copies.length - (intOf i).toNat)
  case atStart => exact ⟨0, _, _, Nat.zero_le _, rfl, hm3⟩
  case round =>
    clear hm3
    obtain ⟨k, a', c', hk, rfl, hm⟩ := hrel
    by_cases hlt : k < t.copies.length
    · obtain ⟨b, off, cap', hsl, hb1, _, hcell⟩ := H.out.copies.at hlt
      simp only [Value.slice.injEq] at hsl
      obtain ⟨rfl, _, rfl⟩ := hsl
      obtain ⟨q0, q1⟩ := hcell k hlt
      replace q0 := hm.out.ext.keep q0
      replace q1 := hm.out.ext.keep q1
      clear hcell
      have hpos : (0 : Int) ≤ (k : Int) := by omega
      obtain ⟨i1, i2⟩ := HO.out.inr k hlt
      obtain ⟨f, hf, hf2⟩ := inB_true i1
      obtain ⟨g, hg, hg2⟩ := inB_true i2
      have HAP := Lib.hid (applyN_succ (t := t) (s := s) hlt)
      have HKK : Hid (Value.int .i64 ((k : Int) + 1) = .int .i64 ((k + 1 : Nat) : Int)) := Lib.hid (by rw [show ((k + 1 : Nat) : Int) = (k : Int) + 1 from by omega])
      rw [hf, hg, Int.toNat_natCast] at HAP
      rw [hf] at q0
      rw [hg] at q1
      have hgw : g < t.w := by omega
      clear hf hg i1 i2 hf2 hg2
      rename World => wr
      have hx4 := (Ext.refl No wr).alloc (.cells #[.int .i64 (f : Int), .int .i64 (g : Int)] 46)
      have hE : (wr.alloc (.cells #[.int .i64 (f : Int), .int .i64 (g : Int)] 46)).heap[wr.heap.size]? = some (.cells #[.int .i64 (f : Int), .int .i64 (g : Int)] 46 (0, 0)) := alloc_top rfl
      have hm4 := Lib.hid (hm.out.stepNo hx4)
      have cS := cellOf hm4.out.boxS
      have hDE : D < wr.heap.size := lt_of_block hm.out.boxD
      go_wp2_with fail
      clear cS q0 q1
      generalize wr.alloc (.cells #[.int .i64 (f : Int), .int .i64 (g : Int)] 46) = w4 at *
      generalize wr.heap.size = E at *
      clear hx4 hm
      refine (has_any t.w s _ f _ (HS.out.extNo hm4.out.ext)).mono ?_
      rintro e5 w5 ⟨rfl, hx5⟩
      have hm5 := Lib.hid (hm4.out.stepNo hx5)
      have hE5 := hx5.blk hE no_no
      clear hm4 hx5 hE
      cases hh : hasZ t.w s f with
      | false =>
        rw [hh] at HAP
        go_wp2_with fail
        go_roundw
        case rel => exact ⟨k + 1, _, _, by omega, HKK.out, Lib.hid (by rw [HAP.out]; exact hm5.out)⟩
        case measure => simp [intOf]; omega
      | true =>
        rw [hh] at HAP
        have cD := cellOf hm5.out.boxD
        have cE := cellOf hE5
        go_wp2_with fail
        refine (with_any (fun b => M b ∨ b = W.heap.size + 2 ∨ b = D) t.w (applyN t s k) g _ _ (hm5.out.hM HM.out) hgw hm5.out.set.no).mono ?_
        rintro e6 w6 ⟨a6, c6, rfl, hs6, hx6⟩
        have hm6 := Lib.hid (hm5.out.stepNo hx6)
        clear hm5 hx6 cD cE hE5
        have cD := cellOf hm6.out.boxD
        have fD := freeOf hm6.out.boxD
        have hm7 := Lib.hid (hm6.out.put hs6.out)
        go_wp2_with fail
        go_roundw
        case rel => exact ⟨k + 1, _, _, by omega, HKK.out, Lib.hid (by rw [HAP.out]; exact hm7.out)⟩
        case measure => simp [intOf]; omega
    · obtain rfl : k = t.copies.length := by omega
      have cC := cellOf hm.out.boxC
      have fC := freeOf hm.out.boxC
      have cD := cellOf hm.out.boxD
      have hbig := hm.out.big
      go_wp2_with fail
      refine ret_ex rfl ?_
      simp [results, Try.results17, go_sem, cC]
      exact ⟨_, _, rfl, Lib.hid ((hm.out.set.ext (ext_two hm.out.ext (W.heap.size + 2)) (fun i _ e => .inr (.inl e))).mono (fun i _ e => .inl e)), ext2 hm.out.ext (by omega)⟩
end Go.Proofs.Ytgakojgkkdmabaa

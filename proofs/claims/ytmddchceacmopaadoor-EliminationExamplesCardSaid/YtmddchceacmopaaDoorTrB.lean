
import Derived.Test.YtmddchceacmopaaDoorTr6
import Derived.Laws.CopyOwn
set_option linter.unusedVariables false
set_option linter.unusedSimpArgs false
namespace Go.Proofs.YtmddchceacmopaaDoor
open Go Go.RowKit
def rawT (t : TrD) : RawT := ⟨setN t.w t.gen, setN t.w t.kill, t.copies⟩
theorem validT_ok {t : TrD} (h : TrOk t) : validT (rawT t) = true := by
 have hh : headT (rawT t) = true := by
  unfold headT
  rw [show validB (rawT t).gen = true from validB_set h.w h.gen, show validB (rawT t).kill = true from validB_set h.w h.kill, decide_eq_true (show (rawT t).gen.width = (rawT t).kill.width from rfl), decide_eq_true (show (rawT t).copies.length ≤ 64 from h.len)]; rfl
 refine validT_all hh (fun i hi => ?_)
 obtain ⟨h1, h2⟩ := h.inr i hi
 unfold copyOk
 have e1 : inB (rawT t).gen.width (rawT t).copies[i].1 = true := h1
 have e2 : inB (rawT t).gen.width (rawT t).copies[i].2 = true := h2
 rw [e1, e2]
 cases i with
 | zero => rfl
 | succ i =>
  have := h.sorted i hi
  have e3 : compareZ ((rawT t).copies[i + 1 - 1]'(by have : (rawT t).copies.length = t.copies.length := rfl; omega)) (rawT t).copies[i + 1] < 0 := this
  rw [decide_eq_true e3]; simp
theorem TrAt.raw {M : Nat → Prop} {W : World} {sg sk sc : Value} {t : TrD} (h : TrAt M W sg sk sc t) : RawTAt M W sg sk sc (rawT t) := ⟨h.gen.words, h.kill.words, h.copies⟩
theorem RawTAt.tr {M : Nat → Prop} {W : World} {sg sk sc : Value} {t : TrD} (h : RawTAt M W sg sk sc (rawT t)) (ho : TrOk t) : TrAt M W sg sk sc t := ⟨⟨h.gen, ho.w, ho.gen⟩, ⟨h.kill, ho.w, ho.kill⟩, h.copies, ho⟩
theorem validTr_any (t : TrD) (sg sk sc : Value) (W : World) (h : TrAt No W sg sk sc t) : Calls Tryd.prog 61 #[.agg #[.int .i64 (t.w : Int), sg, .int .i64 (t.w : Int), sk, sc]] W (BoolPost true W) :=
 (validT_any (rawT t) sg sk sc W h.raw).mono fun _ _ hh => by rw [validT_ok h.ok] at hh; exact hh
end Go.Proofs.YtmddchceacmopaaDoor
namespace Go.Proofs.YtmddchceacmopaaDoor
open Go Go.RowKit
def applyN (t : TrD) (s : Nat) : Nat → Nat
 | 0 => orN (diffN s t.kill) t.gen
 | k + 1 => match t.copies[k]? with
  | none => applyN t s k
  | some c => if hasZ t.w s c.1 then applyN t s k ||| 2 ^ c.2.toNat else applyN t s k
def applyT (t : TrD) (s : Nat) : Nat := applyN t s t.copies.length
theorem applyN_lt {t : TrD} {s : Nat} (ho : TrOk t) (hs : s < 2 ^ t.w) : ∀ k, applyN t s k < 2 ^ t.w := by
 intro k
 induction k with
 | zero => exact orN_lt' (diffN_lt hs) ho.gen
 | succ k ih =>
  unfold applyN
  cases e : t.copies[k]? with
  | none => exact ih
  | some c =>
   simp only
   split
   ·obtain ⟨hk, rfl⟩ := List.getElem?_eq_some_iff.1 e
    obtain ⟨b, hb, hb2⟩ := inB_true (ho.inr k hk).2
    refine orN_lt ih ?_
    rw [hb]
    exact bitN_lt (by omega)
   exact ih
theorem applyN_succ {t : TrD} {s k : Nat} (hk : k < t.copies.length) : applyN t s (k + 1) = if hasZ t.w s t.copies[k].1 then applyN t s k ||| 2 ^ t.copies[k].2.toNat else applyN t s k := by
 rw [applyN, List.getElem?_eq_getElem hk]
structure ApMem (M : Nat → Prop) (W wr : World) (t : TrD) (s m D : Nat) (sg sk sc ss so : Value) : Prop where
 ext : Ext No W wr
 boxT : wr.heap[W.heap.size]? = some (.cells #[.int .i64 (t.w : Int), sg, .int .i64 (t.w : Int), sk, sc] 30 (0, 0))
 boxS : wr.heap[W.heap.size + 1]? = some (.cells #[.int .i64 (t.w : Int), ss] 24 (0, 0))
 boxC : wr.heap[W.heap.size + 2]? = some (.cells #[.int .i64 0, .slice none 0 0] 24 (0, 0))
 boxD : wr.heap[D]? = some (.cells #[.int .i64 (t.w : Int), so] 24 (0, 0))
 set : SetAt (fun b => M b ∨ b = W.heap.size + 2 ∨ b = D) wr so t.w m
 big : W.heap.size + 2 < D
section
variable {M : Nat → Prop} {W wr w' : World} {t : TrD} {s m m' D : Nat} {sg sk sc ss so so' : Value}
theorem ApMem.stepNo (h : ApMem M W wr t s m D sg sk sc ss so) (hx : Ext No wr w') : ApMem M W w' t s m D sg sk sc ss so :=
 ⟨h.ext.transNo hx, hx.blk h.boxT no_no, hx.blk h.boxS no_no, hx.blk h.boxC no_no, hx.blk h.boxD no_no, h.set.extNo hx, h.big⟩
theorem ApMem.put (h : ApMem M W wr t s m D sg sk sc ss so) (hs : SetAt (fun b => M b ∨ b = W.heap.size + 2 ∨ b = D) wr so' t.w m') : ApMem M W ((wr.setCell ⟨D, 0, none⟩ (.int .i64 (t.w : Int))).setCell ⟨D, 1, none⟩ so') t s m' D sg sk sc ss so' := by
 have h1 := h.big
 have hx := ext_two (u0 := .int .i64 (t.w : Int)) (u1 := so') h.ext D
 exact ⟨ext2 h.ext (by omega), hx.blk h.boxT (by unfold At; omega), hx.blk h.boxS (by unfold At; omega), hx.blk h.boxC (by unfold At; omega), (set_same (j := 1) (set_same (j := 0) h.boxD)).trans rfl, hs.ext hx (fun i _ e => .inr (.inr e)), h1⟩
theorem ApMem.hM (hM : ∀ b, M b → b < W.heap.size) (h : ApMem M W wr t s m D sg sk sc ss so) : ∀ b, (M b ∨ b = W.heap.size + 2 ∨ b = D) → b < wr.heap.size := fun b hb => by
 have h1 := lt_of_block h.boxD
 have h2 := h.big
 rcases hb with hb | rfl | rfl
 ·have := hM b hb; omega
 ·omega
 exact h1
end
set_option maxRecDepth 100000 in
set_option maxHeartbeats 2000000 in
theorem apply_any (M : Nat → Prop) (t : TrD) (s : Nat) (sg sk sc ss : Value) (W : World) (hM : ∀ b, M b → b < W.heap.size) (h : TrAt No W sg sk sc t) (hs : SetAt No W ss t.w s) :
  Calls Tryd.prog 63 #[.agg #[.int .i64 (t.w : Int), sg, .int .i64 (t.w : Int), sk, sc], .agg #[.int .i64 (t.w : Int), ss]] W (SetPost M t.w (applyT t s) W) := by
 have H := Lib.hid h
 have HS := Lib.hid hs
 have HM := Lib.hid hM
 have HO := Lib.hid h.ok
 obtain ⟨ag, ng, cg, rfl⟩ := h.gen.shaped
 obtain ⟨ak, nk, ck, rfl⟩ := h.kill.shaped
 obtain ⟨ac, cc, rfl⟩ := Row.slice h.copies
 obtain ⟨as0, ns, cs, rfl⟩ := hs.shaped
 have hlen := h.ok.len
 clear h hs hM
 go_enter Tryd.func63, Tryd.ntmps63
 go_wp2_with fail
 have hx0 : Ext No W (((W.alloc (.cells #[.int .i64 (t.w : Int), .slice ag ng cg, .int .i64 (t.w : Int), .slice ak nk ck, .slice ac t.copies.length cc] 30)).alloc (.cells #[.int .i64 (t.w : Int), .slice as0 ns cs] 24)).alloc (.cells #[.int .i64 0, .slice none 0 0] 24)) := (((Ext.refl _ _).alloc _).alloc _).alloc _
 refine (diff_any (fun b => M b ∨ b = W.heap.size + 2) t.w s t.kill _ _ _ (fun b hb => ?_) (HS.out.extNo hx0) (H.out.kill.extNo hx0)).mono ?_
 ·simp
  rcases hb with hb | hb
  ·have := HM.out b hb; omega
  omega
 rintro e1 w1 ⟨a1, c1, rfl, hs1, hx1⟩
 have hA := hx1.blk (alloc_under (alloc_under (alloc_top (w := W) rfl))) no_no
 have hB := hx1.blk (n := W.heap.size + 1) (alloc_under (alloc_top (by simp))) no_no
 have hC := hx1.blk (n := W.heap.size + 2) (alloc_top (by simp)) no_no
 have hszC := lt_of_block hC
 have hxa := hx0.transNo hx1
 have hxd : Ext No w1 (w1.alloc (.cells #[.int .i64 (t.w : Int), .slice a1 (nw t.w) c1] 24)) := (Ext.refl _ _).alloc _
 have hm1 := Lib.hid (show ApMem M W (w1.alloc (.cells #[.int .i64 (t.w : Int), .slice a1 (nw t.w) c1] 24)) t s (diffN s t.kill) w1.heap.size (.slice ag ng cg) (.slice ak nk ck) (.slice ac t.copies.length cc) (.slice as0 ns cs) (.slice a1 (nw t.w) c1) from
  ⟨hxa.transNo hxd, hxd.blk hA no_no, hxd.blk hB no_no, hxd.blk hC no_no, alloc_top rfl, ⟨⟨Row.newAt hs1.out.words.row hxd _ (fun i hi e => by
   rcases e with e | e | e
   ·exact .inl e
   ·exact .inr e
   exact absurd hi (by omega)), hs1.out.words.lt⟩, hs1.out.hw, hs1.out.hm⟩, hszC⟩)
 have cA := cellOf (hxd.blk hA no_no)
 have cD := cellOf hm1.out.boxD
 clear hx0 hx1 hs1 hA hB hC hxa hxd
 go_wp2_with fail
 generalize (w1.alloc (.cells #[.int .i64 (t.w : Int), .slice a1 (nw t.w) c1] 24)) = W1 at *
 generalize w1.heap.size = D at *
 refine (union_any (fun b => M b ∨ b = W.heap.size + 2 ∨ b = D) t.w (diffN s t.kill) t.gen _ _ _ (hm1.out.hM HM.out) hm1.out.set.no (H.out.gen.extNo hm1.out.ext)).mono ?_
 rintro e2 w2 ⟨a2, c2, rfl, hs2, hx2⟩
 have hm2 := Lib.hid (hm1.out.stepNo hx2)
 clear hx2 hm1 cA cD
 have cD := cellOf hm2.out.boxD
 have fD := freeOf hm2.out.boxD
 have cA := cellOf hm2.out.boxT
 have hm3 := Lib.hid (hm2.out.put hs2.out)
 have hszC2 : W.heap.size ≠ D := by have := hm2.out.big; omega
 go_wp2_with fail
 clear hm2 cA cD fD hs2 hszC2
 generalize ((w2.setCell ⟨D, 0, none⟩ (.int .i64 (t.w : Int))).setCell ⟨D, 1, none⟩ (.slice a2 (nw t.w) c2)) = W2 at *
 go_loopw [26] (fun i wr => ∃ (k : Nat) (a' : Option Addr) (c' : Nat), k ≤ t.copies.length ∧ i = .int .i64 k ∧ Hid (ApMem M W wr t s (applyN t s k) D (.slice ag ng cg) (.slice ak nk ck) (.slice ac t.copies.length cc) (.slice as0 ns cs) (.slice a' (nw t.w) c'))) (fun i _ => t.copies.length - (intOf i).toNat)
 case atStart => exact ⟨0, _, _, Nat.zero_le _, rfl, hm3⟩
 clear hm3
 obtain ⟨k, a', c', hk, rfl, hm⟩ := hrel
 by_cases hlt : k < t.copies.length
 ·obtain ⟨b, off, cap', hsl, hb1, _, hcell⟩ := H.out.copies.at hlt
  simp only [Value.slice.injEq] at hsl
  obtain ⟨rfl, _, rfl⟩ := hsl
  obtain ⟨q0, q1⟩ := hcell k hlt
  replace q0 := hm.out.ext.keep q0
  replace q1 := hm.out.ext.keep q1
  clear hcell
  have hpos : (0 : Int) ≤ (k : Int) := by omega
  obtain ⟨i1, i2⟩ := HO.out.inr k hlt
  obtain ⟨f, hf, hf2⟩ := inB_true i1
  obtain ⟨g, hg, hg2⟩ := inB_true i2
  have HAP := Lib.hid (applyN_succ (t := t) (s := s) hlt)
  have HKK : Hid (Value.int .i64 ((k : Int) + 1) = .int .i64 ((k + 1 : Nat) : Int)) := Lib.hid (by rw [show ((k + 1 : Nat) : Int) = (k : Int) + 1 from by omega])
  rw [hf, hg, Int.toNat_natCast] at HAP
  rw [hf] at q0
  rw [hg] at q1
  have hgw : g < t.w := by omega
  clear hf hg i1 i2 hf2 hg2
  rename World => wr
  have hx4 := (Ext.refl No wr).alloc (.cells #[.int .i64 (f : Int), .int .i64 (g : Int)] 27)
  have hE : (wr.alloc (.cells #[.int .i64 (f : Int), .int .i64 (g : Int)] 27)).heap[wr.heap.size]? = some (.cells #[.int .i64 (f : Int), .int .i64 (g : Int)] 27 (0, 0)) := alloc_top rfl
  have hm4 := Lib.hid (hm.out.stepNo hx4)
  have cS := cellOf hm4.out.boxS
  have hDE : D < wr.heap.size := lt_of_block hm.out.boxD
  go_wp2_with fail
  clear cS q0 q1
  generalize wr.alloc (.cells #[.int .i64 (f : Int), .int .i64 (g : Int)] 27) = w4 at *
  generalize wr.heap.size = E at *
  clear hx4 hm
  refine (has_any t.w s _ f _ (HS.out.extNo hm4.out.ext)).mono ?_
  rintro e5 w5 ⟨rfl, hx5⟩
  have hm5 := Lib.hid (hm4.out.stepNo hx5)
  have hE5 := hx5.blk hE no_no
  clear hm4 hx5 hE
  cases hh : hasZ t.w s f with
  | false =>
   rw [hh] at HAP
   go_wp2_with fail
   go_roundw
   case rel => exact ⟨k + 1, _, _, by omega, HKK.out, Lib.hid (by rw [HAP.out]; exact hm5.out)⟩
   case measure => simp [intOf]; omega
  | true =>
   rw [hh] at HAP
   have cD := cellOf hm5.out.boxD
   have cE := cellOf hE5
   go_wp2_with fail
   refine (with_any (fun b => M b ∨ b = W.heap.size + 2 ∨ b = D) t.w (applyN t s k) g _ _ (hm5.out.hM HM.out) hgw hm5.out.set.no).mono ?_
   rintro e6 w6 ⟨a6, c6, rfl, hs6, hx6⟩
   have hm6 := Lib.hid (hm5.out.stepNo hx6)
   clear hm5 hx6 cD cE hE5
   have cD := cellOf hm6.out.boxD
   have fD := freeOf hm6.out.boxD
   have hm7 := Lib.hid (hm6.out.put hs6.out)
   go_wp2_with fail
   go_roundw
   case rel => exact ⟨k + 1, _, _, by omega, HKK.out, Lib.hid (by rw [HAP.out]; exact hm7.out)⟩
   case measure => simp [intOf]; omega
 obtain rfl : k = t.copies.length := by omega
 have cC := cellOf hm.out.boxC
 have fC := freeOf hm.out.boxC
 have cD := cellOf hm.out.boxD
 have hbig := hm.out.big
 go_wp2_with fail
 refine ret_ex rfl ?_
 simp [results, Tryd.results63, go_sem, cC]
 exact ⟨_, _, rfl, Lib.hid ((hm.out.set.ext (ext_two hm.out.ext (W.heap.size + 2)) (fun i _ e => .inr (.inl e))).mono (fun i _ e => .inl e)), ext2 hm.out.ext (by omega)⟩
end Go.Proofs.YtmddchceacmopaaDoor
namespace Go.Proofs.YtmddchceacmopaaDoor
open Go Go.RowKit
set_option maxRecDepth 100000 in
set_option maxHeartbeats 2000000 in
theorem Apply_any (M : Nat → Prop) (t : TrD) (s : Nat) (sg sk sc ss : Value) (W : World) (hM : ∀ b, M b → b < W.heap.size) (h : TrAt No W sg sk sc t) (hs : SetAt No W ss t.w s) :
  Calls Tryd.prog 35 #[.agg #[.int .i64 (t.w : Int), sg, .int .i64 (t.w : Int), sk, sc], .agg #[.int .i64 (t.w : Int), ss]] W (SetEPost M t.w (applyT t s) W) := by
 have H := Lib.hid h
 have HS := Lib.hid hs
 have HM := Lib.hid hM
 have hv := validB_set hs.hw hs.hm
 obtain ⟨ag, ng, cg, rfl⟩ := h.gen.shaped
 obtain ⟨ak, nk, ck, rfl⟩ := h.kill.shaped
 obtain ⟨ac, nc, cc, rfl⟩ := h.copies.shaped
 obtain ⟨as0, ns, cs, rfl⟩ := hs.shaped
 clear h hs hM
 go_enter Tryd.func35, Tryd.ntmps35
 go_wp2_with fail
 have hx0 : Ext No W (((W.alloc (.cells #[.int .i64 (t.w : Int), .slice ag ng cg, .int .i64 (t.w : Int), .slice ak nk ck, .slice ac nc cc] 30)).alloc (.cells #[.int .i64 (t.w : Int), .slice as0 ns cs] 24)).alloc (.cells #[.int .i64 0, .slice none 0 0] 24)) := (((Ext.refl _ _).alloc _).alloc _).alloc _
 refine (validTr_any t _ _ _ _ (H.out.extNo hx0)).mono ?_
 rintro e1 w1 ⟨rfl, hx1⟩
 have hA := hx1.blk (alloc_under (alloc_under (alloc_top (w := W) rfl))) no_no
 have hB := hx1.blk (n := W.heap.size + 1) (alloc_under (alloc_top (by simp))) no_no
 have hC := hx1.blk (n := W.heap.size + 2) (alloc_top (by simp)) no_no
 have hxa := hx0.transNo hx1
 have cB := cellOf hB
 clear hx0 hx1
 go_wp2_with fail
 refine (valid_any _ (setN t.w s) _ (HS.out.raw.extNo hxa)).mono ?_
 rintro e2 w2 ⟨rfl, hx2⟩
 rw [hv]
 replace hA := hx2.blk hA no_no
 replace hB := hx2.blk hB no_no
 replace hC := hx2.blk hC no_no
 replace hxa := hxa.transNo hx2
 clear hx2 cB
 have cA := cellOf hA
 have cB := cellOf hB
 have hszC := lt_of_block hC
 go_wp2_with fail
 refine (apply_any (fun b => M b ∨ b = W.heap.size + 2) t s _ _ _ _ _ (fun b hb => ?_) (H.out.extNo hxa) (HS.out.extNo hxa)).mono ?_
 ·rcases hb with hb | hb
  ·have := HM.out b hb; omega
  omega
 rintro e3 w3 ⟨a3, c3, rfl, hs3, hx3⟩
 replace hC := hx3.blk hC no_no
 replace hxa := hxa.transNo hx3
 clear hx3 cA cB hA hB
 have cC := cellOf hC
 have fC := freeOf hC
 go_wp2_with fail
 refine ret_ex rfl ?_
 simp [results, Tryd.results35, go_sem, cC]
 exact ⟨_, _, rfl, Lib.hid ((hs3.out.ext (ext_two hxa (W.heap.size + 2)) (fun i _ e => .inr e)).mono (fun i _ e => .inl e)), ext2 hxa (by omega)⟩
end Go.Proofs.YtmddchceacmopaaDoor
namespace Go.Proofs.YtmddchceacmopaaDoor
open Go Go.RowKit
def BlkW (W : World) (g w m : Nat) : Prop := W.heap[g]? = some (.cells (u64s (wordsN w m)).toArray 83 (0, 0))
theorem BlkW.own {W : World} {g w m : Nat} (h : BlkW W g w m) (hw : w ≤ 256) {base : Nat} (hb : base ≤ g) : OwnW W base (.slice (some ⟨g, 0, none⟩) (nw w) (nw w)) (wordsN w m) := by
 have hn : (wordsN w m).length = nw w := wordsN_len w m
 have hk : (u64s (wordsN w m)).length = nw w := by rw [u64s_len, hn]
 refine ⟨?_, wordsN_lt w m⟩
 rw [hn]
 refine ⟨by rw [hk, Nat.mul_one], .inr ⟨g, nw w, _, rfl, hb, h, Nat.le_refl _, by simp only [maxLen]; unfold nw; omega, by simp [hk], ?_⟩⟩
 rw [Nat.mul_one, ← hk]
 simp
theorem BlkW.set {M : Nat → Prop} {W : World} {g w m : Nat} (h : BlkW W g w m) (hw : w ≤ 256) (hm : m < 2 ^ w) (hg : ¬ M g) : SetAt M W (.slice (some ⟨g, 0, none⟩) (nw w) (nw w)) w m := by
 have hn : (wordsN w m).length = nw w := wordsN_len w m
 refine ⟨⟨⟨by rw [u64s_len, Nat.mul_one], by rw [hn]; unfold nw; omega, some ⟨g, 0, none⟩, nw w, by rw [hn], ⟨by rw [hn]; exact Nat.le_refl _, by unfold nw; omega⟩, .inr ⟨g, 0, rfl, lt_of_block h, hg, fun j u hj => ?_⟩⟩, wordsN_lt w m⟩, hw, hm⟩
 have h' : W.heap[g]? = some (.cells (u64s (wordsN w m)).toArray 83 (0, 0)) := h
 simp [World.cell?, h', hj]
theorem BlkW.zero {W : World} {w : Nat} : BlkW (W.alloc (.cells (zeroW (nw w)) 83)) W.heap.size w 0 := by
 have e : zeroW (nw w) = (u64s (wordsN w 0)).toArray := by rw [wordsN_zero, ← zeroW_list]
 rw [e]
 exact alloc_top rfl
def ROwn (w m : Nat) (W : World) (e : Ending) (w' : World) : Prop :=
 ∃ g, e = .returned (.agg #[.int .i64 (w : Int), .slice (some ⟨g, 0, none⟩) (nw w) (nw w)]) ∧ Hid (BlkW w' g w m) ∧ W.heap.size ≤ g ∧ Ext No W w'
set_option maxHeartbeats 400000 in
theorem rempty_any (w : Nat) (W : World) (hw : w ≤ 256) : Calls Tryd.prog 5 #[.int .i64 (w : Int)] W (ROwn w 0 W) := by
 have hmk := mk_words (nw w) (by unfold nw; omega)
 have hn : ((w : Int) + 63) / 64 = (nw w : Int) := by unfold nw; omega
 have hw' : (w : Int) ≤ 256 := by omega
 go_enter Tryd.func5, Tryd.ntmps5
 go_wp2_with fail
 have hC : ((W.alloc (.cells #[.int .i64 (w : Int), .slice (some ⟨W.heap.size + 1, 0, none⟩) (nw w) (nw w)] 24)).alloc (.cells (zeroW (nw w)) 83)).heap[W.heap.size]? = some (.cells #[.int .i64 (w : Int), .slice (some ⟨W.heap.size + 1, 0, none⟩) (nw w) (nw w)] 24 (0, 0)) := alloc_under (alloc_top rfl)
 have cC := cellOf hC
 refine ret_ex rfl ?_
 simp [results, Tryd.results5, go_sem, cC]
 refine ⟨_, rfl, Lib.hid ?_, by omega, ((Ext.refl _ _).alloc _).alloc _⟩
 have h := BlkW.zero (W := W.alloc (.cells #[.int .i64 (w : Int), .slice (some ⟨W.heap.size + 1, 0, none⟩) (nw w) (nw w)] 24)) (w := w)
 simpa using h
structure PMem (W : World) (sl : Value) (w m D g : Nat) (wx : World) : Prop where
 ext : Ext No W wx
 boxA : wx.heap[W.heap.size]? = some (.cells #[.int .i64 (w : Int), sl] 24 (0, 0))
 boxC : wx.heap[W.heap.size + 1]? = some (.cells #[.int .i64 0, .slice none 0 0] 24 (0, 0))
 boxD : wx.heap[D]? = some (.cells #[.int .i64 (w : Int), .slice (some ⟨g, 0, none⟩) (nw w) (nw w)] 24 (0, 0))
 blk : BlkW wx g w m
 bigD : W.heap.size + 2 ≤ D
 big : W.heap.size + 2 ≤ g
 ne : D ≠ g
theorem PMem.late {W w3 : World} {sl : Value} {w m g : Nat} (hx : Ext No W w3) (hA : w3.heap[W.heap.size]? = some (.cells #[.int .i64 (w : Int), sl] 24 (0, 0))) (hC : w3.heap[W.heap.size + 1]? = some (.cells #[.int .i64 0, .slice none 0 0] 24 (0, 0))) (hb : BlkW w3 g w m) (hg : W.heap.size + 2 ≤ g) :
  PMem W sl w m w3.heap.size g (w3.alloc (.cells #[.int .i64 (w : Int), .slice (some ⟨g, 0, none⟩) (nw w) (nw w)] 24)) := by
 have h1 := lt_of_block hb
 exact ⟨hx.alloc _, alloc_under hA, alloc_under hC, alloc_top rfl, alloc_under hb, by omega, hg, by omega⟩
theorem PMem.early {W w3 : World} {sl : Value} {w m D g : Nat} (hx : Ext No W w3) (hA : w3.heap[W.heap.size]? = some (.cells #[.int .i64 (w : Int), sl] 24 (0, 0))) (hC : w3.heap[W.heap.size + 1]? = some (.cells #[.int .i64 0, .slice none 0 0] 24 (0, 0))) (hb : BlkW w3 g w m) (hg : W.heap.size + 2 ≤ g)
  (hD : w3.heap[D]? = some (.cells #[.int .i64 0, .slice none 0 0] 24 (0, 0))) (hDW : W.heap.size + 2 ≤ D) (hne : D < g) :
  PMem W sl w m D g ((w3.setCell ⟨D, 0, none⟩ (.int .i64 (w : Int))).setCell ⟨D, 1, none⟩ (.slice (some ⟨g, 0, none⟩) (nw w) (nw w))) := by
 have hy := ext_two hx (u0 := .int .i64 (w : Int)) (u1 := .slice (some ⟨g, 0, none⟩) (nw w) (nw w)) D
 refine ⟨ext2 hx (by omega), hy.blk hA (by unfold At; omega), hy.blk hC (by unfold At; omega), (set_same (j := 1) (set_same (j := 0) hD)).trans rfl, hy.blk hb (by unfold At; omega), hDW, hg, by omega⟩
theorem ext_setRow (w : World) (g : Nat) (cs : Array Value) : Ext (At g) w (w.setRow g cs) := ⟨rfl, rfl, rfl, by simp [World.setRow], fun k _ h => setRow_other w g k cs h⟩
theorem PMem.copy {W wx : World} {sl : Value} {w m m' D g : Nat} (h : PMem W sl w m' D g wx) : PMem W sl w m D g (wx.setRow g (((u64s (wordsN w m')).toArray).toList.take 0 ++ (u64s (wordsN w m) ++ ((u64s (wordsN w m')).toArray).toList.drop (0 + (u64s (wordsN w m)).length))).toArray) := by
 have h1 := h.big
 have hy := ext_setRow wx g (((u64s (wordsN w m')).toArray).toList.take 0 ++ (u64s (wordsN w m) ++ ((u64s (wordsN w m')).toArray).toList.drop (0 + (u64s (wordsN w m)).length))).toArray
 refine ⟨h.ext.trans2 hy (fun i hi e => by unfold At at e; omega), hy.blk h.boxA (by unfold At; omega), hy.blk h.boxC (by unfold At; omega), hy.blk h.boxD h.ne, ?_, h.bigD, h1, h.ne⟩
 have e : (((u64s (wordsN w m')).toArray).toList.take 0 ++ (u64s (wordsN w m) ++ ((u64s (wordsN w m')).toArray).toList.drop (0 + (u64s (wordsN w m)).length))).toArray = (u64s (wordsN w m)).toArray := by
  simp [u64s_len, wordsN_len]
 rw [e]
 exact setRow_heap wx g _ _ _ _ h.blk
theorem PMem.put {W wx : World} {sl : Value} {w m D g b : Nat} (h : PMem W sl w m D g wx) (hb : b < w) : PMem W sl w (m ||| 2 ^ b) D g (wx.setCell ⟨g, b / 64, none⟩ (.int .u64 ((wordN m (b / 64) ||| p2 (b % 64) : Nat) : Int))) := by
 have h1 := h.big
 have h2 := h.ne
 have h3 := h.ext
 refine ⟨h3.own (by simp only; omega) _, set_other h.boxA (by simp only; omega), set_other h.boxC (by simp only; omega), set_other h.boxD (by simpa using h2), ?_, h.bigD, h1, h2⟩
 have e := set_same (j := b / 64) (u := .int .u64 ((wordN m (b / 64) ||| p2 (b % 64) : Nat) : Int)) h.blk
 unfold BlkW
 rw [e, ← wordsN_with w m b hb, u64s_set]
 simp [p2]
theorem infoW1 : (Tryd.prog.info? 83).map (·.size) = some 1 := by kernel_rfl
set_option maxHeartbeats 1000000 in
theorem rput_any (w m b : Nat) (sl : Value) (W : World) (hb : b < w) (h : SetAt No W sl w m) :
  Calls Tryd.prog 16 #[.agg #[.int .i64 (w : Int), sl], .int .i64 (b : Int)] W (ROwn w (m ||| 2 ^ b) W) := by
 have H := Lib.hid h
 have hw := h.hw
 have hnn : b / 64 < nw w := by unfold nw; omega
 obtain ⟨bs, off, c, hsl, _, _, hcell⟩ := h.words.row.shape (by rw [wordsN_len]; omega)
 rw [wordsN_len] at hsl
 subst hsl
 have HCE := Lib.hid hcell
 have HN := Lib.hid (show (u64s (wordsN w m)).length = Nat.min (nw w) (nw w) by rw [u64s_len, wordsN_len]; exact (Nat.min_self _).symm)
 have HF := Lib.hid (show 0 + (u64s (wordsN w m)).length ≤ (u64s (wordsN w 0)).toArray.size by simp [u64s_len, wordsN_len])
 have hk0 : (0 : Int) ≤ (b : Int) := by omega
 have hk2 : (b : Int) ≤ 256 := by omega
 have hu : IntKind.u64.wrap (b : Int) = b := wrapU b (by omega)
 have h64 : b % 64 < 64 := Nat.mod_lt _ (by decide)
 have hsh := shl_p2 h64
 have hor := bits_or (wordN m (b / 64)) (p2 (b % 64)) (wordN_lt _ _) (p2_lt h64)
 clear h hcell
 go_enter Tryd.func16, Tryd.ntmps16
 go_wp2_with fail
 have hxa : Ext No W ((W.alloc (.cells #[.int .i64 (w : Int), .slice (some ⟨bs, off, none⟩) (nw w) c] 24)).alloc (.cells #[.int .i64 0, .slice none 0 0] 24)) := ((Ext.refl _ _).alloc _).alloc _
 have hA : ((W.alloc (.cells #[.int .i64 (w : Int), .slice (some ⟨bs, off, none⟩) (nw w) c] 24)).alloc (.cells #[.int .i64 0, .slice none 0 0] 24)).heap[W.heap.size]? = some (.cells #[.int .i64 (w : Int), .slice (some ⟨bs, off, none⟩) (nw w) c] 24 (0, 0)) := alloc_under (alloc_top rfl)
 have hC : ((W.alloc (.cells #[.int .i64 (w : Int), .slice (some ⟨bs, off, none⟩) (nw w) c] 24)).alloc (.cells #[.int .i64 0, .slice none 0 0] 24)).heap[W.heap.size + 1]? = some (.cells #[.int .i64 0, .slice none 0 0] 24 (0, 0)) := alloc_top (by simp)
 have HSZ : Hid (((W.alloc (.cells #[.int .i64 (w : Int), .slice (some ⟨bs, off, none⟩) (nw w) c] 24)).alloc (.cells #[.int .i64 0, .slice none 0 0] 24)).heap.size = W.heap.size + 2) := Lib.hid (by simp)
 refine (rempty_any w _ hw).mono ?_
 rintro e1 w1 ⟨g, rfl, hb1, hg, hx1⟩
 have HG := Lib.hid (show W.heap.size + 2 ≤ g by rw [← HSZ.out]; exact hg)
 have hm1 := Lib.hid (PMem.late (hxa.transNo hx1) (hx1.blk hA no_no) (hx1.blk hC no_no) hb1.out HG.out)
 have cA := cellOf (hm1.out.boxA)
 have cD := cellOf (hm1.out.boxD)
 have HS := Lib.hid (show ∀ j v, (u64s (wordsN w m))[j]? = some v → (w1.alloc (.cells #[.int .i64 (w : Int), .slice (some ⟨g, 0, none⟩) (nw w) (nw w)] 24)).cell? (Addr.add ⟨bs, off, none⟩ j) = some v from fun j v hj => hm1.out.ext.keep (by rw [show Addr.add ⟨bs, off, none⟩ j = ⟨bs, off + j, none⟩ from by unfold Addr.add; by_cases h0 : j = 0 <;> simp [h0]]; exact HCE.out j v hj))
 have HB := Lib.hid (show (w1.alloc (.cells #[.int .i64 (w : Int), .slice (some ⟨g, 0, none⟩) (nw w) (nw w)] 24)).heap[g]? = some (.cells (u64s (wordsN w 0)).toArray 83 (0, 0)) from hm1.out.blk)
 clear hxa hA hC HSZ hg hx1 hb1
 go_wp2_with ((with_reducible refine wpList_copy_own (o := Oper.mk (some 13) _ _ _ _ none) ?_ (.tmp 10) (.tmp 12) 22 22 ?_ 83 Tryd.underlying22 infoW1 g 0 (nw w) (nw w) ⟨bs, off, none⟩ (nw w) c ?_ ?_ _ 83 HB.out (u64s (wordsN w m)) HN.out HS.out HF.out (u64s_one _) ?_); (rfl); (rfl); (rfl); (rfl); (have hm2 := Lib.hid (PMem.copy (m := m) hm1.out)); (clear hm1 cA cD HS HN HF HB); (generalize (World.setRow _ g _) = W3 at *); (generalize w1.heap.size = D at *); (have cD := cellOf (hm2.out.boxD)); (have hc := (hm2.out.blk.own hw (Nat.le_refl g)).at' hnn); (have hf := freeOf hm2.out.blk (b / 64)); (have hm3 := Lib.hid (hm2.out.put hb)); (have cD3 := cellOf (hm3.out.boxD)); (have cC3 := cellOf (hm3.out.boxC)); (have fC3 := freeOf (hm3.out.boxC)); (have hgD : ¬ g = D := fun e => hm2.out.ne e.symm))
 clear hm2 cD hc hf cD3
 generalize (World.setCell W3 _ _) = W4 at *
 refine ret_ex rfl ?_
 simp [results, Tryd.results16, go_sem, cC3]
 have hx5 := ext_two hm3.out.ext (u0 := .int .i64 (w : Int)) (u1 := .slice (some ⟨g, 0, none⟩) (nw w) (nw w)) (W.heap.size + 1)
 have hbig := hm3.out.big
 exact ⟨_, rfl, Lib.hid (hx5.blk hm3.out.blk (by unfold At; omega)), by omega, ext2 hm3.out.ext (by omega)⟩
end Go.Proofs.YtmddchceacmopaaDoor
namespace Go.Proofs.YtmddchceacmopaaDoor
open Go Go.RowKit
structure RMem (E : Nat → Prop) (W : World) (C D w m g : Nat) (wx : World) : Prop where
 ext : Ext E W wx
 boxC : wx.heap[C]? = some (.cells #[.int .i64 0, .slice none 0 0] 24 (0, 0))
 boxD : wx.heap[D]? = some (.cells #[.int .i64 (w : Int), .slice (some ⟨g, 0, none⟩) (nw w) (nw w)] 24 (0, 0))
 blk : BlkW wx g w m
 lowC : W.heap.size ≤ C
 lowD : W.heap.size ≤ D
 low : W.heap.size ≤ g
 neCD : C ≠ D
 neC : C ≠ g
 neD : D ≠ g
 hE : ∀ i, E i → i < W.heap.size
section
variable {E : Nat → Prop} {W wx wy : World} {C D w m g g2 m2 : Nat}
theorem RMem.step (h : RMem E W C D w m g wx) (hx : Ext E wx wy) : RMem E W C D w m g wy := by
 have h1 := h.lowC
 have h2 := h.lowD
 have h3 := h.low
 exact ⟨h.ext.trans hx, hx.blk h.boxC (fun e => by have := h.hE _ e; omega), hx.blk h.boxD (fun e => by have := h.hE _ e; omega), hx.blk h.blk (fun e => by have := h.hE _ e; omega), h1, h2, h3, h.neCD, h.neC, h.neD, h.hE⟩
theorem RMem.stepNo (h : RMem E W C D w m g wx) (hx : Ext No wx wy) : RMem E W C D w m g wy := h.step (hx.mono (fun _ _ x => x.elim))
theorem RMem.drew (h : RMem E W C D w m g wx) : RMem E W C D w m g wx.drew := h.stepNo (Ext.refl _ _).drew
theorem RMem.drewN (h : RMem E W C D w m g wx) (n : Nat) : RMem E W C D w m g (wx.drewN n) := h.stepNo ((Ext.refl _ _).drewN n)
theorem RMem.put (h : RMem E W C D w m g wx) (hb : BlkW wy g2 w m2) (hx : Ext No wx wy) (hg : wx.heap.size ≤ g2) : RMem E W C D w m2 g2 ((wy.setCell ⟨D, 0, none⟩ (.int .i64 (w : Int))).setCell ⟨D, 1, none⟩ (.slice (some ⟨g2, 0, none⟩) (nw w) (nw w))) := by
 have h1 := h.lowC
 have h2 := h.lowD
 have h3 := lt_of_block h.boxC
 have h4 := lt_of_block h.boxD
 have hs := h.stepNo hx
 have hy := ext_two (w1 := wy) hx (u0 := .int .i64 (w : Int)) (u1 := .slice (some ⟨g2, 0, none⟩) (nw w) (nw w)) D
 have hn := h.neCD
 refine ⟨hs.ext.trans2 hy (fun i hi e => by unfold At at e; omega), hy.blk hs.boxC (by unfold At; exact hn), (set_same (j := 1) (set_same (j := 0) hs.boxD)).trans rfl, hy.blk hb (by unfold At; omega), h1, h2, by omega, hn, by omega, by omega, h.hE⟩
theorem RMem.set {M : Nat → Prop} (h : RMem E W C D w m g wx) (hw : w ≤ 256) (hm : m < 2 ^ w) (hM : ∀ b, M b → b < W.heap.size) : SetAt M wx (.slice (some ⟨g, 0, none⟩) (nw w) (nw w)) w m := h.blk.set hw hm (fun e => by have := hM _ e; have := h.low; omega)
end
theorem fullN_succ (k : Nat) : (2 ^ k - 1) ||| 2 ^ k = 2 ^ (k + 1) - 1 := by
 refine Nat.eq_of_testBit_eq fun j => ?_
 rw [Nat.testBit_or, Nat.testBit_two_pow_sub_one, Nat.testBit_two_pow_sub_one, Nat.testBit_two_pow]
 by_cases h : k = j
 ·subst h; simp
 by_cases h2 : j < k
 ·simp [h, h2, show j < k + 1 by omega]
 simp [h, h2, show ¬ j < k + 1 by omega]
theorem fullN_lt {k w : Nat} (h : k ≤ w) : 2 ^ k - 1 < 2 ^ w := by
 have := Nat.pow_le_pow_right (n := 2) (by decide) h
 have := Nat.two_pow_pos k
 omega
def fullN (k : Nat) : Nat := 2 ^ k - 1
set_option maxHeartbeats 1000000 in
theorem rfull_any (w : Nat) (W : World) (hw : w ≤ 256) : Calls Tryd.prog 6 #[.int .i64 (w : Int)] W (ROwn w (fullN w) W) := by
 go_enter Tryd.func6, Tryd.ntmps6
 go_wp2_with fail
 have hxa : Ext No W (W.alloc (.cells #[.int .i64 0, .slice none 0 0] 24)) := (Ext.refl _ _).alloc _
 have hC : (W.alloc (.cells #[.int .i64 0, .slice none 0 0] 24)).heap[W.heap.size]? = some (.cells #[.int .i64 0, .slice none 0 0] 24 (0, 0)) := alloc_top rfl
 refine (rempty_any w _ hw).mono ?_
 rintro e1 w1 ⟨g, rfl, hb1, hg, hx1⟩
 have hC1 := hx1.blk hC no_no
 have hs1 := lt_of_block hC1
 have hs2 := lt_of_block hb1.out
 have hm1 := Lib.hid (show RMem No W W.heap.size w1.heap.size w (fullN 0) g (w1.alloc (.cells #[.int .i64 (w : Int), .slice (some ⟨g, 0, none⟩) (nw w) (nw w)] 24)) from
  ⟨(hxa.transNo hx1).alloc _, alloc_under hC1, alloc_top rfl, alloc_under hb1.out, Nat.le_refl _, by omega, by simp at hg; omega, by omega, by simp at hg; omega, by omega, fun _ x => x.elim⟩)
 clear hxa hC hx1 hb1 hg hC1 hs1 hs2
 go_wp2_with fail
 generalize (w1.alloc (.cells #[.int .i64 (w : Int), .slice (some ⟨g, 0, none⟩) (nw w) (nw w)] 24)) = W1 at *
 generalize w1.heap.size = D at *
 go_loopw [4] (fun i wr => ∃ (k g : Nat), k ≤ w ∧ i = .int .i64 k ∧ Hid (RMem No W W.heap.size D w (fullN k) g wr)) (fun i _ => w - (intOf i).toNat)
 case atStart => exact ⟨0, g, Nat.zero_le _, rfl, hm1⟩
 clear hm1
 obtain ⟨k, g, hk, rfl, hm⟩ := hrel
 rename World => wr
 by_cases hlt : k < w
 ·have hpos : (0 : Int) ≤ (k : Int) := by omega
  have HKK : Hid (Value.int .i64 ((k : Int) + 1) = .int .i64 ((k + 1 : Nat) : Int)) := Lib.hid (by rw [show ((k + 1 : Nat) : Int) = (k : Int) + 1 from by omega])
  have cD := cellOf hm.out.boxD
  go_wp2_with fail
  refine (rput_any w (fullN k) k _ _ hlt (hm.out.set (M := No) hw (fullN_lt (Nat.le_of_lt hlt)) (fun _ x => x.elim))).mono ?_
  rintro e2 w2 ⟨g2, rfl, hb2, hg2, hx2⟩
  have hm2 := Lib.hid (hm.out.put hb2.out hx2 hg2)
  have fD := freeOf (hm.out.stepNo hx2).boxD
  have cD2 := cellOf (hm.out.stepNo hx2).boxD
  clear hm hb2 hg2 hx2 cD
  go_wp2_with fail
  go_roundw
  case rel => exact ⟨k + 1, g2, by omega, HKK.out, Lib.hid (by have := hm2.out; rw [show fullN k ||| 2 ^ k = fullN (k + 1) from fullN_succ k] at this; exact this)⟩
  case measure => simp [intOf]; omega
 obtain rfl : k = w := by omega
 have cD := cellOf hm.out.boxD
 have cC := cellOf hm.out.boxC
 have fC := freeOf hm.out.boxC
 go_wp2_with fail
 refine ret_ex rfl ?_
 simp [results, Tryd.results6, go_sem, cC]
 have hx5 := ext_two hm.out.ext (u0 := .int .i64 (k : Int)) (u1 := .slice (some ⟨g, 0, none⟩) (nw k) (nw k)) W.heap.size
 have hlow := hm.out.low
 have hne := hm.out.neC
 exact ⟨_, rfl, Lib.hid (hx5.blk hm.out.blk (by unfold At; omega)), hlow, ext2 hm.out.ext (by omega)⟩
end Go.Proofs.YtmddchceacmopaaDoor
namespace Go.Proofs.YtmddchceacmopaaDoor
open Go Go.RowKit
def inK (t : TrD) (s b : Nat) : Nat → Bool
 | 0 => hasZ t.w t.gen b
 | k + 1 => inK t s b k || (hasZ t.w s k && followsB t k b)
theorem inK_iff (t : TrD) (s b k : Nat) : inK t s b k = true ↔ hasZ t.w t.gen b = true ∨ ∃ a : Nat, a < k ∧ hasZ t.w s a = true ∧ followsB t a b = true := by
 induction k with
 | zero => simp [inK]
 | succ k ih =>
  rw [inK, Bool.or_eq_true, ih, Bool.and_eq_true]
  constructor
  ·rintro ((h | ⟨a, h1, h2⟩) | h)
   ·exact .inl h
   ·exact .inr ⟨a, by omega, h2⟩
   exact .inr ⟨k, by omega, h⟩
  rintro (h | ⟨a, h1, h2⟩)
  ·exact .inl (.inl h)
  by_cases e : a = k
  ·subst e; exact .inr h2
  exact .inl (.inr ⟨a, by omega, h2⟩)
theorem hasZ_nat {w m b : Nat} (hb : b < w) : hasZ w m b = m.testBit b := by
 unfold hasZ inB
 rw [show decide ((0 : Int) ≤ (b : Int) ∧ (b : Int) < (w : Int)) = true from decide_eq_true ⟨by omega, by omega⟩]
 simp
theorem applyN_iff {t : TrD} {s b : Nat} (ho : TrOk t) : ∀ k, k ≤ t.copies.length → ((applyN t s k).testBit b = true ↔ (s.testBit b = true ∧ t.kill.testBit b = false) ∨ t.gen.testBit b = true ∨ ∃ (j : Nat) (h : j < t.copies.length), j < k ∧ hasZ t.w s t.copies[j].1 = true ∧ t.copies[j].2 = (b : Int)) := by
 intro k
 induction k with
 | zero =>
  intro _
  simp [applyN, orN, Nat.testBit_or, diffN_bit]
 | succ k ih =>
  intro hk
  have hk' : k < t.copies.length := by omega
  obtain ⟨_, i2⟩ := ho.inr k hk'
  obtain ⟨g, hg, _⟩ := inB_true i2
  rw [applyN_succ hk']
  have hset : ∀ x : Prop, (x ∨ ∃ (j : Nat) (h : j < t.copies.length), j < k + 1 ∧ hasZ t.w s t.copies[j].1 = true ∧ t.copies[j].2 = (b : Int)) ↔ ((x ∨ ∃ (j : Nat) (h : j < t.copies.length), j < k ∧ hasZ t.w s t.copies[j].1 = true ∧ t.copies[j].2 = (b : Int)) ∨ (hasZ t.w s t.copies[k].1 = true ∧ t.copies[k].2 = (b : Int))) := by
   intro x
   constructor
   ·rintro (h | ⟨j, h, h1, h2⟩)
    ·exact .inl (.inl h)
    by_cases e : j = k
    ·subst e; exact .inr h2
    exact .inl (.inr ⟨j, h, by omega, h2⟩)
   rintro ((h | ⟨j, h, h1, h2⟩) | h)
   ·exact .inl h
   ·exact .inr ⟨j, h, by omega, h2⟩
   exact .inr ⟨k, hk', by omega, h⟩
  have hi := ih (by omega)
  rw [← or_assoc] at hi
  rw [← or_assoc, hset, ← hi]
  by_cases hz : hasZ t.w s t.copies[k].1 = true
  ·rw [if_pos hz, Nat.testBit_or, Bool.or_eq_true, Nat.testBit_two_pow, hg, Int.toNat_natCast, decide_eq_true_eq]
   simp only [hz, true_and]
   exact or_congr Iff.rfl ⟨fun h => by omega, fun h => by omega⟩
  rw [if_neg hz]
  simp [hz]
theorem apply_law {t : TrD} {s b : Nat} (ho : TrOk t) (hb : b < t.w) : hasZ t.w (applyT t s) b = inK t s b t.w := by
 rw [Bool.eq_iff_iff, inK_iff, hasZ_nat hb, hasZ_nat hb]
 unfold applyT
 rw [applyN_iff ho _ (Nat.le_refl _)]
 constructor
 ·rintro (⟨h1, h2⟩ | h | ⟨j, hj, _, h1, h2⟩)
  ·refine .inr ⟨b, hb, by rw [hasZ_nat hb]; exact h1, ?_⟩
   unfold followsB
   rw [hasZ_nat hb, h2]; simp
  ·exact .inl h
  obtain ⟨i1, _⟩ := ho.inr j hj
  obtain ⟨f, hf, hf2⟩ := inB_true i1
  refine .inr ⟨f, by omega, by rw [← hf]; exact h1, ?_⟩
  unfold followsB
  rw [hasC_true hj (show t.copies[j] = ((f : Int), (b : Int)) from Prod.ext hf h2)]
  simp
 rintro (h | ⟨a, ha, h1, h2⟩)
 ·exact .inr (.inl h)
 unfold followsB at h2
 rw [Bool.or_eq_true, Bool.and_eq_true] at h2
 rcases h2 with ⟨h3, h4⟩ | h3
 ·have e : a = b := by have := of_decide_eq_true h3; omega
  subst e
  rw [hasZ_nat hb] at h1 h4
  exact .inl ⟨h1, by simpa using h4⟩
 obtain ⟨j, hj, he⟩ := List.getElem_of_mem (of_decide_eq_true h3)
 exact .inr (.inr ⟨j, hj, hj, by rw [he]; exact h1, by rw [he]⟩)

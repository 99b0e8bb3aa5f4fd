
import Derived.Test.YtjeohlooaiociaaGreatDoorRefB
set_option linter.unusedVariables false
set_option linter.unusedSimpArgs false
namespace Go.Proofs.YtjeohlooaiociaaGreatDoor
open Go Go.RowKit
def valN (t : TrD) (s a : Nat) : Nat := bitsN t.w fun j => inK t s j a
def valB (t : TrD) (s a b : Nat) : Nat := bitsN t.w fun j => inK t s j a || (hasZ t.w s a && (decide (j < b) && followsB t a j))
theorem valB_lt (t : TrD) (s a b : Nat) : valB t s a b < 2 ^ t.w := bitsN_lt _ _
theorem valN_zero {t : TrD} (ho : TrOk t) (s : Nat) : valN t s 0 = t.gen := (bitsN_eq ho.gen (fun b hb => (hasZ_nat hb).symm)).symm
theorem valN_last {t : TrD} (ho : TrOk t) {s : Nat} (hs : s < 2 ^ t.w) : valN t s t.w = applyT t s := (bitsN_eq (applyT_lt ho hs) (fun b hb => by rw [← hasZ_nat hb]; exact apply_law ho hb)).symm
theorem valB_zero (t : TrD) (s a : Nat) : valB t s a 0 = valN t s a := bitsN_congr (fun j _ => by simp)
theorem valB_end {t : TrD} {s a b : Nat} (h : hasZ t.w s a = false ∨ b = t.w) : valB t s a b = valN t s (a + 1) := bitsN_congr (fun j hj => by
 rw [inK]
 rcases h with h | h
 ·simp [h]
 subst h; simp [hj])
theorem valB_yes {t : TrD} {s a b : Nat} (hb : b < t.w) (h : hasZ t.w s a = true) (hf : followsB t a b = true) : valB t s a (b + 1) = valB t s a b ||| 2 ^ b := by
 refine bits_ext (valB_lt t s a (b + 1)) (orN_lt (valB_lt t s a b) (bitN_lt hb)) (fun j hj => ?_)
 rw [or_bit]
 unfold valB
 rw [bitsN_bit, bitsN_bit, h]
 by_cases e : b = j
 ·subst e; simp [hf, hj]
 have : decide (j < b + 1) = decide (j < b) := by rw [decide_eq_decide]; omega
 simp [this, e]
theorem valB_no {t : TrD} {s a b : Nat} (hf : followsB t a b = false) : valB t s a (b + 1) = valB t s a b := bitsN_congr (fun j _ => by
 by_cases e : b = j
 ·subst e; simp [hf]
 have : decide (j < b + 1) = decide (j < b) := by rw [decide_eq_decide]; omega
 simp [this])
set_option maxRecDepth 100000 in
set_option maxHeartbeats 4000000 in
theorem rvalue_any (M : Nat → Prop) (t : TrD) (w s : Nat) (sg sk sc ss : Value) (W : World) (hw : t.w = w) (hM : ∀ b, M b → b < W.heap.size) (h : TrAt M W sg sk sc t) (hs : SetAt No W ss w s) :
  Calls Tryz.prog 142 #[.agg #[.int .i64 (w : Int), sg, .int .i64 (w : Int), sk, sc], .agg #[.int .i64 (w : Int), ss]] W (SetPost M w (applyT t s) W) := by
 subst hw
 have H := Lib.hid h
 have HS := Lib.hid hs
 have HM := Lib.hid hM
 obtain ⟨ag, cg, rfl⟩ := h.gen.slice
 obtain ⟨ak, ck, rfl⟩ := h.kill.slice
 obtain ⟨ac, cc, rfl⟩ := Row.slice h.copies
 obtain ⟨a1, c1, rfl⟩ := hs.slice
 have hw := hs.hw
 have HO := Lib.hid h.ok
 clear h hs hM
 go_enter Tryz.func142, Tryz.ntmps142
 go_wp2_with fail
 have hm0 := Lib.hid (show ApMem M W ((((W.alloc (.cells #[.int .i64 (t.w : Int), .slice ag (nw t.w) cg, .int .i64 (t.w : Int), .slice ak (nw t.w) ck, .slice ac t.copies.length cc] 69)).alloc (.cells #[.int .i64 (t.w : Int), .slice a1 (nw t.w) c1] 50)).alloc (.cells #[.int .i64 0, .slice none 0 0] 50)).alloc (.cells #[.int .i64 (t.w : Int), .slice ag (nw t.w) cg] 50)) t s (valN t s 0) (W.heap.size + 3) (.slice ag (nw t.w) cg) (.slice ak (nw t.w) ck) (.slice ac t.copies.length cc) (.slice a1 (nw t.w) c1) (.slice ag (nw t.w) cg) from
  ⟨((((Ext.refl _ _).alloc _).alloc _).alloc _).alloc _, alloc_under (alloc_under (alloc_under (alloc_top rfl))), alloc_under (alloc_under (alloc_top (by simp))), alloc_under (alloc_top (by simp)), alloc_top (by simp),
   by rw [valN_zero HO.out]; exact (H.out.gen.mono (fun i hi e => by rcases e with e | e | e; exact e; omega; omega)).extNo (((((Ext.refl _ _).alloc _).alloc _).alloc _).alloc _), by omega⟩)
 generalize ((((W.alloc (.cells #[.int .i64 (t.w : Int), .slice ag (nw t.w) cg, .int .i64 (t.w : Int), .slice ak (nw t.w) ck, .slice ac t.copies.length cc] 69)).alloc (.cells #[.int .i64 (t.w : Int), .slice a1 (nw t.w) c1] 50)).alloc (.cells #[.int .i64 0, .slice none 0 0] 50)).alloc (.cells #[.int .i64 (t.w : Int), .slice ag (nw t.w) cg] 50)) = W0 at *
 go_loopw [6] (fun i wr => ∃ (a : Nat) (ao : Option Addr) (co : Nat), a ≤ t.w ∧ i = .int .i64 a ∧ Hid (ApMem M W wr t s (valN t s a) (W.heap.size + 3) (.slice ag (nw t.w) cg) (.slice ak (nw t.w) ck) (.slice ac t.copies.length cc) (.slice a1 (nw t.w) c1) (.slice ao (nw t.w) co))) (fun i _ => t.w - (intOf i).toNat)
 case atStart => exact ⟨0, _, _, Nat.zero_le _, rfl, hm0⟩
 clear hm0
 obtain ⟨a, ao, co, ha, rfl, hm⟩ := hrel
 rename World => wr
 have hpos : (0 : Int) ≤ (a : Int) := by omega
 by_cases hlt : a < t.w
 ·have hlz : (a : Int) < (t.w : Int) := by omega
  have HKK : Hid (Value.int .i64 ((a : Int) + 1) = .int .i64 ((a + 1 : Nat) : Int)) := Lib.hid (by rw [show ((a + 1 : Nat) : Int) = (a : Int) + 1 from by omega])
  have cS := cellOf hm.out.boxS
  go_wp2_with fail
  clear cS
  rw [← valB_zero] at hm
  go_loopw [7] (fun i wr => ∃ (b : Nat) (ao : Option Addr) (co : Nat), b ≤ t.w ∧ i = .int .i64 b ∧ Hid (ApMem M W wr t s (valB t s a b) (W.heap.size + 3) (.slice ag (nw t.w) cg) (.slice ak (nw t.w) ck) (.slice ac t.copies.length cc) (.slice a1 (nw t.w) c1) (.slice ao (nw t.w) co))) (fun i _ => t.w - (intOf i).toNat)
  case atStart => exact ⟨0, _, _, Nat.zero_le _, rfl, hm⟩
  clear hm
  obtain ⟨b, ap, cp, hb, rfl, hm⟩ := hrel
  rename World => wi
  have hposb : (0 : Int) ≤ (b : Int) := by omega
  have cS := cellOf hm.out.boxS
  go_wp2_with fail
  clear cS
  refine (rhas_any t.w s _ (a : Int) _ (HS.out.extNo hm.out.ext)).mono ?_
  rintro e1 w1 ⟨he1, hy1⟩
  have hm1 := Lib.hid (hm.out.stepNo hy1)
  clear hm hy1
  have cS := cellOf hm1.out.boxS
  cases hh : hasZ t.w s (a : Int)
  ·rw [hh] at he1
   subst he1
   have HV := Lib.hid (valB_end (t := t) (s := s) (a := a) (b := b) (.inl hh))
   clear hh
   go_wp2_with fail
   go_roundw
   case rel => exact ⟨a + 1, _, _, by omega, HKK.out, by rw [← HV.out]; exact hm1⟩
   case measure => simp [intOf]; omega
  rw [hh] at he1
  subst he1
  have HH := Lib.hid hh
  clear hh
  by_cases hlb : b < t.w
  ·have hlbz : (b : Int) < (t.w : Int) := by omega
   have HKB : Hid (Value.int .i64 ((b : Int) + 1) = .int .i64 ((b + 1 : Nat) : Int)) := Lib.hid (by rw [show ((b + 1 : Nat) : Int) = (b : Int) + 1 from by omega])
   have cT := cellOf hm1.out.boxT
   go_wp2_with fail
   clear cS cT
   refine (rfollows_any t t.w _ _ _ (a : Int) (b : Int) _ rfl (H.out.no.extNo hm1.out.ext)).mono ?_
   rintro e2 w2 ⟨he2, hy2⟩
   have hm2 := Lib.hid (hm1.out.stepNo hy2)
   clear hm1 hy2
   cases hf : followsB t (a : Int) (b : Int)
   ·rw [hf] at he2
    subst he2
    have HV := Lib.hid (valB_no (t := t) (s := s) (a := a) (b := b) hf)
    clear hf
    go_wp2_with fail
    go_roundw
    case rel => exact ⟨b + 1, _, _, by omega, HKB.out, by rw [HV.out]; exact hm2⟩
    case measure => simp [intOf]; omega
   rw [hf] at he2
   subst he2
   have HV := Lib.hid (valB_yes hlb HH.out hf)
   clear hf
   have cD := cellOf hm2.out.boxD
   go_wp2_with fail
   clear cD
   refine (rput_any t.w (valB t s a b) b _ _ hlb hm2.out.set.no).mono ?_
   rintro e3 w3 ⟨g, rfl, hbg, hlo, hy3⟩
   have hm3 := Lib.hid (hm2.out.stepNo hy3)
   have hset := hbg.out.set (M := fun b => M b ∨ b = W.heap.size + 2 ∨ b = W.heap.size + 3) hw (orN_lt (valB_lt t s a b) (bitN_lt hlb)) (fun e => by have := hm2.out.hM HM.out g e; omega)
   have hput := hm3.out.put hset
   have cD := cellOf hm3.out.boxD
   have fD := freeOf hm3.out.boxD
   have HP := Lib.hid hput
   clear hm2 hset hput hlo hbg hy3
   go_wp2_with fail
   clear cD fD
   go_roundw
   case rel => exact ⟨b + 1, _, _, by omega, HKB.out, by rw [HV.out]; exact HP⟩
   case measure => simp [intOf]; omega
  obtain rfl : b = t.w := by omega
  have hge : ¬ (t.w : Int) < (t.w : Int) := by omega
  have HV := Lib.hid (valB_end (t := t) (s := s) (a := a) (b := t.w) (.inr rfl))
  go_wp2_with fail
  go_roundw
  case rel => exact ⟨a + 1, _, _, by omega, HKK.out, by rw [← HV.out]; exact hm1⟩
  case measure => simp [intOf]; omega
 obtain rfl : a = t.w := by omega
 have hge : ¬ (t.w : Int) < (t.w : Int) := by omega
 have cS := cellOf hm.out.boxS
 have cD := cellOf hm.out.boxD
 have cC := cellOf hm.out.boxC
 have fC := freeOf hm.out.boxC
 have hne : ¬ W.heap.size + 2 = W.heap.size + 3 := by omega
 go_wp2_with fail
 have hE : Ext (At (W.heap.size + 2)) wr ((wr.setCell ⟨W.heap.size + 2, 0, none⟩ (.int .i64 (t.w : Int))).setCell ⟨W.heap.size + 2, 1, none⟩ (.slice ao (nw t.w) co)) := ((Ext.refl (At (W.heap.size + 2)) _).setAt _ _).setAt _ _
 have hbF := (set_same (j := 1) (u := .slice ao (nw t.w) co) (set_same (j := 0) (u := .int .i64 (t.w : Int)) hm.out.boxC)).trans rfl
 clear cS cD cC fC
 generalize ((wr.setCell ⟨W.heap.size + 2, 0, none⟩ (.int .i64 (t.w : Int))).setCell ⟨W.heap.size + 2, 1, none⟩ (.slice ao (nw t.w) co)) = WF at *
 have cF := cellOf hbF
 refine ret_ex rfl ?_
 simp [results, Tryz.results142, go_sem, cF]
 rw [valN_last HO.out HS.out.hm] at hm
 exact ⟨_, _, rfl, Lib.hid ((hm.out.set.ext hE (fun i _ e => .inr (.inl e))).mono (fun i _ e => .inl e)), hm.out.ext.trans2 hE (fun i hi e => by unfold At at e; omega)⟩
end Go.Proofs.YtjeohlooaiociaaGreatDoor

namespace Go.Proofs.YtjeohlooaiociaaGreatDoor
open Go Go.RowKit
def zeroS : RawSet := ⟨0, []⟩
set_option maxRecDepth 100000 in
set_option maxHeartbeats 2000000 in
theorem rapply_any (M : Nat → Prop) (t : TrD) (s : Nat) (sg sk sc ss : Value) (W : World) (hM : ∀ b, M b → b < W.heap.size) (h : TrAt M W sg sk sc t) (hs : SetAt No W ss t.w s) :
  Calls Tryz.prog 124 #[.agg #[.int .i64 (t.w : Int), sg, .int .i64 (t.w : Int), sk, sc], .agg #[.int .i64 (t.w : Int), ss]] W (SetEPost M t.w (applyT t s) W) := by
 have H := Lib.hid h
 have HS := Lib.hid hs
 have HM := Lib.hid hM
 have hv := validB_set hs.hw hs.hm
 obtain ⟨ag, ng, cg, rfl⟩ := h.gen.shaped
 obtain ⟨ak, nk, ck, rfl⟩ := h.kill.shaped
 obtain ⟨ac, nc, cc, rfl⟩ := h.copies.shaped
 obtain ⟨as0, ns, cs, rfl⟩ := hs.shaped
 clear h hs hM
 go_enter Tryz.func124, Tryz.ntmps124
 go_wp2_with fail
 have hx0 : Ext No W (((W.alloc (.cells #[.int .i64 (t.w : Int), .slice ag ng cg, .int .i64 (t.w : Int), .slice ak nk ck, .slice ac nc cc] 69)).alloc (.cells #[.int .i64 (t.w : Int), .slice as0 ns cs] 50)).alloc (.cells #[.int .i64 0, .slice none 0 0] 50)) := (((Ext.refl _ _).alloc _).alloc _).alloc _
 refine (rvalidTr_any t _ _ _ _ _ rfl (H.out.no.extNo hx0)).mono ?_
 rintro e1 w1 ⟨rfl, hx1⟩
 have hA := hx1.blk (alloc_under (alloc_under (alloc_top (w := W) rfl))) no_no
 have hB := hx1.blk (n := W.heap.size + 1) (alloc_under (alloc_top (by simp))) no_no
 have hC := hx1.blk (n := W.heap.size + 2) (alloc_top (by simp)) no_no
 have hxa := hx0.transNo hx1
 have cB := cellOf hB
 clear hx0 hx1
 go_wp2_with fail
 refine (rvalid_any _ (setN t.w s) _ (HS.out.raw.extNo hxa)).mono ?_
 rintro e2 w2 ⟨rfl, hx2⟩
 rw [hv]
 replace hA := hx2.blk hA no_no
 replace hB := hx2.blk hB no_no
 replace hC := hx2.blk hC no_no
 replace hxa := hxa.transNo hx2
 clear hx2 cB
 have cA := cellOf hA
 have cB := cellOf hB
 have hszC := lt_of_block hC
 go_wp2_with fail
 refine (rvalue_any (fun b => M b ∨ b = W.heap.size + 2) t _ s _ _ _ _ _ rfl (fun b hb => ?_) ((H.out.mono (fun i hi e => ?_)).extNo hxa) (HS.out.extNo hxa)).mono ?_
 ·rcases hb with hb | hb
  ·have := HM.out b hb; omega
  omega
 ·rcases e with e | e
  ·exact e
  omega
 rintro e3 w3 ⟨a3, c3, rfl, hs3, hx3⟩
 replace hC := hx3.blk hC no_no
 replace hxa := hxa.transNo hx3
 clear hx3 cA cB hA hB
 have cC := cellOf hC
 have fC := freeOf hC
 go_wp2_with fail
 refine ret_ex rfl ?_
 simp [results, Tryz.results124, go_sem, cC]
 exact ⟨_, _, rfl, Lib.hid ((hs3.out.ext (ext_two hxa (W.heap.size + 2)) (fun i _ e => .inr e)).mono (fun i _ e => .inl e)), ext2 hxa (by omega)⟩
end Go.Proofs.YtjeohlooaiociaaGreatDoor

namespace Go.Proofs.YtjeohlooaiociaaGreatDoor
open Go Go.RowKit
structure EK (β : Type) where
 s : Nat
 T : TypeId
 cells : β → List Value
 ok : (Nat → Prop) → World → β → Prop
 len : ∀ b, (cells b).length = s
 ext : ∀ {M M' : Nat → Prop} {w w' : World} {b : β}, ok M w b → Ext M' w w' → (∀ i, i < w.heap.size → M' i → M i) → ok M w' b
 mono : ∀ {M M' : Nat → Prop} {w : World} {b : β}, ok M w b → (∀ i, i < w.heap.size → M' i → M i) → ok M' w b
structure LAt {β : Type} (K : EK β) (M : Nat → Prop) (w : World) (sl : Value) (L : List β) : Prop where
 row : Row M w K.s sl L.length (L.flatMap K.cells)
 ok : ∀ p ∈ L, K.ok M w p
structure LOwn {β : Type} (K : EK β) (A : Nat → Prop) (w : World) (base : Nat) (v : Value) (L : List β) : Prop where
 own : w.ownsRow base K.T K.s v L.length (L.flatMap K.cells)
 ok : ∀ p ∈ L, K.ok (fun b => A b ∨ v.ownBlock = some b) w p
section
variable {β : Type} {K : EK β} {M M' A : Nat → Prop} {w w' : World} {sl v v' : Value} {L : List β} {base g cap : Nat} {p : β}
theorem flat_get2 (K : EK β) (L : List β) (i j : Nat) (hi : i < L.length) (hj : j < K.s) : (L.flatMap K.cells)[i * K.s + j]? = (K.cells L[i])[j]? := by
 rw [Nat.mul_comm]
 exact flat_get K.cells K.s K.len L i j hi hj
theorem LAt.ext (h : LAt K M w sl L) (hx : Ext M' w w') (hm : ∀ i, i < w.heap.size → M' i → M i) : LAt K M w' sl L := ⟨h.row.ext hx hm, fun p hp => K.ext (h.ok p hp) hx hm⟩
theorem LAt.extNo (h : LAt K M w sl L) (hx : Ext No w w') : LAt K M w' sl L := h.ext hx (fun _ _ x => x.elim)
theorem LAt.mono (h : LAt K M w sl L) (hm : ∀ i, i < w.heap.size → M' i → M i) : LAt K M' w sl L := ⟨h.row.mono hm, fun p hp => K.mono (h.ok p hp) hm⟩
theorem LAt.no (h : LAt K M w sl L) : LAt K No w sl L := h.mono (fun _ _ x => x.elim)
theorem LAt.slice (h : LAt K M w sl L) : ∃ a c, sl = .slice a L.length c := h.row.slice
theorem LAt.at (h : LAt K M w sl L) {i : Nat} (hi : i < L.length) : ∃ b off cap, sl = .slice (some ⟨b, off, none⟩) L.length cap ∧ b < w.heap.size ∧ ¬ M b ∧
  ∀ k (hk : k < L.length) j u, j < K.s → (K.cells L[k])[j]? = some u → w.cell? ⟨b, off + (k * K.s + j), none⟩ = some u := by
 obtain ⟨b, off, cap, h1, h2, h3, h4⟩ := h.row.shape (by omega)
 exact ⟨b, off, cap, h1, h2, h3, fun k hk j u hj hu => h4 _ u (by rw [flat_get2 K L k j hk hj]; exact hu)⟩
theorem LAt.nil (a : Option Addr) (c : Nat) (hc : c ≤ 9223372036854775807) : LAt K M w (.slice a 0 c) [] := ⟨Row.nil _ _ _ _ _ hc, fun _ h => by cases h⟩
theorem LOwn.nil (K : EK β) (A : Nat → Prop) (w : World) (base : Nat) : LOwn K A w base (.slice none 0 0) [] := ⟨⟨by simp, .inl ⟨rfl, rfl⟩⟩, fun _ h => by cases h⟩
theorem LOwn.ext (h : LOwn K A w base v L) (hx : Ext M w w') (h1 : ∀ i, base ≤ i → ¬ M i) (h2 : ∀ i, M i → A i) : LOwn K A w' base v L :=
 ⟨row_keep h.own hx h1, fun p hp => K.ext (h.ok p hp) hx (fun i _ e => .inl (h2 i e))⟩
theorem LOwn.ext2 (h : LOwn K A w base v L) (hx : Ext M w w') (h1 : ∀ i, v.ownBlock = some i → ¬ M i) (h2 : ∀ i, i < w.heap.size → M i → A i) : LOwn K A w' base v L :=
 ⟨row_keep2 h.own hx h1, fun p hp => K.ext (h.ok p hp) hx (fun i hi e => .inl (h2 i hi e))⟩
theorem LOwn.extNo (h : LOwn K A w base v L) (hx : Ext No w w') : LOwn K A w' base v L := h.ext hx (fun _ _ x => x) (fun _ x => x.elim)
theorem LOwn.mono {A' : Nat → Prop} (h : LOwn K A w base v L) (hm : ∀ i, i < w.heap.size → A' i → A i) : LOwn K A' w base v L := ⟨h.own, fun p hp => K.mono (h.ok p hp) (fun i hi e => by
 rcases e with e | e
 ·exact .inl (hm i hi e)
 exact .inr e)⟩
theorem LOwn.slice (h : LOwn K A w base v L) : ∃ a c, v = .slice a L.length c := (Row.ofOwns (M := No) h.own (fun _ _ x => x)).slice
theorem LOwn.lt (h : LOwn K A w base v L) (k : Nat) (hk : v.ownBlock = some k) : base ≤ k ∧ k < w.heap.size := World.ownsRow.lt h.own k hk
theorem LOwn.app {E : Nat → Prop} (h : LOwn K A w base v L) (hp : K.ok (fun b => A b ∨ v.ownBlock = some b) w p) (hown : w'.ownsRow base K.T K.s v' (L.length + 1) (L.flatMap K.cells ++ K.cells p))
  (hE : Ext E w w') (hE2 : ∀ i, E i → v.ownBlock = some i) (hv : v'.ownBlock = v.ownBlock ∨ ∀ k, v'.ownBlock = some k → w.heap.size ≤ k) : LOwn K A w' base v' (L ++ [p]) := by
 refine ⟨?_, fun q hq => ?_⟩
 ·rw [List.length_append, List.flatMap_append, List.flatMap_cons, List.flatMap_nil, List.append_nil]; exact hown
 have hq2 : K.ok (fun b => A b ∨ v.ownBlock = some b) w q := by
  rcases List.mem_append.1 hq with hq | hq
  ·exact h.ok q hq
  rw [List.mem_singleton.1 hq]; exact hp
 have hq3 : K.ok (fun b => (A b ∨ v.ownBlock = some b) ∨ w.heap.size ≤ b) w q := K.mono hq2 (fun i hi e => by
  rcases e with e | e
  ·exact e
  omega)
 refine K.mono (K.ext hq3 hE (fun i _ e => .inl (.inr (hE2 i e)))) (fun i _ e => ?_)
 rcases e with e | e
 ·exact .inl (.inl e)
 rcases hv with hv | hv
 ·rw [hv] at e; exact .inl (.inr e)
 exact .inr (hv i e)
theorem LOwn.list (h : LOwn K A w base v L) (hb : ∀ b, base ≤ b → ¬ M b) (hA : ∀ b, M b → A b) : LAt K M w v L :=
 ⟨Row.ofOwns h.own hb, fun p hp => K.mono (h.ok p hp) (fun i _ e => .inl (hA i e))⟩
theorem LOwn.list2 (h : LOwn K A w base v L) (hb : ∀ b, v.ownBlock = some b → ¬ M b) (hA : ∀ b, M b → A b) : LAt K M w v L := by
 have h0 : Row No w K.s v L.length (L.flatMap K.cells) := Row.ofOwns h.own (fun _ _ x => x)
 refine ⟨?_, fun p hp => K.mono (h.ok p hp) (fun i _ e => .inl (hA i e))⟩
 obtain ⟨h1, h2, a, c, rfl, hcp, h4⟩ := h0
 refine ⟨h1, h2, a, c, rfl, hcp, ?_⟩
 rcases h4 with h4 | ⟨b, off, h5, h6, _, h8⟩
 ·exact .inl h4
 refine .inr ⟨b, off, h5, h6, hb b ?_, h8⟩
 rw [h5]; rfl
end
def kS : EK (RawSet × Value) where
 s := 2
 T := 50
 cells := fun p => [.int .i64 p.1.width, p.2]
 ok := fun M w p => WordsAt M w p.2 p.1.words
 len := fun _ => rfl
 ext := fun h hx hm => h.ext hx hm
 mono := fun h hm => h.mono hm
def kT : EK (RawT × Value × Value × Value) where
 s := 5
 T := 69
 cells := fun p => [.int .i64 p.1.gen.width, p.2.1, .int .i64 p.1.kill.width, p.2.2.1, p.2.2.2]
 ok := fun M w p => RawTAt M w p.2.1 p.2.2.1 p.2.2.2 p.1
 len := fun _ => rfl
 ext := fun h hx hm => h.ext hx hm
 mono := fun h hm => h.mono hm
def kD : EK (List Int × Value) where
 s := 1
 T := 22
 cells := fun p => [p.2]
 ok := fun M w p => Ints M w .i64 p.2 p.1
 len := fun _ => rfl
 ext := fun h hx hm => Row.ext h hx hm
 mono := fun h hm => Row.mono h hm
theorem LAt.atS {M : Nat → Prop} {w : World} {sl : Value} {L : List (RawSet × Value)} (h : LAt kS M w sl L) {i : Nat} (hi : i < L.length) : ∃ b off cap, sl = .slice (some ⟨b, off, none⟩) L.length cap ∧ b < w.heap.size ∧ ¬ M b ∧
  ∀ k (hk : k < L.length), w.cell? ⟨b, off + k * 2, none⟩ = some (.int .i64 L[k].1.width) ∧ w.cell? ⟨b, off + k * 2 + 1, none⟩ = some L[k].2 := by
 obtain ⟨b, off, cap, h1, h2, h3, h4⟩ := h.at hi
 exact ⟨b, off, cap, h1, h2, h3, fun k hk => ⟨h4 k hk 0 _ (by decide) rfl, h4 k hk 1 _ (by decide) rfl⟩⟩
theorem LAt.atT {M : Nat → Prop} {w : World} {sl : Value} {L : List (RawT × Value × Value × Value)} (h : LAt kT M w sl L) {i : Nat} (hi : i < L.length) : ∃ b off cap, sl = .slice (some ⟨b, off, none⟩) L.length cap ∧ b < w.heap.size ∧ ¬ M b ∧
  ∀ k (hk : k < L.length), w.cell? ⟨b, off + k * 5, none⟩ = some (.int .i64 L[k].1.gen.width) ∧ w.cell? ⟨b, off + k * 5 + 1, none⟩ = some L[k].2.1 ∧ w.cell? ⟨b, off + k * 5 + 2, none⟩ = some (.int .i64 L[k].1.kill.width) ∧ w.cell? ⟨b, off + k * 5 + 3, none⟩ = some L[k].2.2.1 ∧ w.cell? ⟨b, off + k * 5 + 4, none⟩ = some L[k].2.2.2 := by
 obtain ⟨b, off, cap, h1, h2, h3, h4⟩ := h.at hi
 exact ⟨b, off, cap, h1, h2, h3, fun k hk => ⟨h4 k hk 0 _ (by decide) rfl, h4 k hk 1 _ (by decide) rfl, h4 k hk 2 _ (by decide) rfl, h4 k hk 3 _ (by decide) rfl, h4 k hk 4 _ (by decide) rfl⟩⟩
theorem LAt.atD {M : Nat → Prop} {w : World} {sl : Value} {L : List (List Int × Value)} (h : LAt kD M w sl L) {i : Nat} (hi : i < L.length) : ∃ b off cap, sl = .slice (some ⟨b, off, none⟩) L.length cap ∧ b < w.heap.size ∧ ¬ M b ∧
  ∀ k (hk : k < L.length), w.cell? ⟨b, off + k, none⟩ = some L[k].2 := by
 obtain ⟨b, off, cap, h1, h2, h3, h4⟩ := h.at hi
 exact ⟨b, off, cap, h1, h2, h3, fun k hk => (congrArg (fun n => w.cell? ⟨b, off + n, none⟩) (show k = k * 1 + 0 by omega)).trans (h4 k hk 0 _ (by decide) rfl)⟩
theorem Ints.at {M : Nat → Prop} {w : World} {sl : Value} {l : List Int} (h : Ints M w .i64 sl l) {i : Nat} (hi : i < l.length) : ∃ b off cap, sl = .slice (some ⟨b, off, none⟩) l.length cap ∧ b < w.heap.size ∧ ¬ M b ∧
  ∀ k (hk : k < l.length), w.cell? ⟨b, off + k, none⟩ = some (.int .i64 l[k]) := by
 obtain ⟨b, off, cap, h1, h2, h3, h4⟩ := Row.shape h (by omega)
 exact ⟨b, off, cap, h1, h2, h3, fun k hk => h4 k _ (by simp [hk])⟩
abbrev LD := List (List Int × Value)
abbrev LT := List (RawT × Value × Value × Value)
abbrev LS := List (RawSet × Value)
structure YAt (M : Nat → Prop) (w : World) (vd vt vb : Value) (Ld : LD) (Lt : LT) (Lb : LS) : Prop where
 d : LAt kD M w vd Ld
 t : LAt kT M w vt Lt
 b : LAt kS M w vb Lb
section
variable {M M' : Nat → Prop} {w w' : World} {vd vt vb : Value} {Ld : LD} {Lt : LT} {Lb : LS}
theorem YAt.ext (h : YAt M w vd vt vb Ld Lt Lb) (hx : Ext M' w w') (hm : ∀ i, i < w.heap.size → M' i → M i) : YAt M w' vd vt vb Ld Lt Lb := ⟨h.d.ext hx hm, h.t.ext hx hm, h.b.ext hx hm⟩
theorem YAt.extNo (h : YAt M w vd vt vb Ld Lt Lb) (hx : Ext No w w') : YAt M w' vd vt vb Ld Lt Lb := h.ext hx (fun _ _ x => x.elim)
theorem YAt.mono (h : YAt M w vd vt vb Ld Lt Lb) (hm : ∀ i, i < w.heap.size → M' i → M i) : YAt M' w vd vt vb Ld Lt Lb := ⟨h.d.mono hm, h.t.mono hm, h.b.mono hm⟩
theorem YAt.no (h : YAt M w vd vt vb Ld Lt Lb) : YAt No w vd vt vb Ld Lt Lb := h.mono (fun _ _ x => x.elim)
end
def AscL (l : List Int) (n : Int) : Prop := ∀ i (h : i < l.length), 0 ≤ l[i] ∧ l[i] < n ∧ (0 < i → l[i - 1]'(by omega) < l[i])
def sumL (Ld : LD) : Nat := (Ld.map fun p => p.1.length).sum
def FitT (x : Int) (r : RawT) : Prop := validT r = true ∧ r.gen.width = x
def FitS (x : Int) (r : RawSet) : Prop := validB r = true ∧ r.width = x
structure VS (x : Int) (Ld : LD) (Lt : LT) (Lb : LS) : Prop where
 w : 0 ≤ x ∧ x ≤ 256
 n : 1 ≤ Ld.length ∧ Ld.length ≤ 256
 lt : Lt.length = Ld.length
 lb : Lb.length = Ld.length
 asc : ∀ p ∈ Ld, AscL p.1 Ld.length
 tot : sumL Ld ≤ 1024
 sets : ∀ p ∈ Lb, FitS x p.1
 trs : ∀ p ∈ Lt, FitT x p.1
def Tells (p : Prop) (W : World) (e : Ending) (w' : World) : Prop := ∃ b : Bool, e = .returned (.bool b) ∧ (b = true ↔ p) ∧ Ext No W w'

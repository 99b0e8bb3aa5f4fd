
import Derived.Test.YtjeohlooaiociaaGreatDoorP48
import Derived.Test.YtjeohlooaiociaaGreatDoorP16
set_option linter.unusedVariables false
set_option linter.unusedSimpArgs false
namespace Go.Proofs.YtjeohlooaiociaaGreatDoor
open Go Go.RowKit Tj
theorem bytes1_of {zs : List Int} (h : ∀ z ∈ zs, (Lit.int .u8 z).wf = true) : ∃ l : List Nat, zs = natsZ l ∧ ∀ b ∈ l, b < 256 := by
 have bd : ∀ z ∈ zs, 0 ≤ z ∧ z < 256 := fun z hz => by
  have w0 := h z hz
  simp only [Lit.wf, Bool.and_eq_true, decide_eq_true_eq] at w0
  have e1 : IntKind.min .u8 = 0 := by decide
  have e2 : IntKind.max .u8 = 255 := by decide
  rw [e1, e2] at w0
  omega
 refine ⟨zs.map Int.toNat, ?_, fun b hb => ?_⟩
 ·unfold natsZ
  rw [List.map_map]
  refine (List.map_id zs).symm.trans (List.map_congr_left fun z hz => ?_)
  have := (bd z hz).1
  simp; omega
 obtain ⟨z, hz, rfl⟩ := List.mem_map.1 hb
 have := bd z hz
 omega
theorem bytes_of {w : World} {x : Addr} {len cap : Nat} {zs : List Int} (hwz : ∀ z ∈ zs, (Lit.int .u8 z).wf = true) (hl : len ≤ cap) (hm : cap ≤ maxLen) (hz : zs.length = cap) (hc : ∀ i, i < zs.length → w.cell? (x.add i) = some (.int .u8 (zs.getD i 0))) :
  ∃ l : List Nat, Ints No w .u8 (.slice (some x) len cap) (natsZ l) ∧ ∀ b ∈ l, b < 256 := by
 obtain ⟨l, e, hb⟩ := bytes1_of (zs := zs.take len) (fun z hz' => hwz z (List.mem_of_mem_take hz'))
 exact ⟨l, e ▸ Row.ofArg hl hm hz hc, hb⟩
theorem enc_len {Lv : LS} {R : LD} (h : EncOk Lv R) : (sealB (encB Lv R)).length ≤ 700000 := by
 have h1 := part_len h.2 Lv.length (Nat.le_refl _)
 have h2 := uv_len 4 Lv.length (by have := h.1; omega)
 have h3 := h.1
 have h4 : (Lv.zip R).take Lv.length = Lv.zip R := List.take_of_length_le (by simp; omega)
 rw [h4] at h1
 unfold sealB encB
 rw [List.length_append, List.length_append, ckB_len]
 omega
theorem sealB_byte {l : List Nat} (h : ∀ x ∈ l, x < 256) : ∀ x ∈ sealB l, x < 256 := fun x hx => by
 rcases List.mem_append.1 hx with hx | hx
 ·exact h x hx
 exact ckB_byte h x hx
theorem ints_cut {M : Nat → Prop} {w : World} {a : Option Addr} {n c k : Nat} {b : List Nat} (h : Ints M w .u8 (.slice a n c) (natsZ b)) (hn : n = b.length) (hk : k ≤ n) : Ints M w .u8 (.slice a k c) (natsZ (b.take k)) := by
 subst hn
 unfold Ints at h ⊢
 rw [show (natsZ b).length = b.length by simp [natsZ]] at h
 rw [show (natsZ (b.take k)).length = k by simp [natsZ]; omega, show (natsZ (b.take k)).map (Value.int .u8) = ((natsZ b).map (.int .u8)).take (k * 1) by simp [natsZ, List.map_take]]
 exact Row.cutK h (Row.caps h).2 (Row.caps h).1 hk
set_option maxRecDepth 100000 in
set_option maxHeartbeats 16000000 in
theorem proofDecodes_any (tl : Value) (zs : List Int) (sl : Value) (b : List Nat) (w : World) (hT : TabW w) (ht : Ints No w .i64 tl zs) (hs : Ints No w .u8 sl (natsZ b)) (hb : ∀ x ∈ b, x < 256) :
  Calls Tryz.prog 5 #[tl, sl] w (BoolPost true w) := by
 have HT := Lib.hid ht
 have HTB := Lib.hid hT
 have HS := Lib.hid hs
 have HB := Lib.hid hb
 obtain ⟨at', ct', rfl⟩ := Row.slice ht
 obtain ⟨sa, sc, rfl⟩ : ∃ a c, sl = .slice a b.length c := by
  obtain ⟨_, _, a, c, rfl, _, _⟩ := hs
  exact ⟨a, c, by simp [natsZ]⟩
 clear ht hT hs hb
 go_enter Tryz.func5, Tryz.ntmps5
 go_wp2_with fail
 refine (new_any _ zs _ HT.out).mono ?_
 rintro e0 w0 ⟨rfl, ht0, hx0, hs0⟩
 obtain ⟨tb, htb⟩ : ∃ tb, tb = w.heap.size := ⟨_, rfl⟩
 rw [← htb] at ht0 ⊢
 have HTb := Lib.hid htb
 have HT0 := Lib.hid ht0
 have HX0 := Lib.hid hx0
 clear htb ht0 hx0 hs0
 go_wp2_with fail
 go_loopw [6, 7, 8, 9, 10] (fun i _ _ _ _ wr => ∃ k : Nat, k ≤ 6 ∧ i = .int .i64 k ∧ Hid (TapeOk wr tb ∧ Ext No w wr)) (fun i _ _ _ _ _ => 6 - (intOf i).toNat)
 case atStart => exact ⟨0, Nat.zero_le _, rfl, Lib.hid ⟨HT0.out, HX0.out⟩⟩
 obtain ⟨i, hi, rfl, hm⟩ := hrel
 rename World => wr
 clear HT0 HX0
 by_cases hlt : i < 6
 ·have hlz : (i : Int) < 6 := by omega
  have HII : Hid (Value.int .i64 ((i : Int) + 1) = .int .i64 ((i + 1 : Nat) : Int)) := Lib.hid (by rw [show ((i + 1 : Nat) : Int) = (i : Int) + 1 from by omega])
  go_wp2_with fail
  refine (sysgen_any tb 4 _ (by decide) (by decide) hm.out.1).mono ?_
  rintro e1 w1 ⟨S, vd, vt, vb, rfl, hw4, hn4, hS, ht1, hx1⟩
  have HOK := Lib.hid hS.out.ok
  obtain ⟨ad, cd, at1, ct, ab, cb, rfl, rfl, rfl⟩ := hS.out.slices
  have htw : tb < wr.heap.size := hm.out.1.lt
  have HS1 := Lib.hid (hS.out.mono (M' := At tb) (fun i _ e => by unfold At at e; unfold Lo; omega))
  have HX1 := Lib.hid (hm.out.2.trans2 hx1 (fun i hi e => by unfold At at e; have := HTb.out; omega))
  have HT1 := Lib.hid ht1
  have hnn := HOK.out.n2
  clear hm hS ht1 hx1
  go_wp2_with fail
  refine (rmakeM_any (At tb) S _ _ _ w1 (fun b e => by rw [show b = tb from e]; exact HT1.out.lt) HS1.out).mono ?_
  rintro e5 w5 ⟨R, a, ar, c, cr, Rk, hF, rfl, hP, hK, hx5⟩
  obtain ⟨Lq, hLq, hLqe, hLql⟩ := hP.out.vals.list
  have hLn : Lq.length = S.deps.length := by rw [hLql, hP.out.l1]
  have HENC := Lib.hid (show EncOk Lq Rk from ⟨by rw [hLn]; exact hnn, (mk_acc HOK.out hF hP.out.l2 hK.out hLqe).1⟩)
  have hrk := hP.out.rk
  have hxa : Ext No w5 (w5.alloc (.cells #[.slice a S.deps.length c, .slice ar S.deps.length cr] 29)) := (Ext.refl _ _).alloc _
  have HP := Lib.hid (alloc_top (w := w5) (o := (.cells #[.slice a S.deps.length c, .slice ar S.deps.length cr] 29)) rfl)
  have HL5 := Lib.hid (show LAt kS No _ (.slice a S.deps.length c) Lq from (hLq.extNo hxa).no')
  have HK5 := Lib.hid (show LAt kD No _ (.slice ar S.deps.length cr) Rk from (hrk.extNo hxa).no')
  have HX5 := Lib.hid ((HX1.out.transNo hx5).transNo hxa)
  have HT5 := Lib.hid ((HT1.out.ext hx5).ext hxa)
  go_upto_region 6 with (fail)
  clear hF hP hK hx5 hLq hLqe hLql hLn hrk hxa HX1 HT1 HS1
  generalize (w5.alloc (.cells #[.slice a S.deps.length c, .slice ar S.deps.length cr] 29)) = V5 at *
  generalize w5.heap.size = PB at *
  have cP := cellOf HP.out
  go_wp2_with fail
  clear cP
  refine (rencode_any _ _ Lq Rk V5 HL5.out HK5.out).mono ?_
  rintro e6 w6 (⟨hno, -⟩ | ⟨-, s6, rfl, hO6, hx6⟩)
  ·exact absurd HENC.out hno
  have HLEN := Lib.hid (enc_len HENC.out)
  have hby : ∀ x ∈ sealB (encB Lq Rk), x < 256 := sealB_byte (encB_byte Lq Rk)
  have h4l := sealB_len (encB Lq Rk)
  obtain ⟨l6, hl6⟩ : ∃ l, l = sealB (encB Lq Rk) := ⟨_, rfl⟩
  rw [← hl6] at HLEN hby h4l hO6
  have hlen := HLEN.out
  have HBY := Lib.hid hby
  have HI6 := Lib.hid (hO6.out.ints (M := At tb) (fun k hk e => by have h1 := (hO6.out.lt k hk).1; have h2 := HT5.out.lt; unfold At at e; omega))
  obtain ⟨a6, c6, hs6⟩ := hO6.out.slice
  subst hs6
  have HX6 := Lib.hid (HX5.out.transNo hx6)
  have HT6 := Lib.hid (HT5.out.ext hx6)
  obtain ⟨q, hq⟩ : ∃ q, q = l6.length - 4 := ⟨_, rfl⟩
  have HCUT := Lib.hid (ints_cut HI6.out rfl (k := q) (by omega))
  have hsub : (l6.length : Int) - 4 = (q : Int) := by omega
  have hq0 : (0 : Int) ≤ (q : Int) := by omega
  have hqc : (q : Int) ≤ (c6 : Int) := by have := (Row.caps (show Row (At tb) w6 1 (.slice a6 l6.length c6) l6.length _ from by have h := HI6.out; unfold Ints at h; rw [show (natsZ l6).length = l6.length by simp [natsZ]] at h; exact h)).1; omega
  have hqw : IntKind.i64.wrap (q : Int) = (q : Int) := IntWalk.i64_in _ (by omega)
  have HQB := Lib.hid (show ∀ x ∈ l6.take q, x < 256 from fun x hx => hby x (List.mem_of_mem_take hx))
  have HQL := Lib.hid (show (l6.take q).length ≤ 700000 from by rw [List.length_take]; omega)
  clear hby hl6 hO6 hx6 HX5 HT5 HP HL5 HK5 hq
  go_wp2_with fail
  refine (decodes_any _ l6 w6 (HI6.out.mono (fun _ _ e => e.elim)) HBY.out (by omega)).mono ?_
  rintro e7 w7 ⟨rfl, hx7⟩
  go_wp2_with fail
  have HI7 := Lib.hid (Row.extNo HI6.out hx7)
  have HC7 := Lib.hid (Row.extNo HCUT.out hx7)
  refine (gbytes_any tb _ l6 w7 (HI7.out.mono (fun _ _ e => e.elim)) HBY.out (by omega) (HT6.out.ext hx7)).mono ?_
  rintro e8 w8 ⟨s8, l8, rfl, h8, hb8, hl8, ht8, hx8⟩
  have HX8 := Lib.hid ((HX6.out.transNo hx7).trans2 hx8 (fun i hi e => by unfold At at e; have := HTb.out; omega))
  have HC8 := Lib.hid (Row.ext HC7.out hx8 (fun _ _ e => e))
  have HT8 := Lib.hid ht8
  have HH8 := h8
  have HB8 := Lib.hid hb8
  clear HI6 HCUT HX6 HT6 hx7 HC7 h8 hb8 ht8 hx8
  go_wp2_with fail
  refine (decodes_any _ l8 w8 HH8.out HB8.out (by omega)).mono ?_
  rintro e9 w9 ⟨rfl, hx9⟩
  have HX9 := Lib.hid (HX8.out.transNo hx9)
  have HC9 := Lib.hid (Row.extNo HC8.out hx9)
  have HT9 := Lib.hid (HT8.out.ext hx9)
  clear HX8 HC8 HT8 HH8 HB8 hx9
  go_wp2_with fail
  refine (gbytes_any tb _ (l6.take q) w9 (show Ints No w9 .u8 (.slice a6 q c6) (natsZ (l6.take q)) from HC9.out.mono (fun _ _ e => e.elim)) HQB.out (by have := HQL.out; omega) HT9.out).mono ?_
  rintro e10 w10 ⟨s10, l10, rfl, h10, hb10, hl10, ht10, hx10⟩
  have HX10 := Lib.hid (HX9.out.trans2 hx10 (fun i hi e => by unfold At at e; have := HTb.out; omega))
  have HT10 := Lib.hid ht10
  have HB10 := Lib.hid hb10
  have hl10' : l10.length ≤ 700001 := by have := HQL.out; omega
  clear ht10 hb10 hx10 HX9 HC9 HT9 hl10
  go_wp2_with fail
  refine (rsealed_any _ l10 w10 h10.out (by omega) HB10.out).mono ?_
  rintro e11 w11 ⟨s11, rfl, hO11, hx11⟩
  have HI11 := Lib.hid (hO11.out.ints (M := No) (fun _ _ e => e))
  have HX11 := Lib.hid (HX10.out.transNo hx11)
  have HT11 := Lib.hid (HT10.out.ext hx11)
  clear hO11 hx11 HX10 HT10 h10
  go_wp2_with fail
  refine (decodes_any _ (l10 ++ ckB l10) w11 HI11.out (sealB_byte HB10.out) (by rw [List.length_append, ckB_len]; omega)).mono ?_
  rintro e12 w12 ⟨rfl, hx12⟩
  have HX12 := Lib.hid (HX11.out.transNo hx12)
  have HT12 := Lib.hid (HT11.out.ext hx12)
  clear hx12 HX11 HT11 HI11
  go_wp2_with fail
  go_roundw
  case rel => exact ⟨i + 1, by omega, HII.out, Lib.hid ⟨HT12.out, HX12.out⟩⟩
  case measure => simp [intOf]; omega
 have hge : ¬ (i : Int) < 6 := by omega
 have HX := Lib.hid hm.out.2
 clear hm
 by_cases hbig : (300 : Int) < (b.length : Int)
 ·go_wp2_with fail
  refine (sane17_any _ (HTB.out.ext HX.out)).mono ?_
  rintro e4 w4 ⟨rfl, hx4⟩
  replace HX := Lib.hid (HX.out.transNo hx4)
  clear hx4
  go_wp2_with fail
  go_ret
  exact ⟨rfl, HX.out⟩
 go_wp2_with fail
 refine (decodes_any _ b wr (Row.extNo HS.out HX.out) HB.out (by omega)).mono ?_
 rintro e2 w2 ⟨rfl, hx2⟩
 replace HX := Lib.hid (HX.out.transNo hx2)
 clear hx2
 go_wp2_with fail
 refine (rsealed_any _ b w2 (Row.extNo HS.out HX.out) (by omega) HB.out).mono ?_
 rintro e3 w3 ⟨s3, rfl, hO3, hx3⟩
 have HI3 := Lib.hid (hO3.out.ints (M := No) (fun _ _ e => e))
 replace HX := Lib.hid (HX.out.transNo hx3)
 clear hO3 hx3
 go_wp2_with fail
 refine (decodes_any _ (b ++ ckB b) w3 HI3.out (sealB_byte HB.out) (by rw [List.length_append, ckB_len]; omega)).mono ?_
 rintro e4 w4 ⟨rfl, hx4⟩
 replace HX := Lib.hid (HX.out.transNo hx4)
 clear hx4
 go_wp2_with fail
 refine (sane17_any _ (HTB.out.ext HX.out)).mono ?_
 rintro e5 w5 ⟨rfl, hx5⟩
 replace HX := Lib.hid (HX.out.transNo hx5)
 clear hx5
 go_wp2_with fail
 go_ret
 exact ⟨rfl, HX.out⟩

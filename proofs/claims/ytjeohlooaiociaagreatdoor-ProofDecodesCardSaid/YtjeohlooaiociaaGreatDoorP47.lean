
import Derived.Test.YtjeohlooaiociaaGreatDoorP44
import Derived.Laws.BytesArg
set_option linter.unusedVariables false
set_option linter.unusedSimpArgs false
namespace Go.Proofs.YtjeohlooaiociaaGreatDoor
open Go Go.RowKit
theorem ranked_cons {p : RawSet × Value} {q : List Int × Value} {Lv : LS} {R : LD} : RankedP (p :: Lv) (q :: R) ↔ RankOk p.1 q.1 ∧ RankedP Lv R := by
 refine ⟨fun h => ⟨h.2 0 (by simp) (by simp), by simpa using h.1, fun n h1 h2 => ?_⟩, fun h => ⟨by simpa using h.2.1, fun n h1 h2 => ?_⟩⟩
 ·have := h.2 (n + 1) (by simpa using h1) (by simpa using h2)
  simpa using this
 cases n with
 | zero => exact h.1
 | succ n => exact h.2.2 n (by simpa using h1) (by simpa using h2)
theorem ofN_lt45 {w : Nat} {ms : List Nat} (h : ∀ x ∈ ms, x < w) : ofN (natsZ ms) < 2 ^ w := Nat.lt_pow_two_of_testBit _ (fun i hi => by
 rw [ofN_test]
 simp only [decide_eq_false_iff_not]
 intro h2
 have := h i h2
 omega)
theorem flat_toNat : ∀ (l : List Int), rowB l = (l.map Int.toNat).flatMap uv
 | [] => rfl
 | x :: l => by
  have := flat_toNat l
  unfold rowB at this ⊢
  rw [List.flatMap_cons, List.map_cons, List.flatMap_cons, this]
theorem toNat_natsZ : ∀ (l : List Nat), (natsZ l).map Int.toNat = l
 | [] => rfl
 | x :: l => by
  have := toNat_natsZ l
  unfold natsZ at this ⊢
  rw [List.map_cons, List.map_cons, this, Int.toNat_natCast]
theorem row_rankOk {x : (Nat × List Nat) × List Nat} (h : RowOk x) : RankOk (rowSet x) (rowRk x) ∧ setR (rowSet x) ++ rowB (rowRk x) = rowE x := by
 obtain ⟨h1, h2, h3, h4, h5⟩ := h
 have hlt := ofN_lt45 h3
 refine ⟨⟨x.1.1, ofN (natsZ x.1.2), h1, hlt, rfl, ?_, fun k hk => ?_⟩, ?_⟩
 ·rw [memN_cast, memN_of h2 h3]
  unfold rowRk
  simp [natsZ, h4]
 ·unfold rowRk at hk ⊢
  have hm := List.getElem_mem hk
  obtain ⟨y, hy, he⟩ := List.mem_map.1 hm
  have := h5 y hy
  rw [← he]
  unfold RkBad
  omega
 unfold rowSet rowE
 rw [setR_set hlt, memN_of h2 h3, flat_toNat]
 unfold rowRk
 rw [toNat_natsZ]
theorem rows_ranked : ∀ (L : List ((Nat × List Nat) × List Nat)) (Lv : LS) (R : LD), Lv.map Prod.fst = L.map rowSet → R.map Prod.fst = L.map rowRk → (∀ x ∈ L, RowOk x) → RankedP Lv R ∧ (Lv.zip R).flatMap itemB = L.flatMap rowE
 | [], [], [], _, _, _ => ⟨⟨rfl, fun n h => absurd h (Nat.not_lt_zero _)⟩, rfl⟩
 | [], _ :: _, _, h, _, _ => by simp at h
 | [], [], _ :: _, _, h, _ => by simp at h
 | _ :: _, [], _, h, _, _ => by simp at h
 | _ :: _, _ :: _, [], _, h, _ => by simp at h
 | x :: L, p :: Lv, q :: R, h1, h2, h3 => by
  rw [List.map_cons, List.map_cons, List.cons.injEq] at h1 h2
  obtain ⟨g1, g2⟩ := rows_ranked L Lv R h1.2 h2.2 (fun y hy => h3 y (List.mem_cons_of_mem _ hy))
  obtain ⟨k1, k2⟩ := row_rankOk (h3 x (List.mem_cons_self ..))
  rw [← h1.1, ← h2.1] at k1 k2
  refine ⟨ranked_cons.2 ⟨k1, g1⟩, ?_⟩
  rw [List.zip_cons_cons, List.flatMap_cons, List.flatMap_cons, g2, ← k2]; rfl
theorem rows_enc {b : List Nat} {L : List ((Nat × List Nat) × List Nat)} {Lv : LS} {R : LD} (hb : ∀ x ∈ b, x < 256) (h : rdProof b = some L) (h1 : Lv.map Prod.fst = L.map rowSet) (h2 : R.map Prod.fst = L.map rowRk) : EncOk Lv R ∧ encB Lv R = b := by
 obtain ⟨k1, k2, k3⟩ := rdProof_some hb h
 obtain ⟨g1, g2⟩ := rows_ranked L Lv R h1 h2 k3
 have hl : Lv.length = L.length := map_len44 h1
 refine ⟨⟨by omega, g1⟩, ?_⟩
 rw [k1]
 unfold encB proofE
 rw [hl, g2]
theorem sealB_len (l : List Nat) : 4 ≤ (sealB l).length := by
 unfold sealB
 rw [List.length_append, ckB_len]; omega
end Go.Proofs.YtjeohlooaiociaaGreatDoor

namespace Go.Proofs.YtjeohlooaiociaaGreatDoor
open Go Go.RowKit
def strB (l : List Nat) : ByteArray := strOfNums (natsZ l)
theorem conv_any {M : Nat → Prop} {w : World} {sl : Value} {l : List Nat} (h : Ints M w .u8 sl (natsZ l)) : (convert 53 9 sl).run Tryz.prog w = .ok (.string (strB l)) w := by
 have hz : (natsZ l).length = l.length := by simp [natsZ]
 cases l with
 | nil =>
  obtain ⟨_, _, a, c, rfl, _, _⟩ := h
  cases a with
  | none =>
   rw [run_convert_bytes_nil w 53 5 Tryz.underlying53 Tryz.underlying5 _ _ _ Tryz.underlying9]
   rfl
  | some ad =>
   rw [hz, run_convert_bytes_string w 53 9 5 _ _ c Tryz.underlying53 Tryz.underlying5 Tryz.underlying9]
   rw [run_bytesToString w ad _ c [] (by simp [loadCells, loadCellsFrom, Sem.run_pure])]
   rfl
 | cons x l =>
  obtain ⟨b, o, k, rfl, hc⟩ := ints_u8 h (k := 0) (by simp)
  have h1 := run_convert_bytes_arg (P := Tryz.prog) w 53 5 Tryz.underlying53 Tryz.underlying5 b o (x :: l).length k (natsZ (x :: l)) hz (fun i hi => by
   rw [hc i hi]
   simp only [natsZ, List.getD_eq_getElem?_getD, List.getElem?_map, List.getElem?_eq_getElem hi, Option.map_some, Option.getD_some]) 9 Tryz.underlying9
  exact h1
theorem strB_inj {l k : List Nat} (hl : ∀ x ∈ l, x < 256) (hk : ∀ x ∈ k, x < 256) (h : strB l = strB k) : l = k := by
 have h1 := congrArg (fun s : ByteArray => s.data.toList) h
 simp only [strB, strOfNums_data] at h1
 have h2 : ∀ l : List Nat, (∀ x ∈ l, x < 256) → ((natsZ l).map fun n => UInt8.ofNat n.toNat).map UInt8.toNat = l := by
  intro l
  induction l with
  | nil => intro _; rfl
  | cons x l ih =>
   intro hl
   have h3 := hl x (List.mem_cons_self ..)
   have h4 := ih (fun y hy => hl y (List.mem_cons_of_mem _ hy))
   unfold natsZ at h4 ⊢
   rw [List.map_cons, List.map_cons, List.map_cons, h4]
   congr 1
   rw [Int.toNat_natCast]
   simp [UInt8.toNat_ofNat]
   omega
 rw [← h2 l hl, ← h2 k hk, h1]
theorem str_ne {a b : ByteArray} (h : ¬ a = b) : (a.toList == b.toList) = false := by
 cases e : (a.toList == b.toList) with
 | false => rfl
 | true =>
  have h2 := eq_of_beq e
  rw [ByteArray.toList_eq, ByteArray.toList_eq] at h2
  obtain ⟨⟨l⟩⟩ := a
  obtain ⟨⟨k⟩⟩ := b
  simp only at h2
  exact absurd (by rw [h2]) h
theorem str_eq (a : ByteArray) : (a.toList == a.toList) = true := beq_self_eq_true _
end Go.Proofs.YtjeohlooaiociaaGreatDoor

namespace Go.Proofs.YtjeohlooaiociaaGreatDoor
open Go Go.RowKit
theorem bodyB_byte {b : List Nat} (hb : ∀ x ∈ b, x < 256) : ∀ x ∈ bodyB b, x < 256 := fun x hx => hb x (List.mem_of_mem_take hx)
set_option maxRecDepth 100000 in
set_option maxHeartbeats 16000000 in
theorem decodes_any (sl : Value) (b : List Nat) (W : World) (h : Ints No W .u8 sl (natsZ b)) (hb : ∀ x ∈ b, x < 256) (hl : b.length ≤ 1099511627776) :
  Calls Tryz.prog 25 #[sl] W (BoolPost true W) := by
 have HH := Lib.hid h
 have HBY := Lib.hid hb
 obtain ⟨aw, cw, rfl, hbc, hcc⟩ : ∃ a c, sl = .slice a b.length c ∧ b.length ≤ c ∧ c ≤ 9223372036854775807 := by
  obtain ⟨_, _, a, c, rfl, hcp, _⟩ := h
  rw [show (natsZ b).length = b.length by simp [natsZ]] at hcp
  exact ⟨a, c, by simp [natsZ], hcp.1, hcp.2⟩
 clear h hb
 go_enter Tryz.func25, Tryz.ntmps25
 go_wp2_with fail
 refine (decode_any _ b W HH.out HBY.out hl).mono ?_
 rintro e1 w1 hop
 rcases hop with ⟨z, hz, rfl, hx1⟩ | ⟨L, vv, vr, Lv, R, h4, heq, hL, rfl, hv, hr, eL, eR, hx1⟩
 ·go_upto_region 2 with (fail)
  have hxa : Ext No W (w1.alloc (.cells #[.slice none 0 0, .slice none 0 0] 29)) := hx1.alloc _
  have HBX := Lib.hid (alloc_top (w := w1) (o := (.cells #[.slice none 0 0, .slice none 0 0] 29)) rfl)
  have HX := Lib.hid hxa
  have HZ := Lib.hid hz
  clear hx1 hxa hz
  generalize (w1.alloc (.cells #[.slice none 0 0, .slice none 0 0] 29)) = V at *
  generalize w1.heap.size = BX at *
  have cX := cellOf HBX.out
  by_cases h4 : b.length < 4
  ·have h4z : (b.length : Int) < 4 := by omega
   obtain rfl : z = 12 := by
    rcases HZ.out with h | h | h
    ·exact h.1
    ·have := h.2.1; omega
    have := h.2.1; omega
   go_wp2_with fail
   go_ret
   exact ⟨rfl, HX.out⟩
  have h4z : ¬ (b.length : Int) < 4 := by omega
  have HZ2 := Lib.hid (show (z = 14 ∧ sealB (bodyB b) ≠ b) ∨ (z = 13 ∧ sealB (bodyB b) = b) from by
   rcases HZ.out with h | h | h
   ·exact absurd h.2 h4
   ·exact .inl ⟨h.1, h.2.2⟩
   exact .inr ⟨h.1, h.2.2.1⟩)
  have hznz : z = 14 ∨ z = 13 := by
   rcases HZ2.out with h | h
   ·exact .inl h.1
   exact .inr h.1
  have hz0 : ¬ z = 0 := by omega
  obtain ⟨n, hn⟩ : ∃ n, n = b.length - 4 := ⟨_, rfl⟩
  have hbl : (bodyB b).length = n := by unfold bodyB; rw [List.length_take]; omega
  have hc0 : Row No W 1 (.slice aw n cw) n (((natsZ b).map (.int .u8)).take (n * 1)) := by
   have h' := HH.out
   unfold Ints at h'
   rw [show (natsZ b).length = b.length by simp [natsZ]] at h'
   exact Row.cutK h' hcc hbc (by omega)
  have hc1 : Ints No W .u8 (.slice aw n cw) (natsZ (bodyB b)) := by
   unfold Ints
   rw [show (natsZ (bodyB b)).length = n by simp [natsZ, hbl]]
   rw [show (natsZ (bodyB b)).map (Value.int .u8) = ((natsZ b).map (.int .u8)).take (n * 1) by unfold bodyB natsZ; rw [Nat.mul_one, ← hn, List.map_take, List.map_take]]
   exact hc0
  have HBD := Lib.hid (show Ints No V .u8 (.slice aw n cw) (natsZ (bodyB b)) from Row.extNo hc1 HX.out)
  have HI2 := Lib.hid (show Ints No V .u8 (.slice aw b.length cw) (natsZ b) from Row.extNo HH.out HX.out)
  have HBL := Lib.hid hbl
  have HBB := Lib.hid (bodyB_byte HBY.out)
  have hsub : (b.length : Int) - 4 = (n : Int) := by omega
  have hn0 : (0 : Int) ≤ (n : Int) := by omega
  have hnc : (n : Int) ≤ (cw : Int) := by omega
  have hnl : n ≤ 1099511627776 := by omega
  have hwn : IntKind.i64.wrap (n : Int) = (n : Int) := IntWalk.i64_in _ (by omega)
  obtain ⟨sb, hsb⟩ : ∃ s, s = strB b := ⟨_, rfl⟩
  obtain ⟨ss, hss⟩ : ∃ s, s = strB (sealB (bodyB b)) := ⟨_, rfl⟩
  have HSB := Lib.hid hsb
  have HSS := Lib.hid hss
  have HEQ := Lib.hid (show ss = sb ↔ sealB (bodyB b) = b from ⟨fun e => strB_inj (fun x hx => by
   rcases List.mem_append.1 hx with hx | hx
   ·exact bodyB_byte HBY.out x hx
   exact ckB_byte (bodyB_byte HBY.out) x hx) HBY.out (by rw [← hss, ← hsb]; exact e), fun e => by rw [hss, hsb, e]⟩)
  clear hn hbl hc0 hc1 hsb hss
  generalize hV2 : V = V2 at *
  clear hV2
  have hfin : ∀ w9, Ext No V2 w9 → Ext No W w9 := fun w9 h => HX.out.transNo h
  have HFIN := Lib.hid hfin
  clear hfin
  go_upto_region 9 with (fail)
  refine wp_region_held_drew (S := (fun w' => Ext No V2 w')) (by kernel_rfl) ?_ (fun hHeld => ?_)
  ·exact (Ext.refl _ _).drew
  have HE := Lib.hid (show Ext No V2 V2.drew from (Ext.refl No _).drew)
  generalize V2.drew = v0 at *
  refine hHs [0, 1, 2, 3, 4, 7] ?_
  iterate 6
   refine hTn ?_ hHeld (fun w hSw => ?_) ?_
   rotate_left
   ·go_simp; (try with_reducible rfl)
   simp only [Act.put, nzA, nzB, nzC]
  refine hHe ?_
  refine hTk 8 ?_ hHeld (fun w hSw => ?_) ?_
  rotate_left
  ·(have k2 := conv_any (show Ints No w .u8 (.slice aw b.length cw) (natsZ b) from Row.extNo HI2.out hSw)); rw [← HSB.out] at k2; go_simp; (try with_reducible rfl)
  simp only [Act.put, nzA, nzB, nzC]
  refine hHc 5 fun K hK => ?_
  (go_simp; (go_at_call 27); (refine (rsealed_any (.slice aw n cw) (bodyB b) _ (show Ints No _ .u8 (.slice aw n cw) (natsZ (bodyB b)) from Row.extNo HBD.out HE.out) (by rw [HBL.out]; omega) HBB.out).mono ?_); (rintro e9 w9 ⟨s9, rfl, hO9, hx9⟩); go_simp)
  refine hK.out _ _ ?_ ?_
  ·exact HE.out.transNo hx9
  clear hK K hHeld
  intro hHeld
  have HO9 := Lib.hid (hO9.out.ints (M := No) (fun _ _ e => e))
  replace HE := Lib.hid (HE.out.transNo hx9)
  clear hO9 hx9
  try simp only [Act.put, nzA, nzB, nzC]
  refine hHc 6 fun K hK => ?_
  ((have k1 := conv_any HO9.out); rw [show bodyB b ++ ckB (bodyB b) = sealB (bodyB b) from rfl, ← HSS.out] at k1; go_simp)
  refine hK.out _ _ ?_ ?_
  ·exact HE.out
  clear hK K hHeld
  intro hHeld
  try simp only [Act.put, nzA, nzB, nzC]
  refine hTk 9 ?_ hHeld (fun w hSw => ?_) ?_
  rotate_left
  ·go_simp; (try with_reducible rfl)
  simp only [Act.put, nzA, nzB, nzC]
  refine wpAnyH_done (by kernel_rfl) ?_ _
  clear cX
  rcases HZ2.out with ⟨rfl, hne⟩ | ⟨rfl, heq⟩
  ·have hne2 : (ss.toList == sb.toList) = false := str_ne (fun e => hne (HEQ.out.1 e))
   rw [hne2]
   go_wp2_with fail
   go_ret
   exact ⟨rfl, HFIN.out _ HE.out⟩
  have he2 : ss = sb := HEQ.out.2 heq
  subst he2
  have hs2 := str_eq ss
  rw [hs2]
  go_wp2_with fail
  go_ret
  exact ⟨rfl, HFIN.out _ HE.out⟩
 obtain ⟨hok, hen⟩ := rows_enc (bodyB_byte HBY.out) hL eL eR
 obtain ⟨av, cv, hvs⟩ := hv.out.slice
 obtain ⟨ar, cr, hrs⟩ := hr.out.slice
 subst hvs hrs
 go_upto_region 2 with (fail)
 have hxb : Ext No w1 (w1.alloc (.cells #[.slice av Lv.length cv, .slice ar R.length cr] 29)) := (Ext.refl _ _).alloc _
 have HBX := Lib.hid (alloc_top (w := w1) (o := (.cells #[.slice av Lv.length cv, .slice ar R.length cr] 29)) rfl)
 have HX := Lib.hid (hx1.transNo hxb)
 have HV := Lib.hid (hv.out.extNo hxb)
 have HR := Lib.hid (hr.out.extNo hxb)
 have HOK := Lib.hid hok
 have HEN := Lib.hid (show sealB (encB Lv R) = b from by rw [hen]; exact heq)
 clear hx1 hxb hv hr hok hen heq hL eL eR
 generalize (w1.alloc (.cells #[.slice av Lv.length cv, .slice ar R.length cr] 29)) = V at *
 generalize w1.heap.size = BX at *
 have cX := cellOf HBX.out
 go_wp2_with fail
 clear cX
 refine (rencode_any _ _ Lv R V HV.out HR.out).mono ?_
 rintro e2 w2 (⟨hno, -⟩ | ⟨-, s2, rfl, hO2, hx2⟩)
 ·exact absurd HOK.out hno
 have hI2 : Ints No w2 .u8 s2 (natsZ b) := by
  have h := hO2.out.ints (M := No) (fun _ _ e => e)
  rw [HEN.out] at h
  exact h
 have hIB : Ints No w2 .u8 (.slice aw b.length cw) (natsZ b) := Row.extNo HH.out (HX.out.transNo hx2)
 have k1 := conv_any hI2
 have k2 := conv_any hIB
 have HXF := Lib.hid (HX.out.transNo hx2)
 obtain ⟨sb, hsb⟩ : ∃ s, s = strB b := ⟨_, rfl⟩
 rw [← hsb] at k1 k2
 have hs2 := str_eq sb
 clear hsb hI2 hIB hO2 hx2
 go_wp2_with fail
 go_ret
 exact ⟨rfl, HXF.out⟩


import Derived.Test.YtjeohlooaiociaaGreatDoorP43
set_option linter.unusedVariables false
set_option linter.unusedSimpArgs false
namespace Go.Proofs.YtjeohlooaiociaaGreatDoor
open Go Go.RowKit
def rowSet (x : (Nat × List Nat) × List Nat) : RawSet := setN x.1.1 (ofN (natsZ x.1.2))
def rowRk (x : (Nat × List Nat) × List Nat) : List Int := natsZ x.2
def DecPost (b : List Nat) (W : World) (e : Ending) (w' : World) : Prop :=
 (∃ z : Int, ((z = 12 ∧ b.length < 4) ∨ (z = 14 ∧ 4 ≤ b.length ∧ sealB (bodyB b) ≠ b) ∨ (z = 13 ∧ 4 ≤ b.length ∧ sealB (bodyB b) = b ∧ rdProof (bodyB b) = none)) ∧ e = .returned (.tuple #[.agg #[.slice none 0 0, .slice none 0 0], .int .i64 z]) ∧ Ext No W w') ∨
 (∃ (L : List ((Nat × List Nat) × List Nat)) (vv vr : Value) (Lv : LS) (R : LD), 4 ≤ b.length ∧ sealB (bodyB b) = b ∧ rdProof (bodyB b) = some L ∧ e = .returned (.tuple #[.agg #[vv, vr], .int .i64 0]) ∧ Hid (LAt kS No w' vv Lv) ∧ Hid (LAt kD No w' vr R) ∧ Lv.map Prod.fst = L.map rowSet ∧ R.map Prod.fst = L.map rowRk ∧ Ext No W w')
theorem cnt_rd (st : Option (List Nat)) : cntN (ofN (natsZ (rdSet st).1.2)) (nw (rdSet st).1.1) = (rdSet st).1.2.length ∧ ofN (natsZ (rdSet st).1.2) < 2 ^ (rdSet st).1.1 := by
 obtain ⟨h1, h2, h3⟩ := rdSet_ok st
 have hlt : ofN (natsZ (rdSet st).1.2) < 2 ^ (rdSet st).1.1 := by
  refine Nat.lt_pow_two_of_testBit _ (fun i hi => ?_)
  rw [ofN_test]
  simp only [decide_eq_false_iff_not]
  intro h
  have := h3 i h
  omega
 refine ⟨?_, hlt⟩
 rw [count_members hlt, memN_cast, memN_of h2 h3]
 simp [natsZ]
theorem map_len44 {α β γ : Type} {l : List α} {k : List β} {f : α → γ} {g : β → γ} (h : l.map f = k.map g) : l.length = k.length := by
 have := congrArg List.length h
 simpa using this
set_option maxRecDepth 100000 in
set_option maxHeartbeats 16000000 in
theorem decode_any (sl : Value) (b : List Nat) (W : World) (h : Ints No W .u8 sl (natsZ b)) (hb : ∀ x ∈ b, x < 256) (hl : b.length ≤ 1099511627776) :
  Calls Tryz.prog 29 #[sl] W (DecPost b W) := by
 obtain ⟨iB, hiB, hB0, hB1, hB2⟩ := info_parts infoI36
 obtain ⟨iD, hiD, hD0, hD1, hD2⟩ := info_parts infoD24
 obtain ⟨iS, hiS, hS0, hS1, hS2⟩ := info_parts infoS
 have HH := Lib.hid h
 have HBY := Lib.hid hb
 obtain ⟨aw, cw, rfl⟩ : ∃ a c, sl = .slice a b.length c := by
  obtain ⟨_, _, a, c, rfl, _, _⟩ := h
  exact ⟨a, c, by simp [natsZ]⟩
 clear h hb
 go_enter Tryz.func29, Tryz.ntmps29
 go_upto_region 1 with (fail)
 have hx0 : Ext No W (W.alloc (.cells #[.slice none 0 0, .slice none 0 0] 29)) := (Ext.refl _ _).alloc _
 have HC := Lib.hid (alloc_top (w := W) (o := (.cells #[.slice none 0 0, .slice none 0 0] 29)) rfl)
 have HI := Lib.hid (show Ints No (W.alloc (.cells #[.slice none 0 0, .slice none 0 0] 29)) .u8 (.slice aw b.length cw) (natsZ b) from Row.extNo HH.out hx0)
 have HX := Lib.hid hx0
 clear hx0 HH
 generalize (W.alloc (.cells #[.slice none 0 0, .slice none 0 0] 29)) = V at *
 go_wp2_with fail
 refine (uopen_any _ b V HI.out HBY.out hl).mono ?_
 rintro e1 w1 hop
 rcases hop with ⟨h4, rfl, hx1⟩ | ⟨h4, hne, rfl, hx1⟩ | ⟨h4, heq, E, s1, rfl, hr1, hi1, hE1, hx1⟩
 ·have HB1 := hx1.blk HC.out no_no
  have cC := cellOf HB1
  have fC := freeOf HB1
  have hC1 := lt_of_block HB1
  go_wp2_with fail
  refine ret_ex rfl ?_
  have cF := cellOf (fin2p24 HB1 (.slice none 0 0) (.slice none 0 0))
  clear cC fC
  simp [results, Tryz.results29, go_sem, cF]
  exact .inl ⟨12, .inl ⟨rfl, h4⟩, rfl, (HX.out.transNo hx1).trans2 (((Ext.refl (At W.heap.size) w1).setAt _ _).setAt _ _) (fun i hi e => by unfold At at e; omega)⟩
 ·have HB1 := hx1.blk HC.out no_no
  have cC := cellOf HB1
  have fC := freeOf HB1
  have hC1 := lt_of_block HB1
  go_wp2_with fail
  refine ret_ex rfl ?_
  have cF := cellOf (fin2p24 HB1 (.slice none 0 0) (.slice none 0 0))
  clear cC fC
  simp [results, Tryz.results29, go_sem, cF]
  exact .inl ⟨14, .inr (.inl ⟨rfl, h4, hne⟩), rfl, (HX.out.transNo hx1).trans2 (((Ext.refl (At W.heap.size) w1).setAt _ _).setAt _ _) (fun i hi e => by unfold At at e; omega)⟩
 have HOK := Lib.hid (And.intro h4 heq)
 obtain ⟨l, hlb⟩ : ∃ l, l = bodyB b := ⟨_, rfl⟩
 have hll : l.length ≤ b.length := by rw [hlb]; unfold bodyB; rw [List.length_take]; omega
 have hlby : ∀ x ∈ l, x < 256 := fun x hx => HBY.out x (by rw [hlb] at hx; exact List.mem_of_mem_take hx)
 have HLBY := Lib.hid hlby
 rw [← hlb] at hr1 hi1
 have HLB := Lib.hid hlb
 have hVE : V.heap.size ≤ E := hE1
 have hEw := hr1.box
 have hQb : (w1.alloc (.cells #[.slice none 0 0, .slice none 0 0] 29)).heap.size = w1.heap.size + 1 := by simp
 have hVw := hx1.size
 have hxq : Ext No w1 (w1.alloc (.cells #[.slice none 0 0, .slice none 0 0] 29)) := (Ext.refl _ _).alloc _
 have hm0 : DecM V (w1.alloc (.cells #[.slice none 0 0, .slice none 0 0] 29)) (w1.heap.size + 1) E w1.heap.size (w1.heap.size + 1) s1 l (some l) (.slice none 0 0) (.slice none 0 0) [] [] :=
  ⟨hx1.transNo hxq, hVE, by omega, by omega, by omega, by omega, Nat.le_refl _, by omega, Row.extNo hi1 hxq, hr1.ext hxq no_no, alloc_top rfl, LOwn.nil _ _ _ _, RwM.nil _ _, fun k hk => (by cases hk), fun k hk => (by
   rcases hk with hk | ⟨_, hk, _⟩
   ·cases hk
   cases hk)⟩
 have HM0 := Lib.hid hm0
 obtain ⟨a1, c1, hs1⟩ : ∃ a c, s1 = .slice a l.length c := by
  obtain ⟨_, _, a, c, rfl, _, _⟩ := hi1
  exact ⟨a, c, by simp [natsZ]⟩
 subst hs1
 have hl2 : l.length ≤ 1099511627776 := by omega
 have HWB := Lib.hid (show W.heap.size < w1.heap.size + 1 from by have := HX.out.size; omega)
 have HQV := Lib.hid hVw
 go_upto_region 5 with (fail)
 clear hm0 hr1 hi1 hE1 hx1 hxq hlb hll hlby h4 heq hQb hEw hVE hVw
 generalize (w1.alloc (.cells #[.slice none 0 0, .slice none 0 0] 29)) = V1 at *
 generalize w1.heap.size = Q at *
 go_wp2_with fail
 refine (number_any (fun i => V.heap.size ≤ i) E 256 _ l (some l) V1 HM0.out.rd HM0.out.src HM0.out.low HLBY.out hl2 (by omega)).mono ?_
 rintro e2 w2 ⟨rfl, hr2, hx2⟩
 have hm1 := HM0.out.step hx2 hr2
 have hn256 := rdNum_le 256 (some l)
 have HPR : Hid (rdProof l = let q := rdRows (rdNum 256 (some l)).1 (rdNum 256 (some l)).2; if q.2 = some [] then some q.1 else none) := Lib.hid rfl
 obtain ⟨n, hn⟩ : ∃ n, n = (rdNum 256 (some l)).1 := ⟨_, rfl⟩
 obtain ⟨s0, hs0⟩ : ∃ s, s = (rdNum 256 (some l)).2 := ⟨_, rfl⟩
 rw [← hs0] at hm1
 rw [← hn, ← hs0] at HPR
 rw [← hn] at hn256 ⊢
 have HM1 := Lib.hid hm1
 clear hr2 hx2 hm1 hn hs0 HM0
 go_wp2_with fail
 go_loopw [7, 8, 20] (fun _ _ i wr => ∃ (k m : Nat) (st : Option (List Nat)) (vv vr : Value) (Lv : LS) (R : LD) (L : List ((Nat × List Nat) × List Nat)), k ≤ n ∧ i = .int .i64 (k : Int) ∧ Hid (DecM V wr m E Q (Q + 1) (.slice a1 l.length c1) l st vv vr Lv R) ∧ Hid (rdRows n s0 = (L ++ (rdRows (n - k) st).1, (rdRows (n - k) st).2)) ∧ Hid (Lv.map Prod.fst = L.map rowSet) ∧ Hid (R.map Prod.fst = L.map rowRk) ∧ Hid (L.length = k)) (fun _ _ i _ => n - (intOf i).toNat)
 case atStart => exact ⟨0, _, s0, _, _, [], [], [], Nat.zero_le _, rfl, HM1, Lib.hid (by simp), Lib.hid rfl, Lib.hid rfl, Lib.hid rfl⟩
 clear HM1
 obtain ⟨k, m, st, vv, vr, Lv, R, L, hk, rfl, hm, hE, hLv, hR, hLk⟩ := hrel
 rename World => wr
 have HLV := Lib.hid (show Lv.length = k from (map_len44 hLv.out).trans hLk.out)
 have HRL := Lib.hid (show R.length = k from (map_len44 hR.out).trans hLk.out)
 obtain ⟨aV, cV, eV⟩ := hm.out.v.slice
 obtain ⟨aR, cR, eR⟩ := hm.out.r.slice
 rw [HLV.out] at eV
 rw [HRL.out] at eR
 subst eV eR
 by_cases hlt : k < n
 ·have hlz : (k : Int) < (n : Int) := by omega
  have HKK : Hid (Value.int .i64 ((k : Int) + 1) = .int .i64 ((k + 1 : Nat) : Int)) := Lib.hid (by rw [show ((k + 1 : Nat) : Int) = (k : Int) + 1 from by omega])
  go_wp2_with fail
  refine (rdset_any (fun i => V.heap.size ≤ i) (fun i => i < wr.heap.size) E _ l st wr hm.out.rd hm.out.src hm.out.low (fun _ h => h) HLBY.out hl2).mono ?_
  rintro e3 w3 ⟨a3, c3, rfl, hs3, hr3, hx3⟩
  have hm3 := hm.out.step hx3 hr3.out
  obtain ⟨hx256, hasc, hlx⟩ := rdSet_ok st
  obtain ⟨hcnt, hmlt⟩ := cnt_rd st
  obtain ⟨p, hp⟩ : ∃ p, p = rdSet st := ⟨_, rfl⟩
  have hE9 := hE.out
  rw [show n - k = (n - (k + 1)) + 1 by omega] at hE9
  rw [rdRows] at hE9
  simp only at hE9
  rw [← hp] at hs3 hm3 hx256 hasc hlx hcnt hmlt hE9 ⊢
  obtain ⟨⟨x, ms⟩, s3⟩ := p
  simp only at hs3 hm3 hx256 hasc hlx hcnt hmlt hE9 ⊢
  obtain ⟨mm, hmm⟩ : ∃ mm, mm = ofN (natsZ ms) := ⟨_, rfl⟩
  rw [← hmm] at hs3 hcnt hmlt
  have hml256 : ms.length ≤ 256 := by
   have h1 := memN_len x (ofN (natsZ ms))
   rw [memN_of hasc hlx] at h1
   omega
  have HMM := Lib.hid hmm
  have HMS := Lib.hid (And.intro hasc hlx)
  have HCN := Lib.hid hcnt
  have HE9 := Lib.hid hE9
  have hw3 := hx3.size
  have hwr3 := hm.out.nh
  clear hasc hlx hcnt hE9 hp hmm hr3 hE hmlt
  go_upto_region 9 with (fail)
  have hxb : Ext No w3 (w3.alloc (.cells #[.int .i64 (x : Int), .slice a3 (nw x) c3] 50)) := (Ext.refl _ _).alloc _
  have HBV := Lib.hid (alloc_top (w := w3) (o := (.cells #[.int .i64 (x : Int), .slice a3 (nw x) c3] 50)) rfl)
  have HM3 := Lib.hid (hm3.stepNo hxb)
  have HS3 := Lib.hid (show SetAt (fun i => i < wr.heap.size) _ (.slice a3 (nw x) c3) x mm from hs3.out.extNo hxb)
  have HWV := Lib.hid (show wr.heap.size ≤ w3.heap.size from hw3)
  have HB3 := Lib.hid (show E < w3.heap.size from hm3.rd.box)
  clear hxb hm3 hs3 hx3 hw3
  generalize (w3.alloc (.cells #[.int .i64 (x : Int), .slice a3 (nw x) c3] 50)) = V3 at *
  generalize w3.heap.size = B3 at *
  have cV := cellOf HBV.out
  go_wp2_with fail
  clear cV
  refine (count_any x mm _ V3 (HS3.out.mono (fun _ _ e => e.elim))).mono ?_
  rintro e5 w5 ⟨rfl, hx5⟩
  rw [HCN.out]
  have hm5 := HM3.out.stepNo hx5
  have HM5 := Lib.hid (hm5.lift hm5.nh (Nat.le_refl _))
  have HS5 := Lib.hid (show WordsAt (fun b => DMask V.heap.size E Q (.slice aR k cR) R w5.heap.size b ∨ Value.ownBlock (.slice aV k cV) = some b) w5 (.slice a3 (nw x) c3) (setN x mm).words from by
   have h1 := (HS3.out.extNo hx5).words
   have h2 := hx5.size
   have h3 := HWV.out
   refine h1.mono (fun i hi e => ?_)
   have h4 := hm.out.rd.box
   have h5 := lt_of_block hm.out.box
   have h6 := hm.out.ext.size
   rcases e with (e | e | e | e | e) | e
   ·omega
   ·omega
   ·exact (hm.out.r.lt i e).2
   ·omega
   ·omega
   exact (hm.out.v.lt i e).2)
  have HBV5 := Lib.hid (hx5.blk HBV.out no_no)
  have hB5 := lt_of_block HBV5.out
  clear hx5 hm5 HM3 HS3 HBV HWV hm hwr3
  have hr5 := HM5.out.rd
  go_wp2_with fail
  go_loopw [8, 26] (fun s8 i wz => ∃ (j jj : Nat) (rl : List Nat) (sj : Option (List Nat)) (a : Option Addr) (c : Nat), j ≤ ms.length ∧ jj = j ∧ i = .int .i64 (j : Int) ∧ s8 = .slice a jj c ∧ Hid (rl.length = jj) ∧ Hid (OwnI wz w5.heap.size (.slice a jj c) rl) ∧ Hid (RdM wz E (.slice a1 l.length c1) l sj) ∧ Hid (Ext (At E) w5 wz) ∧ Hid (rdRanks ms.length s3 = (rl ++ (rdRanks (ms.length - j) sj).1, (rdRanks (ms.length - j) sj).2))) (fun _ i _ => ms.length - (intOf i).toNat)
  case atStart => exact ⟨0, 0, [], s3, none, 0, Nat.zero_le _, rfl, rfl, rfl, Lib.hid rfl, Lib.hid (OwnI.nil _ _), Lib.hid hr5, Lib.hid (Ext.refl _ _), Lib.hid (by simp)⟩
  clear hr5
  obtain ⟨j, jj, rl, sj, a, c, hj, hjj, rfl, rfl, hrl, hO, hRd, hX, hEr⟩ := hrel
  rename World => wz
  have HMZ := Lib.hid (HM5.out.step hX.out hRd.out)
  by_cases hltj : j < ms.length
  ·have hjz : (j : Int) < (ms.length : Int) := by omega
   have HJJ : Hid (Value.int .i64 ((j : Int) + 1) = .int .i64 ((j + 1 : Nat) : Int)) := Lib.hid (by rw [show ((j + 1 : Nat) : Int) = (j : Int) + 1 from by omega])
   have HJ1 := Lib.hid hjj
   have hjj2 : jj ≤ 256 := by omega
   clear hjj
   go_wp2_with fail
   refine (number_any (fun i => V.heap.size ≤ i) E 1073741824 _ l sj wz HMZ.out.rd HMZ.out.src HMZ.out.low HLBY.out hl2 (by omega)).mono ?_
   rintro e7 w7 ⟨rfl, hr7, hx7⟩
   have hg7 := rdNum_le 1073741824 sj
   have hE7 := hEr.out
   rw [show ms.length - j = (ms.length - (j + 1)) + 1 by omega] at hE7
   rw [rdRanks] at hE7
   obtain ⟨g, hg⟩ : ∃ g, g = (rdNum 1073741824 sj).1 := ⟨_, rfl⟩
   obtain ⟨s7, hs7⟩ : ∃ s, s = (rdNum 1073741824 sj).2 := ⟨_, rfl⟩
   rw [← hg] at hg7 hE7 ⊢
   rw [← hs7] at hr7 hE7
   have HE7 := Lib.hid (show rdRanks ms.length s3 = ((rl ++ [g]) ++ (rdRanks (ms.length - (j + 1)) s7).1, (rdRanks (ms.length - (j + 1)) s7).2) from by rw [hE7]; simp)
   have HX7 := Lib.hid (hX.out.trans2 hx7 (fun _ _ e => e))
   have HR7 := Lib.hid hr7
   have hwz := hX.out.size
   have hO7 := hO.out.ext hx7 (fun b hb e => by have := (hO.out.lt b hb).1; have h8 := HM5.out.rd.box; unfold At at e; omega)
   unfold OwnI at hO7
   rw [hrl.out] at hO7
   have HO7 := Lib.hid hO7
   have hsz := HX7.out.size
   have hEw5 := Lib.hid HM5.out.rd.box
   clear hO hRd hX hEr hr7 hx7 hg hs7 hE7 hO7
   have HST : Hid (∀ (v1 : Value) (w9 : World), w9.ownsRow w5.heap.size 3 1 v1 (jj + 1) ((natsZ rl).map (.int .i64) ++ [.int .i64 (g : Int)]) → (w7.alloc (.cells #[.int .i64 (g : Int)] 3)).grownBy w9 (Value.ownBlock (.slice a jj c)) → OwnI w9 w5.heap.size v1 (rl ++ [g]) ∧ RdM w9 E (.slice a1 l.length c1) l s7 ∧ Ext (At E) w5 w9) := Lib.hid (fun v1 w9 h1 h2 => by
    have hx9 : Ext (fun b => Value.ownBlock (.slice a jj c) = some b) w7 w9 := ((Ext.refl (fun k' => Value.ownBlock (.slice a jj c) = some k') w7).alloc _).grown h2 (fun k' hk' _ => hk')
    have hge : ∀ b, Value.ownBlock (.slice a jj c) = some b → w5.heap.size ≤ b := fun b hb => (World.ownsRow.lt HO7.out b hb).1
    refine ⟨?_, HR7.out.ext hx9 (fun e => by have := hge _ e; have := hEw5.out; omega), HX7.out.trans2 hx9 (fun i hi e => by have := hge _ e; omega)⟩
    unfold OwnI
    rw [List.length_append, hrl.out]
    rw [show natsZ (rl ++ [g]) = natsZ rl ++ [(g : Int)] from by simp [natsZ], List.map_append]
    exact h1)
   go_wp2_with (at_builtin; (refine wpList_app _ rfl (.tmp 28) (.tmp 31) 22 rfl w5.heap.size 3 iB _ 1 8 Tryz.underlying22 hiB hB0 hB1 hB2 rfl (by omega) (.slice a jj c) jj ((natsZ rl).map (.int .i64)) rfl (row_keep HO7.out ((Ext.refl No _).alloc _) (fun _ _ x => x)) No (some ⟨w7.heap.size, 0, none⟩) 1 1 [.int .i64 (g : Int)] rfl (Row.block (alloc_top rfl) rfl no_no (by omega)) (by simp [Value.oneCell']) (by omega) (by omega) (by simp; omega) ?_); (intro v1 w9 hown1 hg1 hv1); (have hs := HST.out v1 w9 hown1 hg1); (obtain ⟨a9, c9, hs9⟩ := (Row.ofOwns (M := No) hown1 (fun _ _ x => x)).slice); (subst hs9); (have HS9 := Lib.hid hs); (clear hown1 hg1 hv1 hs))
   go_roundw
   case rel => exact ⟨j + 1, jj + 1, rl ++ [g], s7, a9, c9, by omega, by rw [HJ1.out], HJJ.out, rfl, Lib.hid (by rw [List.length_append, hrl.out]; rfl), Lib.hid HS9.out.1, Lib.hid HS9.out.2.1, Lib.hid HS9.out.2.2, HE7⟩
   case measure => simp [intOf]; omega
  have hgej : ¬ (j : Int) < (ms.length : Int) := by omega
  have hjm : j = ms.length := by omega
  have HJM := Lib.hid hjm
  have HJ1 := Lib.hid hjj
  have hjj2 : jj ≤ 256 := by omega
  clear hjj
  have HSZ := Lib.hid (show WordsAt (fun b => DMask V.heap.size E Q (.slice aR k cR) R w5.heap.size b ∨ Value.ownBlock (.slice aV k cV) = some b) wz (.slice a3 (nw x) c3) (setN x mm).words from HS5.out.ext hX.out (fun i _ e => .inl (.inl e)))
  have HBZ := Lib.hid (hX.out.blk HBV5.out (fun (e : B3 = E) => by have h11 := HB3.out; omega))
  have HRR := Lib.hid (show rdRows n s0 = ((L ++ [((x, ms), rl)]) ++ (rdRows (n - (k + 1)) sj).1, (rdRows (n - (k + 1)) sj).2) from by
   have h8 := hEr.out
   rw [HJM.out, Nat.sub_self, rdRanks] at h8
   rw [HE9.out, h8]; simp)
  have HOZ := Lib.hid hO.out
  clear hO hX hEr hRd HS5 HBV5
  have hownV := HMZ.out.v.own
  rw [HLV.out] at hownV
  have hbQ := HMZ.out.box
  have cX := cellOf hbQ
  have cB := cellOf HBZ.out
  have hQz := lt_of_block hbQ
  clear hbQ
  go_upto_region 14 with (at_builtin; (refine wpList_app _ rfl (.tmp 35) (.tmp 37) 25 rfl (Q + 1) 50 iS _ 2 32 Tryz.underlying25 hiS hS0 hS1 hS2 rfl (by omega) (.slice aV k cV) k (Lv.flatMap kS.cells) rfl (row_keep hownV ((Ext.refl No _).alloc _) (fun _ _ x => x)) No (some ⟨wz.heap.size, 0, none⟩) 1 1 [.int .i64 (x : Int), .slice a3 (nw x) c3] rfl (Row.block (alloc_top rfl) rfl no_no (by omega)) (by simp [Value.oneCell']) (by omega) (by omega) (by simp; omega) ?_); (intro v1 w9 hown1 hg1 hv1); (have hadd := HMZ.out.addV (p := (setN x mm, .slice a3 (nw x) c3)) HSZ.out (by rw [HLV.out]; exact hown1) hg1 hv1); (obtain ⟨a9, c9, hs9⟩ := (Row.ofOwns (M := No) hown1 (fun _ _ x => x)).slice); (subst hs9); (have HADD := Lib.hid hadd.1); (have HVK := Lib.hid hadd.2.2); (have hbQ := hadd.2.1); (have cS := cellOf hbQ); (have fS := freeOf hbQ); (have HO9 := Lib.hid (HOZ.out.ext (((Ext.refl (fun b => Value.ownBlock (.slice aV k cV) = some b) wz).alloc _).grown hg1 (fun b hb _ => hb)) (fun b hb e => by have h8 := (HOZ.out.lt b hb).1; have h9 := (HM5.out.v.lt b e).2; omega))); (clear hown1 hg1 hv1 hadd hbQ))
  have HO10 := Lib.hid (HO9.out.ext (((Ext.refl (At Q) w9).setAt 0 (.slice a9 (k + 1) c9)) : Ext (At Q) w9 (w9.setCell ⟨Q, 0, none⟩ (.slice a9 (k + 1) c9))) (fun b hb e => by have h8 := (HO9.out.lt b hb).1; have h9 := HM5.out.nh; have h10 := HM5.out.nl; unfold At at e; omega))
  have HPV := Lib.hid (show ∀ k', Value.ownBlock (.slice a jj c) = some k' → Value.ownBlock (.slice a9 (k + 1) c9) ≠ some k' from fun k' h8 h9 => by
   rcases HVK.out k' h9 with h10 | h10
   ·have := (HM5.out.v.lt k' h10).2; have := (HOZ.out.lt k' h8).1; omega
   have := (HOZ.out.lt k' h8).2; omega)
  clear HVK HOZ HO9 HMZ hownV cX cB cS fS hQz
  generalize (w9.setCell ⟨Q, 0, none⟩ (.slice a9 (k + 1) c9)) = W9 at *
  have hownR := HADD.out.r.own
  rw [HRL.out] at hownR
  have hbQ := HADD.out.box
  have cX := cellOf hbQ
  have hQ9 := lt_of_block hbQ
  clear hbQ
  go_wp2_with (at_builtin; (refine wpList_app _ rfl (.tmp 41) (.tmp 43) 23 rfl (Q + 1) 22 iD _ 1 24 Tryz.underlying23 hiD hD0 hD1 hD2 rfl (by omega) (.slice aR k cR) k (R.flatMap kD.cells) rfl (row_keep hownR ((Ext.refl No _).alloc _) (fun _ _ x => x)) No (some ⟨W9.heap.size, 0, none⟩) 1 1 [.slice a jj c] rfl (Row.block (alloc_top rfl) rfl no_no (by omega)) (by simp [Value.oneCell']) (by omega) (by omega) (by simp; omega) ?_); (intro v2 w8 hown2 hg2 hv2); (have hadd2 := HADD.out.addR (p := (natsZ rl, .slice a jj c)) (by have h8 := HO10.out; unfold OwnI at h8; simp only; rw [show (natsZ rl).length = rl.length by simp [natsZ], hrl.out]; rw [hrl.out] at h8; exact h8) HPV.out (by rw [HRL.out]; exact hown2) hg2 hv2); (obtain ⟨a8, c8, hs8⟩ := (Row.ofOwns (M := No) hown2 (fun _ _ x => x)).slice); (subst hs8); (have HADD2 := Lib.hid hadd2.1); (have hbQ := hadd2.2); (have cS := cellOf hbQ); (have fS := freeOf hbQ); (clear hown2 hg2 hv2 hadd2 hbQ cX))
  clear cS fS
  go_roundw
  case rel => exact ⟨k + 1, _, sj, _, _, _, _, L ++ [((x, ms), rl)], by omega, HKK.out, HADD2, HRR, Lib.hid (by rw [List.map_append, List.map_append, hLv.out, HMM.out]; rfl), Lib.hid (by rw [List.map_append, List.map_append, hR.out]; rfl), Lib.hid (by rw [List.length_append, hLk.out]; rfl)⟩
  case measure => simp [intOf]; omega
 have hge : ¬ (k : Int) < (n : Int) := by omega
 have hkn : k = n := by omega
 have HKN := Lib.hid hkn
 have hE9 := hE.out
 rw [hkn, Nat.sub_self, rdRows] at hE9
 simp only [List.append_nil] at hE9
 have HE9 := Lib.hid (show rdProof l = if st = some [] then some L else none from by rw [HPR.out, hE9])
 clear hE9 hkn
 go_wp2_with fail
 refine (done_any E (.slice a1 l.length c1) l st wr hm.out.rd ⟨_, _, rfl⟩).mono ?_
 rintro e4 w4 ⟨t, rfl, ht, hx4⟩
 have HM4 := Lib.hid (hm.out.stepNo hx4)
 have HT := Lib.hid ht
 clear ht hx4
 have HCW := Lib.hid (HM4.out.ext.blk HC.out no_no)
 have hC4 := lt_of_block HCW.out
 cases ht : t with
 | false =>
  subst ht
  have HNO := Lib.hid (show rdProof l = none from by rw [HE9.out, if_neg (tells_no HT.out)])
  have cC := cellOf HCW.out
  have fC := freeOf HCW.out
  go_wp2_with fail
  refine ret_ex rfl ?_
  have cF := cellOf (fin2p24 HCW.out (.slice none 0 0) (.slice none 0 0))
  clear cC fC
  simp [results, Tryz.results29, go_sem, cF]
  exact .inl ⟨13, .inr (.inr ⟨rfl, HOK.out.1, HOK.out.2, by rw [← HLB.out]; exact HNO.out⟩), rfl, (HX.out.transNo HM4.out.ext).trans2 (((Ext.refl (At W.heap.size) w4).setAt _ _).setAt _ _) (fun i hi e => by unfold At at e; omega)⟩
 | true =>
  subst ht
  have HYES := Lib.hid (show rdProof l = some L from by rw [HE9.out, if_pos (by simpa using HT.out)])
  have cC := cellOf HCW.out
  have fC := freeOf HCW.out
  have cX := cellOf HM4.out.box
  have HNE := HWB.out
  go_wp2_with fail
  refine ret_ex rfl ?_
  have cF := cellOf (fin2p24 HCW.out (.slice aV k cV) (.slice aR k cR))
  clear cC fC cX
  simp [results, Tryz.results29, go_sem, cF]
  have hxf : Ext (At W.heap.size) w4 ((w4.setCell ⟨W.heap.size, 0, none⟩ (.slice aV k cV)).setCell ⟨W.heap.size, 1, none⟩ (.slice aR k cR)) := ((Ext.refl (At W.heap.size) w4).setAt _ _).setAt _ _
  exact .inr ⟨L, _, _, Lv, R, HOK.out.1, HOK.out.2, by rw [← HLB.out]; exact HYES.out, rfl, Lib.hid ((HM4.out.v.list2 (M := At W.heap.size) (fun b hb e => by have := (HM4.out.v.lt b hb).1; unfold At at e; omega) (fun b e => .inr (.inr (.inr (.inr (by have := lt_of_block HC.out; unfold At at e; omega)))))).ext hxf (fun _ _ e => e)).no, Lib.hid ((HM4.out.r.list (M := At W.heap.size) (fun b hb e => by have := (HM4.out.r.lt b hb).1; unfold At at e; omega)).ext hxf (fun _ _ e => e)).no, hLv.out, hR.out, (HX.out.transNo HM4.out.ext).trans2 hxf (fun i hi e => by unfold At at e; omega)⟩


import Derived.Test.YtmddchceacmopaaGreatDoorF4
set_option linter.unusedVariables false
set_option linter.unusedSimpArgs false
namespace Go.Proofs.YtmddchceacmopaaGreatDoor
open Go Go.RowKit
theorem solve1_any (M : Nat → Prop) (S : SysD) (vd vt vb vv : Value) (vs : List Nat) (g : Nat) (W : World) (hM : ∀ b, M b → b < W.heap.size) (hg : W.heap[g]? = some (.cells #[.int .i64 (S.w : Int), vd, vt, vb] 55 (0, 0))) (h : SysAt No W vd vt vb S) (hv : SetsV No W vv S.w vs) (hl : vs.length = S.deps.length) :
  Calls Tryz.prog 60 #[vv, .pointer (some ⟨g, 0, none⟩)] W (SetsPost M S.w (nextD S vs) W) := by
 have H := Lib.hid h
 have HV := Lib.hid hv
 have HM := Lib.hid hM
 have HL := Lib.hid hl
 obtain ⟨ad, cd, at1, ct, ab, cb, rfl, rfl, rfl⟩ := h.slices
 have cG := cellOf hg
 clear h hv hM hl hg
 go_enter Tryz.func60, Tryz.ntmps60
 go_wp2_with fail
 refine (sysNext_any M S _ _ _ _ vs _ HM.out H.out HV.out HL.out).mono ?_
 rintro e1 w1 ⟨a1, c1, rfl, hs1, hx1⟩
 clear cG
 go_wp2_with fail
 go_ret
 exact ⟨a1, c1, rfl, hs1, hx1⟩
def RoundsPost (M : Nat → Prop) (S : SysD) (W : World) (e : Ending) (w' : World) : Prop :=
 ∃ (R : Nat) (a : Option Addr) (c : Nat), FixAt S R ∧ e = .returned (.tuple #[.slice a S.deps.length c, .int .i64 (R : Int)]) ∧ Hid (SetsV M w' (.slice a S.deps.length c) S.w (iterD S R)) ∧ Ext No W w'
set_option maxRecDepth 100000 in
set_option maxHeartbeats 2000000 in
theorem rounds1_any (M : Nat → Prop) (S : SysD) (vd vt vb : Value) (g : Nat) (W : World) (hM : ∀ b, M b → b < W.heap.size) (hg : W.heap[g]? = some (.cells #[.int .i64 (S.w : Int), vd, vt, vb] 55 (0, 0))) (h : SysAt No W vd vt vb S) :
  Calls Tryz.prog 50 #[.int .i64 (S.w : Int), .int .i64 (S.deps.length : Int), .func (.func 60) #[] #[.pointer (some ⟨g, 0, none⟩)]] W (RoundsPost M S W) := by
 have H := Lib.hid h
 have HM := Lib.hid hM
 have HG := Lib.hid hg
 have hok := h.ok
 have hw := hok.w
 have hn := hok.n2
 have HOK := Lib.hid hok
 obtain ⟨R, hR, hRle⟩ := fix_ex hok
 have HR := Lib.hid hR
 have hRb : R ≤ 65536 := Nat.le_trans hRle (Nat.le_trans (Nat.mul_le_mul hn hw) (by decide))
 clear h hM hg hok hR hRle
 go_enter Tryz.func50, Tryz.ntmps50
 go_wp2_with fail
 refine (emptyV_any M S.w S.deps.length _ HM.out hw hn).mono ?_
 rintro e1 w1 ⟨a1, c1, rfl, hs1, hx1⟩
 rw [List.length_replicate] at hs1 ⊢
 have HX1 := Lib.hid hx1
 have HS1 := Lib.hid (show SetsV M w1 _ S.w (iterD S 0) from hs1.out)
 clear hs1 hx1
 go_wp2_with fail
 go_at_call 60
 refine (solve1_any M S _ _ _ _ (iterD S 0) g _ (fun b hb => Nat.lt_of_lt_of_le (HM.out b hb) HX1.out.size) (HX1.out.blk HG.out no_no) (H.out.extNo HX1.out) HS1.out.no (good_iter HOK.out 0).len).mono ?_
 rintro e2 w2 ⟨a2, c2, rfl, hs2, hx2⟩
 rw [show (nextD S (iterD S 0)).length = S.deps.length from nextTo_len _ _ _] at hs2 ⊢
 have HX2 := Lib.hid (HX1.out.transNo hx2)
 have HS2 := Lib.hid (show SetsV M w2 _ S.w (iterD S 1) from hs2.out)
 have HS12 := Lib.hid (HS1.out.extNo hx2)
 clear hs2 hx2 HS1 HX1
 go_wp2_with fail
 go_loopw [8, 9, 10] (fun s8 s9 s10 wr => ∃ (k : Nat) (a : Option Addr) (c : Nat) (a' : Option Addr) (c' : Nat), s8 = .slice a S.deps.length c ∧ s9 = .slice a' S.deps.length c' ∧ s10 = .int .i64 k ∧ k ≤ R ∧ Hid (SetsV M wr (.slice a S.deps.length c) S.w (iterD S k)) ∧ Hid (SetsV M wr (.slice a' S.deps.length c') S.w (iterD S (k + 1))) ∧ Hid (∀ j, j < k → iterD S (j + 1) ≠ iterD S j) ∧ Hid (Ext No W wr)) (fun _ _ s10 _ => R - (intOf s10).toNat)
 case atStart => exact ⟨0, a1, c1, a2, c2, rfl, rfl, rfl, Nat.zero_le _, HS12, HS2, Lib.hid (fun j hj => absurd hj (Nat.not_lt_zero _)), HX2⟩
 clear HS12 HS2 HX2
 obtain ⟨k, a3, c3, a4, c4, rfl, rfl, rfl, hk, hs3, hs4, hne, hx⟩ := hrel
 rename World => wr
 have hl1 : Hid ((iterD S k).length = (iterD S (k + 1)).length) := Lib.hid (by rw [(good_iter HOK.out k).len, (good_iter HOK.out (k + 1)).len])
 go_wp2_with fail
 refine (fequal_any S.w (iterD S k) (iterD S (k + 1)) _ _ _ hs3.out.no hs4.out.no hl1.out).mono ?_
 rintro e5 w5 ⟨rfl, hx5⟩
 by_cases he : iterD S k = iterD S (k + 1)
 ·rw [decide_eq_true he]
  have HE := Lib.hid he
  clear he
  go_wp2_with fail
  refine ret_ex rfl ?_
  simp [results, Tryz.results50, go_sem]
  refine ⟨k, a3, c3, ⟨HE.out.symm, hne.out⟩, rfl, Lib.hid (hs3.out.extNo hx5), hx.out.transNo hx5⟩
 rw [decide_eq_false he]
 have HE := Lib.hid he
 have hkR : k < R := by
  rcases Nat.lt_or_ge k R with h | h
  ·exact h
  exfalso
  have : k = R := by omega
  subst this
  exact he HR.out.fix.symm
 clear he
 have hadd : IntKind.i64.wrap ((k : Int) + 1) = ((k + 1 : Nat) : Int) := by rw [IntWalk.i64_in _ (by omega)]; omega
 go_wp2_with fail
 go_at_call 60
 refine (solve1_any M S _ _ _ _ (iterD S (k + 1)) g _ (fun b hb => Nat.lt_of_lt_of_le (HM.out b hb) (hx.out.transNo hx5).size) ((hx.out.transNo hx5).blk HG.out no_no) (H.out.extNo (hx.out.transNo hx5)) (hs4.out.no.extNo hx5) (good_iter HOK.out (k + 1)).len).mono ?_
 rintro e6 w6 ⟨a6, c6, rfl, hs6, hx6⟩
 rw [show (nextD S (iterD S (k + 1))).length = S.deps.length from nextTo_len _ _ _] at hs6 ⊢
 have HS6 := Lib.hid (show SetsV M w6 _ S.w (iterD S (k + 1 + 1)) from hs6.out)
 clear hs6
 go_wp2_with fail
 go_roundw
 case rel => exact ⟨k + 1, a4, c4, a6, c6, rfl, rfl, by go_num, by omega, Lib.hid ((hs4.out.extNo hx5).extNo hx6), HS6, Lib.hid (fun j hj => by
  by_cases e : j = k
  ·subst e; exact fun e2 => HE.out e2.symm
  exact hne.out j (by omega)), Lib.hid ((hx.out.transNo hx5).transNo hx6)⟩
 case measure => simp [intOf]; omega
def SolvePost (M : Nat → Prop) (S : SysD) (W : World) (e : Ending) (w' : World) : Prop :=
 ∃ (R : Nat) (a : Option Addr) (c : Nat), FixAt S R ∧ e = .returned (.tuple #[.slice a S.deps.length c, .int .i64 (R : Int), .int .i64 0]) ∧ Hid (SetsV M w' (.slice a S.deps.length c) S.w (iterD S R)) ∧ Ext No W w'
set_option maxHeartbeats 1000000 in
theorem sysSolve_any (M : Nat → Prop) (S : SysD) (vd vt vb : Value) (W : World) (hM : ∀ b, M b → b < W.heap.size) (h : SysAt No W vd vt vb S) :
  Calls Tryz.prog 20 #[.agg #[.int .i64 (S.w : Int), vd, vt, vb]] W (SolvePost M S W) := by
 have H := Lib.hid h
 have HM := Lib.hid hM
 obtain ⟨ad, cd, at1, ct, ab, cb, rfl, rfl, rfl⟩ := h.slices
 clear h hM
 go_enter Tryz.func20, Tryz.ntmps20
 go_wp2_with fail
 have hx0 : Ext No W (W.alloc (.cells #[.int .i64 (S.w : Int), .slice ad S.deps.length cd, .slice at1 S.deps.length ct, .slice ab S.deps.length cb] 55)) := (Ext.refl _ _).alloc _
 refine (sysValid_yes S _ _ _ _ (H.out.extNo hx0)).mono ?_
 rintro e1 w1 ⟨rfl, hx1⟩
 have HA := Lib.hid (hx1.blk (alloc_top (w := W) (o := (.cells #[.int .i64 (S.w : Int), .slice ad S.deps.length cd, .slice at1 S.deps.length ct, .slice ab S.deps.length cb] 55)) rfl) no_no)
 have HX := Lib.hid (hx0.transNo hx1)
 clear hx0 hx1
 have cA := cellOf HA.out
 go_wp2_with fail
 clear cA
 refine (rounds1_any M S _ _ _ W.heap.size _ (fun b hb => Nat.lt_of_lt_of_le (HM.out b hb) HX.out.size) HA.out (H.out.extNo HX.out)).mono ?_
 rintro e2 w2 ⟨R, a2, c2, hR, rfl, hs2, hx2⟩
 have HR := Lib.hid hR
 clear hR
 go_wp2_with fail
 refine ret_ex rfl ?_
 simp [results, Tryz.results20, go_sem]
 exact ⟨R, a2, c2, HR.out, rfl, hs2, HX.out.transNo hx2⟩
end Go.Proofs.YtmddchceacmopaaGreatDoor

namespace Go.Proofs.YtmddchceacmopaaGreatDoor
open Go Go.RowKit
abbrev LA := List (Int × RawT × Value × Value × Value)
def kA : EK (Int × RawT × Value × Value × Value) where
 s := 6
 T := 49
 cells := fun p => [.int .i64 p.1, .int .i64 p.2.1.gen.width, p.2.2.1, .int .i64 p.2.1.kill.width, p.2.2.2.1, p.2.2.2.2]
 ok := fun M w p => RawTAt M w p.2.2.1 p.2.2.2.1 p.2.2.2.2 p.2.1
 len := fun _ => rfl
 ext := fun h hx hm => h.ext hx hm
 mono := fun h hm => h.mono hm
def kL : EK (LA × Value) where
 s := 1
 T := 40
 cells := fun p => [p.2]
 ok := fun M w p => LAt kA M w p.2 p.1
 len := fun _ => rfl
 ext := fun h hx hm => h.ext hx hm
 mono := fun h hm => h.mono hm
theorem LAt.atA {M : Nat → Prop} {w : World} {sl : Value} {L : LA} (h : LAt kA M w sl L) {i : Nat} (hi : i < L.length) : ∃ b off cap, sl = .slice (some ⟨b, off, none⟩) L.length cap ∧ b < w.heap.size ∧ ¬ M b ∧
  ∀ k (hk : k < L.length), w.cell? ⟨b, off + k * 6, none⟩ = some (.int .i64 L[k].1) ∧ w.cell? ⟨b, off + k * 6 + 1, none⟩ = some (.int .i64 L[k].2.1.gen.width) ∧ w.cell? ⟨b, off + k * 6 + 2, none⟩ = some L[k].2.2.1 ∧ w.cell? ⟨b, off + k * 6 + 3, none⟩ = some (.int .i64 L[k].2.1.kill.width) ∧ w.cell? ⟨b, off + k * 6 + 4, none⟩ = some L[k].2.2.2.1 ∧ w.cell? ⟨b, off + k * 6 + 5, none⟩ = some L[k].2.2.2.2 := by
 obtain ⟨b, off, cap, h1, h2, h3, h4⟩ := h.at hi
 exact ⟨b, off, cap, h1, h2, h3, fun k hk => ⟨h4 k hk 0 _ (by decide) rfl, h4 k hk 1 _ (by decide) rfl, h4 k hk 2 _ (by decide) rfl, h4 k hk 3 _ (by decide) rfl, h4 k hk 4 _ (by decide) rfl, h4 k hk 5 _ (by decide) rfl⟩⟩
theorem LAt.atL {M : Nat → Prop} {w : World} {sl : Value} {L : List (LA × Value)} (h : LAt kL M w sl L) {i : Nat} (hi : i < L.length) : ∃ b off cap, sl = .slice (some ⟨b, off, none⟩) L.length cap ∧ b < w.heap.size ∧ ¬ M b ∧
  ∀ k (hk : k < L.length), w.cell? ⟨b, off + k, none⟩ = some L[k].2 := by
 obtain ⟨b, off, cap, h1, h2, h3, h4⟩ := h.at hi
 exact ⟨b, off, cap, h1, h2, h3, fun k hk => (congrArg (fun n => w.cell? ⟨b, off + n, none⟩) (show k = k * 1 + 0 by omega)).trans (h4 k hk 0 _ (by decide) rfl)⟩
def arcsR (S : SysD) (i : Nat) : List (Int × RawT) := (depD S i).map fun (m : Nat) => ((m : Int), rawT (trD S m))
def cutA (p : Int × RawT × Value × Value × Value) : Int × RawT := (p.1, p.2.1)
structure WebAt (M : Nat → Prop) (W : World) (vb vi : Value) (S : SysD) : Prop where
 ok : SysOk S
 bnd : SetsV M W vb S.w S.bnd
 ex : ∃ Li : List (LA × Value), LAt kL M W vi Li ∧ Li.length = S.deps.length ∧ ∀ i (h : i < Li.length), Li[i].1.map cutA = arcsR S i
section
variable {M M' : Nat → Prop} {W W' : World} {vb vi : Value} {S : SysD}
theorem WebAt.ext (h : WebAt M W vb vi S) (hx : Ext M' W W') (hm : ∀ i, i < W.heap.size → M' i → M i) : WebAt M W' vb vi S := by
 obtain ⟨Li, h1, h2⟩ := h.ex; exact ⟨h.ok, h.bnd.ext hx hm, Li, h1.ext hx hm, h2⟩
theorem WebAt.extNo (h : WebAt M W vb vi S) (hx : Ext No W W') : WebAt M W' vb vi S := h.ext hx (fun _ _ x => x.elim)
theorem WebAt.mono (h : WebAt M W vb vi S) (hm : ∀ i, i < W.heap.size → M' i → M i) : WebAt M' W vb vi S := by
 obtain ⟨Li, h1, h2⟩ := h.ex; exact ⟨h.ok, h.bnd.mono hm, Li, h1.mono hm, h2⟩
theorem WebAt.no (h : WebAt M W vb vi S) : WebAt No W vb vi S := h.mono (fun _ _ x => x.elim)
end
set_option maxHeartbeats 1000000 in
theorem validW1_any (x z : Int) (r : RawT) (g1 k1 c1 : Value) (g : Nat) (W : World) (h : RawTAt No W g1 k1 c1 r) (h0 : W.cell? ⟨g, 0, none⟩ = some (.int .i64 x)) :
  Calls Tryz.prog 35 #[.agg #[.int .i64 z, .int .i64 r.gen.width, g1, .int .i64 r.kill.width, k1, c1], .pointer (some ⟨g, 0, none⟩)] W (Tells (¬ FitT x r) W) := by
 have H := Lib.hid h
 obtain ⟨ag, ng, cg, rfl⟩ := h.gen.shaped
 obtain ⟨ak, nk, ck, rfl⟩ := h.kill.shaped
 obtain ⟨ac, nc, cc, rfl⟩ := h.copies.shaped
 clear h
 have hx0 : Ext No W (W.alloc (.cells #[.int .i64 z, .int .i64 r.gen.width, .slice ag ng cg, .int .i64 r.kill.width, .slice ak nk ck, .slice ac nc cc] 49)) := (Ext.refl _ _).alloc _
 have c0 := hx0.keep h0
 have hltg := World.block_lt_of_cell? W _ h0
 go_enter Tryz.func35, Tryz.ntmps35
 go_wp2_with fail
 refine (fits_any x r _ _ _ _ (H.out.extNo hx0)).mono ?_
 rintro e1 w1 ⟨bb, rfl, hbb, hx1⟩
 have HY := Lib.hid (hx0.transNo hx1)
 clear hx1 hx0 c0 h0
 cases bb with
 | true =>
  have HBB := Lib.hid (tells_yes hbb)
  clear hbb
  go_wp2_with fail
  go_ret
  exact tells_false (fun e => e HBB.out) HY.out
 | false =>
  have HBB := Lib.hid (tells_no hbb)
  clear hbb
  go_wp2_with fail
  go_ret
  exact tells_true HBB.out HY.out
set_option maxRecDepth 100000 in
set_option maxHeartbeats 2000000 in
theorem indexA_any (x : Int) (g : Nat) (sl : Value) (L : LA) (W : World) (h : LAt kA No W sl L) (h0 : W.cell? ⟨g, 0, none⟩ = some (.int .i64 x)) :
  Calls Tryz.prog 77 #[sl, .func (.func 35) #[] #[.pointer (some ⟨g, 0, none⟩)]] W fun e w' => (∃ z : Int, e = .returned (.int .i64 z) ∧ (0 ≤ z ↔ ∃ (k : Nat) (hk : k < L.length), ¬ FitT x L[k].2.1)) ∧ Ext No W w' := by
 have H := Lib.hid h
 obtain ⟨a, cap, rfl⟩ := h.slice
 have hlen := h.row.2.1
 clear h
 go_enter Tryz.func77, Tryz.ntmps77
 go_wp2_with fail
 go_loopw [5, 8] (fun _ i wr => ∃ k : Nat, k ≤ L.length ∧ i = .int .i64 k ∧ Ext No W wr ∧ Hid (∀ j (hj : j < L.length), j < k → ¬ ¬ FitT x L[j].2.1)) (fun _ i _ => L.length - (intOf i).toNat)
 case atStart => exact ⟨0, Nat.zero_le _, rfl, Ext.refl _ _, Lib.hid (fun j _ hj => absurd hj (Nat.not_lt_zero _))⟩
 obtain ⟨k, hk, rfl, hx, hm⟩ := hrel
 by_cases hlt : k < L.length
 ·obtain ⟨b, off, cap', hsl, hb1, _, hcell⟩ := H.out.atA hlt
  simp only [Value.slice.injEq] at hsl
  obtain ⟨rfl, _, rfl⟩ := hsl
  have hq := hcell k hlt
  have hok := H.out.ok L[k] (List.getElem_mem hlt)
  clear hcell
  obtain ⟨p, hp⟩ : ∃ p, p = L[k] := ⟨_, rfl⟩
  rw [← hp] at hq hok
  have HP := Lib.hid hp
  clear hp
  obtain ⟨qz, q0, q1, q2, q3, q4⟩ := hq
  replace qz := hx.keep qz
  replace q0 := hx.keep q0
  replace q1 := hx.keep q1
  replace q2 := hx.keep q2
  replace q3 := hx.keep q3
  replace q4 := hx.keep q4
  obtain ⟨pa, pc, hpe⟩ := hok.gen.slice
  obtain ⟨pd, pf, hpg⟩ := hok.kill.slice
  obtain ⟨ph, pi, hpj⟩ := Row.slice hok.copies
  rw [hpe] at q1
  rw [hpg] at q3
  rw [hpj] at q4
  have HOK := Lib.hid hok
  clear hok
  have HPE := Lib.hid (And.intro hpe (And.intro hpg hpj))
  have c0 := hx.keep h0
  clear hpe hpg hpj
  go_wp2_with fail
  go_at_call 35
  refine (validW1_any x p.1 p.2.1 _ _ _ g _ (by rw [← HPE.out.1, ← HPE.out.2.1, ← HPE.out.2.2]; exact HOK.out.extNo hx) (hx.keep h0)).mono ?_
  rintro e1 w1 ⟨bb, rfl, hbb, hx1⟩
  cases bb with
  | true =>
   have HBB := Lib.hid (tells_yes hbb)
   clear hbb
   go_wp2_with fail
   go_ret
   exact ⟨⟨k, rfl, ⟨fun _ => ⟨k, hlt, by have := HBB.out; rw [HP.out] at this; exact this⟩, fun _ => by omega⟩⟩, hx.transNo hx1⟩
  | false =>
   have HBB := Lib.hid (tells_no hbb)
   clear hbb
   go_wp2_with fail
   go_roundw
   case rel => exact ⟨k + 1, by omega, by go_num, hx.transNo hx1, Lib.hid (fun j hj hjk hbad => by
    by_cases e : j = k
    ·subst e
     rw [← HP.out] at hbad
     exact HBB.out hbad
    exact hm.out j hj (by omega) hbad)⟩
   case measure => simp [intOf]; omega
 go_wp2_with fail
 go_ret
 exact ⟨⟨-1, rfl, ⟨fun e => absurd e (by decide), fun ⟨j, hj, e⟩ => absurd e (hm.out j hj (by omega))⟩⟩, hx⟩
theorem containsA_any (x : Int) (g : Nat) (sl : Value) (L : LA) (W : World) (h : LAt kA No W sl L) (h0 : W.cell? ⟨g, 0, none⟩ = some (.int .i64 x)) :
  Calls Tryz.prog 34 #[sl, .func (.func 35) #[] #[.pointer (some ⟨g, 0, none⟩)]] W (Tells (∃ (k : Nat) (hk : k < L.length), ¬ FitT x L[k].2.1) W) := by
 go_enter Tryz.func34, Tryz.ntmps34
 go_wp2_with fail
 refine (indexA_any x g _ L _ h h0).mono ?_
 rintro e w1 ⟨⟨z, rfl, hz⟩, hx⟩
 have HZ := Lib.hid hz
 clear hz
 go_wp2_with fail
 go_ret
 exact ⟨_, rfl, ⟨fun e => HZ.out.1 (by simpa using e), fun e => by simpa using HZ.out.2 e⟩, hx⟩


import Derived.Test.YtmddchceacmopaaDoorI12
set_option linter.unusedVariables false
set_option linter.unusedSimpArgs false
namespace Go.Proofs.YtmddchceacmopaaDoor
open Go Go.RowKit
theorem own_ext {W wr w' : World} {o : Obj} {v : Value} {base : Nat} (hx : Ext No W wr) (hg : (wr.alloc o).grownBy w' v.ownBlock) (hl : ∀ b, v.ownBlock = some b → base ≤ b) (hb : W.heap.size ≤ base) : Ext No W w' :=
 (hx.trans2 (((Ext.refl (fun k => v.ownBlock = some k) wr).alloc o).grown hg (fun k hk _ => hk)) (fun i hi e => by have := hl i e; omega))
end Go.Proofs.YtmddchceacmopaaDoor

namespace Go.Proofs.YtmddchceacmopaaDoor
open Go Go.RowKit
abbrev LA := List (Int × RawT × Value × Value × Value)
def kA : EK (Int × RawT × Value × Value × Value) where
 s := 6
 T := 33
 cells := fun p => [.int .i64 p.1, .int .i64 p.2.1.gen.width, p.2.2.1, .int .i64 p.2.1.kill.width, p.2.2.2.1, p.2.2.2.2]
 ok := fun M w p => RawTAt M w p.2.2.1 p.2.2.2.1 p.2.2.2.2 p.2.1
 len := fun _ => rfl
 ext := fun h hx hm => h.ext hx hm
 mono := fun h hm => h.mono hm
def kL : EK (LA × Value) where
 s := 1
 T := 34
 cells := fun p => [p.2]
 ok := fun M w p => LAt kA M w p.2 p.1
 len := fun _ => rfl
 ext := fun h hx hm => h.ext hx hm
 mono := fun h hm => h.mono hm
theorem LAt.atA {M : Nat → Prop} {w : World} {sl : Value} {L : LA} (h : LAt kA M w sl L) {i : Nat} (hi : i < L.length) : ∃ b off cap, sl = .slice (some ⟨b, off, none⟩) L.length cap ∧ b < w.heap.size ∧ ¬ M b ∧
  ∀ k (hk : k < L.length), w.cell? ⟨b, off + k * 6, none⟩ = some (.int .i64 L[k].1) ∧ w.cell? ⟨b, off + k * 6 + 1, none⟩ = some (.int .i64 L[k].2.1.gen.width) ∧ w.cell? ⟨b, off + k * 6 + 2, none⟩ = some L[k].2.2.1 ∧ w.cell? ⟨b, off + k * 6 + 3, none⟩ = some (.int .i64 L[k].2.1.kill.width) ∧ w.cell? ⟨b, off + k * 6 + 4, none⟩ = some L[k].2.2.2.1 ∧ w.cell? ⟨b, off + k * 6 + 5, none⟩ = some L[k].2.2.2.2 := by
 obtain ⟨b, off, cap, h1, h2, h3, h4⟩ := h.at hi
 exact ⟨b, off, cap, h1, h2, h3, fun k hk => ⟨h4 k hk 0 _ (by decide) rfl, h4 k hk 1 _ (by decide) rfl, h4 k hk 2 _ (by decide) rfl, h4 k hk 3 _ (by decide) rfl, h4 k hk 4 _ (by decide) rfl, h4 k hk 5 _ (by decide) rfl⟩⟩
theorem LAt.atL {M : Nat → Prop} {w : World} {sl : Value} {L : List (LA × Value)} (h : LAt kL M w sl L) {i : Nat} (hi : i < L.length) : ∃ b off cap, sl = .slice (some ⟨b, off, none⟩) L.length cap ∧ b < w.heap.size ∧ ¬ M b ∧
  ∀ k (hk : k < L.length), w.cell? ⟨b, off + k, none⟩ = some L[k].2 := by
 obtain ⟨b, off, cap, h1, h2, h3, h4⟩ := h.at hi
 exact ⟨b, off, cap, h1, h2, h3, fun k hk => (congrArg (fun n => w.cell? ⟨b, off + n, none⟩) (show k = k * 1 + 0 by omega)).trans (h4 k hk 0 _ (by decide) rfl)⟩
def cutA (p : Int × RawT × Value × Value × Value) : Int × RawT := (p.1, p.2.1)
set_option maxHeartbeats 1000000 in
theorem validW1_any (x z : Int) (r : RawT) (g1 k1 c1 : Value) (g : Nat) (W : World) (h : RawTAt No W g1 k1 c1 r) (h0 : W.cell? ⟨g, 0, none⟩ = some (.int .i64 x)) :
  Calls Tryd.prog 40 #[.agg #[.int .i64 z, .int .i64 r.gen.width, g1, .int .i64 r.kill.width, k1, c1], .pointer (some ⟨g, 0, none⟩)] W (Tells (¬ FitT x r) W) := by
 have H := Lib.hid h
 obtain ⟨ag, ng, cg, rfl⟩ := h.gen.shaped
 obtain ⟨ak, nk, ck, rfl⟩ := h.kill.shaped
 obtain ⟨ac, nc, cc, rfl⟩ := h.copies.shaped
 clear h
 have hx0 : Ext No W (W.alloc (.cells #[.int .i64 z, .int .i64 r.gen.width, .slice ag ng cg, .int .i64 r.kill.width, .slice ak nk ck, .slice ac nc cc] 33)) := (Ext.refl _ _).alloc _
 have c0 := hx0.keep h0
 have hltg := World.block_lt_of_cell? W _ h0
 go_enter Tryd.func40, Tryd.ntmps40
 go_wp2_with fail
 refine (fits_any x r _ _ _ _ (H.out.extNo hx0)).mono ?_
 rintro e1 w1 ⟨bb, rfl, hbb, hx1⟩
 have HY := Lib.hid (hx0.transNo hx1)
 clear hx1 hx0 c0 h0
 cases bb with
 | true =>
  have HBB := Lib.hid (tells_yes hbb)
  clear hbb
  go_wp2_with fail
  go_ret
  exact tells_false (fun e => e HBB.out) HY.out
 | false =>
  have HBB := Lib.hid (tells_no hbb)
  clear hbb
  go_wp2_with fail
  go_ret
  exact tells_true HBB.out HY.out
set_option maxRecDepth 100000 in
set_option maxHeartbeats 2000000 in
theorem indexA_any (x : Int) (g : Nat) (sl : Value) (L : LA) (W : World) (h : LAt kA No W sl L) (h0 : W.cell? ⟨g, 0, none⟩ = some (.int .i64 x)) :
  Calls Tryd.prog 66 #[sl, .func (.func 40) #[] #[.pointer (some ⟨g, 0, none⟩)]] W fun e w' => (∃ z : Int, e = .returned (.int .i64 z) ∧ (0 ≤ z ↔ ∃ (k : Nat) (hk : k < L.length), ¬ FitT x L[k].2.1)) ∧ Ext No W w' := by
 have H := Lib.hid h
 obtain ⟨a, cap, rfl⟩ := h.slice
 have hlen := h.row.2.1
 clear h
 go_enter Tryd.func66, Tryd.ntmps66
 go_wp2_with fail
 go_loopw [5, 8] (fun _ i wr => ∃ k : Nat, k ≤ L.length ∧ i = .int .i64 k ∧ Ext No W wr ∧ Hid (∀ j (hj : j < L.length), j < k → ¬ ¬ FitT x L[j].2.1)) (fun _ i _ => L.length - (intOf i).toNat)
 case atStart => exact ⟨0, Nat.zero_le _, rfl, Ext.refl _ _, Lib.hid (fun j _ hj => absurd hj (Nat.not_lt_zero _))⟩
 obtain ⟨k, hk, rfl, hx, hm⟩ := hrel
 by_cases hlt : k < L.length
 ·obtain ⟨b, off, cap', hsl, hb1, _, hcell⟩ := H.out.atA hlt
  simp only [Value.slice.injEq] at hsl
  obtain ⟨rfl, _, rfl⟩ := hsl
  have hq := hcell k hlt
  have hok := H.out.ok L[k] (List.getElem_mem hlt)
  clear hcell
  obtain ⟨p, hp⟩ : ∃ p, p = L[k] := ⟨_, rfl⟩
  rw [← hp] at hq hok
  have HP := Lib.hid hp
  clear hp
  obtain ⟨qz, q0, q1, q2, q3, q4⟩ := hq
  replace qz := hx.keep qz
  replace q0 := hx.keep q0
  replace q1 := hx.keep q1
  replace q2 := hx.keep q2
  replace q3 := hx.keep q3
  replace q4 := hx.keep q4
  obtain ⟨pa, pc, hpe⟩ := hok.gen.slice
  obtain ⟨pd, pf, hpg⟩ := hok.kill.slice
  obtain ⟨ph, pi, hpj⟩ := Row.slice hok.copies
  rw [hpe] at q1
  rw [hpg] at q3
  rw [hpj] at q4
  have HOK := Lib.hid hok
  clear hok
  have HPE := Lib.hid (And.intro hpe (And.intro hpg hpj))
  have c0 := hx.keep h0
  clear hpe hpg hpj
  go_wp2_with fail
  go_at_call 40
  refine (validW1_any x p.1 p.2.1 _ _ _ g _ (by rw [← HPE.out.1, ← HPE.out.2.1, ← HPE.out.2.2]; exact HOK.out.extNo hx) (hx.keep h0)).mono ?_
  rintro e1 w1 ⟨bb, rfl, hbb, hx1⟩
  cases bb with
  | true =>
   have HBB := Lib.hid (tells_yes hbb)
   clear hbb
   go_wp2_with fail
   go_ret
   exact ⟨⟨k, rfl, ⟨fun _ => ⟨k, hlt, by have := HBB.out; rw [HP.out] at this; exact this⟩, fun _ => by omega⟩⟩, hx.transNo hx1⟩
  | false =>
   have HBB := Lib.hid (tells_no hbb)
   clear hbb
   go_wp2_with fail
   go_roundw
   case rel => exact ⟨k + 1, by omega, by go_num, hx.transNo hx1, Lib.hid (fun j hj hjk hbad => by
    by_cases e : j = k
    ·subst e
     rw [← HP.out] at hbad
     exact HBB.out hbad
    exact hm.out j hj (by omega) hbad)⟩
   case measure => simp [intOf]; omega
 go_wp2_with fail
 go_ret
 exact ⟨⟨-1, rfl, ⟨fun e => absurd e (by decide), fun ⟨j, hj, e⟩ => absurd e (hm.out j hj (by omega))⟩⟩, hx⟩
theorem containsA_any (x : Int) (g : Nat) (sl : Value) (L : LA) (W : World) (h : LAt kA No W sl L) (h0 : W.cell? ⟨g, 0, none⟩ = some (.int .i64 x)) :
  Calls Tryd.prog 39 #[sl, .func (.func 40) #[] #[.pointer (some ⟨g, 0, none⟩)]] W (Tells (∃ (k : Nat) (hk : k < L.length), ¬ FitT x L[k].2.1) W) := by
 go_enter Tryd.func39, Tryd.ntmps39
 go_wp2_with fail
 refine (indexA_any x g _ L _ h h0).mono ?_
 rintro e w1 ⟨⟨z, rfl, hz⟩, hx⟩
 have HZ := Lib.hid hz
 clear hz
 go_wp2_with fail
 go_ret
 exact ⟨_, rfl, ⟨fun e => HZ.out.1 (by simpa using e), fun e => by simpa using HZ.out.2 e⟩, hx⟩
end Go.Proofs.YtmddchceacmopaaDoor

namespace Go.Proofs.YtmddchceacmopaaDoor
open Go Go.RowKit
def arcsRow (l : List (Nat × TrD)) : List (Int × RawT) := l.map fun p => ((p.1 : Int), rawT p.2)
def ArcsW (M : Nat → Prop) (W : World) (sl : Value) (l : List (Nat × TrD)) : Prop := ∃ L : LA, LAt kA M W sl L ∧ L.map cutA = arcsRow l
structure WbAt (M : Nat → Prop) (W : World) (vb vi : Value) (S : WebD) : Prop where
 ok : WebOk S
 bnd : SetsV M W vb S.w S.bnd
 ex : ∃ Li : List (LA × Value), LAt kL M W vi Li ∧ Li.length = S.ins.length ∧ ∀ i (h : i < Li.length), Li[i].1.map cutA = arcsRow (arcW S i)
section
variable {M M' : Nat → Prop} {W W' : World} {vb vi sl : Value} {S : WebD} {i : Nat} {l : List (Nat × TrD)}
theorem ArcsW.ext (h : ArcsW M W sl l) (hx : Ext M' W W') (hm : ∀ i, i < W.heap.size → M' i → M i) : ArcsW M W' sl l := by
 obtain ⟨L, h1, h2⟩ := h; exact ⟨L, h1.ext hx hm, h2⟩
theorem ArcsW.extNo (h : ArcsW M W sl l) (hx : Ext No W W') : ArcsW M W' sl l := h.ext hx (fun _ _ x => x.elim)
theorem ArcsW.mono (h : ArcsW M W sl l) (hm : ∀ i, i < W.heap.size → M' i → M i) : ArcsW M' W sl l := by
 obtain ⟨L, h1, h2⟩ := h; exact ⟨L, h1.mono hm, h2⟩
theorem ArcsW.no (h : ArcsW M W sl l) : ArcsW No W sl l := h.mono (fun _ _ x => x.elim)
theorem ArcsW.slice (h : ArcsW M W sl l) : ∃ a c, sl = .slice a l.length c := by
 obtain ⟨L, h1, h2⟩ := h
 obtain ⟨a, c, e⟩ := h1.slice
 have e2 := congrArg List.length h2
 simp only [List.length_map, arcsRow] at e2
 exact ⟨a, c, by rw [e, e2]⟩
theorem WbAt.ext (h : WbAt M W vb vi S) (hx : Ext M' W W') (hm : ∀ i, i < W.heap.size → M' i → M i) : WbAt M W' vb vi S := by
 obtain ⟨Li, h1, h2⟩ := h.ex; exact ⟨h.ok, h.bnd.ext hx hm, Li, h1.ext hx hm, h2⟩
theorem WbAt.extNo (h : WbAt M W vb vi S) (hx : Ext No W W') : WbAt M W' vb vi S := h.ext hx (fun _ _ x => x.elim)
theorem WbAt.mono (h : WbAt M W vb vi S) (hm : ∀ i, i < W.heap.size → M' i → M i) : WbAt M' W vb vi S := by
 obtain ⟨Li, h1, h2⟩ := h.ex; exact ⟨h.ok, h.bnd.mono hm, Li, h1.mono hm, h2⟩
theorem WbAt.no (h : WbAt M W vb vi S) : WbAt No W vb vi S := h.mono (fun _ _ x => x.elim)
theorem WbAt.slices (h : WbAt M W vb vi S) : ∃ ab cb ai ci, vb = .slice ab S.ins.length cb ∧ vi = .slice ai S.ins.length ci := by
 obtain ⟨ab, cb, e1⟩ := h.bnd.slice
 obtain ⟨Li, h1, h2, _⟩ := h.ex
 obtain ⟨ai, ci, e2⟩ := h1.slice
 exact ⟨ab, cb, ai, ci, by rw [e1, h.ok.lb], by rw [e2, h2]⟩
theorem WbAt.arcs (h : WbAt M W vb vi S) (hi : i < S.ins.length) : ∃ b off cap a c, vi = .slice (some ⟨b, off, none⟩) S.ins.length cap ∧ W.cell? ⟨b, off + i, none⟩ = some (.slice a (arcW S i).length c) ∧ Hid (ArcsW M W (.slice a (arcW S i).length c) (arcW S i)) := by
 obtain ⟨Li, h1, h2, h3⟩ := h.ex
 have hi2 : i < Li.length := by omega
 obtain ⟨b, off, cap, g1, _, _, g4⟩ := h1.atL hi2
 have g5 : ArcsW M W Li[i].2 (arcW S i) := ⟨Li[i].1, h1.ok _ (List.getElem_mem hi2), h3 i hi2⟩
 obtain ⟨a, c, g6⟩ := g5.slice
 exact ⟨b, off, cap, a, c, by rw [g1, h2], by rw [g4 i hi2, g6], Lib.hid (g6 ▸ g5)⟩
theorem ArcsW.at {w : Nat} (hr : ∀ p ∈ l, TrOk p.2 ∧ p.2.w = w) (h : ArcsW M W sl l) {k m : Nat} {f : TrD} (hk : k < l.length) (hm : (m, f) = l[k]) : ∃ b off cap ag cg ak ck ac n cc, sl = .slice (some ⟨b, off, none⟩) l.length cap ∧
  (W.cell? ⟨b, off + k * 6, none⟩ = some (.int .i64 (m : Int)) ∧ W.cell? ⟨b, off + k * 6 + 1, none⟩ = some (.int .i64 (w : Int)) ∧ W.cell? ⟨b, off + k * 6 + 2, none⟩ = some (.slice ag (nw w) cg) ∧ W.cell? ⟨b, off + k * 6 + 3, none⟩ = some (.int .i64 (w : Int)) ∧ W.cell? ⟨b, off + k * 6 + 4, none⟩ = some (.slice ak (nw w) ck) ∧ W.cell? ⟨b, off + k * 6 + 5, none⟩ = some (.slice ac n cc)) ∧
  Hid (TrAt M W (.slice ag (nw w) cg) (.slice ak (nw w) ck) (.slice ac n cc) f) ∧ Hid (f.w = w) := by
 obtain ⟨L, h1, h2⟩ := h
 have e2 := congrArg List.length h2
 simp only [List.length_map, arcsRow] at e2
 have hk2 : k < L.length := by omega
 obtain ⟨b, off, cap, g1, _, _, g4⟩ := h1.atA hk2
 have g5 : RawTAt M W L[k].2.2.1 L[k].2.2.2.1 L[k].2.2.2.2 L[k].2.1 := h1.ok _ (List.getElem_mem hk2)
 have g6 : cutA L[k] = ((m : Int), rawT f) := by
  have := congrArg (fun l => l[k]?) h2
  simp only [List.getElem?_map, List.getElem?_eq_getElem hk2, arcsRow, List.getElem?_eq_getElem hk, Option.map_some, Option.some.injEq] at this
  rw [this, ← hm]
 have g6a : L[k].1 = (m : Int) := congrArg Prod.fst g6
 have g6b : L[k].2.1 = rawT f := congrArg Prod.snd g6
 obtain ⟨g7, g8⟩ := hr _ (List.getElem_mem hk)
 rw [← hm] at g7 g8
 simp only at g7 g8
 rw [g6b] at g5
 have g9 := g5.tr g7
 obtain ⟨ag, cg, k1⟩ := g9.gen.slice
 obtain ⟨ak, ck, k2⟩ := g9.kill.slice
 obtain ⟨ac, cc, k3⟩ := Row.slice g9.copies
 rw [k1, k2, k3] at g9
 rw [g8] at g9 k1 k2
 obtain ⟨cz, c0, c1, c2, c3, c4⟩ := g4 k hk2
 refine ⟨b, off, cap, ag, cg, ak, ck, ac, _, cc, by rw [g1, e2], ⟨by rw [cz, g6a], ?_, ?_, ?_, ?_, ?_⟩, Lib.hid g9, Lib.hid g8⟩
 ·rw [c0, g6b]; show some (Value.int .i64 ((f.w : Nat) : Int)) = _; rw [g8]
 ·rw [c1, k1]
 ·rw [c2, g6b]; show some (Value.int .i64 ((f.w : Nat) : Int)) = _; rw [g8]
 ·rw [c3, k2]
 rw [c4, k3]
end
end Go.Proofs.YtmddchceacmopaaDoor

namespace Go.Proofs.YtmddchceacmopaaDoor
open Go Go.RowKit
theorem infoE7 : (Tryd.prog.info? 3).map (fun i => (i.zero, i.size, i.bytes)) = some (some (.int .i64 0), 1, 8) := by kernel_rfl
def sumW (S : WebD) (k : Nat) : Nat := ((S.ins.take k).map List.length).sum
theorem sumW_succ {S : WebD} {k : Nat} (hk : k < S.ins.length) : sumW S (k + 1) = sumW S k + (arcW S k).length := by
 unfold sumW
 rw [List.take_succ_eq_append_getElem hk, List.map_append, List.sum_append]
 simp [arcW, hk]
theorem sumW_le {S : WebD} (hS : WebOk S) (k : Nat) : sumW S k ≤ 1024 := by
 have h := hS.tot
 have h2 : (S.ins.map List.length).sum = sumW S k + ((S.ins.drop k).map List.length).sum := by
  unfold sumW
  rw [← List.sum_append, ← List.map_append, List.take_append_drop]
 omega
theorem asc_row {S : WebD} (hS : WebOk S) {k : Nat} (hk : k < S.ins.length) : AscL (natsZ (froms (arcW S k))) S.ins.length := fun i h => by
 have hi : i < (froms (arcW S k)).length := by simpa [natsZ] using h
 have e : ∀ j (hj : j < (froms (arcW S k)).length), (natsZ (froms (arcW S k)))[j]'(by simpa [natsZ] using hj) = (((froms (arcW S k))[j] : Nat) : Int) := fun j hj => by simp [natsZ]
 have h1 : (froms (arcW S k)).Pairwise (· < ·) := by rw [arcW_get hk]; exact hS.asc _ (List.getElem_mem hk)
 rw [e i hi]
 have h2 : (froms (arcW S k))[i] < S.ins.length := by
  have := List.getElem_mem hi
  obtain ⟨p, hp, h3⟩ := List.mem_map.1 this
  rw [← h3]
  exact hS.dep hp
 refine ⟨by omega, by omega, fun h0 => ?_⟩
 rw [e (i - 1) (by omega)]
 have := List.pairwise_iff_getElem.1 h1 (i - 1) i (by omega) hi (by omega)
 omega
theorem fit_row {S : WebD} (hS : WebOk S) {L : LA} {i : Nat} (h : L.map cutA = arcsRow (arcW S i)) : ¬ ∃ (k : Nat) (hk : k < L.length), ¬ FitT (S.w : Int) L[k].2.1 := fun ⟨k, hk, e⟩ => e (by
 have h1 : cutA L[k] ∈ arcsRow (arcW S i) := by rw [← h]; exact List.mem_map.2 ⟨_, List.getElem_mem hk, rfl⟩
 obtain ⟨p, hp, he⟩ := List.mem_map.1 h1
 obtain ⟨h2, h3⟩ := hS.tr hp
 have h4 : L[k].2.1 = rawT p.2 := (congrArg Prod.snd he).symm
 rw [h4]
 exact ⟨validT_ok h2, by show ((p.2.w : Nat) : Int) = _; rw [h3]⟩)
set_option maxRecDepth 100000 in
set_option maxHeartbeats 8000000 in
theorem wvalid_yes (S : WebD) (vb vi : Value) (W : World) (h : WbAt No W vb vi S) :
  Calls Tryd.prog 17 #[.agg #[.int .i64 (S.w : Int), vb, vi]] W (BoolPost true W) := by
 obtain ⟨i0, hi0, hz0, hz1, hz2⟩ := info_parts infoE7
 have H := Lib.hid h
 obtain ⟨ab, cb, ai, ci, rfl, rfl⟩ := h.slices
 have hok := h.ok
 have HOK := Lib.hid hok
 have hnn := hok.n2
 have hn1 := hok.n1
 have hww := hok.w
 clear h hok
 go_enter Tryd.func17, Tryd.ntmps17
 go_wp2_with fail
 have hx0 : Ext No W (W.alloc (.cells #[.int .i64 (S.w : Int), .slice ab S.ins.length cb, .slice ai S.ins.length ci] 37)) := (Ext.refl _ _).alloc _
 have HB := Lib.hid (alloc_top (w := W) (o := .cells #[.int .i64 (S.w : Int), .slice ab S.ins.length cb, .slice ai S.ins.length ci] 37) rfl)
 have HX := Lib.hid hx0
 clear hx0
 generalize (W.alloc (.cells #[.int .i64 (S.w : Int), .slice ab S.ins.length cb, .slice ai S.ins.length ci] 37)) = V at *
 have hVs := lt_of_block HB.out
 refine (sized_any _ _ _).mono ?_
 rintro e1 w1 ⟨b1, rfl, hb1, hx1⟩
 cases b1 with
 | false => exact absurd ⟨by omega, by omega⟩ (tells_no hb1)
 | true =>
 clear hb1
 have HX1 := Lib.hid hx1
 have cB := cellOf (hx1.blk HB.out no_no)
 clear hx1
 go_wp2_with fail
 clear cB
 obtain ⟨Lb, hLb, hLm, hLl⟩ := (H.out.bnd.extNo (HX.out.transNo HX1.out)).list
 refine (sets_any _ _ Lb _ (by rw [HOK.out.lb] at *; exact hLb)).mono ?_
 rintro e2 w2 ⟨b2, rfl, hb2, hx2⟩
 cases b2 with
 | false => exact absurd (set_of_map hLm H.out.bnd.hw H.out.bnd.hm) (tells_no hb2)
 | true =>
 clear hb2 hLb hLm hLl
 have HX2 := Lib.hid (HX1.out.transNo hx2)
 clear hx2 HX1
 have cB := cellOf (HX2.out.blk HB.out no_no)
 go_wp2_with fail
 clear cB
 go_loopw [4, 6, 7, 9, 36] (fun s4 _ _ _ s36 wr => ∃ k : Nat, s36 = .int .i64 k ∧ s4 = .int .i64 (sumW S k : Int) ∧ k ≤ S.ins.length ∧ Hid (Ext No V wr)) (fun _ _ _ _ s36 _ => S.ins.length - (intOf s36).toNat)
 case atStart => exact ⟨0, rfl, rfl, Nat.zero_le _, HX2⟩
 clear HX2
 obtain ⟨k, rfl, rfl, hk, hx⟩ := hrel
 rename World => wr
 by_cases hlt : k < S.ins.length
 ·have hlz : (k : Int) < (S.ins.length : Int) := by omega
  have HKK : Hid (Value.int .i64 ((k : Int) + 1) = .int .i64 ((k + 1 : Nat) : Int)) := Lib.hid (by rw [show ((k + 1 : Nat) : Int) = (k : Int) + 1 from by omega])
  obtain ⟨bi, oi, ki, aA, cA, hve, ga, harc⟩ := (H.out.extNo HX.out).arcs hlt
  simp only [Value.slice.injEq] at hve
  obtain ⟨rfl, -, rfl⟩ := hve
  obtain ⟨n, hn⟩ : ∃ n, n = (arcW S k).length := ⟨_, rfl⟩
  have HN := Lib.hid hn
  rw [← hn] at harc ga
  replace ga := hx.out.keep ga
  have hs1 := sumW_succ hlt
  rw [← hn] at hs1
  have hs2 := sumW_le HOK.out (k + 1)
  clear hn
  go_wp2_with fail
  clear ga
  have hbs := hx.out.size
  go_loopw [7, 9, 42] (fun s7 _ i wx => ∃ j : Nat, i = .int .i64 j ∧ j ≤ n ∧ Hid (wx.ownsRow V.heap.size 3 1 s7 j (((natsZ (froms (arcW S k))).take j).map (.int .i64))) ∧ Hid (Ext No V wx)) (fun _ _ i _ => n - (intOf i).toNat)
  case atStart => exact ⟨0, rfl, Nat.zero_le _, Lib.hid (by simpa using World.ownsRow_nil _ _ _ _), hx⟩
  clear hx hbs
  obtain ⟨j, rfl, hj, hown, hx⟩ := hrel
  rename World => wx
  obtain ⟨s1, t1, hs7⟩ := (Row.ofOwns (M := No) hown.out (fun _ _ x => x)).slice
  subst hs7
  by_cases hlt2 : j < n
  ·have hjz : (j : Int) < (n : Int) := by omega
   have HJJ : Hid (Value.int .i64 ((j : Int) + 1) = .int .i64 ((j + 1 : Nat) : Int)) := Lib.hid (by rw [show ((j + 1 : Nat) : Int) = (j : Int) + 1 from by omega])
   have hjd : j < (arcW S k).length := by have := HN.out; omega
   obtain ⟨⟨m, f⟩, hmj⟩ : ∃ q : Nat × TrD, q = (arcW S k)[j] := ⟨_, rfl⟩
   have hmm : m = (froms (arcW S k))[j]'(by simpa [froms] using hjd) := by simp [froms, ← hmj]
   have HTK := Lib.hid (show ((natsZ (froms (arcW S k))).take (j + 1)).map (Value.int .i64) = ((natsZ (froms (arcW S k))).take j).map (Value.int .i64) ++ [.int .i64 (m : Int)] by
    rw [List.take_succ_eq_append_getElem (by simp [natsZ, froms]; exact hjd), List.map_append]
    simp [natsZ, hmm])
   obtain ⟨ba, oa, ka, ag, cg, ak, ck, ac, nc, cc, hve, gt, -, -⟩ := ArcsW.at (fun p hp => HOK.out.tr (i := k) hp) (harc.out.extNo hx.out) hjd hmj
   simp only [Value.slice.injEq] at hve
   obtain ⟨rfl, -, rfl⟩ := hve
   obtain ⟨q0, q1, q2, q3, q4, q5⟩ := gt
   clear hmj hmm
   go_upto_region 12 with (fail)
   clear q0 q1 q2 q3 q4 q5
   have hxF := hx.out.transNo ((Ext.refl No wx).alloc (.cells #[.int .i64 (m : Int), .int .i64 (S.w : Int), .slice ag (nw S.w) cg, .int .i64 (S.w : Int), .slice ak (nw S.w) ck, .slice ac nc cc] 33))
   have HF := Lib.hid (alloc_top (w := wx) (o := .cells #[.int .i64 (m : Int), .int .i64 (S.w : Int), .slice ag (nw S.w) cg, .int .i64 (S.w : Int), .slice ak (nw S.w) ck, .slice ac nc cc] 33) rfl)
   have HOWN := Lib.hid (row_keep hown.out ((Ext.refl No wx).alloc (.cells #[.int .i64 (m : Int), .int .i64 (S.w : Int), .slice ag (nw S.w) cg, .int .i64 (S.w : Int), .slice ak (nw S.w) ck, .slice ac nc cc] 33)) (fun _ _ x => x))
   have hbb := hxF.size
   have HXF := Lib.hid hxF
   clear hown hx hxF
   generalize (wx.alloc (.cells #[.int .i64 (m : Int), .int .i64 (S.w : Int), .slice ag (nw S.w) cg, .int .i64 (S.w : Int), .slice ak (nw S.w) ck, .slice ac nc cc] 33)) = wf at *
   generalize wx.heap.size = B6 at *
   have cF := cellOf HF.out
   go_wp2_with (at_builtin; (refine wpList_app _ rfl (.tmp 46) (.tmp 49) 45 rfl V.heap.size 3 i0 _ 1 8 Tryd.underlying45 hi0 hz0 hz1 hz2 rfl (by omega) (.slice s1 j t1) j (((natsZ (froms (arcW S k))).take j).map (.int .i64)) rfl (row_keep HOWN.out ((Ext.refl No _).alloc _) (fun _ _ x => x)) No (some ⟨wf.heap.size, 0, none⟩) 1 1 [.int .i64 (m : Int)] rfl (Row.block (alloc_top rfl) rfl no_no (by omega)) (by simp [Value.oneCell']) (by omega) (by omega) ?_ ?_); (first | exact hbb | (simp; omega)); (intro v1 w9 hown1 hg1 hv1); (have hm9 := Lib.hid (own_ext HXF.out hg1 (fun b hb => (World.ownsRow.lt HOWN.out b hb).1) (Nat.le_refl _))); (have ho9 := Lib.hid hown1); (clear hown1 hg1 hv1))
   go_roundw
   case rel => exact ⟨j + 1, HJJ.out, by omega, Lib.hid (by rw [HTK.out]; exact ho9.out), hm9⟩
   case measure => simp [intOf]; omega
  have hge : ¬ (j : Int) < (n : Int) := by omega
  have hjn : j = n := by omega
  have HI := Lib.hid (show Ints No wx .i64 (.slice s1 n t1) (natsZ (froms (arcW S k))) from by
   have h := Row.ofOwns (M := No) hown.out (fun _ _ x => x)
   have e2 := HN.out
   rw [hjn, List.take_of_length_le (by simp [natsZ, froms]; omega)] at h
   have e : (natsZ (froms (arcW S k))).length = n := by simp [natsZ, froms, e2]
   unfold Ints
   rw [e]
   exact h)
  have hadd : IntKind.i64.wrap ((sumW S k : Int) + (n : Int)) = (sumW S (k + 1) : Int) := by rw [IntWalk.i64_in _ (by omega)]; omega
  have HADD := Lib.hid (show Value.int .i64 ((sumW S k : Int) + (n : Int)) = .int .i64 (sumW S (k + 1) : Int) from by rw [show ((sumW S (k + 1) : Nat) : Int) = (sumW S k : Int) + (n : Int) from by omega])
  have hle : ¬ ((1024 : Int) < (sumW S (k + 1) : Int)) := by omega
  have cB := cellOf (hx.out.blk HB.out no_no)
  clear hown
  go_wp2_with fail
  clear cB
  refine (ascending_any _ _ _ _ HI.out).mono ?_
  rintro e3 w3 ⟨b3, rfl, hb3, hx3⟩
  cases b3 with
  | false => exact absurd (asc_row HOK.out hlt) (tells_no hb3)
  | true =>
  clear hb3
  have HX3 := Lib.hid (hx.out.transNo hx3)
  obtain ⟨La, hLa, hLc⟩ := harc.out.extNo HX3.out
  have cB := cellOf (HX3.out.blk HB.out no_no)
  have cB0 := cB 0
  have c0 := Lib.hid (show w3.cell? ⟨W.heap.size, 0, none⟩ = some (.int .i64 (S.w : Int)) from cellOf (HX3.out.blk HB.out no_no) 0)
  clear cB hx3 hx cB0
  go_wp2_with fail
  refine (containsA_any (S.w : Int) W.heap.size _ La _ hLa c0.out).mono ?_
  rintro e4 w4 ⟨b4, rfl, hb4, hx4⟩
  cases b4 with
  | true => exact absurd (tells_yes hb4) (fit_row HOK.out hLc)
  | false =>
  clear hb4
  have HX4 := Lib.hid (HX3.out.transNo hx4)
  clear hx4 hLa hLc
  go_wp2_with fail
  go_roundw
  case rel => exact ⟨k + 1, HKK.out, HADD.out, by omega, HX4⟩
  case measure => simp [intOf]; omega
 have hge : ¬ (k : Int) < (S.ins.length : Int) := by omega
 go_wp2_with fail
 go_ret
 exact ⟨rfl, HX.out.transNo hx.out⟩


import Derived.Test.YtmddchceacmopaaDoorF8
import Derived.Test.YtmddchceacmopaaDoorE2
set_option linter.unusedVariables false
set_option linter.unusedSimpArgs false
namespace Go.Proofs.YtmddchceacmopaaDoor
open Go Go.RowKit
abbrev LA := List (Int × RawT × Value × Value × Value)
def kA : EK (Int × RawT × Value × Value × Value) where
 s := 6
 T := 33
 cells := fun p => [.int .i64 p.1, .int .i64 p.2.1.gen.width, p.2.2.1, .int .i64 p.2.1.kill.width, p.2.2.2.1, p.2.2.2.2]
 ok := fun M w p => RawTAt M w p.2.2.1 p.2.2.2.1 p.2.2.2.2 p.2.1
 len := fun _ => rfl
 ext := fun h hx hm => h.ext hx hm
 mono := fun h hm => h.mono hm
def kL : EK (LA × Value) where
 s := 1
 T := 34
 cells := fun p => [p.2]
 ok := fun M w p => LAt kA M w p.2 p.1
 len := fun _ => rfl
 ext := fun h hx hm => h.ext hx hm
 mono := fun h hm => h.mono hm
theorem LAt.atA {M : Nat → Prop} {w : World} {sl : Value} {L : LA} (h : LAt kA M w sl L) {i : Nat} (hi : i < L.length) : ∃ b off cap, sl = .slice (some ⟨b, off, none⟩) L.length cap ∧ b < w.heap.size ∧ ¬ M b ∧
  ∀ k (hk : k < L.length), w.cell? ⟨b, off + k * 6, none⟩ = some (.int .i64 L[k].1) ∧ w.cell? ⟨b, off + k * 6 + 1, none⟩ = some (.int .i64 L[k].2.1.gen.width) ∧ w.cell? ⟨b, off + k * 6 + 2, none⟩ = some L[k].2.2.1 ∧ w.cell? ⟨b, off + k * 6 + 3, none⟩ = some (.int .i64 L[k].2.1.kill.width) ∧ w.cell? ⟨b, off + k * 6 + 4, none⟩ = some L[k].2.2.2.1 ∧ w.cell? ⟨b, off + k * 6 + 5, none⟩ = some L[k].2.2.2.2 := by
 obtain ⟨b, off, cap, h1, h2, h3, h4⟩ := h.at hi
 exact ⟨b, off, cap, h1, h2, h3, fun k hk => ⟨h4 k hk 0 _ (by decide) rfl, h4 k hk 1 _ (by decide) rfl, h4 k hk 2 _ (by decide) rfl, h4 k hk 3 _ (by decide) rfl, h4 k hk 4 _ (by decide) rfl, h4 k hk 5 _ (by decide) rfl⟩⟩
theorem LAt.atL {M : Nat → Prop} {w : World} {sl : Value} {L : List (LA × Value)} (h : LAt kL M w sl L) {i : Nat} (hi : i < L.length) : ∃ b off cap, sl = .slice (some ⟨b, off, none⟩) L.length cap ∧ b < w.heap.size ∧ ¬ M b ∧
  ∀ k (hk : k < L.length), w.cell? ⟨b, off + k, none⟩ = some L[k].2 := by
 obtain ⟨b, off, cap, h1, h2, h3, h4⟩ := h.at hi
 exact ⟨b, off, cap, h1, h2, h3, fun k hk => (congrArg (fun n => w.cell? ⟨b, off + n, none⟩) (show k = k * 1 + 0 by omega)).trans (h4 k hk 0 _ (by decide) rfl)⟩
def arcsR (S : SysD) (i : Nat) : List (Int × RawT) := (depD S i).map fun (m : Nat) => ((m : Int), rawT (trD S m))
def cutA (p : Int × RawT × Value × Value × Value) : Int × RawT := (p.1, p.2.1)
set_option maxHeartbeats 1000000 in
theorem validW1_any (x z : Int) (r : RawT) (g1 k1 c1 : Value) (g : Nat) (W : World) (h : RawTAt No W g1 k1 c1 r) (h0 : W.cell? ⟨g, 0, none⟩ = some (.int .i64 x)) :
  Calls Tryd.prog 40 #[.agg #[.int .i64 z, .int .i64 r.gen.width, g1, .int .i64 r.kill.width, k1, c1], .pointer (some ⟨g, 0, none⟩)] W (Tells (¬ FitT x r) W) := by
 have H := Lib.hid h
 obtain ⟨ag, ng, cg, rfl⟩ := h.gen.shaped
 obtain ⟨ak, nk, ck, rfl⟩ := h.kill.shaped
 obtain ⟨ac, nc, cc, rfl⟩ := h.copies.shaped
 clear h
 have hx0 : Ext No W (W.alloc (.cells #[.int .i64 z, .int .i64 r.gen.width, .slice ag ng cg, .int .i64 r.kill.width, .slice ak nk ck, .slice ac nc cc] 33)) := (Ext.refl _ _).alloc _
 have c0 := hx0.keep h0
 have hltg := World.block_lt_of_cell? W _ h0
 go_enter Tryd.func40, Tryd.ntmps40
 go_wp2_with fail
 refine (fits_any x r _ _ _ _ (H.out.extNo hx0)).mono ?_
 rintro e1 w1 ⟨bb, rfl, hbb, hx1⟩
 have HY := Lib.hid (hx0.transNo hx1)
 clear hx1 hx0 c0 h0
 cases bb with
 | true =>
  have HBB := Lib.hid (tells_yes hbb)
  clear hbb
  go_wp2_with fail
  go_ret
  exact tells_false (fun e => e HBB.out) HY.out
 | false =>
  have HBB := Lib.hid (tells_no hbb)
  clear hbb
  go_wp2_with fail
  go_ret
  exact tells_true HBB.out HY.out
set_option maxRecDepth 100000 in
set_option maxHeartbeats 2000000 in
theorem indexA_any (x : Int) (g : Nat) (sl : Value) (L : LA) (W : World) (h : LAt kA No W sl L) (h0 : W.cell? ⟨g, 0, none⟩ = some (.int .i64 x)) :
  Calls Tryd.prog 66 #[sl, .func (.func 40) #[] #[.pointer (some ⟨g, 0, none⟩)]] W fun e w' => (∃ z : Int, e = .returned (.int .i64 z) ∧ (0 ≤ z ↔ ∃ (k : Nat) (hk : k < L.length), ¬ FitT x L[k].2.1)) ∧ Ext No W w' := by
 have H := Lib.hid h
 obtain ⟨a, cap, rfl⟩ := h.slice
 have hlen := h.row.2.1
 clear h
 go_enter Tryd.func66, Tryd.ntmps66
 go_wp2_with fail
 go_loopw [5, 8] (fun _ i wr => ∃ k : Nat, k ≤ L.length ∧ i = .int .i64 k ∧ Ext No W wr ∧ Hid (∀ j (hj : j < L.length), j < k → ¬ ¬ FitT x L[j].2.1)) (fun _ i _ => L.length - (intOf i).toNat)
 case atStart => exact ⟨0, Nat.zero_le _, rfl, Ext.refl _ _, Lib.hid (fun j _ hj => absurd hj (Nat.not_lt_zero _))⟩
 obtain ⟨k, hk, rfl, hx, hm⟩ := hrel
 by_cases hlt : k < L.length
 ·obtain ⟨b, off, cap', hsl, hb1, _, hcell⟩ := H.out.atA hlt
  simp only [Value.slice.injEq] at hsl
  obtain ⟨rfl, _, rfl⟩ := hsl
  have hq := hcell k hlt
  have hok := H.out.ok L[k] (List.getElem_mem hlt)
  clear hcell
  obtain ⟨p, hp⟩ : ∃ p, p = L[k] := ⟨_, rfl⟩
  rw [← hp] at hq hok
  have HP := Lib.hid hp
  clear hp
  obtain ⟨qz, q0, q1, q2, q3, q4⟩ := hq
  replace qz := hx.keep qz
  replace q0 := hx.keep q0
  replace q1 := hx.keep q1
  replace q2 := hx.keep q2
  replace q3 := hx.keep q3
  replace q4 := hx.keep q4
  obtain ⟨pa, pc, hpe⟩ := hok.gen.slice
  obtain ⟨pd, pf, hpg⟩ := hok.kill.slice
  obtain ⟨ph, pi, hpj⟩ := Row.slice hok.copies
  rw [hpe] at q1
  rw [hpg] at q3
  rw [hpj] at q4
  have HOK := Lib.hid hok
  clear hok
  have HPE := Lib.hid (And.intro hpe (And.intro hpg hpj))
  have c0 := hx.keep h0
  clear hpe hpg hpj
  go_wp2_with fail
  go_at_call 40
  refine (validW1_any x p.1 p.2.1 _ _ _ g _ (by rw [← HPE.out.1, ← HPE.out.2.1, ← HPE.out.2.2]; exact HOK.out.extNo hx) (hx.keep h0)).mono ?_
  rintro e1 w1 ⟨bb, rfl, hbb, hx1⟩
  cases bb with
  | true =>
   have HBB := Lib.hid (tells_yes hbb)
   clear hbb
   go_wp2_with fail
   go_ret
   exact ⟨⟨k, rfl, ⟨fun _ => ⟨k, hlt, by have := HBB.out; rw [HP.out] at this; exact this⟩, fun _ => by omega⟩⟩, hx.transNo hx1⟩
  | false =>
   have HBB := Lib.hid (tells_no hbb)
   clear hbb
   go_wp2_with fail
   go_roundw
   case rel => exact ⟨k + 1, by omega, by go_num, hx.transNo hx1, Lib.hid (fun j hj hjk hbad => by
    by_cases e : j = k
    ·subst e
     rw [← HP.out] at hbad
     exact HBB.out hbad
    exact hm.out j hj (by omega) hbad)⟩
   case measure => simp [intOf]; omega
 go_wp2_with fail
 go_ret
 exact ⟨⟨-1, rfl, ⟨fun e => absurd e (by decide), fun ⟨j, hj, e⟩ => absurd e (hm.out j hj (by omega))⟩⟩, hx⟩
theorem containsA_any (x : Int) (g : Nat) (sl : Value) (L : LA) (W : World) (h : LAt kA No W sl L) (h0 : W.cell? ⟨g, 0, none⟩ = some (.int .i64 x)) :
  Calls Tryd.prog 39 #[sl, .func (.func 40) #[] #[.pointer (some ⟨g, 0, none⟩)]] W (Tells (∃ (k : Nat) (hk : k < L.length), ¬ FitT x L[k].2.1) W) := by
 go_enter Tryd.func39, Tryd.ntmps39
 go_wp2_with fail
 refine (indexA_any x g _ L _ h h0).mono ?_
 rintro e w1 ⟨⟨z, rfl, hz⟩, hx⟩
 have HZ := Lib.hid hz
 clear hz
 go_wp2_with fail
 go_ret
 exact ⟨_, rfl, ⟨fun e => HZ.out.1 (by simpa using e), fun e => by simpa using HZ.out.2 e⟩, hx⟩
end Go.Proofs.YtmddchceacmopaaDoor

namespace Go.Proofs.YtmddchceacmopaaDoor
open Go Go.RowKit
structure WdM (Q : Nat → Prop) (w0 wr : World) (D w m : Nat) (a : Option Addr) (c : Nat) : Prop where
 ext : Ext No w0 wr
 box : wr.heap[D]? = some (.cells #[.int .i64 (w : Int), .slice a (nw w) c] 24 (0, 0))
 set : SetAt (fun b => Q b ∨ b = D) wr (.slice a (nw w) c) w m
 low : w0.heap.size ≤ D
section
variable {Q : Nat → Prop} {w0 wr w' : World} {D w m m' : Nat} {a a' : Option Addr} {c c' : Nat}
theorem WdM.step (h : WdM Q w0 wr D w m a c) (hx : Ext No wr w') : WdM Q w0 w' D w m a c := ⟨h.ext.transNo hx, hx.blk h.box no_no, h.set.extNo hx, h.low⟩
theorem WdM.put (h : WdM Q w0 wr D w m a c) (hs : SetAt (fun b => Q b ∨ b = D) wr (.slice a' (nw w) c') w m') : WdM Q w0 ((wr.setCell ⟨D, 0, none⟩ (.int .i64 (w : Int))).setCell ⟨D, 1, none⟩ (.slice a' (nw w) c')) D w m' a' c' := by
 have hE : Ext (At D) wr ((wr.setCell ⟨D, 0, none⟩ (.int .i64 (w : Int))).setCell ⟨D, 1, none⟩ (.slice a' (nw w) c')) := ext_two (Ext.refl No wr) D
 have hl := h.low
 exact ⟨h.ext.trans2 hE (fun i hi e => by unfold At at e; omega), (set_same (j := 1) (set_same (j := 0) h.box)).trans rfl, hs.ext hE (fun i _ e => .inr e), hl⟩
theorem WdM.hM (h : WdM Q w0 wr D w m a c) (hQ : ∀ b, Q b → b < w0.heap.size) : ∀ b, (Q b ∨ b = D) → b < wr.heap.size := fun b hb => by
 rcases hb with hb | rfl
 ·exact Nat.lt_of_lt_of_le (hQ b hb) h.ext.size
 exact lt_of_block h.box
end
end Go.Proofs.YtmddchceacmopaaDoor

namespace Go.Proofs.YtmddchceacmopaaDoor
open Go Go.RowKit
def HA (X : Nat) (vB vC : Value) : Nat → Prop := fun b => b ≤ X ∨ vB.ownBlock = some b ∨ vC.ownBlock = some b
end Go.Proofs.YtmddchceacmopaaDoor

namespace Go.Proofs.YtmddchceacmopaaDoor
open Go Go.RowKit
theorem orN_self (a : Nat) : orN a a = a := LeB.anti (LeB.or (LeB.refl a) (LeB.refl a)) (LeB.orL a a)
end Go.Proofs.YtmddchceacmopaaDoor

namespace Go.Proofs.YtmddchceacmopaaDoor
open Go Go.RowKit
theorem asc_dep {S : SysD} (hS : SysOk S) {k : Nat} (hk : k < S.deps.length) : AscL (natsZ (depD S k)) S.deps.length :=
 hS.asc _ (by simp [depD, hk])
end Go.Proofs.YtmddchceacmopaaDoor

namespace Go.Proofs.YtmddchceacmopaaDoor
open Go Go.RowKit
theorem infoA8 : (Tryd.prog.info? 33).map (fun i => (i.zero, i.size, i.bytes)) = some (some (.agg #[.int .i64 0, .int .i64 0, .slice none 0 0, .int .i64 0, .slice none 0 0, .slice none 0 0]), 6, 96) := by kernel_rfl
theorem infoL8 : (Tryd.prog.info? 34).map (fun i => (i.zero, i.size, i.bytes)) = some (some (.slice none 0 0), 1, 24) := by kernel_rfl
end Go.Proofs.YtmddchceacmopaaDoor

namespace Go.Proofs.YtmddchceacmopaaDoor
open Go Go.RowKit
theorem raw_of {M : Nat → Prop} {W : World} {t : TrD} {w : Nat} {sg sk sc : Value} (hw : t.w = w) (hg : SetAt M W sg w t.gen) (hk : SetAt M W sk w t.kill) (hc : CopiesAt M W sc t.copies) : RawTAt M W sg sk sc (rawT t) := by
 subst hw; exact ⟨hg.words, hk.words, hc⟩
theorem arcs_succ {S : SysD} {k j m : Nat} {L : LA} {x : Int × RawT × Value × Value × Value} (h : L.map cutA = (arcsR S k).take j) (hj : j < (depD S k).length) (hm : m = (depD S k)[j]) (hx : cutA x = ((m : Int), rawT (trD S m))) : (L ++ [x]).map cutA = (arcsR S k).take (j + 1) := by
 have hj2 : j < (arcsR S k).length := by simp [arcsR, hj]
 rw [List.map_append, h, List.take_succ_eq_append_getElem hj2]
 simp [hx, arcsR, hm]
theorem arcs_all {S : SysD} {k : Nat} {L : LA} {v : Value} {LI : List (LA × Value)} (h : ∀ i (h : i < LI.length), LI[i].1.map cutA = arcsR S i) (hk : LI.length = k) (hL : L.map cutA = arcsR S k) : ∀ i (h : i < (LI ++ [(L, v)]).length), (LI ++ [(L, v)])[i].1.map cutA = arcsR S i := by
 intro i hi
 rw [List.length_append, List.length_singleton] at hi
 rcases Nat.lt_or_ge i LI.length with hlt | hge
 ·rw [List.getElem_append_left hlt]; exact h i hlt
 have e : i = LI.length := by omega
 subst e
 rw [List.getElem_append_right (Nat.le_refl _)]
 simp [hk, hL]
end Go.Proofs.YtmddchceacmopaaDoor

namespace Go.Proofs.YtmddchceacmopaaDoor
open Go Go.RowKit
def arcsRow (l : List (Nat × TrD)) : List (Int × RawT) := l.map fun p => ((p.1 : Int), rawT p.2)
def ArcsW (M : Nat → Prop) (W : World) (sl : Value) (l : List (Nat × TrD)) : Prop := ∃ L : LA, LAt kA M W sl L ∧ L.map cutA = arcsRow l
structure WbAt (M : Nat → Prop) (W : World) (vb vi : Value) (S : WebD) : Prop where
 ok : WebOk S
 bnd : SetsV M W vb S.w S.bnd
 ex : ∃ Li : List (LA × Value), LAt kL M W vi Li ∧ Li.length = S.ins.length ∧ ∀ i (h : i < Li.length), Li[i].1.map cutA = arcsRow (arcW S i)
section
variable {M M' : Nat → Prop} {W W' : World} {vb vi sl : Value} {S : WebD} {i : Nat} {l : List (Nat × TrD)}
theorem ArcsW.ext (h : ArcsW M W sl l) (hx : Ext M' W W') (hm : ∀ i, i < W.heap.size → M' i → M i) : ArcsW M W' sl l := by
 obtain ⟨L, h1, h2⟩ := h; exact ⟨L, h1.ext hx hm, h2⟩
theorem ArcsW.extNo (h : ArcsW M W sl l) (hx : Ext No W W') : ArcsW M W' sl l := h.ext hx (fun _ _ x => x.elim)
theorem ArcsW.mono (h : ArcsW M W sl l) (hm : ∀ i, i < W.heap.size → M' i → M i) : ArcsW M' W sl l := by
 obtain ⟨L, h1, h2⟩ := h; exact ⟨L, h1.mono hm, h2⟩
theorem ArcsW.no (h : ArcsW M W sl l) : ArcsW No W sl l := h.mono (fun _ _ x => x.elim)
theorem ArcsW.slice (h : ArcsW M W sl l) : ∃ a c, sl = .slice a l.length c := by
 obtain ⟨L, h1, h2⟩ := h
 obtain ⟨a, c, e⟩ := h1.slice
 have e2 := congrArg List.length h2
 simp only [List.length_map, arcsRow] at e2
 exact ⟨a, c, by rw [e, e2]⟩
theorem WbAt.ext (h : WbAt M W vb vi S) (hx : Ext M' W W') (hm : ∀ i, i < W.heap.size → M' i → M i) : WbAt M W' vb vi S := by
 obtain ⟨Li, h1, h2⟩ := h.ex; exact ⟨h.ok, h.bnd.ext hx hm, Li, h1.ext hx hm, h2⟩
theorem WbAt.extNo (h : WbAt M W vb vi S) (hx : Ext No W W') : WbAt M W' vb vi S := h.ext hx (fun _ _ x => x.elim)
theorem WbAt.mono (h : WbAt M W vb vi S) (hm : ∀ i, i < W.heap.size → M' i → M i) : WbAt M' W vb vi S := by
 obtain ⟨Li, h1, h2⟩ := h.ex; exact ⟨h.ok, h.bnd.mono hm, Li, h1.mono hm, h2⟩
theorem WbAt.no (h : WbAt M W vb vi S) : WbAt No W vb vi S := h.mono (fun _ _ x => x.elim)
theorem WbAt.slices (h : WbAt M W vb vi S) : ∃ ab cb ai ci, vb = .slice ab S.ins.length cb ∧ vi = .slice ai S.ins.length ci := by
 obtain ⟨ab, cb, e1⟩ := h.bnd.slice
 obtain ⟨Li, h1, h2, _⟩ := h.ex
 obtain ⟨ai, ci, e2⟩ := h1.slice
 exact ⟨ab, cb, ai, ci, by rw [e1, h.ok.lb], by rw [e2, h2]⟩
theorem WbAt.arcs (h : WbAt M W vb vi S) (hi : i < S.ins.length) : ∃ b off cap a c, vi = .slice (some ⟨b, off, none⟩) S.ins.length cap ∧ W.cell? ⟨b, off + i, none⟩ = some (.slice a (arcW S i).length c) ∧ Hid (ArcsW M W (.slice a (arcW S i).length c) (arcW S i)) := by
 obtain ⟨Li, h1, h2, h3⟩ := h.ex
 have hi2 : i < Li.length := by omega
 obtain ⟨b, off, cap, g1, _, _, g4⟩ := h1.atL hi2
 have g5 : ArcsW M W Li[i].2 (arcW S i) := ⟨Li[i].1, h1.ok _ (List.getElem_mem hi2), h3 i hi2⟩
 obtain ⟨a, c, g6⟩ := g5.slice
 exact ⟨b, off, cap, a, c, by rw [g1, h2], by rw [g4 i hi2, g6], Lib.hid (g6 ▸ g5)⟩
theorem ArcsW.at {w : Nat} (hr : ∀ p ∈ l, TrOk p.2 ∧ p.2.w = w) (h : ArcsW M W sl l) {k m : Nat} {f : TrD} (hk : k < l.length) (hm : (m, f) = l[k]) : ∃ b off cap ag cg ak ck ac n cc, sl = .slice (some ⟨b, off, none⟩) l.length cap ∧
  (W.cell? ⟨b, off + k * 6, none⟩ = some (.int .i64 (m : Int)) ∧ W.cell? ⟨b, off + k * 6 + 1, none⟩ = some (.int .i64 (w : Int)) ∧ W.cell? ⟨b, off + k * 6 + 2, none⟩ = some (.slice ag (nw w) cg) ∧ W.cell? ⟨b, off + k * 6 + 3, none⟩ = some (.int .i64 (w : Int)) ∧ W.cell? ⟨b, off + k * 6 + 4, none⟩ = some (.slice ak (nw w) ck) ∧ W.cell? ⟨b, off + k * 6 + 5, none⟩ = some (.slice ac n cc)) ∧
  Hid (TrAt M W (.slice ag (nw w) cg) (.slice ak (nw w) ck) (.slice ac n cc) f) ∧ Hid (f.w = w) := by
 obtain ⟨L, h1, h2⟩ := h
 have e2 := congrArg List.length h2
 simp only [List.length_map, arcsRow] at e2
 have hk2 : k < L.length := by omega
 obtain ⟨b, off, cap, g1, _, _, g4⟩ := h1.atA hk2
 have g5 : RawTAt M W L[k].2.2.1 L[k].2.2.2.1 L[k].2.2.2.2 L[k].2.1 := h1.ok _ (List.getElem_mem hk2)
 have g6 : cutA L[k] = ((m : Int), rawT f) := by
  have := congrArg (fun l => l[k]?) h2
  simp only [List.getElem?_map, List.getElem?_eq_getElem hk2, arcsRow, List.getElem?_eq_getElem hk, Option.map_some, Option.some.injEq] at this
  rw [this, ← hm]
 have g6a : L[k].1 = (m : Int) := congrArg Prod.fst g6
 have g6b : L[k].2.1 = rawT f := congrArg Prod.snd g6
 obtain ⟨g7, g8⟩ := hr _ (List.getElem_mem hk)
 rw [← hm] at g7 g8
 simp only at g7 g8
 rw [g6b] at g5
 have g9 := g5.tr g7
 obtain ⟨ag, cg, k1⟩ := g9.gen.slice
 obtain ⟨ak, ck, k2⟩ := g9.kill.slice
 obtain ⟨ac, cc, k3⟩ := Row.slice g9.copies
 rw [k1, k2, k3] at g9
 rw [g8] at g9 k1 k2
 obtain ⟨cz, c0, c1, c2, c3, c4⟩ := g4 k hk2
 refine ⟨b, off, cap, ag, cg, ak, ck, ac, _, cc, by rw [g1, e2], ⟨by rw [cz, g6a], ?_, ?_, ?_, ?_, ?_⟩, Lib.hid g9, Lib.hid g8⟩
 ·rw [c0, g6b]; show some (Value.int .i64 ((f.w : Nat) : Int)) = _; rw [g8]
 ·rw [c1, k1]
 ·rw [c2, g6b]; show some (Value.int .i64 ((f.w : Nat) : Int)) = _; rw [g8]
 ·rw [c3, k2]
 rw [c4, k3]
end

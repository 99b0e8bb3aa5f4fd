/- Webs in memory; ValidWeb's closure. -/
import Derived.Test.YtkdjdhflhlbelaaF5
set_option linter.unusedVariables false
set_option linter.unusedSimpArgs false
namespace Go.Proofs.Ytkdjdhflhlbelaa
open Go Go.RowKit
abbrev LA := List (Int × RawT × Value × Value × Value)
def kA : EK (Int × RawT × Value × Value × Value) where
 s := 6
 T := 92
 cells := fun p => [.int .i64 p.1, .int .i64 p.2.1.gen.width, p.2.2.1, .int .i64 p.2.1.kill.width, p.2.2.2.1, p.2.2.2.2]
 ok := fun M w p => RawTAt M w p.2.2.1 p.2.2.2.1 p.2.2.2.2 p.2.1
 len := fun _ => rfl
 ext := fun h hx hm => h.ext hx hm
 mono := fun h hm => h.mono hm
def kL : EK (LA × Value) where
 s := 1
 T := 87
 cells := fun p => [p.2]
 ok := fun M w p => LAt kA M w p.2 p.1
 len := fun _ => rfl
 ext := fun h hx hm => h.ext hx hm
 mono := fun h hm => h.mono hm
theorem LAt.atA {M : Nat → Prop} {w : World} {sl : Value} {L : LA} (h : LAt kA M w sl L) {i : Nat} (hi : i < L.length) : ∃ b off cap, sl = .slice (some ⟨b, off, none⟩) L.length cap ∧ b < w.heap.size ∧ ¬ M b ∧
  ∀ k (hk : k < L.length), w.cell? ⟨b, off + k * 6, none⟩ = some (.int .i64 L[k].1) ∧ w.cell? ⟨b, off + k * 6 + 1, none⟩ = some (.int .i64 L[k].2.1.gen.width) ∧ w.cell? ⟨b, off + k * 6 + 2, none⟩ = some L[k].2.2.1 ∧ w.cell? ⟨b, off + k * 6 + 3, none⟩ = some (.int .i64 L[k].2.1.kill.width) ∧ w.cell? ⟨b, off + k * 6 + 4, none⟩ = some L[k].2.2.2.1 ∧ w.cell? ⟨b, off + k * 6 + 5, none⟩ = some L[k].2.2.2.2 := by
 obtain ⟨b, off, cap, h1, h2, h3, h4⟩ := h.at hi
 exact ⟨b, off, cap, h1, h2, h3, fun k hk => ⟨h4 k hk 0 _ (by decide) rfl, h4 k hk 1 _ (by decide) rfl, h4 k hk 2 _ (by decide) rfl, h4 k hk 3 _ (by decide) rfl, h4 k hk 4 _ (by decide) rfl, h4 k hk 5 _ (by decide) rfl⟩⟩
theorem LAt.atL {M : Nat → Prop} {w : World} {sl : Value} {L : List (LA × Value)} (h : LAt kL M w sl L) {i : Nat} (hi : i < L.length) : ∃ b off cap, sl = .slice (some ⟨b, off, none⟩) L.length cap ∧ b < w.heap.size ∧ ¬ M b ∧
  ∀ k (hk : k < L.length), w.cell? ⟨b, off + k, none⟩ = some L[k].2 := by
 obtain ⟨b, off, cap, h1, h2, h3, h4⟩ := h.at hi
 exact ⟨b, off, cap, h1, h2, h3, fun k hk => (congrArg (fun n => w.cell? ⟨b, off + n, none⟩) (show k = k * 1 + 0 by omega)).trans (h4 k hk 0 _ (by decide) rfl)⟩
/-- the arcs that end in unknown i -/
def arcsR (S : SysD) (i : Nat) : List (Int × RawT) := (depD S i).map fun (m : Nat) => ((m : Int), rawT (trD S m))
def cutA (p : Int × RawT × Value × Value × Value) : Int × RawT := (p.1, p.2.1)
/-- the web of a system, in memory -/
structure WebAt (M : Nat → Prop) (W : World) (vb vi : Value) (S : SysD) : Prop where
 ok : SysOk S
 bnd : SetsV M W vb S.w S.bnd
 ex : ∃ Li : List (LA × Value), LAt kL M W vi Li ∧ Li.length = S.deps.length ∧ ∀ i (h : i < Li.length), Li[i].1.map cutA = arcsR S i
section
variable {M M' : Nat → Prop} {W W' : World} {vb vi : Value} {S : SysD}
theorem WebAt.ext (h : WebAt M W vb vi S) (hx : Ext M' W W') (hm : ∀ i, i < W.heap.size → M' i → M i) : WebAt M W' vb vi S := by
 obtain ⟨Li, h1, h2⟩ := h.ex; exact ⟨h.ok, h.bnd.ext hx hm, Li, h1.ext hx hm, h2⟩
theorem WebAt.extNo (h : WebAt M W vb vi S) (hx : Ext No W W') : WebAt M W' vb vi S := h.ext hx (fun _ _ x => x.elim)
theorem WebAt.mono (h : WebAt M W vb vi S) (hm : ∀ i, i < W.heap.size → M' i → M i) : WebAt M' W vb vi S := by
 obtain ⟨Li, h1, h2⟩ := h.ex; exact ⟨h.ok, h.bnd.mono hm, Li, h1.mono hm, h2⟩
theorem WebAt.no (h : WebAt M W vb vi S) : WebAt No W vb vi S := h.mono (fun _ _ x => x.elim)
end
set_option maxHeartbeats 1000000 in
theorem validW1_any (x z : Int) (r : RawT) (g1 k1 c1 : Value) (g : Nat) (W : World) (h : RawTAt No W g1 k1 c1 r) (h0 : W.cell? ⟨g, 0, none⟩ = some (.int .i64 x)) :
  Calls Try.prog 115 #[.agg #[.int .i64 z, .int .i64 r.gen.width, g1, .int .i64 r.kill.width, k1, c1], .pointer (some ⟨g, 0, none⟩)] W (Tells (¬ FitT x r) W) := by
 have H := Lib.hid h
 obtain ⟨ag, ng, cg, rfl⟩ := h.gen.shaped
 obtain ⟨ak, nk, ck, rfl⟩ := h.kill.shaped
 obtain ⟨ac, nc, cc, rfl⟩ := h.copies.shaped
 clear h
 have hx0 : Ext No W (W.alloc (.cells #[.int .i64 z, .int .i64 r.gen.width, .slice ag ng cg, .int .i64 r.kill.width, .slice ak nk ck, .slice ac nc cc] 92)) := (Ext.refl _ _).alloc _
 have c0 := hx0.keep h0
 have hltg := World.block_lt_of_cell? W _ h0
 go_enter Try.func115, Try.ntmps115
 go_wp2_with fail
 refine (fits_any x r _ _ _ _ (H.out.extNo hx0)).mono ?_
 rintro e1 w1 ⟨bb, rfl, hbb, hx1⟩
 have HY := Lib.hid (hx0.transNo hx1)
 clear hx1 hx0 c0 h0
 cases bb with
 | true =>
  have HBB := Lib.hid (tells_yes hbb)
  clear hbb
  go_wp2_with fail
  go_ret
  exact tells_false (fun e => e HBB.out) HY.out
 | false =>
  have HBB := Lib.hid (tells_no hbb)
  clear hbb
  go_wp2_with fail
  go_ret
  exact tells_true HBB.out HY.out
set_option maxRecDepth 100000 in
set_option maxHeartbeats 2000000 in
theorem indexA_any (x : Int) (g : Nat) (sl : Value) (L : LA) (W : World) (h : LAt kA No W sl L) (h0 : W.cell? ⟨g, 0, none⟩ = some (.int .i64 x)) :
  Calls Try.prog 130 #[sl, .func (.func 115) #[] #[.pointer (some ⟨g, 0, none⟩)]] W fun e w' => (∃ z : Int, e = .returned (.int .i64 z) ∧ (0 ≤ z ↔ ∃ (k : Nat) (hk : k < L.length), ¬ FitT x L[k].2.1)) ∧ Ext No W w' := by
 have H := Lib.hid h
 obtain ⟨a, cap, rfl⟩ := h.slice
 have hlen := h.row.2.1
 clear h
 go_enter Try.func130, Try.ntmps130
 go_wp2_with fail
 go_loopw [5, 8] (fun _ i wr => ∃ k : Nat, k ≤ L.length ∧ i = .int .i64 k ∧ Ext No W wr ∧ Hid (∀ j (hj : j < L.length), j < k → ¬ ¬ FitT x L[j].2.1)) (fun _ i _ => L.length - (intOf i).toNat)
 case atStart => exact ⟨0, Nat.zero_le _, rfl, Ext.refl _ _, Lib.hid (fun j _ hj => absurd hj (Nat.not_lt_zero _))⟩
 case round =>
  obtain ⟨k, hk, rfl, hx, hm⟩ := hrel
  by_cases hlt : k < L.length
  ·obtain ⟨b, off, cap', hsl, hb1, _, hcell⟩ := H.out.atA hlt
   simp only [Value.slice.injEq] at hsl
   obtain ⟨rfl, _, rfl⟩ := hsl
   have hq := hcell k hlt
   have hok := H.out.ok L[k] (List.getElem_mem hlt)
   clear hcell
   obtain ⟨p, hp⟩ : ∃ p, p = L[k] := ⟨_, rfl⟩
   rw [← hp] at hq hok
   have HP := Lib.hid hp
   clear hp
   obtain ⟨qz, q0, q1, q2, q3, q4⟩ := hq
   replace qz := hx.keep qz
   replace q0 := hx.keep q0
   replace q1 := hx.keep q1
   replace q2 := hx.keep q2
   replace q3 := hx.keep q3
   replace q4 := hx.keep q4
   obtain ⟨pa, pc, hpe⟩ := hok.gen.slice
   obtain ⟨pd, pf, hpg⟩ := hok.kill.slice
   obtain ⟨ph, pi, hpj⟩ := Row.slice hok.copies
   rw [hpe] at q1
   rw [hpg] at q3
   rw [hpj] at q4
   have HOK := Lib.hid hok
   clear hok
   have HPE := Lib.hid (And.intro hpe (And.intro hpg hpj))
   have c0 := hx.keep h0
   clear hpe hpg hpj
   go_wp2_with fail
   go_at_call 115
   refine (validW1_any x p.1 p.2.1 _ _ _ g _ (by rw [← HPE.out.1, ← HPE.out.2.1, ← HPE.out.2.2]; exact HOK.out.extNo hx) (hx.keep h0)).mono ?_
   rintro e1 w1 ⟨bb, rfl, hbb, hx1⟩
   cases bb with
   | true =>
    have HBB := Lib.hid (tells_yes hbb)
    clear hbb
    go_wp2_with fail
    go_ret
    exact ⟨⟨k, rfl, ⟨fun _ => ⟨k, hlt, by have := HBB.out; rw [HP.out] at this; exact this⟩, fun _ => by omega⟩⟩, hx.transNo hx1⟩
   | false =>
    have HBB := Lib.hid (tells_no hbb)
    clear hbb
    go_wp2_with fail
    go_roundw
    case rel => exact ⟨k + 1, by omega, by go_num, hx.transNo hx1, Lib.hid (fun j hj hjk hbad => by
     by_cases e : j = k
     ·subst e
      rw [← HP.out] at hbad
      exact HBB.out hbad
     ·exact hm.out j hj (by omega) hbad)⟩
    case measure => simp [intOf]; omega
  ·go_wp2_with fail
   go_ret
   exact ⟨⟨-1, rfl, ⟨fun e => absurd e (by decide), fun ⟨j, hj, e⟩ => absurd e (hm.out j hj (by omega))⟩⟩, hx⟩
theorem containsA_any (x : Int) (g : Nat) (sl : Value) (L : LA) (W : World) (h : LAt kA No W sl L) (h0 : W.cell? ⟨g, 0, none⟩ = some (.int .i64 x)) :
  Calls Try.prog 114 #[sl, .func (.func 115) #[] #[.pointer (some ⟨g, 0, none⟩)]] W (Tells (∃ (k : Nat) (hk : k < L.length), ¬ FitT x L[k].2.1) W) := by
 go_enter Try.func114, Try.ntmps114
 go_wp2_with fail
 refine (indexA_any x g _ L _ h h0).mono ?_
 rintro e w1 ⟨⟨z, rfl, hz⟩, hx⟩
 have HZ := Lib.hid hz
 clear hz
 go_wp2_with fail
 go_ret
 exact ⟨_, rfl, ⟨fun e => HZ.out.1 (by simpa using e), fun e => by simpa using HZ.out.2 e⟩, hx⟩
end Go.Proofs.Ytkdjdhflhlbelaa

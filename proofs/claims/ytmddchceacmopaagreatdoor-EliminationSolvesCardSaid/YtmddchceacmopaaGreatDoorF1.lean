
import Derived.Test.YtmddchceacmopaaGreatDoorFL
set_option linter.unusedVariables false
set_option linter.unusedSimpArgs false
namespace Go.Proofs.YtmddchceacmopaaGreatDoor
open Go Go.RowKit
theorem tells_true {p : Prop} {W w' : World} (h : p) (hx : Ext No W w') : Tells p W (.returned (.bool true)) w' := ⟨true, rfl, ⟨fun _ => h, fun _ => rfl⟩, hx⟩
theorem tells_yes {p : Prop} (h : true = true ↔ p) : p := h.1 rfl
theorem tells_no {p : Prop} (h : false = true ↔ p) : ¬ p := fun e => by cases h.2 e
theorem tells_false {p : Prop} {W w' : World} (h : ¬ p) (hx : Ext No W w') : Tells p W (.returned (.bool false)) w' := ⟨false, rfl, ⟨fun e => (by cases e), fun e => absurd e h⟩, hx⟩
set_option maxRecDepth 100000 in
set_option maxHeartbeats 2000000 in
theorem ascending_any (sl : Value) (l : List Int) (n : Int) (W : World) (h : Ints No W .i64 sl l) :
  Calls Tryz.prog 33 #[sl, .int .i64 n] W (Tells (AscL l n) W) := by
 have H := Lib.hid h
 obtain ⟨a, cap, rfl⟩ := Row.slice h
 have hlen := h.2.1
 clear h
 go_enter Tryz.func33, Tryz.ntmps33
 go_wp2_with fail
 go_loopw [5, 6, 9] (fun _ _ i wr => ∃ k : Nat, k ≤ l.length ∧ i = .int .i64 k ∧ Ext No W wr ∧ Hid (∀ j (hj : j < l.length), j < k → 0 ≤ l[j] ∧ l[j] < n ∧ (0 < j → l[j - 1]'(by omega) < l[j]))) (fun _ _ i _ => l.length - (intOf i).toNat)
 case atStart => exact ⟨0, Nat.zero_le _, rfl, Ext.refl _ _, Lib.hid (fun j _ hj => absurd hj (Nat.not_lt_zero _))⟩
 obtain ⟨k, hk, rfl, hx, hm⟩ := hrel
 by_cases hlt : k < l.length
 ·obtain ⟨b, off, cap', hsl, hb1, _, hcell⟩ := H.out.at hlt
  simp only [Value.slice.injEq] at hsl
  obtain ⟨rfl, _, rfl⟩ := hsl
  have q0 := hx.keep (hcell k hlt)
  have HK := Lib.hid hcell
  clear hcell
  obtain ⟨y, hy⟩ : ∃ y, y = l[k] := ⟨_, rfl⟩
  rw [← hy] at q0
  have HY := Lib.hid hy
  clear hy
  by_cases h1 : y < 0
  ·go_wp2_with fail
   go_ret
   exact tells_false (fun e => by have := (e k hlt).1; rw [← HY.out] at this; omega) hx
  by_cases h2 : n ≤ y
  ·go_wp2_with fail
   go_ret
   exact tells_false (fun e => by have := (e k hlt).2.1; rw [← HY.out] at this; omega) hx
  by_cases h3 : k = 0
  ·subst h3
   rw [Nat.add_zero] at q0
   go_wp2_with fail
   go_roundw
   case rel => exact ⟨1, by omega, by go_num, hx, Lib.hid (fun j hj hjk => by
    obtain rfl : j = 0 := by omega
    rw [← HY.out]
    exact ⟨by omega, by omega, fun e => absurd e (Nat.lt_irrefl _)⟩)⟩
   case measure => simp [intOf]; omega
  have hk1 : k - 1 < l.length := by omega
  have q1 := hx.keep (HK.out (k - 1) hk1)
  obtain ⟨z, hz⟩ : ∃ z, z = l[k - 1] := ⟨_, rfl⟩
  rw [← hz] at q1
  have HZ := Lib.hid hz
  clear hz
  have hpos : (0 : Int) < (k : Int) := by omega
  have hlm : IntKind.i64.wrap ((k : Int) - 1) = ((k - 1 : Nat) : Int) := by rw [IntWalk.i64_in _ (by omega)]; omega
  have hlp : 0 ≤ ((k - 1 : Nat) : Int) := by omega
  have hlq : ((k - 1 : Nat) : Int) < (l.length : Int) := by omega
  by_cases h4 : y ≤ z
  ·go_wp2_with fail
   go_ret
   exact tells_false (fun e => by have := (e k hlt).2.2 (by omega); rw [← HY.out, ← HZ.out] at this; omega) hx
  go_wp2_with fail
  go_roundw
  case rel => exact ⟨k + 1, by omega, by go_num, hx, Lib.hid (fun j hj hjk => by
   by_cases e : j = k
   ·subst e
    rw [← HY.out, ← HZ.out]
    exact ⟨by omega, by omega, fun _ => by omega⟩
   exact hm.out j hj (by omega))⟩
  case measure => simp [intOf]; omega
 go_wp2_with fail
 go_ret
 exact tells_true (fun j hj => hm.out j hj (by omega)) hx
theorem asc_ge {l : List Int} {n : Int} (h : AscL l n) : ∀ k (hk : k < l.length), (k : Int) ≤ l[k]
 | 0, hk => (h 0 hk).1
 | k + 1, hk => by
  have h1 := asc_ge h k (by omega)
  have h2 := (h (k + 1) hk).2.2 (by omega)
  simp only [Nat.add_sub_cancel] at h2
  omega
theorem asc_len {l : List Int} {n : Int} (h : AscL l n) (h0 : 0 < l.length) : (l.length : Int) ≤ n := by
 have h1 := asc_ge h (l.length - 1) (by omega)
 have h2 := (h (l.length - 1) (by omega)).2.1
 omega
theorem sized_any (x n : Int) (W : World) : Calls Tryz.prog 31 #[.int .i64 x, .int .i64 n] W (Tells ((0 ≤ x ∧ x ≤ 256) ∧ 1 ≤ n ∧ n ≤ 256) W) := by
 by_cases h1 : 0 ≤ x
 ·by_cases h2 : x ≤ 256
  ·by_cases h3 : 1 ≤ n
   ·by_cases h4 : n ≤ 256
    ·go_enter Tryz.func31, Tryz.ntmps31
     go_wp2_with fail
     go_ret
     exact tells_true ⟨⟨h1, h2⟩, h3, h4⟩ (Ext.refl _ _)
    go_enter Tryz.func31, Tryz.ntmps31
    go_wp2_with fail
    go_ret
    exact tells_false (by omega) (Ext.refl _ _)
   go_enter Tryz.func31, Tryz.ntmps31
   go_wp2_with fail
   go_ret
   exact tells_false (by omega) (Ext.refl _ _)
  go_enter Tryz.func31, Tryz.ntmps31
  go_wp2_with fail
  go_ret
  exact tells_false (by omega) (Ext.refl _ _)
 go_enter Tryz.func31, Tryz.ntmps31
 go_wp2_with fail
 go_ret
 exact tells_false (by omega) (Ext.refl _ _)
set_option maxHeartbeats 1000000 in
theorem sets1_any (x : Int) (p : RawSet) (v : Value) (g : Nat) (W : World) (h : WordsAt No W v p.words) (h0 : W.cell? ⟨g, 0, none⟩ = some (.int .i64 x)) :
  Calls Tryz.prog 75 #[.agg #[.int .i64 p.width, v], .pointer (some ⟨g, 0, none⟩)] W (Tells (¬ FitS x p) W) := by
 have HR : Hid (RawV No W (.agg #[.int .i64 p.width, v]) p) := Lib.hid ⟨_, rfl, h⟩
 obtain ⟨a, n, c, rfl⟩ := h.shaped
 clear h
 have hx0 : Ext No W (W.alloc (.cells #[.int .i64 p.width, .slice a n c] 44)) := (Ext.refl _ _).alloc _
 have HX := Lib.hid hx0
 clear hx0
 go_enter Tryz.func75, Tryz.ntmps75
 go_wp2_with fail
 refine (valid_any _ p _ (HR.out.extNo HX.out)).mono ?_
 rintro e1 w1 ⟨rfl, hx1⟩
 have hB := hx1.blk (alloc_top (w := W) (o := .cells #[.int .i64 p.width, .slice a n c] 44) rfl) no_no
 have hy := HX.out.transNo hx1
 have c0 := hy.keep h0
 have cB := cellOf hB
 have HY := Lib.hid hy
 clear hy hx1 hB h0
 cases hv : validB p with
 | false =>
  go_wp2_with fail
  go_ret
  exact tells_true (fun e => by have := e.1; rw [hv] at this; cases this) HY.out
 | true =>
  have HV := Lib.hid hv
  clear hv
  obtain ⟨y, hy⟩ : ∃ y, y = p.width := ⟨_, rfl⟩
  rw [← hy] at cB
  have HP := Lib.hid hy
  clear hy
  go_wp2_with fail
  go_ret
  exact ⟨_, rfl, ⟨fun e h => (by have := HP.out.trans h.2; simp [this] at e), fun e => by have : ¬ y = x := fun q => e ⟨HV.out, HP.out.symm.trans q⟩; simp [this]⟩, HY.out⟩
set_option maxRecDepth 100000 in
set_option maxHeartbeats 2000000 in
theorem indexS_any (x : Int) (g : Nat) (sl : Value) (L : List (RawSet × Value)) (W : World) (h : LAt kS No W sl L) (h0 : W.cell? ⟨g, 0, none⟩ = some (.int .i64 x)) :
  Calls Tryz.prog 106 #[sl, .func (.func 75) #[] #[.pointer (some ⟨g, 0, none⟩)]] W fun e w' => (∃ z : Int, e = .returned (.int .i64 z) ∧ (0 ≤ z ↔ ∃ (k : Nat) (hk : k < L.length), ¬ FitS x L[k].1)) ∧ Ext No W w' := by
 have H := Lib.hid h
 obtain ⟨a, cap, rfl⟩ := h.slice
 have hlen := h.row.2.1
 clear h
 go_enter Tryz.func106, Tryz.ntmps106
 go_wp2_with fail
 go_loopw [5, 8] (fun _ i wr => ∃ k : Nat, k ≤ L.length ∧ i = .int .i64 k ∧ Ext No W wr ∧ Hid (∀ j (hj : j < L.length), j < k → ¬ ¬ FitS x L[j].1)) (fun _ i _ => L.length - (intOf i).toNat)
 case atStart => exact ⟨0, Nat.zero_le _, rfl, Ext.refl _ _, Lib.hid (fun j _ hj => absurd hj (Nat.not_lt_zero _))⟩
 obtain ⟨k, hk, rfl, hx, hm⟩ := hrel
 by_cases hlt : k < L.length
 ·obtain ⟨b, off, cap', hsl, hb1, _, hcell⟩ := H.out.atS hlt
  simp only [Value.slice.injEq] at hsl
  obtain ⟨rfl, _, rfl⟩ := hsl
  have hq := hcell k hlt
  have hok := H.out.ok L[k] (List.getElem_mem hlt)
  clear hcell
  obtain ⟨p, hp⟩ : ∃ p, p = L[k] := ⟨_, rfl⟩
  rw [← hp] at hq hok
  have HP := Lib.hid hp
  clear hp
  obtain ⟨q0, q1⟩ := hq
  replace q0 := hx.keep q0
  replace q1 := hx.keep q1
  obtain ⟨pa, pc, hpe⟩ := hok.slice
  rw [hpe] at q1
  have HOK := Lib.hid hok
  clear hok
  have HPE := Lib.hid hpe
  have c0 := hx.keep h0
  clear hpe
  go_wp2_with fail
  go_at_call 75
  refine (sets1_any x p.1 _ g _ (by rw [← HPE.out]; exact HOK.out.extNo hx) (hx.keep h0)).mono ?_
  rintro e1 w1 ⟨bb, rfl, hbb, hx1⟩
  cases bb with
  | true =>
   have HBB := Lib.hid (tells_yes hbb)
   clear hbb
   go_wp2_with fail
   go_ret
   exact ⟨⟨k, rfl, ⟨fun _ => ⟨k, hlt, by have := HBB.out; rw [HP.out] at this; exact this⟩, fun _ => by omega⟩⟩, hx.transNo hx1⟩
  | false =>
   have HBB := Lib.hid (tells_no hbb)
   clear hbb
   go_wp2_with fail
   go_roundw
   case rel => exact ⟨k + 1, by omega, by go_num, hx.transNo hx1, Lib.hid (fun j hj hjk hbad => by
    by_cases e : j = k
    ·subst e
     rw [← HP.out] at hbad
     exact HBB.out hbad
    exact hm.out j hj (by omega) hbad)⟩
   case measure => simp [intOf]; omega
 go_wp2_with fail
 go_ret
 exact ⟨⟨-1, rfl, ⟨fun e => absurd e (by decide), fun ⟨j, hj, e⟩ => absurd e (hm.out j hj (by omega))⟩⟩, hx⟩
theorem containsS_any (x : Int) (g : Nat) (sl : Value) (L : List (RawSet × Value)) (W : World) (h : LAt kS No W sl L) (h0 : W.cell? ⟨g, 0, none⟩ = some (.int .i64 x)) :
  Calls Tryz.prog 74 #[sl, .func (.func 75) #[] #[.pointer (some ⟨g, 0, none⟩)]] W (Tells (∃ (k : Nat) (hk : k < L.length), ¬ FitS x L[k].1) W) := by
 go_enter Tryz.func74, Tryz.ntmps74
 go_wp2_with fail
 refine (indexS_any x g _ L _ h h0).mono ?_
 rintro e w1 ⟨⟨z, rfl, hz⟩, hx⟩
 have HZ := Lib.hid hz
 clear hz
 go_wp2_with fail
 go_ret
 exact ⟨_, rfl, ⟨fun e => HZ.out.1 (by simpa using e), fun e => by simpa using HZ.out.2 e⟩, hx⟩
theorem sets_any (x : Int) (sl : Value) (L : LS) (W : World) (h : LAt kS No W sl L) : Calls Tryz.prog 32 #[.int .i64 x, sl] W (Tells (∀ p ∈ L, FitS x p.1) W) := by
 have H := Lib.hid h
 obtain ⟨a, c, rfl⟩ := h.slice
 clear h
 go_enter Tryz.func32, Tryz.ntmps32
 go_wp2_with fail
 have hx0 : Ext No W (W.alloc (.cells #[.int .i64 x] 3)) := (Ext.refl _ _).alloc _
 refine (containsS_any x W.heap.size _ L _ (H.out.extNo hx0) (cellOf (alloc_top rfl) 0)).mono ?_
 rintro e1 w1 ⟨bb, rfl, hbb, hx1⟩
 cases bb with
 | true =>
  have HBB := Lib.hid (tells_yes hbb)
  clear hbb
  go_wp2_with fail
  go_ret
  obtain ⟨k, hk, hb⟩ := HBB.out
  exact tells_false (fun e => hb (e _ (List.getElem_mem hk))) (hx0.transNo hx1)
 | false =>
  have HBB := Lib.hid (tells_no hbb)
  clear hbb
  go_wp2_with fail
  go_ret
  refine tells_true (fun p hp => Classical.byContradiction fun hn => ?_) (hx0.transNo hx1)
  obtain ⟨k, hk, rfl⟩ := List.getElem_of_mem hp
  exact HBB.out ⟨k, hk, hn⟩
set_option maxHeartbeats 1000000 in
theorem fits_any (x : Int) (r : RawT) (g1 k1 c1 : Value) (W : World) (h : RawTAt No W g1 k1 c1 r) :
  Calls Tryz.prog 36 #[.int .i64 x, .agg #[.int .i64 r.gen.width, g1, .int .i64 r.kill.width, k1, c1]] W (Tells (FitT x r) W) := by
 have H := Lib.hid h
 obtain ⟨ag, ng, cg, rfl⟩ := h.gen.shaped
 obtain ⟨ak, nk, ck, rfl⟩ := h.kill.shaped
 obtain ⟨ac, nc, cc, rfl⟩ := h.copies.shaped
 clear h
 go_enter Tryz.func36, Tryz.ntmps36
 go_wp2_with fail
 have hx0 : Ext No W (W.alloc (.cells #[.int .i64 r.gen.width, .slice ag ng cg, .int .i64 r.kill.width, .slice ak nk ck, .slice ac nc cc] 47)) := (Ext.refl _ _).alloc _
 refine (validT_any r _ _ _ _ (H.out.extNo hx0)).mono ?_
 rintro e1 w1 ⟨rfl, hx1⟩
 have hB := hx1.blk (alloc_top (w := W) (o := .cells #[.int .i64 r.gen.width, .slice ag ng cg, .int .i64 r.kill.width, .slice ak nk ck, .slice ac nc cc] 47) rfl) no_no
 have HY := Lib.hid (hx0.transNo hx1)
 have cB := cellOf hB
 clear hx1 hB hx0
 cases hv : validT r with
 | false =>
  go_wp2_with fail
  go_ret
  exact tells_false (fun e => by have := e.1; rw [hv] at this; cases this) HY.out
 | true =>
  have HV := Lib.hid hv
  clear hv
  obtain ⟨y, hy⟩ : ∃ y, y = r.gen.width := ⟨_, rfl⟩
  rw [← hy] at cB
  have HP := Lib.hid hy
  clear hy
  go_wp2_with fail
  go_ret
  exact ⟨_, rfl, ⟨fun e => ⟨HV.out, HP.out.symm.trans (by simpa using e)⟩, fun h => by have := HP.out.trans h.2; simp [this]⟩, HY.out⟩
set_option maxHeartbeats 1000000 in
theorem valid1_any (x : Int) (r : RawT) (g1 k1 c1 : Value) (g : Nat) (W : World) (h : RawTAt No W g1 k1 c1 r) (h0 : W.cell? ⟨g, 0, none⟩ = some (.int .i64 x)) :
  Calls Tryz.prog 93 #[.agg #[.int .i64 r.gen.width, g1, .int .i64 r.kill.width, k1, c1], .pointer (some ⟨g, 0, none⟩)] W (Tells (¬ FitT x r) W) := by
 have H := Lib.hid h
 obtain ⟨ag, ng, cg, rfl⟩ := h.gen.shaped
 obtain ⟨ak, nk, ck, rfl⟩ := h.kill.shaped
 obtain ⟨ac, nc, cc, rfl⟩ := h.copies.shaped
 clear h
 have hx0 : Ext No W (W.alloc (.cells #[.int .i64 r.gen.width, .slice ag ng cg, .int .i64 r.kill.width, .slice ak nk ck, .slice ac nc cc] 47)) := (Ext.refl _ _).alloc _
 have c0 := hx0.keep h0
 have hltg := World.block_lt_of_cell? W _ h0
 go_enter Tryz.func93, Tryz.ntmps93
 go_wp2_with fail
 refine (fits_any x r _ _ _ _ (H.out.extNo hx0)).mono ?_
 rintro e1 w1 ⟨bb, rfl, hbb, hx1⟩
 have HY := Lib.hid (hx0.transNo hx1)
 clear hx1 hx0 c0 h0
 cases bb with
 | true =>
  have HBB := Lib.hid (tells_yes hbb)
  clear hbb
  go_wp2_with fail
  go_ret
  exact tells_false (fun e => e HBB.out) HY.out
 | false =>
  have HBB := Lib.hid (tells_no hbb)
  clear hbb
  go_wp2_with fail
  go_ret
  exact tells_true HBB.out HY.out
set_option maxRecDepth 100000 in
set_option maxHeartbeats 2000000 in
theorem indexT_any (x : Int) (g : Nat) (sl : Value) (L : List (RawT × Value × Value × Value)) (W : World) (h : LAt kT No W sl L) (h0 : W.cell? ⟨g, 0, none⟩ = some (.int .i64 x)) :
  Calls Tryz.prog 128 #[sl, .func (.func 93) #[] #[.pointer (some ⟨g, 0, none⟩)]] W fun e w' => (∃ z : Int, e = .returned (.int .i64 z) ∧ (0 ≤ z ↔ ∃ (k : Nat) (hk : k < L.length), ¬ FitT x L[k].1)) ∧ Ext No W w' := by
 have H := Lib.hid h
 obtain ⟨a, cap, rfl⟩ := h.slice
 have hlen := h.row.2.1
 clear h
 go_enter Tryz.func128, Tryz.ntmps128
 go_wp2_with fail
 go_loopw [5, 8] (fun _ i wr => ∃ k : Nat, k ≤ L.length ∧ i = .int .i64 k ∧ Ext No W wr ∧ Hid (∀ j (hj : j < L.length), j < k → ¬ ¬ FitT x L[j].1)) (fun _ i _ => L.length - (intOf i).toNat)
 case atStart => exact ⟨0, Nat.zero_le _, rfl, Ext.refl _ _, Lib.hid (fun j _ hj => absurd hj (Nat.not_lt_zero _))⟩
 obtain ⟨k, hk, rfl, hx, hm⟩ := hrel
 by_cases hlt : k < L.length
 ·obtain ⟨b, off, cap', hsl, hb1, _, hcell⟩ := H.out.atT hlt
  simp only [Value.slice.injEq] at hsl
  obtain ⟨rfl, _, rfl⟩ := hsl
  have hq := hcell k hlt
  have hok := H.out.ok L[k] (List.getElem_mem hlt)
  clear hcell
  obtain ⟨p, hp⟩ : ∃ p, p = L[k] := ⟨_, rfl⟩
  rw [← hp] at hq hok
  have HP := Lib.hid hp
  clear hp
  obtain ⟨q0, q1, q2, q3, q4⟩ := hq
  replace q0 := hx.keep q0
  replace q1 := hx.keep q1
  replace q2 := hx.keep q2
  replace q3 := hx.keep q3
  replace q4 := hx.keep q4
  obtain ⟨pa, pc, hpe⟩ := hok.gen.slice
  obtain ⟨pd, pf, hpg⟩ := hok.kill.slice
  obtain ⟨ph, pi, hpj⟩ := Row.slice hok.copies
  rw [hpe] at q1
  rw [hpg] at q3
  rw [hpj] at q4
  have HOK := Lib.hid hok
  clear hok
  have HPE := Lib.hid (And.intro hpe (And.intro hpg hpj))
  have c0 := hx.keep h0
  clear hpe hpg hpj
  go_wp2_with fail
  go_at_call 93
  refine (valid1_any x p.1 _ _ _ g _ (by rw [← HPE.out.1, ← HPE.out.2.1, ← HPE.out.2.2]; exact HOK.out.extNo hx) (hx.keep h0)).mono ?_
  rintro e1 w1 ⟨bb, rfl, hbb, hx1⟩
  cases bb with
  | true =>
   have HBB := Lib.hid (tells_yes hbb)
   clear hbb
   go_wp2_with fail
   go_ret
   exact ⟨⟨k, rfl, ⟨fun _ => ⟨k, hlt, by have := HBB.out; rw [HP.out] at this; exact this⟩, fun _ => by omega⟩⟩, hx.transNo hx1⟩
  | false =>
   have HBB := Lib.hid (tells_no hbb)
   clear hbb
   go_wp2_with fail
   go_roundw
   case rel => exact ⟨k + 1, by omega, by go_num, hx.transNo hx1, Lib.hid (fun j hj hjk hbad => by
    by_cases e : j = k
    ·subst e
     rw [← HP.out] at hbad
     exact HBB.out hbad
    exact hm.out j hj (by omega) hbad)⟩
   case measure => simp [intOf]; omega
 go_wp2_with fail
 go_ret
 exact ⟨⟨-1, rfl, ⟨fun e => absurd e (by decide), fun ⟨j, hj, e⟩ => absurd e (hm.out j hj (by omega))⟩⟩, hx⟩
theorem containsT_any (x : Int) (g : Nat) (sl : Value) (L : List (RawT × Value × Value × Value)) (W : World) (h : LAt kT No W sl L) (h0 : W.cell? ⟨g, 0, none⟩ = some (.int .i64 x)) :
  Calls Tryz.prog 92 #[sl, .func (.func 93) #[] #[.pointer (some ⟨g, 0, none⟩)]] W (Tells (∃ (k : Nat) (hk : k < L.length), ¬ FitT x L[k].1) W) := by
 go_enter Tryz.func92, Tryz.ntmps92
 go_wp2_with fail
 refine (indexT_any x g _ L _ h h0).mono ?_
 rintro e w1 ⟨⟨z, rfl, hz⟩, hx⟩
 have HZ := Lib.hid hz
 clear hz
 go_wp2_with fail
 go_ret
 exact ⟨_, rfl, ⟨fun e => HZ.out.1 (by simpa using e), fun e => by simpa using HZ.out.2 e⟩, hx⟩


import Derived.Test.YtmddchceacmopaaDoorProg
import Derived.Deep.QuietTactic
import Derived.BigQuiet
import Derived.WalkSpells
import Derived.IntWalk
import Derived.Test.YtmddchceacmopaaDoorTrB
import Derived.Deep.Onto
set_option linter.unusedVariables false
set_option linter.unusedSimpArgs false
namespace Go.Proofs.YtmddchceacmopaaDoor
open Go Go.RowKit
def TapeOk (w : World) (tb : Nat) : Prop := ∃ (sl : Value) (n i : Nat) (zs : List Int), w.heap[tb]? = some (.cells #[sl, .int .i64 i] 68 (0, 0)) ∧ i ≤ n ∧ n = zs.length ∧ Row (From tb) w 1 sl n (zs.map (.int .i64))
theorem TapeOk.ext {w w' : World} {tb : Nat} (h : TapeOk w tb) (hx : Ext No w w') : TapeOk w' tb := by
 obtain ⟨sl, n, i, zs, h1, h2, h3, h4⟩ := h
 exact ⟨sl, n, i, zs, (hx.block tb (lt_of_block h1) (fun x => x.elim)).trans h1, h2, h3, h4.extNo hx⟩
theorem TapeOk.extM {M : Nat → Prop} {w w' : World} {tb : Nat} (h : TapeOk w tb) (hx : Ext M w w') (hb : ∀ i, i < w.heap.size → M i → False) : TapeOk w' tb := h.ext (hx.mono hb)
theorem TapeOk.extAbove {M : Nat → Prop} {w w' : World} {tb : Nat} (h : TapeOk w tb) (hx : Ext M w w') (hb : ∀ i, i ≤ tb → ¬ M i) : TapeOk w' tb := by
 obtain ⟨sl, n, i, zs, h1, h2, h3, h4⟩ := h
 refine ⟨sl, n, i, zs, (hx.block tb (lt_of_block h1) (hb tb (Nat.le_refl _))).trans h1, h2, h3, h4.ext hx (fun i _ x => ?_)⟩
 rcases Nat.lt_or_ge i tb with h | h
 ·exact absurd x (hb i (by omega))
 exact h
theorem TapeOk.lt {w : World} {tb : Nat} (h : TapeOk w tb) : tb < w.heap.size := by
 obtain ⟨sl, n, i, zs, h1, _⟩ := h; exact lt_of_block h1
theorem set2 {w : World} {b T : Nat} {v0 v1 u : Value} (h : w.heap[b]? = some (.cells #[v0, v1] T (0, 0))) :
  (w.setCell ⟨b, 1, none⟩ u).heap[b]? = some (.cells #[v0, u] T (0, 0)) := by
 have hlt := lt_of_block h
 have h' : w.heap[b] = .cells #[v0, v1] T (0, 0) := by simpa [Array.getElem?_eq_getElem hlt] using h
 show (w.heap.modify b _)[b]? = _
 rw [Array.getElem?_eq_getElem (by simpa using hlt), Array.getElem_modify_self, h']
 rfl
theorem TapeOk.step {w : World} {tb n i T : Nat} {sl : Value} {zs : List Int} (hT : T = 68) (h1 : w.heap[tb]? = some (.cells #[sl, .int .i64 i] T (0, 0))) (h2 : i < n) (h3 : n = zs.length) (h4 : Row (From tb) w 1 sl n (zs.map (.int .i64))) :
  TapeOk (w.setCell ⟨tb, 1, none⟩ (.int .i64 (i + 1))) tb := by
 subst hT
 exact ⟨sl, n, i + 1, zs, by rw [set2 h1]; rfl, by omega, h3, h4.ext ((Ext.refl (At tb) w).setCell (p := ⟨tb, 1, none⟩) (fun _ => rfl) _) (fun i _ x => by cases x; exact Nat.le_refl _)⟩
def Ints (M : Nat → Prop) (w : World) (k : IntKind) (sl : Value) (zs : List Int) : Prop := Row M w 1 sl zs.length (zs.map (.int k))
end Go.Proofs.YtmddchceacmopaaDoor

namespace Go.Proofs.YtmddchceacmopaaDoor
open Go Go.RowKit
theorem RMem.tape {E : Nat → Prop} {W wx wy : World} {C D w m g tb : Nat} {u0 u1 : Value} (h : RMem E W C D w m g wx) (ht : TapeOk wy tb) (hb : tb < W.heap.size) : TapeOk ((wy.setCell ⟨D, 0, none⟩ u0).setCell ⟨D, 1, none⟩ u1) tb :=
 TapeOk.extAbove ht (ext_two (W := wy) (Ext.refl _ _) D) (fun i hi e => by have := h.lowD; unfold At at e; omega)
end Go.Proofs.YtmddchceacmopaaDoor
namespace Go.Proofs.YtmddchceacmopaaDoor
open Go Go.RowKit
theorem compareZ_lt {p q : Int × Int} (h : p.1 < q.1 ∨ p.1 = q.1 ∧ p.2 < q.2) : compareZ p q < 0 := by
 unfold compareZ
 rcases h with h | ⟨h1, h2⟩
 ·have : cmpZ p.1 q.1 = -1 := by unfold cmpZ; rw [if_pos h]
  rw [this]; unfold orZ; simp
 have e1 : cmpZ p.1 q.1 = 0 := by unfold cmpZ; rw [if_neg (by omega), if_neg (by omega)]
 have e2 : cmpZ p.2 q.2 = -1 := by unfold cmpZ; rw [if_pos h2]
 rw [e1, e2]; decide
end Go.Proofs.YtmddchceacmopaaDoor
namespace Go.Proofs.YtmddchceacmopaaDoor
open Go Go.RowKit
theorem infoC : (Tryd.prog.info? 27).map (fun i => (i.zero, i.size, i.bytes)) = some (some (.agg #[.int .i64 0, .int .i64 0]), 2, 16) := by kernel_rfl
section
variable {tb : Nat} {W wx wy : World} {C D w m1 g1 m2 g2 B : Nat} {l l2 : List (Int × Int)} {sc sc2 : Value}
theorem flatC_app (l : List (Int × Int)) (a b : Int) : flatC l ++ [.int .i64 a, .int .i64 b] = flatC (l ++ [(a, b)]) := by simp [flatC, CopyC]
end
end Go.Proofs.YtmddchceacmopaaDoor
namespace Go.Proofs.YtmddchceacmopaaDoor
open Go Go.RowKit
def sameB (s t : RawSet) : Bool := decide (s.width = t.width ∧ s.words = t.words)
theorem same_no {s t : RawSet} (h : ¬ (s.width = t.width ∧ s.words = t.words)) : sameB s t = false := decide_eq_false h
set_option maxRecDepth 100000 in
set_option maxHeartbeats 1000000 in
theorem rsame_any (s t : RawSet) (u v : Value) (W : World) (hs : RawV No W u s) (ht : RawV No W v t) : Calls Tryd.prog 26 #[u, v] W (BoolPost (sameB s t) W) := by
 obtain ⟨su, rfl, hu⟩ := hs
 obtain ⟨sv, rfl, hv⟩ := ht
 have HU := Lib.hid hu
 have HV := Lib.hid hv
 obtain ⟨au, cu, rfl⟩ := hu.slice
 obtain ⟨av, cv, rfl⟩ := hv.slice
 clear hu hv
 have hxa : Ext No W ((W.alloc (.cells #[.int .i64 s.width, .slice au s.words.length cu] 24)).alloc (.cells #[.int .i64 t.width, .slice av t.words.length cv] 24)) := ((Ext.refl _ _).alloc _).alloc _
 have hA : ((W.alloc (.cells #[.int .i64 s.width, .slice au s.words.length cu] 24)).alloc (.cells #[.int .i64 t.width, .slice av t.words.length cv] 24)).heap[W.heap.size]? = some (.cells #[.int .i64 s.width, .slice au s.words.length cu] 24 (0, 0)) := alloc_under (alloc_top rfl)
 have hB : ((W.alloc (.cells #[.int .i64 s.width, .slice au s.words.length cu] 24)).alloc (.cells #[.int .i64 t.width, .slice av t.words.length cv] 24)).heap[W.heap.size + 1]? = some (.cells #[.int .i64 t.width, .slice av t.words.length cv] 24 (0, 0)) := alloc_top (by simp)
 have cA := cellOf hA
 have cB := cellOf hB
 by_cases hw : s.width = t.width
 ·by_cases hl : s.words.length = t.words.length
  ·have hbig : s.words.length ≤ 9223372036854775807 := HU.out.row.2.1
   have HW := Lib.hid hw
   have HL := Lib.hid hl
   rw [← hw] at hA hB hxa ⊢
   rw [← hl] at hA hB hxa HV ⊢
   clear hw hl cA cB
   have cA := cellOf hA
   have cB := cellOf hB
   go_enter Tryd.func26, Tryd.ntmps26
   go_wp2_with fail
   generalize ((W.alloc (.cells #[.int .i64 s.width, .slice au s.words.length cu] 24)).alloc (.cells #[.int .i64 s.width, .slice av s.words.length cv] 24)) = W0 at *
   clear cA cB
   have hx0 : Hid (Ext No W0 W0) := Lib.hid (Ext.refl _ _)
   go_loopw [5] (fun i wr => ∃ k : Nat, k ≤ s.words.length ∧ i = .int .i64 k ∧ Hid (∀ j (h1 : j < s.words.length) (h2 : j < t.words.length), j < k → s.words[j] = t.words[j]) ∧ Hid (Ext No W0 wr)) (fun i _ => s.words.length - (intOf i).toNat)
   case atStart => exact ⟨0, Nat.zero_le _, rfl, Lib.hid (fun j _ _ h => by omega), hx0⟩
   clear hx0
   obtain ⟨k, hk, rfl, hq, hx⟩ := hrel
   rename World => wr
   have cA := cellOf (hx.out.blk hA no_no)
   have cB := cellOf (hx.out.blk hB no_no)
   have hpos : (0 : Int) ≤ (k : Int) := by omega
   by_cases hlt : k < s.words.length
   ·have hlt2 : k < t.words.length := HL.out ▸ hlt
    obtain ⟨bu, ou, pu, hsu, _, _, hcu⟩ := (HU.out.extNo (hxa.transNo hx.out)).at hlt
    obtain ⟨bv, ov, pv, hsv, _, _, hcv⟩ := (HV.out.extNo (hxa.transNo hx.out)).at hlt2
    rw [← HL.out] at hsv
    simp only [Value.slice.injEq] at hsu hsv
    obtain ⟨rfl, _, rfl⟩ := hsu
    obtain ⟨rfl, _, rfl⟩ := hsv
    have q0 := hcu k hlt
    have q1 := hcv k hlt2
    obtain ⟨x, hxe⟩ : ∃ x, x = s.words[k] := ⟨_, rfl⟩
    obtain ⟨y, hye⟩ : ∃ y, y = t.words[k] := ⟨_, rfl⟩
    rw [← hxe] at q0
    rw [← hye] at q1
    have HXE := Lib.hid hxe
    have HYE := Lib.hid hye
    clear hcu hcv hxe hye
    have HKK : Hid (Value.int .i64 ((k : Int) + 1) = .int .i64 ((k + 1 : Nat) : Int)) := Lib.hid (by rw [show ((k + 1 : Nat) : Int) = (k : Int) + 1 from by omega])
    have hlz : (k : Int) < (s.words.length : Int) := by omega
    by_cases he : x = y
    ·have hez : (x : Int) = (y : Int) := by omega
     go_wp2_with fail
     go_quiet (fail)
     go_wp2_with fail
     go_roundw
     case rel => exact ⟨k + 1, by omega, HKK.out, Lib.hid (fun j h1 h2 h3 => by
      by_cases hj : j < k
      ·exact hq.out j h1 h2 hj
      obtain rfl : j = k := by omega
      rw [← HXE.out, ← HYE.out, he]), Lib.hid (hx.out.drewN _)⟩
     case measure => simp [intOf]; omega
    have hez : ¬ (x : Int) = (y : Int) := by omega
    have e : sameB s t = false := same_no (fun h => he (by rw [HXE.out, HYE.out]; simp only [h.2]))
    go_wp2_with fail
    go_quiet (fail)
    go_wp2_with fail
    go_ret
    rw [e]
    exact ⟨rfl, hxa.transNo (hx.out.drewN _)⟩
   have hge : (s.words.length : Int) ≤ (k : Int) := by omega
   have e : sameB s t = true := decide_eq_true ⟨HW.out, List.ext_getElem HL.out (fun j h1 h2 => hq.out j h1 h2 (by omega))⟩
   go_wp2_with fail
   go_ret
   rw [e]
   exact ⟨rfl, hxa.transNo hx.out⟩
  have e : sameB s t = false := same_no (fun h => hl (by rw [h.2]))
  rw [e]
  have hl' : ¬ (s.words.length : Int) = (t.words.length : Int) := by omega
  go_enter Tryd.func26, Tryd.ntmps26
  go_wp2_with fail
  go_ret
  exact ⟨rfl, by (repeat (first | (with_reducible exact Ext.refl _ _) | (with_reducible assumption) | (with_reducible refine Ext.drewN ?_ _) | (with_reducible refine Ext.drew ?_) | (with_reducible refine Ext.alloc ?_ _)))⟩
 have e : sameB s t = false := same_no (fun h => hw h.1)
 rw [e]
 go_enter Tryd.func26, Tryd.ntmps26
 go_wp2_with fail
 go_ret
 exact ⟨rfl, by (repeat (first | (with_reducible exact Ext.refl _ _) | (with_reducible assumption) | (with_reducible refine Ext.drewN ?_ _) | (with_reducible refine Ext.drew ?_) | (with_reducible refine Ext.alloc ?_ _)))⟩

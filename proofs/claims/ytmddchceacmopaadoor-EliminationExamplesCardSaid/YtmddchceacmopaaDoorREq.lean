
import Derived.Test.YtmddchceacmopaaDoorTrC
set_option linter.unusedVariables false
set_option linter.unusedSimpArgs false
namespace Go.Proofs.YtmddchceacmopaaDoor
open Go Go.RowKit
def eqT (r q : RawT) : Bool := sameB r.gen q.gen && (sameB r.kill q.kill && decide (r.copies = q.copies))
theorem eqT_gen {r q : RawT} (h : sameB r.gen q.gen = false) : eqT r q = false := by simp [eqT, h]
theorem eqT_kill {r q : RawT} (h : sameB r.kill q.kill = false) : eqT r q = false := by simp [eqT, h]
theorem eqT_copies {r q : RawT} (h : ¬ r.copies = q.copies) : eqT r q = false := by simp [eqT, h]
theorem eqT_all {r q : RawT} (h1 : sameB r.gen q.gen = true) (h2 : sameB r.kill q.kill = true) (h3 : r.copies = q.copies) : eqT r q = true := by simp [eqT, h1, h2, h3]
def AB (W0 : World) (A : Nat) (r q : RawT) (ag : Option Addr) (cg : Nat) (ak : Option Addr) (ck : Nat) (ac : Option Addr) (cc : Nat) (bg : Option Addr) (dg : Nat) (bk : Option Addr) (dk : Nat) (bc : Option Addr) (dc : Nat) : Prop :=
 W0.heap[A]? = some (.cells #[.int .i64 r.gen.width, .slice ag r.gen.words.length cg, .int .i64 r.kill.width, .slice ak r.kill.words.length ck, .slice ac r.copies.length cc] 30 (0, 0)) ∧
 W0.heap[A + 1]? = some (.cells #[.int .i64 q.gen.width, .slice bg q.gen.words.length dg, .int .i64 q.kill.width, .slice bk q.kill.words.length dk, .slice bc q.copies.length dc] 30 (0, 0))
set_option maxRecDepth 100000 in
set_option maxHeartbeats 2000000 in
theorem requals_any (r q : RawT) (g1 k1 c1 g2 k2 c2 : Value) (W : World) (h1 : RawTAt No W g1 k1 c1 r) (h2 : RawTAt No W g2 k2 c2 q) :
  Calls Tryd.prog 9 #[.agg #[.int .i64 r.gen.width, g1, .int .i64 r.kill.width, k1, c1], .agg #[.int .i64 q.gen.width, g2, .int .i64 q.kill.width, k2, c2]] W (BoolPost (eqT r q) W) := by
 have H1 := Lib.hid h1
 have H2 := Lib.hid h2
 obtain ⟨ag, cg, rfl⟩ := h1.gen.slice
 obtain ⟨ak, ck, rfl⟩ := h1.kill.slice
 obtain ⟨ac, cc, rfl⟩ := Row.slice h1.copies
 obtain ⟨bg, dg, rfl⟩ := h2.gen.slice
 obtain ⟨bk, dk, rfl⟩ := h2.kill.slice
 obtain ⟨bc, dc, rfl⟩ := Row.slice h2.copies
 clear h1 h2
 have hxa : Ext No W ((W.alloc (.cells #[.int .i64 r.gen.width, .slice ag r.gen.words.length cg, .int .i64 r.kill.width, .slice ak r.kill.words.length ck, .slice ac r.copies.length cc] 30)).alloc (.cells #[.int .i64 q.gen.width, .slice bg q.gen.words.length dg, .int .i64 q.kill.width, .slice bk q.kill.words.length dk, .slice bc q.copies.length dc] 30)) := ((Ext.refl _ _).alloc _).alloc _
 have hAB : AB ((W.alloc (.cells #[.int .i64 r.gen.width, .slice ag r.gen.words.length cg, .int .i64 r.kill.width, .slice ak r.kill.words.length ck, .slice ac r.copies.length cc] 30)).alloc (.cells #[.int .i64 q.gen.width, .slice bg q.gen.words.length dg, .int .i64 q.kill.width, .slice bk q.kill.words.length dk, .slice bc q.copies.length dc] 30)) W.heap.size r q ag cg ak ck ac cc bg dg bk dk bc dc := ⟨alloc_under (alloc_top rfl), alloc_top (by simp)⟩
 have cA := cellOf hAB.1
 have cB := cellOf hAB.2
 have hbig : r.copies.length ≤ 9223372036854775807 := H1.out.copies.2.1
 go_enter Tryd.func9, Tryd.ntmps9
 go_wp2_with fail
 generalize ((W.alloc (.cells #[.int .i64 r.gen.width, .slice ag r.gen.words.length cg, .int .i64 r.kill.width, .slice ak r.kill.words.length ck, .slice ac r.copies.length cc] 30)).alloc (.cells #[.int .i64 q.gen.width, .slice bg q.gen.words.length dg, .int .i64 q.kill.width, .slice bk q.kill.words.length dk, .slice bc q.copies.length dc] 30)) = W0 at *
 generalize W.heap.size = A at *
 clear cA cB
 refine (rsame_any r.gen q.gen _ _ _ ⟨_, rfl, H1.out.gen.extNo hxa⟩ ⟨_, rfl, H2.out.gen.extNo hxa⟩).mono ?_
 rintro e1 w1 ⟨he1, hy1⟩
 have cA := cellOf (hy1.blk hAB.1 no_no)
 have cB := cellOf (hy1.blk hAB.2 no_no)
 cases hb1 : sameB r.gen q.gen
 ·rw [hb1] at he1
  subst he1
  have e := eqT_gen hb1
  clear hb1
  go_wp2_with fail
  go_ret
  rw [e]
  exact ⟨rfl, hxa.transNo hy1⟩
 rw [hb1] at he1
 subst he1
 have HB1 := Lib.hid hb1
 clear hb1
 go_wp2_with fail
 have hz1 := hxa.transNo hy1
 refine (rsame_any r.kill q.kill _ _ _ ⟨_, rfl, H1.out.kill.extNo hz1⟩ ⟨_, rfl, H2.out.kill.extNo hz1⟩).mono ?_
 rintro e2 w2 ⟨he2, hy2⟩
 have HAB := Lib.hid (show AB w2 A r q ag cg ak ck ac cc bg dg bk dk bc dc from ⟨hy2.blk (hy1.blk hAB.1 no_no) no_no, hy2.blk (hy1.blk hAB.2 no_no) no_no⟩)
 have hz2 := hz1.transNo hy2
 clear cA cB hAB hy1 hy2 hz1 hxa
 have cA := cellOf HAB.out.1
 have cB := cellOf HAB.out.2
 cases hb2 : sameB r.kill q.kill
 ·rw [hb2] at he2
  subst he2
  have e := eqT_kill hb2
  clear hb2
  go_wp2_with fail
  go_ret
  rw [e]
  exact ⟨rfl, hz2⟩
 rw [hb2] at he2
 subst he2
 have HB2 := Lib.hid hb2
 clear hb2
 by_cases hl : r.copies.length = q.copies.length
 ·have HL := Lib.hid hl
  have hlz : (r.copies.length : Int) = (q.copies.length : Int) := by omega
  go_wp2_with fail
  clear cA cB hl hlz
  have hx0 : Hid (Ext No w2 w2) := Lib.hid (Ext.refl _ _)
  go_loopw [5] (fun i wr => ∃ k : Nat, k ≤ r.copies.length ∧ i = .int .i64 k ∧ Hid (∀ j (h1 : j < r.copies.length) (h2 : j < q.copies.length), j < k → r.copies[j] = q.copies[j]) ∧ Hid (Ext No w2 wr)) (fun i _ => r.copies.length - (intOf i).toNat)
  case atStart => exact ⟨0, Nat.zero_le _, rfl, Lib.hid (fun j _ _ h => by omega), hx0⟩
  clear hx0
  obtain ⟨k, hk, rfl, hq, hx⟩ := hrel
  rename World => wr
  have cA := cellOf (hx.out.blk HAB.out.1 no_no)
  have cB := cellOf (hx.out.blk HAB.out.2 no_no)
  have hpos : (0 : Int) ≤ (k : Int) := by omega
  by_cases hlt : k < r.copies.length
  ·have hlt2 : k < q.copies.length := HL.out ▸ hlt
   obtain ⟨bu, ou, pu, hsu, _, _, hcu⟩ := CopiesAt.at (Row.extNo H1.out.copies (hz2.transNo hx.out)) hlt
   obtain ⟨bv, ov, pv, hsv, _, _, hcv⟩ := CopiesAt.at (Row.extNo H2.out.copies (hz2.transNo hx.out)) hlt2
   simp only [Value.slice.injEq] at hsu hsv
   obtain ⟨rfl, _, rfl⟩ := hsu
   obtain ⟨rfl, _, rfl⟩ := hsv
   obtain ⟨q0, q1⟩ := hcu k hlt
   obtain ⟨q2, q3⟩ := hcv k hlt2
   obtain ⟨x, hxe⟩ : ∃ x, x = r.copies[k] := ⟨_, rfl⟩
   obtain ⟨y, hye⟩ : ∃ y, y = q.copies[k] := ⟨_, rfl⟩
   rw [← hxe] at q0 q1
   rw [← hye] at q2 q3
   have HXE := Lib.hid hxe
   have HYE := Lib.hid hye
   clear hcu hcv hxe hye
   have HKK : Hid (Value.int .i64 ((k : Int) + 1) = .int .i64 ((k + 1 : Nat) : Int)) := Lib.hid (by rw [show ((k + 1 : Nat) : Int) = (k : Int) + 1 from by omega])
   have hlz : (k : Int) < (r.copies.length : Int) := by omega
   have hlz2 : (k : Int) < (q.copies.length : Int) := by omega
   obtain ⟨x1, x2⟩ := x
   obtain ⟨y1, y2⟩ := y
   simp only at q0 q1 q2 q3
   by_cases he : x1 = y1 ∧ x2 = y2
   ·obtain ⟨rfl, rfl⟩ := he
    go_wp2_with fail
    go_quiet (fail)
    go_wp2_with fail
    go_roundw
    case rel => exact ⟨k + 1, by omega, HKK.out, Lib.hid (fun j h1 h2 h3 => by
     by_cases hj : j < k
     ·exact hq.out j h1 h2 hj
     obtain rfl : j = k := by omega
     rw [← HXE.out, ← HYE.out]), Lib.hid (hx.out.drewN _)⟩
    case measure => simp [intOf]; omega
   have e : eqT r q = false := eqT_copies (fun h => he (by
    have h2 : ((x1, x2) : Int × Int) = (y1, y2) := by rw [HXE.out, HYE.out]; simp only [h]
    exact ⟨congrArg Prod.fst h2, congrArg Prod.snd h2⟩))
   cases hb1 : x1 == y1 <;> cases hb2 : x2 == y2
   case true.true => exact absurd ⟨by simpa using hb1, by simpa using hb2⟩ he
   all_goals
    clear he
    go_wp2_with fail
    go_quiet (fail)
    go_wp2_with fail
    go_ret
    rw [e]
    exact ⟨rfl, hz2.transNo (hx.out.drewN _)⟩
  have hge : (r.copies.length : Int) ≤ (k : Int) := by omega
  have e : eqT r q = true := eqT_all HB1.out HB2.out (List.ext_getElem HL.out (fun j h1 h2 => hq.out j h1 h2 (by omega)))
  go_wp2_with fail
  go_ret
  rw [e]
  exact ⟨rfl, hz2.transNo hx.out⟩
 have e : eqT r q = false := eqT_copies (fun h => hl (by rw [h]))
 have hl' : ¬ (r.copies.length : Int) = (q.copies.length : Int) := by omega
 clear hl
 go_wp2_with fail
 go_ret
 rw [e]
 exact ⟨rfl, hz2⟩

/- Huge answers. -/
import Derived.Test.YtkdjdhflhlbelaaF2
set_option linter.unusedVariables false
set_option linter.unusedSimpArgs false
namespace Go.Proofs.Ytkdjdhflhlbelaa
open Go Go.RowKit
def SomeB (W : World) (e : Ending) (w' : World) : Prop := (∃ b : Bool, e = .returned (.bool b)) ∧ Ext No W w'
set_option maxRecDepth 100000 in
set_option maxHeartbeats 4000000 in
theorem huge_any (x : Int) (vd vt vb : Value) (Ld : LD) (Lt : LT) (Lb : LS) (W : World) (h : YAt No W vd vt vb Ld Lt Lb) :
  Calls Try.prog 20 #[.agg #[.int .i64 x, vd, vt, vb]] W (SomeB W) := by
 have H := Lib.hid h
 obtain ⟨ad, cd, rfl⟩ := h.d.slice
 obtain ⟨at1, ct, rfl⟩ := h.t.slice
 obtain ⟨ab, cb, rfl⟩ := h.b.slice
 clear h
 go_enter Try.func20, Try.ntmps20
 go_upto_region 1 with (fail)
 have hx0 : Ext No W (W.alloc (.cells #[.int .i64 x, .slice ad Ld.length cd, .slice at1 Lt.length ct, .slice ab Lb.length cb] 29)) := (Ext.refl _ _).alloc _
 have HB := Lib.hid (alloc_top (w := W) (o := .cells #[.int .i64 x, .slice ad Ld.length cd, .slice at1 Lt.length ct, .slice ab Lb.length cb] 29) rfl)
 generalize (W.alloc (.cells #[.int .i64 x, .slice ad Ld.length cd, .slice at1 Lt.length ct, .slice ab Lb.length cb] 29)) = w1 at *
 have cB := cellOf HB.out
 by_cases c2 : 6 < (Ld.length : Int)
 ·go_wp2_with fail
  go_ret
  exact ⟨⟨_, rfl⟩, hx0⟩
 ·skip
  by_cases c4 : 6 < (Lt.length : Int)
  ·go_wp2_with fail
   go_ret
   exact ⟨⟨_, rfl⟩, hx0⟩
  ·skip
   by_cases c6 : 6 < (Lb.length : Int)
   ·go_wp2_with fail
    go_ret
    exact ⟨⟨_, rfl⟩, hx0⟩
   ·skip
    by_cases c8 : 8 < x
    ·go_wp2_with fail
     go_ret
     exact ⟨⟨_, rfl⟩, hx0⟩
    ·skip
     go_wp2_with fail
     have HX := Lib.hid hx0
     clear hx0 cB
     go_loopw [3] (fun i wr => ∃ k : Nat, i = .int .i64 k ∧ k ≤ Ld.length ∧ Hid (Ext No w1 wr)) (fun i _ => Ld.length - (intOf i).toNat)
     case atStart => exact ⟨0, rfl, Nat.zero_le _, Lib.hid (Ext.refl _ _)⟩
     case round =>
      obtain ⟨k, rfl, hk, hx⟩ := hrel
      rename World => wr
      have cB := cellOf (hx.out.blk HB.out no_no)
      by_cases hlt : k < Ld.length
      ·have hlz : (k : Int) < (Ld.length : Int) := by omega
       obtain ⟨b, off, cap', hsl, hb1, _, hcell⟩ := (H.out.extNo (HX.out.transNo hx.out)).d.atD hlt
       simp only [Value.slice.injEq] at hsl
       obtain ⟨rfl, _, rfl⟩ := hsl
       have q0 := hcell k hlt
       obtain ⟨e1, e2, he⟩ := Row.slice ((H.out.d.ok Ld[k] (List.getElem_mem hlt) : Ints No W .i64 Ld[k].2 Ld[k].1))
       rw [he] at q0
       generalize Ld[k].1.length = m at *
       clear he hcell hb1
       by_cases hm : 8 < (m : Int)
       ·go_wp2_with fail
        go_ret
        exact ⟨⟨_, rfl⟩, HX.out.transNo hx.out⟩
       ·go_wp2_with fail
        go_roundw
        case rel => exact ⟨k + 1, by go_num, by omega, hx⟩
        case measure => simp [intOf]; omega
      ·have hge : ¬ (k : Int) < (Ld.length : Int) := by omega
       go_wp2_with fail
       clear cB
       go_loopw [4] (fun i wx => ∃ k : Nat, i = .int .i64 k ∧ k ≤ Lt.length ∧ Hid (Ext No w1 wx)) (fun i _ => Lt.length - (intOf i).toNat)
       case atStart => exact ⟨0, rfl, Nat.zero_le _, hx⟩
       case round =>
        clear hx hge hlt hk
        obtain ⟨k, rfl, hk, hx⟩ := hrel
        rename World => wx
        have cB := cellOf (hx.out.blk HB.out no_no)
        by_cases hlt : k < Lt.length
        ·have hlz : (k : Int) < (Lt.length : Int) := by omega
         obtain ⟨b, off, cap', hsl, hb1, _, hcell⟩ := (H.out.extNo (HX.out.transNo hx.out)).t.atT hlt
         simp only [Value.slice.injEq] at hsl
         obtain ⟨rfl, _, rfl⟩ := hsl
         have q0 := (hcell k hlt).2.2.2.2
         obtain ⟨e1, e2, he⟩ := Row.slice ((H.out.t.ok Lt[k] (List.getElem_mem hlt) : RawTAt No W Lt[k].2.1 Lt[k].2.2.1 Lt[k].2.2.2 Lt[k].1).copies)
         rw [he] at q0
         generalize Lt[k].1.copies.length = m at *
         clear he hcell hb1
         by_cases hm : 12 < (m : Int)
         ·go_wp2_with fail
          go_ret
          exact ⟨⟨_, rfl⟩, HX.out.transNo hx.out⟩
         ·go_wp2_with fail
          go_roundw
          case rel => exact ⟨k + 1, by go_num, by omega, hx⟩
          case measure => simp [intOf]; omega
        ·have hge : ¬ (k : Int) < (Lt.length : Int) := by omega
         go_wp2_with fail
         go_ret
         exact ⟨⟨_, rfl⟩, HX.out.transNo hx.out⟩
end Go.Proofs.Ytkdjdhflhlbelaa

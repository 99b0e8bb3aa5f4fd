/- Checksum of both sides; Decode of too few bytes. -/
import Derived.Test.YtjeohlooaiociaaGreatDoorP9
set_option linter.unusedVariables false
set_option linter.unusedSimpArgs false
namespace Go.Proofs.YtjeohlooaiociaaGreatDoor
open Go Go.RowKit
theorem pchecksum_any (l : List Nat) (sl : Value) (W : World) (h : Ints No W .u8 sl (natsZ l)) (hb : ∀ b ∈ l, b < 256) :
  Calls Tryz.prog 57 #[sl] W (fun e w' => e = .returned (.int .u32 ((crcF l : Nat) : Int)) ∧ Ext No W w') := by
 go_enter Tryz.func57, Tryz.ntmps57
 go_wp2_with fail
 refine (checksum_any l _ _ h hb).mono ?_
 rintro e w1 ⟨rfl, hx⟩
 go_wp2_with fail
 go_ret
 exact ⟨rfl, hx⟩
theorem open_short (a : Option Addr) (n c : Nat) (hn : n < 4) (W : World) :
  Calls Tryz.prog 69 #[.slice a n c] W (fun e w' => e = .returned (.tuple #[.pointer none, .int .i64 12]) ∧ Ext No W w') := by
 have hnz : (n : Int) < 4 := by omega
 go_enter Tryz.func69, Tryz.ntmps69
 go_wp2_with fail
 refine ret_ex rfl ?_
 simp [results, Tryz.results69, go_sem]
 exact Ext.refl _ _
theorem decode_short (a : Option Addr) (n c : Nat) (hn : n < 4) (W : World) :
  Calls Tryz.prog 29 #[.slice a n c] W (fun e w' => e = .returned (.tuple #[.agg #[.slice none 0 0, .slice none 0 0], .int .i64 12]) ∧ Ext No W w') := by
 go_enter Tryz.func29, Tryz.ntmps29
 go_upto_region 1 with (fail)
 have hx0 : Ext No W (W.alloc (.cells #[.slice none 0 0, .slice none 0 0] 29)) := (Ext.refl _ _).alloc _
 have HA := Lib.hid (alloc_top (w := W) (o := (.cells #[.slice none 0 0, .slice none 0 0] 29)) rfl)
 generalize (W.alloc (.cells #[.slice none 0 0, .slice none 0 0] 29)) = V at *
 go_wp2_with fail
 refine (open_short a n c hn _).mono ?_
 rintro e1 w1 ⟨rfl, hx1⟩
 have hA1 := hx1.blk HA.out no_no
 have cA := cellOf hA1
 have fA := freeOf hA1
 go_wp2_with fail
 have hbF := (set_same (j := 1) (u := .slice none 0 0) (set_same (j := 0) (u := .slice none 0 0) hA1)).trans rfl
 have hE : Ext (At W.heap.size) w1 ((w1.setCell ⟨W.heap.size, 0, none⟩ (.slice none 0 0)).setCell ⟨W.heap.size, 1, none⟩ (.slice none 0 0)) := ((Ext.refl (At W.heap.size) w1).setAt _ _).setAt _ _
 clear cA fA
 generalize ((w1.setCell ⟨W.heap.size, 0, none⟩ (.slice none 0 0)).setCell ⟨W.heap.size, 1, none⟩ (.slice none 0 0)) = WF at *
 have cF := cellOf hbF
 refine ret_ex rfl ?_
 simp [results, Tryz.results29, go_sem, cF]
 exact (hx0.transNo hx1).trans2 hE (fun i hi e => by unfold At at e; omega)
end Go.Proofs.YtjeohlooaiociaaGreatDoor

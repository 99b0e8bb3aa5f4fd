/- fixpoint.IsSolution at valid arguments; the law's own example. -/
import Derived.Test.YtjeohlooaiociaaGreatDoorF5
import Derived.Test.YtjeohlooaiociaaGreatDoorTrC
import Derived.Test.YtjeohlooaiociaaGreatDoorF8
set_option linter.unusedVariables false
set_option linter.unusedSimpArgs false
namespace Go.Proofs.YtjeohlooaiociaaGreatDoor
open Go Go.RowKit
theorem no_lt' {n : Nat} : ∀ b, No b → b < n := fun _ e => e.elim
/-! ### the example -/
set_option maxHeartbeats 1000000 in
theorem rident_any (w : Nat) (W : World) (hw : w ≤ 256) : Calls Tryz.prog 56 #[.int .i64 (w : Int)] W (fun e w' => ∃ g1 g2, e = .returned (.agg #[.int .i64 (w : Int), .slice (some ⟨g1, 0, none⟩) (nw w) (nw w), .int .i64 (w : Int), .slice (some ⟨g2, 0, none⟩) (nw w) (nw w), .slice none 0 0]) ∧ Hid (BlkW w' g1 w 0) ∧ Hid (BlkW w' g2 w 0) ∧ W.heap.size ≤ g1 ∧ W.heap.size ≤ g2 ∧ Ext No W w') := by
 go_enter Tryz.func56, Tryz.ntmps56
 go_wp2_with fail
 have hx0 : Ext No W (W.alloc (.cells #[.int .i64 0, .slice none 0 0, .int .i64 0, .slice none 0 0, .slice none 0 0] 69)) := (Ext.refl _ _).alloc _
 have hC := alloc_top (w := W) (o := .cells #[.int .i64 0, .slice none 0 0, .int .i64 0, .slice none 0 0, .slice none 0 0] 69) rfl
 have hsz : (W.alloc (.cells #[.int .i64 0, .slice none 0 0, .int .i64 0, .slice none 0 0, .slice none 0 0] 69)).heap.size = W.heap.size + 1 := by simp
 have HSZ := Lib.hid hsz
 clear hsz
 refine (rempty_any w _ hw).mono ?_
 rintro e1 w1 ⟨g1, rfl, hb1, hlo1, hx1⟩
 have HX1 := Lib.hid (hx0.transNo hx1)
 have HC := Lib.hid (hx1.blk hC no_no)
 have hl1 : Hid (W.heap.size + 1 ≤ g1) := Lib.hid (by rw [← HSZ.out]; exact hlo1)
 clear hx0 hC hx1 hlo1
 go_wp2_with fail
 refine (rempty_any w _ hw).mono ?_
 rintro e2 w2 ⟨g2, rfl, hb2, hlo2, hx2⟩
 have hl2 : Hid (W.heap.size + 1 ≤ g2) := Lib.hid (by have := lt_of_block HC.out; omega)
 have HX2 := Lib.hid (HX1.out.transNo hx2)
 have HC2 := hx2.blk HC.out no_no
 have hb12 := Lib.hid (hx2.blk (hb1.out : w1.heap[g1]? = _) no_no)
 have cC := cellOf HC2
 have fC := freeOf HC2
 clear hx2 hlo2 HC hb1 HX1
 go_wp2_with fail
 have hfin := BoxR.fin5 ⟨_, rfl, HC2⟩ (.int .i64 (w : Int)) (.slice (some ⟨g1, 0, none⟩) (nw w) (nw w)) (.int .i64 (w : Int)) (.slice (some ⟨g2, 0, none⟩) (nw w) (nw w)) (.slice none 0 0)
 have hE := set5 w2 W.heap.size (.int .i64 (w : Int)) (.slice (some ⟨g1, 0, none⟩) (nw w) (nw w)) (.int .i64 (w : Int)) (.slice (some ⟨g2, 0, none⟩) (nw w) (nw w)) (.slice none 0 0)
 clear cC fC
 generalize (((((w2.setCell ⟨W.heap.size, 0, none⟩ (.int .i64 (w : Int))).setCell ⟨W.heap.size, 1, none⟩ (.slice (some ⟨g1, 0, none⟩) (nw w) (nw w))).setCell ⟨W.heap.size, 2, none⟩ (.int .i64 (w : Int))).setCell ⟨W.heap.size, 3, none⟩ (.slice (some ⟨g2, 0, none⟩) (nw w) (nw w))).setCell ⟨W.heap.size, 4, none⟩ (.slice none 0 0)) = WF at *
 have cF := cellOf hfin
 refine ret_ex rfl ?_
 simp [results, Tryz.results56, go_sem, cF]
 have k1 := hl1.out
 have k2 := hl2.out
 exact ⟨g1, g2, ⟨rfl, rfl⟩, Lib.hid (hE.blk hb12.out (by unfold At; omega)), Lib.hid (hE.blk (hb2.out : w2.heap[g2]? = _) (by unfold At; omega)), by omega, by omega, HX2.out.trans2 hE (fun i hi e => by unfold At at e; omega)⟩
theorem one_list {β : Type} {K : EK β} {W : World} {g : Nat} {cs : Array Value} {T : TypeId} {p : β} (h : W.heap[g]? = some (.cells cs T (0, 0))) (hc : cs.toList = K.cells p) (hs : cs.size = K.s) (hok : K.ok No W p) : LAt K No W (.slice (some ⟨g, 0, none⟩) 1 1) [p] := by
 refine ⟨?_, fun q hq => by rw [List.mem_singleton.1 hq]; exact hok⟩
 have h1 := Row.block (M := No) (n := 1) (s := K.s) h (by rw [Nat.one_mul]; exact hs) no_no (by decide)
 rw [hc] at h1
 simpa using h1
end Go.Proofs.YtjeohlooaiociaaGreatDoor

/- The sanity check of flqlaw12. -/
import Derived.Test.YtkdjdhflhlbelaaK10
import Derived.Test.YtkdjdhflhlbelaaK11
import Derived.Test.YtkdjdhflhlbelaaK20
set_option linter.unusedVariables false
set_option linter.unusedSimpArgs false
namespace Go.Proofs.Ytkdjdhflhlbelaa
open Go Go.RowKit Tj
set_option maxRecDepth 100000 in
set_option maxHeartbeats 8000000 in
theorem sane12_any (W : World) : Calls Try.prog 35 #[] W (BoolPost true W) := by
 go_enter Try.func35, Try.ntmps35
 go_wp2_with fail
 have hy1 : Ext No W ((W.alloc (.cells #[.int .i64 0] 3)).alloc (.cells #[.slice (some ⟨W.heap.size, 0, none⟩) 1 1] 22)) := ((Ext.refl _ _).alloc _).alloc _
 have D1 := Lib.hid (show ((W.alloc (.cells #[.int .i64 0] 3)).alloc (.cells #[.slice (some ⟨W.heap.size, 0, none⟩) 1 1] 22)).heap[W.heap.size]? = some (.cells #[.int .i64 0] 3 (0, 0)) from alloc_under (alloc_top rfl))
 have D2 := Lib.hid (show ((W.alloc (.cells #[.int .i64 0] 3)).alloc (.cells #[.slice (some ⟨W.heap.size, 0, none⟩) 1 1] 22)).heap[W.heap.size + 1]? = some (.cells #[.slice (some ⟨W.heap.size, 0, none⟩) 1 1] 22 (0, 0)) from alloc_top (by simp <;> omega))
 have HX := Lib.hid hy1
 clear hy1
 generalize ((W.alloc (.cells #[.int .i64 0] 3)).alloc (.cells #[.slice (some ⟨W.heap.size, 0, none⟩) 1 1] 22)) = v1 at *
 generalize W.heap.size = Q at *
 refine (rident_any 1 _ (by decide)).mono ?_
 rintro e2 v2 ⟨g1, g2, rfl, hbg1, hbg2, _, _, hy2⟩
 replace D1 := Lib.hid (hy2.blk D1.out no_no)
 replace D2 := Lib.hid (hy2.blk D2.out no_no)
 replace HX := Lib.hid (HX.out.transNo hy2)
 clear hy2
 replace hbg1 := Lib.hid (show BlkW v2 g1 1 0 from hbg1.out)
 replace hbg2 := Lib.hid (show BlkW v2 g2 1 0 from hbg2.out)
 go_wp2_with fail
 have hy3 : Ext No v2 (v2.alloc (.cells #[.int .i64 1, .slice (some ⟨g1, 0, none⟩) (nw 1) (nw 1), .int .i64 1, .slice (some ⟨g2, 0, none⟩) (nw 1) (nw 1), .slice none 0 0] 70)) := (Ext.refl _ _).alloc _
 have T1 := Lib.hid (show (v2.alloc (.cells #[.int .i64 1, .slice (some ⟨g1, 0, none⟩) (nw 1) (nw 1), .int .i64 1, .slice (some ⟨g2, 0, none⟩) (nw 1) (nw 1), .slice none 0 0] 70)).heap[v2.heap.size]? = some (.cells #[.int .i64 1, .slice (some ⟨g1, 0, none⟩) (nw 1) (nw 1), .int .i64 1, .slice (some ⟨g2, 0, none⟩) (nw 1) (nw 1), .slice none 0 0] 70 (0, 0)) from alloc_top rfl)
 replace D1 := Lib.hid (hy3.blk D1.out no_no)
 replace D2 := Lib.hid (hy3.blk D2.out no_no)
 replace hbg1 := Lib.hid (show BlkW (v2.alloc (.cells #[.int .i64 1, .slice (some ⟨g1, 0, none⟩) (nw 1) (nw 1), .int .i64 1, .slice (some ⟨g2, 0, none⟩) (nw 1) (nw 1), .slice none 0 0] 70)) g1 1 0 from hy3.blk (hbg1.out : v2.heap[g1]? = _) no_no)
 replace hbg2 := Lib.hid (show BlkW (v2.alloc (.cells #[.int .i64 1, .slice (some ⟨g1, 0, none⟩) (nw 1) (nw 1), .int .i64 1, .slice (some ⟨g2, 0, none⟩) (nw 1) (nw 1), .slice none 0 0] 70)) g2 1 0 from hy3.blk (hbg2.out : v2.heap[g2]? = _) no_no)
 replace HX := Lib.hid (HX.out.transNo hy3)
 clear hy3
 generalize (v2.alloc (.cells #[.int .i64 1, .slice (some ⟨g1, 0, none⟩) (nw 1) (nw 1), .int .i64 1, .slice (some ⟨g2, 0, none⟩) (nw 1) (nw 1), .slice none 0 0] 70)) = v3 at *
 generalize v2.heap.size = BT at *
 refine (rempty_any 1 _ (by decide)).mono ?_
 rintro e4 v4 ⟨g3, rfl, hbg3, _, hy4⟩
 replace D1 := Lib.hid (hy4.blk D1.out no_no)
 replace D2 := Lib.hid (hy4.blk D2.out no_no)
 replace hbg1 := Lib.hid (show BlkW v4 g1 1 0 from hy4.blk (hbg1.out : v3.heap[g1]? = _) no_no)
 replace hbg2 := Lib.hid (show BlkW v4 g2 1 0 from hy4.blk (hbg2.out : v3.heap[g2]? = _) no_no)
 replace T1 := Lib.hid (hy4.blk T1.out no_no)
 replace HX := Lib.hid (HX.out.transNo hy4)
 clear hy4
 replace hbg3 := Lib.hid (show BlkW v4 g3 1 0 from hbg3.out)
 go_upto_region 2 with (fail)
 have hy5 : Ext No v4 ((v4.alloc (.cells #[.int .i64 1, .slice (some ⟨g3, 0, none⟩) (nw 1) (nw 1)] 33)).alloc (.cells #[.int .i64 1, .slice (some ⟨Q + 1, 0, none⟩) 1 1, .slice (some ⟨BT, 0, none⟩) 1 1, .slice (some ⟨v4.heap.size, 0, none⟩) 1 1] 29)) := ((Ext.refl _ _).alloc _).alloc _
 have S1 := Lib.hid (show ((v4.alloc (.cells #[.int .i64 1, .slice (some ⟨g3, 0, none⟩) (nw 1) (nw 1)] 33)).alloc (.cells #[.int .i64 1, .slice (some ⟨Q + 1, 0, none⟩) 1 1, .slice (some ⟨BT, 0, none⟩) 1 1, .slice (some ⟨v4.heap.size, 0, none⟩) 1 1] 29)).heap[v4.heap.size]? = some (.cells #[.int .i64 1, .slice (some ⟨g3, 0, none⟩) (nw 1) (nw 1)] 33 (0, 0)) from alloc_under (alloc_top rfl))
 have X1 := Lib.hid (show ((v4.alloc (.cells #[.int .i64 1, .slice (some ⟨g3, 0, none⟩) (nw 1) (nw 1)] 33)).alloc (.cells #[.int .i64 1, .slice (some ⟨Q + 1, 0, none⟩) 1 1, .slice (some ⟨BT, 0, none⟩) 1 1, .slice (some ⟨v4.heap.size, 0, none⟩) 1 1] 29)).heap[v4.heap.size + 1]? = some (.cells #[.int .i64 1, .slice (some ⟨Q + 1, 0, none⟩) 1 1, .slice (some ⟨BT, 0, none⟩) 1 1, .slice (some ⟨v4.heap.size, 0, none⟩) 1 1] 29 (0, 0)) from alloc_top (by simp <;> omega))
 replace D1 := Lib.hid (hy5.blk D1.out no_no)
 replace D2 := Lib.hid (hy5.blk D2.out no_no)
 replace hbg1 := Lib.hid (show BlkW ((v4.alloc (.cells #[.int .i64 1, .slice (some ⟨g3, 0, none⟩) (nw 1) (nw 1)] 33)).alloc (.cells #[.int .i64 1, .slice (some ⟨Q + 1, 0, none⟩) 1 1, .slice (some ⟨BT, 0, none⟩) 1 1, .slice (some ⟨v4.heap.size, 0, none⟩) 1 1] 29)) g1 1 0 from hy5.blk (hbg1.out : v4.heap[g1]? = _) no_no)
 replace hbg2 := Lib.hid (show BlkW ((v4.alloc (.cells #[.int .i64 1, .slice (some ⟨g3, 0, none⟩) (nw 1) (nw 1)] 33)).alloc (.cells #[.int .i64 1, .slice (some ⟨Q + 1, 0, none⟩) 1 1, .slice (some ⟨BT, 0, none⟩) 1 1, .slice (some ⟨v4.heap.size, 0, none⟩) 1 1] 29)) g2 1 0 from hy5.blk (hbg2.out : v4.heap[g2]? = _) no_no)
 replace T1 := Lib.hid (hy5.blk T1.out no_no)
 replace hbg3 := Lib.hid (show BlkW ((v4.alloc (.cells #[.int .i64 1, .slice (some ⟨g3, 0, none⟩) (nw 1) (nw 1)] 33)).alloc (.cells #[.int .i64 1, .slice (some ⟨Q + 1, 0, none⟩) 1 1, .slice (some ⟨BT, 0, none⟩) 1 1, .slice (some ⟨v4.heap.size, 0, none⟩) 1 1] 29)) g3 1 0 from hy5.blk (hbg3.out : v4.heap[g3]? = _) no_no)
 replace HX := Lib.hid (HX.out.transNo hy5)
 clear hy5
 generalize ((v4.alloc (.cells #[.int .i64 1, .slice (some ⟨g3, 0, none⟩) (nw 1) (nw 1)] 33)).alloc (.cells #[.int .i64 1, .slice (some ⟨Q + 1, 0, none⟩) 1 1, .slice (some ⟨BT, 0, none⟩) 1 1, .slice (some ⟨v4.heap.size, 0, none⟩) 1 1] 29)) = v5 at *
 generalize v4.heap.size = BS at *
 go_wp2_with fail
 have hy6 : Ext No v5 ((v5.alloc (.cells #[.int .i64 1] 3)).alloc (.cells #[.slice (some ⟨v5.heap.size, 0, none⟩) 1 1, .slice none 0 0] 22)) := ((Ext.refl _ _).alloc _).alloc _
 have D3 := Lib.hid (show ((v5.alloc (.cells #[.int .i64 1] 3)).alloc (.cells #[.slice (some ⟨v5.heap.size, 0, none⟩) 1 1, .slice none 0 0] 22)).heap[v5.heap.size]? = some (.cells #[.int .i64 1] 3 (0, 0)) from alloc_under (alloc_top rfl))
 have D4 := Lib.hid (show ((v5.alloc (.cells #[.int .i64 1] 3)).alloc (.cells #[.slice (some ⟨v5.heap.size, 0, none⟩) 1 1, .slice none 0 0] 22)).heap[v5.heap.size + 1]? = some (.cells #[.slice (some ⟨v5.heap.size, 0, none⟩) 1 1, .slice none 0 0] 22 (0, 0)) from alloc_top (by simp <;> omega))
 replace D1 := Lib.hid (hy6.blk D1.out no_no)
 replace D2 := Lib.hid (hy6.blk D2.out no_no)
 replace hbg1 := Lib.hid (show BlkW ((v5.alloc (.cells #[.int .i64 1] 3)).alloc (.cells #[.slice (some ⟨v5.heap.size, 0, none⟩) 1 1, .slice none 0 0] 22)) g1 1 0 from hy6.blk (hbg1.out : v5.heap[g1]? = _) no_no)
 replace hbg2 := Lib.hid (show BlkW ((v5.alloc (.cells #[.int .i64 1] 3)).alloc (.cells #[.slice (some ⟨v5.heap.size, 0, none⟩) 1 1, .slice none 0 0] 22)) g2 1 0 from hy6.blk (hbg2.out : v5.heap[g2]? = _) no_no)
 replace T1 := Lib.hid (hy6.blk T1.out no_no)
 replace hbg3 := Lib.hid (show BlkW ((v5.alloc (.cells #[.int .i64 1] 3)).alloc (.cells #[.slice (some ⟨v5.heap.size, 0, none⟩) 1 1, .slice none 0 0] 22)) g3 1 0 from hy6.blk (hbg3.out : v5.heap[g3]? = _) no_no)
 replace S1 := Lib.hid (hy6.blk S1.out no_no)
 replace X1 := Lib.hid (hy6.blk X1.out no_no)
 replace HX := Lib.hid (HX.out.transNo hy6)
 clear hy6
 generalize ((v5.alloc (.cells #[.int .i64 1] 3)).alloc (.cells #[.slice (some ⟨v5.heap.size, 0, none⟩) 1 1, .slice none 0 0] 22)) = v6 at *
 generalize v5.heap.size = BD at *
 refine (rident_any 0 _ (by decide)).mono ?_
 rintro e7 v7 ⟨g4, g5, rfl, hbg4, hbg5, _, _, hy7⟩
 replace D1 := Lib.hid (hy7.blk D1.out no_no)
 replace D2 := Lib.hid (hy7.blk D2.out no_no)
 replace hbg1 := Lib.hid (show BlkW v7 g1 1 0 from hy7.blk (hbg1.out : v6.heap[g1]? = _) no_no)
 replace hbg2 := Lib.hid (show BlkW v7 g2 1 0 from hy7.blk (hbg2.out : v6.heap[g2]? = _) no_no)
 replace T1 := Lib.hid (hy7.blk T1.out no_no)
 replace hbg3 := Lib.hid (show BlkW v7 g3 1 0 from hy7.blk (hbg3.out : v6.heap[g3]? = _) no_no)
 replace S1 := Lib.hid (hy7.blk S1.out no_no)
 replace X1 := Lib.hid (hy7.blk X1.out no_no)
 replace D3 := Lib.hid (hy7.blk D3.out no_no)
 replace D4 := Lib.hid (hy7.blk D4.out no_no)
 replace HX := Lib.hid (HX.out.transNo hy7)
 clear hy7
 replace hbg4 := Lib.hid (show BlkW v7 g4 0 0 from hbg4.out)
 replace hbg5 := Lib.hid (show BlkW v7 g5 0 0 from hbg5.out)
 go_wp2_with fail
 refine (rident_any 0 _ (by decide)).mono ?_
 rintro e8 v8 ⟨g6, g7, rfl, hbg6, hbg7, _, _, hy8⟩
 replace D1 := Lib.hid (hy8.blk D1.out no_no)
 replace D2 := Lib.hid (hy8.blk D2.out no_no)
 replace hbg1 := Lib.hid (show BlkW v8 g1 1 0 from hy8.blk (hbg1.out : v7.heap[g1]? = _) no_no)
 replace hbg2 := Lib.hid (show BlkW v8 g2 1 0 from hy8.blk (hbg2.out : v7.heap[g2]? = _) no_no)
 replace T1 := Lib.hid (hy8.blk T1.out no_no)
 replace hbg3 := Lib.hid (show BlkW v8 g3 1 0 from hy8.blk (hbg3.out : v7.heap[g3]? = _) no_no)
 replace S1 := Lib.hid (hy8.blk S1.out no_no)
 replace X1 := Lib.hid (hy8.blk X1.out no_no)
 replace D3 := Lib.hid (hy8.blk D3.out no_no)
 replace D4 := Lib.hid (hy8.blk D4.out no_no)
 replace hbg4 := Lib.hid (show BlkW v8 g4 0 0 from hy8.blk (hbg4.out : v7.heap[g4]? = _) no_no)
 replace hbg5 := Lib.hid (show BlkW v8 g5 0 0 from hy8.blk (hbg5.out : v7.heap[g5]? = _) no_no)
 replace HX := Lib.hid (HX.out.transNo hy8)
 clear hy8
 replace hbg6 := Lib.hid (show BlkW v8 g6 0 0 from hbg6.out)
 replace hbg7 := Lib.hid (show BlkW v8 g7 0 0 from hbg7.out)
 go_wp2_with fail
 have hy9 : Ext No v8 (v8.alloc (.cells #[.int .i64 0, .slice (some ⟨g4, 0, none⟩) (nw 0) (nw 0), .int .i64 0, .slice (some ⟨g5, 0, none⟩) (nw 0) (nw 0), .slice none 0 0, .int .i64 0, .slice (some ⟨g6, 0, none⟩) (nw 0) (nw 0), .int .i64 0, .slice (some ⟨g7, 0, none⟩) (nw 0) (nw 0), .slice none 0 0] 70)) := (Ext.refl _ _).alloc _
 have T2 := Lib.hid (show (v8.alloc (.cells #[.int .i64 0, .slice (some ⟨g4, 0, none⟩) (nw 0) (nw 0), .int .i64 0, .slice (some ⟨g5, 0, none⟩) (nw 0) (nw 0), .slice none 0 0, .int .i64 0, .slice (some ⟨g6, 0, none⟩) (nw 0) (nw 0), .int .i64 0, .slice (some ⟨g7, 0, none⟩) (nw 0) (nw 0), .slice none 0 0] 70)).heap[v8.heap.size]? = some (.cells #[.int .i64 0, .slice (some ⟨g4, 0, none⟩) (nw 0) (nw 0), .int .i64 0, .slice (some ⟨g5, 0, none⟩) (nw 0) (nw 0), .slice none 0 0, .int .i64 0, .slice (some ⟨g6, 0, none⟩) (nw 0) (nw 0), .int .i64 0, .slice (some ⟨g7, 0, none⟩) (nw 0) (nw 0), .slice none 0 0] 70 (0, 0)) from alloc_top rfl)
 replace D1 := Lib.hid (hy9.blk D1.out no_no)
 replace D2 := Lib.hid (hy9.blk D2.out no_no)
 replace hbg1 := Lib.hid (show BlkW (v8.alloc (.cells #[.int .i64 0, .slice (some ⟨g4, 0, none⟩) (nw 0) (nw 0), .int .i64 0, .slice (some ⟨g5, 0, none⟩) (nw 0) (nw 0), .slice none 0 0, .int .i64 0, .slice (some ⟨g6, 0, none⟩) (nw 0) (nw 0), .int .i64 0, .slice (some ⟨g7, 0, none⟩) (nw 0) (nw 0), .slice none 0 0] 70)) g1 1 0 from hy9.blk (hbg1.out : v8.heap[g1]? = _) no_no)
 replace hbg2 := Lib.hid (show BlkW (v8.alloc (.cells #[.int .i64 0, .slice (some ⟨g4, 0, none⟩) (nw 0) (nw 0), .int .i64 0, .slice (some ⟨g5, 0, none⟩) (nw 0) (nw 0), .slice none 0 0, .int .i64 0, .slice (some ⟨g6, 0, none⟩) (nw 0) (nw 0), .int .i64 0, .slice (some ⟨g7, 0, none⟩) (nw 0) (nw 0), .slice none 0 0] 70)) g2 1 0 from hy9.blk (hbg2.out : v8.heap[g2]? = _) no_no)
 replace T1 := Lib.hid (hy9.blk T1.out no_no)
 replace hbg3 := Lib.hid (show BlkW (v8.alloc (.cells #[.int .i64 0, .slice (some ⟨g4, 0, none⟩) (nw 0) (nw 0), .int .i64 0, .slice (some ⟨g5, 0, none⟩) (nw 0) (nw 0), .slice none 0 0, .int .i64 0, .slice (some ⟨g6, 0, none⟩) (nw 0) (nw 0), .int .i64 0, .slice (some ⟨g7, 0, none⟩) (nw 0) (nw 0), .slice none 0 0] 70)) g3 1 0 from hy9.blk (hbg3.out : v8.heap[g3]? = _) no_no)
 replace S1 := Lib.hid (hy9.blk S1.out no_no)
 replace X1 := Lib.hid (hy9.blk X1.out no_no)
 replace D3 := Lib.hid (hy9.blk D3.out no_no)
 replace D4 := Lib.hid (hy9.blk D4.out no_no)
 replace hbg4 := Lib.hid (show BlkW (v8.alloc (.cells #[.int .i64 0, .slice (some ⟨g4, 0, none⟩) (nw 0) (nw 0), .int .i64 0, .slice (some ⟨g5, 0, none⟩) (nw 0) (nw 0), .slice none 0 0, .int .i64 0, .slice (some ⟨g6, 0, none⟩) (nw 0) (nw 0), .int .i64 0, .slice (some ⟨g7, 0, none⟩) (nw 0) (nw 0), .slice none 0 0] 70)) g4 0 0 from hy9.blk (hbg4.out : v8.heap[g4]? = _) no_no)
 replace hbg5 := Lib.hid (show BlkW (v8.alloc (.cells #[.int .i64 0, .slice (some ⟨g4, 0, none⟩) (nw 0) (nw 0), .int .i64 0, .slice (some ⟨g5, 0, none⟩) (nw 0) (nw 0), .slice none 0 0, .int .i64 0, .slice (some ⟨g6, 0, none⟩) (nw 0) (nw 0), .int .i64 0, .slice (some ⟨g7, 0, none⟩) (nw 0) (nw 0), .slice none 0 0] 70)) g5 0 0 from hy9.blk (hbg5.out : v8.heap[g5]? = _) no_no)
 replace hbg6 := Lib.hid (show BlkW (v8.alloc (.cells #[.int .i64 0, .slice (some ⟨g4, 0, none⟩) (nw 0) (nw 0), .int .i64 0, .slice (some ⟨g5, 0, none⟩) (nw 0) (nw 0), .slice none 0 0, .int .i64 0, .slice (some ⟨g6, 0, none⟩) (nw 0) (nw 0), .int .i64 0, .slice (some ⟨g7, 0, none⟩) (nw 0) (nw 0), .slice none 0 0] 70)) g6 0 0 from hy9.blk (hbg6.out : v8.heap[g6]? = _) no_no)
 replace hbg7 := Lib.hid (show BlkW (v8.alloc (.cells #[.int .i64 0, .slice (some ⟨g4, 0, none⟩) (nw 0) (nw 0), .int .i64 0, .slice (some ⟨g5, 0, none⟩) (nw 0) (nw 0), .slice none 0 0, .int .i64 0, .slice (some ⟨g6, 0, none⟩) (nw 0) (nw 0), .int .i64 0, .slice (some ⟨g7, 0, none⟩) (nw 0) (nw 0), .slice none 0 0] 70)) g7 0 0 from hy9.blk (hbg7.out : v8.heap[g7]? = _) no_no)
 replace HX := Lib.hid (HX.out.transNo hy9)
 clear hy9
 generalize (v8.alloc (.cells #[.int .i64 0, .slice (some ⟨g4, 0, none⟩) (nw 0) (nw 0), .int .i64 0, .slice (some ⟨g5, 0, none⟩) (nw 0) (nw 0), .slice none 0 0, .int .i64 0, .slice (some ⟨g6, 0, none⟩) (nw 0) (nw 0), .int .i64 0, .slice (some ⟨g7, 0, none⟩) (nw 0) (nw 0), .slice none 0 0] 70)) = v9 at *
 generalize v8.heap.size = BU at *
 refine (rempty_any 0 _ (by decide)).mono ?_
 rintro e10 v10 ⟨g8, rfl, hbg8, _, hy10⟩
 replace D1 := Lib.hid (hy10.blk D1.out no_no)
 replace D2 := Lib.hid (hy10.blk D2.out no_no)
 replace hbg1 := Lib.hid (show BlkW v10 g1 1 0 from hy10.blk (hbg1.out : v9.heap[g1]? = _) no_no)
 replace hbg2 := Lib.hid (show BlkW v10 g2 1 0 from hy10.blk (hbg2.out : v9.heap[g2]? = _) no_no)
 replace T1 := Lib.hid (hy10.blk T1.out no_no)
 replace hbg3 := Lib.hid (show BlkW v10 g3 1 0 from hy10.blk (hbg3.out : v9.heap[g3]? = _) no_no)
 replace S1 := Lib.hid (hy10.blk S1.out no_no)
 replace X1 := Lib.hid (hy10.blk X1.out no_no)
 replace D3 := Lib.hid (hy10.blk D3.out no_no)
 replace D4 := Lib.hid (hy10.blk D4.out no_no)
 replace hbg4 := Lib.hid (show BlkW v10 g4 0 0 from hy10.blk (hbg4.out : v9.heap[g4]? = _) no_no)
 replace hbg5 := Lib.hid (show BlkW v10 g5 0 0 from hy10.blk (hbg5.out : v9.heap[g5]? = _) no_no)
 replace hbg6 := Lib.hid (show BlkW v10 g6 0 0 from hy10.blk (hbg6.out : v9.heap[g6]? = _) no_no)
 replace hbg7 := Lib.hid (show BlkW v10 g7 0 0 from hy10.blk (hbg7.out : v9.heap[g7]? = _) no_no)
 replace T2 := Lib.hid (hy10.blk T2.out no_no)
 replace HX := Lib.hid (HX.out.transNo hy10)
 clear hy10
 replace hbg8 := Lib.hid (show BlkW v10 g8 0 0 from hbg8.out)
 go_wp2_with fail
 refine (rempty_any 0 _ (by decide)).mono ?_
 rintro e11 v11 ⟨g9, rfl, hbg9, _, hy11⟩
 replace D1 := Lib.hid (hy11.blk D1.out no_no)
 replace D2 := Lib.hid (hy11.blk D2.out no_no)
 replace hbg1 := Lib.hid (show BlkW v11 g1 1 0 from hy11.blk (hbg1.out : v10.heap[g1]? = _) no_no)
 replace hbg2 := Lib.hid (show BlkW v11 g2 1 0 from hy11.blk (hbg2.out : v10.heap[g2]? = _) no_no)
 replace T1 := Lib.hid (hy11.blk T1.out no_no)
 replace hbg3 := Lib.hid (show BlkW v11 g3 1 0 from hy11.blk (hbg3.out : v10.heap[g3]? = _) no_no)
 replace S1 := Lib.hid (hy11.blk S1.out no_no)
 replace X1 := Lib.hid (hy11.blk X1.out no_no)
 replace D3 := Lib.hid (hy11.blk D3.out no_no)
 replace D4 := Lib.hid (hy11.blk D4.out no_no)
 replace hbg4 := Lib.hid (show BlkW v11 g4 0 0 from hy11.blk (hbg4.out : v10.heap[g4]? = _) no_no)
 replace hbg5 := Lib.hid (show BlkW v11 g5 0 0 from hy11.blk (hbg5.out : v10.heap[g5]? = _) no_no)
 replace hbg6 := Lib.hid (show BlkW v11 g6 0 0 from hy11.blk (hbg6.out : v10.heap[g6]? = _) no_no)
 replace hbg7 := Lib.hid (show BlkW v11 g7 0 0 from hy11.blk (hbg7.out : v10.heap[g7]? = _) no_no)
 replace T2 := Lib.hid (hy11.blk T2.out no_no)
 replace hbg8 := Lib.hid (show BlkW v11 g8 0 0 from hy11.blk (hbg8.out : v10.heap[g8]? = _) no_no)
 replace HX := Lib.hid (HX.out.transNo hy11)
 clear hy11
 replace hbg9 := Lib.hid (show BlkW v11 g9 0 0 from hbg9.out)
 go_upto_region 3 with (fail)
 have hy12 : Ext No v11 ((v11.alloc (.cells #[.int .i64 0, .slice (some ⟨g8, 0, none⟩) (nw 0) (nw 0), .int .i64 0, .slice (some ⟨g9, 0, none⟩) (nw 0) (nw 0)] 33)).alloc (.cells #[.int .i64 0, .slice (some ⟨BD + 1, 0, none⟩) 2 2, .slice (some ⟨BU, 0, none⟩) 2 2, .slice (some ⟨v11.heap.size, 0, none⟩) 2 2] 29)) := ((Ext.refl _ _).alloc _).alloc _
 have S2 := Lib.hid (show ((v11.alloc (.cells #[.int .i64 0, .slice (some ⟨g8, 0, none⟩) (nw 0) (nw 0), .int .i64 0, .slice (some ⟨g9, 0, none⟩) (nw 0) (nw 0)] 33)).alloc (.cells #[.int .i64 0, .slice (some ⟨BD + 1, 0, none⟩) 2 2, .slice (some ⟨BU, 0, none⟩) 2 2, .slice (some ⟨v11.heap.size, 0, none⟩) 2 2] 29)).heap[v11.heap.size]? = some (.cells #[.int .i64 0, .slice (some ⟨g8, 0, none⟩) (nw 0) (nw 0), .int .i64 0, .slice (some ⟨g9, 0, none⟩) (nw 0) (nw 0)] 33 (0, 0)) from alloc_under (alloc_top rfl))
 have X2 := Lib.hid (show ((v11.alloc (.cells #[.int .i64 0, .slice (some ⟨g8, 0, none⟩) (nw 0) (nw 0), .int .i64 0, .slice (some ⟨g9, 0, none⟩) (nw 0) (nw 0)] 33)).alloc (.cells #[.int .i64 0, .slice (some ⟨BD + 1, 0, none⟩) 2 2, .slice (some ⟨BU, 0, none⟩) 2 2, .slice (some ⟨v11.heap.size, 0, none⟩) 2 2] 29)).heap[v11.heap.size + 1]? = some (.cells #[.int .i64 0, .slice (some ⟨BD + 1, 0, none⟩) 2 2, .slice (some ⟨BU, 0, none⟩) 2 2, .slice (some ⟨v11.heap.size, 0, none⟩) 2 2] 29 (0, 0)) from alloc_top (by simp <;> omega))
 replace D1 := Lib.hid (hy12.blk D1.out no_no)
 replace D2 := Lib.hid (hy12.blk D2.out no_no)
 replace hbg1 := Lib.hid (show BlkW ((v11.alloc (.cells #[.int .i64 0, .slice (some ⟨g8, 0, none⟩) (nw 0) (nw 0), .int .i64 0, .slice (some ⟨g9, 0, none⟩) (nw 0) (nw 0)] 33)).alloc (.cells #[.int .i64 0, .slice (some ⟨BD + 1, 0, none⟩) 2 2, .slice (some ⟨BU, 0, none⟩) 2 2, .slice (some ⟨v11.heap.size, 0, none⟩) 2 2] 29)) g1 1 0 from hy12.blk (hbg1.out : v11.heap[g1]? = _) no_no)
 replace hbg2 := Lib.hid (show BlkW ((v11.alloc (.cells #[.int .i64 0, .slice (some ⟨g8, 0, none⟩) (nw 0) (nw 0), .int .i64 0, .slice (some ⟨g9, 0, none⟩) (nw 0) (nw 0)] 33)).alloc (.cells #[.int .i64 0, .slice (some ⟨BD + 1, 0, none⟩) 2 2, .slice (some ⟨BU, 0, none⟩) 2 2, .slice (some ⟨v11.heap.size, 0, none⟩) 2 2] 29)) g2 1 0 from hy12.blk (hbg2.out : v11.heap[g2]? = _) no_no)
 replace T1 := Lib.hid (hy12.blk T1.out no_no)
 replace hbg3 := Lib.hid (show BlkW ((v11.alloc (.cells #[.int .i64 0, .slice (some ⟨g8, 0, none⟩) (nw 0) (nw 0), .int .i64 0, .slice (some ⟨g9, 0, none⟩) (nw 0) (nw 0)] 33)).alloc (.cells #[.int .i64 0, .slice (some ⟨BD + 1, 0, none⟩) 2 2, .slice (some ⟨BU, 0, none⟩) 2 2, .slice (some ⟨v11.heap.size, 0, none⟩) 2 2] 29)) g3 1 0 from hy12.blk (hbg3.out : v11.heap[g3]? = _) no_no)
 replace S1 := Lib.hid (hy12.blk S1.out no_no)
 replace X1 := Lib.hid (hy12.blk X1.out no_no)
 replace D3 := Lib.hid (hy12.blk D3.out no_no)
 replace D4 := Lib.hid (hy12.blk D4.out no_no)
 replace hbg4 := Lib.hid (show BlkW ((v11.alloc (.cells #[.int .i64 0, .slice (some ⟨g8, 0, none⟩) (nw 0) (nw 0), .int .i64 0, .slice (some ⟨g9, 0, none⟩) (nw 0) (nw 0)] 33)).alloc (.cells #[.int .i64 0, .slice (some ⟨BD + 1, 0, none⟩) 2 2, .slice (some ⟨BU, 0, none⟩) 2 2, .slice (some ⟨v11.heap.size, 0, none⟩) 2 2] 29)) g4 0 0 from hy12.blk (hbg4.out : v11.heap[g4]? = _) no_no)
 replace hbg5 := Lib.hid (show BlkW ((v11.alloc (.cells #[.int .i64 0, .slice (some ⟨g8, 0, none⟩) (nw 0) (nw 0), .int .i64 0, .slice (some ⟨g9, 0, none⟩) (nw 0) (nw 0)] 33)).alloc (.cells #[.int .i64 0, .slice (some ⟨BD + 1, 0, none⟩) 2 2, .slice (some ⟨BU, 0, none⟩) 2 2, .slice (some ⟨v11.heap.size, 0, none⟩) 2 2] 29)) g5 0 0 from hy12.blk (hbg5.out : v11.heap[g5]? = _) no_no)
 replace hbg6 := Lib.hid (show BlkW ((v11.alloc (.cells #[.int .i64 0, .slice (some ⟨g8, 0, none⟩) (nw 0) (nw 0), .int .i64 0, .slice (some ⟨g9, 0, none⟩) (nw 0) (nw 0)] 33)).alloc (.cells #[.int .i64 0, .slice (some ⟨BD + 1, 0, none⟩) 2 2, .slice (some ⟨BU, 0, none⟩) 2 2, .slice (some ⟨v11.heap.size, 0, none⟩) 2 2] 29)) g6 0 0 from hy12.blk (hbg6.out : v11.heap[g6]? = _) no_no)
 replace hbg7 := Lib.hid (show BlkW ((v11.alloc (.cells #[.int .i64 0, .slice (some ⟨g8, 0, none⟩) (nw 0) (nw 0), .int .i64 0, .slice (some ⟨g9, 0, none⟩) (nw 0) (nw 0)] 33)).alloc (.cells #[.int .i64 0, .slice (some ⟨BD + 1, 0, none⟩) 2 2, .slice (some ⟨BU, 0, none⟩) 2 2, .slice (some ⟨v11.heap.size, 0, none⟩) 2 2] 29)) g7 0 0 from hy12.blk (hbg7.out : v11.heap[g7]? = _) no_no)
 replace T2 := Lib.hid (hy12.blk T2.out no_no)
 replace hbg8 := Lib.hid (show BlkW ((v11.alloc (.cells #[.int .i64 0, .slice (some ⟨g8, 0, none⟩) (nw 0) (nw 0), .int .i64 0, .slice (some ⟨g9, 0, none⟩) (nw 0) (nw 0)] 33)).alloc (.cells #[.int .i64 0, .slice (some ⟨BD + 1, 0, none⟩) 2 2, .slice (some ⟨BU, 0, none⟩) 2 2, .slice (some ⟨v11.heap.size, 0, none⟩) 2 2] 29)) g8 0 0 from hy12.blk (hbg8.out : v11.heap[g8]? = _) no_no)
 replace hbg9 := Lib.hid (show BlkW ((v11.alloc (.cells #[.int .i64 0, .slice (some ⟨g8, 0, none⟩) (nw 0) (nw 0), .int .i64 0, .slice (some ⟨g9, 0, none⟩) (nw 0) (nw 0)] 33)).alloc (.cells #[.int .i64 0, .slice (some ⟨BD + 1, 0, none⟩) 2 2, .slice (some ⟨BU, 0, none⟩) 2 2, .slice (some ⟨v11.heap.size, 0, none⟩) 2 2] 29)) g9 0 0 from hy12.blk (hbg9.out : v11.heap[g9]? = _) no_no)
 replace HX := Lib.hid (HX.out.transNo hy12)
 clear hy12
 generalize ((v11.alloc (.cells #[.int .i64 0, .slice (some ⟨g8, 0, none⟩) (nw 0) (nw 0), .int .i64 0, .slice (some ⟨g9, 0, none⟩) (nw 0) (nw 0)] 33)).alloc (.cells #[.int .i64 0, .slice (some ⟨BD + 1, 0, none⟩) 2 2, .slice (some ⟨BU, 0, none⟩) 2 2, .slice (some ⟨v11.heap.size, 0, none⟩) 2 2] 29)) = v12 at *
 generalize v11.heap.size = BV at *
 have z1 : (0 : Nat) < 2 ^ 1 := by decide
 have z0 : (0 : Nat) < 2 ^ 0 := by decide
 have LD1 : LAt kD No v12 (.slice (some ⟨Q + 1, 0, none⟩) 1 1) [([0], .slice (some ⟨Q, 0, none⟩) 1 1)] := one_list D2.out rfl rfl (Row.block (M := No) (n := 1) (s := 1) D1.out rfl no_no (by decide))
 have LT1 : LAt kT No v12 (.slice (some ⟨BT, 0, none⟩) 1 1) [(rawT ⟨1, 0, 0, []⟩, .slice (some ⟨g1, 0, none⟩) (nw 1) (nw 1), .slice (some ⟨g2, 0, none⟩) (nw 1) (nw 1), .slice none 0 0)] := one_list T1.out rfl rfl ⟨(hbg1.out.set (by decide) z1 no_no).words, (hbg2.out.set (by decide) z1 no_no).words, Row.nil _ _ _ _ _ (by omega)⟩
 have LS1 : LAt kS No v12 (.slice (some ⟨BS, 0, none⟩) 1 1) [(setN 1 0, .slice (some ⟨g3, 0, none⟩) (nw 1) (nw 1))] := one_list S1.out rfl rfl (hbg3.out.set (by decide) z1 no_no).words
 have SY1 := Lib.hid (show SysAt No v12 (.slice (some ⟨Q + 1, 0, none⟩) 1 1) (.slice (some ⟨BT, 0, none⟩) 1 1) (.slice (some ⟨BS, 0, none⟩) 1 1) oneS from ⟨one_ok, _, _, _, ⟨LD1, LT1, LS1⟩, rfl, rfl, rfl⟩)
 have LD2 : LAt kD No v12 (.slice (some ⟨BD + 1, 0, none⟩) 2 2) [([1], .slice (some ⟨BD, 0, none⟩) 1 1), ([], .slice none 0 0)] := two_list D4.out rfl rfl (Row.block (M := No) (n := 1) (s := 1) D3.out rfl no_no (by decide)) (Row.nil _ _ _ _ _ (by omega))
 have LT2 : LAt kT No v12 (.slice (some ⟨BU, 0, none⟩) 2 2) [(rawT ⟨0, 0, 0, []⟩, .slice (some ⟨g4, 0, none⟩) (nw 0) (nw 0), .slice (some ⟨g5, 0, none⟩) (nw 0) (nw 0), .slice none 0 0), (rawT ⟨0, 0, 0, []⟩, .slice (some ⟨g6, 0, none⟩) (nw 0) (nw 0), .slice (some ⟨g7, 0, none⟩) (nw 0) (nw 0), .slice none 0 0)] := two_list T2.out rfl rfl ⟨(hbg4.out.set (by decide) z0 no_no).words, (hbg5.out.set (by decide) z0 no_no).words, Row.nil _ _ _ _ _ (by omega)⟩ ⟨(hbg6.out.set (by decide) z0 no_no).words, (hbg7.out.set (by decide) z0 no_no).words, Row.nil _ _ _ _ _ (by omega)⟩
 have LS2 : LAt kS No v12 (.slice (some ⟨BV, 0, none⟩) 2 2) [(setN 0 0, .slice (some ⟨g8, 0, none⟩) (nw 0) (nw 0)), (setN 0 0, .slice (some ⟨g9, 0, none⟩) (nw 0) (nw 0))] := two_list S2.out rfl rfl (hbg8.out.set (by decide) z0 no_no).words (hbg9.out.set (by decide) z0 no_no).words
 have SY2 := Lib.hid (show SysAt No v12 (.slice (some ⟨BD + 1, 0, none⟩) 2 2) (.slice (some ⟨BU, 0, none⟩) 2 2) (.slice (some ⟨BV, 0, none⟩) 2 2) twoS from ⟨two_ok, _, _, _, ⟨LD2, LT2, LS2⟩, rfl, rfl, rfl⟩)
 clear LD1 LT1 LS1 LD2 LT2 LS2
 have cA := cellOf X1.out
 go_wp2_with fail
 clear cA
 refine (show Calls _ _ #[.agg #[.int .i64 1, .slice (some ⟨Q + 1, 0, none⟩) 1 1, .slice (some ⟨BT, 0, none⟩) 1 1, .slice (some ⟨BS, 0, none⟩) 1 1]] _ (CSolvePost No oneS _) from csolve_any oneS _ _ _ _ SY1.out).mono ?_
 rintro e20 w20 ⟨g, R, vs, nn, a20, c20, hgo, hord, hrun, rfl, hs20, hx20⟩
 have hnn : nn = 1 := by
  have h := hrun.out
  rw [one_list_ord hgo hord] at h
  exact one_run h
 subst hnn
 have X2' := Lib.hid (hx20.blk X2.out no_no)
 have SY2' := Lib.hid (SY2.out.extNo hx20)
 have HX20 := Lib.hid (HX.out.transNo hx20)
 clear hrun hord hgo hs20 hx20
 have cA := cellOf X2'.out
 go_wp2_with fail
 clear cA
 refine (show Calls _ _ #[.agg #[.int .i64 0, .slice (some ⟨BD + 1, 0, none⟩) 2 2, .slice (some ⟨BU, 0, none⟩) 2 2, .slice (some ⟨BV, 0, none⟩) 2 2]] _ (OrdPost twoS _) from order_any twoS _ _ _ _ SY2'.out).mono ?_
 rintro e21 w21 ⟨g', R', a21, c21, Ld, hgo, hord, rfl, hLd, hLA, -, hx21⟩
 rw [two_list_ord hgo hord] at hLd
 replace HX := Lib.hid (HX20.out.transNo hx21)
 clear hgo hord hx21
 have hone : (oneS.deps.length : Int) = 1 := rfl
 go_wp2_with fail
 have hLA' := hLA
 have hy41 : Ext No w21 (((w21.alloc (.cells #[.int .i64 1] 3)).alloc (.cells #[.int .i64 0] 3)).alloc (.cells #[.slice (some ⟨w21.heap.size, 0, none⟩) 1 1, .slice (some ⟨w21.heap.size + 1, 0, none⟩) 1 1] 22)) := (((Ext.refl _ _).alloc _).alloc _).alloc _
 have E1 := Lib.hid (show (((w21.alloc (.cells #[.int .i64 1] 3)).alloc (.cells #[.int .i64 0] 3)).alloc (.cells #[.slice (some ⟨w21.heap.size, 0, none⟩) 1 1, .slice (some ⟨w21.heap.size + 1, 0, none⟩) 1 1] 22)).heap[w21.heap.size]? = some (.cells #[.int .i64 1] 3 (0, 0)) from alloc_under (alloc_under (alloc_top rfl)))
 have E2 := Lib.hid (show (((w21.alloc (.cells #[.int .i64 1] 3)).alloc (.cells #[.int .i64 0] 3)).alloc (.cells #[.slice (some ⟨w21.heap.size, 0, none⟩) 1 1, .slice (some ⟨w21.heap.size + 1, 0, none⟩) 1 1] 22)).heap[w21.heap.size + 1]? = some (.cells #[.int .i64 0] 3 (0, 0)) from alloc_under (alloc_top (by simp <;> omega)))
 have E3 := Lib.hid (show (((w21.alloc (.cells #[.int .i64 1] 3)).alloc (.cells #[.int .i64 0] 3)).alloc (.cells #[.slice (some ⟨w21.heap.size, 0, none⟩) 1 1, .slice (some ⟨w21.heap.size + 1, 0, none⟩) 1 1] 22)).heap[w21.heap.size + 1 + 1]? = some (.cells #[.slice (some ⟨w21.heap.size, 0, none⟩) 1 1, .slice (some ⟨w21.heap.size + 1, 0, none⟩) 1 1] 22 (0, 0)) from alloc_top (by simp <;> omega))
 replace HX := Lib.hid (HX.out.transNo hy41)
 replace hLA := Lib.hid (hLA.out.extNo hy41)
 clear hy41 hLA'
 generalize (((w21.alloc (.cells #[.int .i64 1] 3)).alloc (.cells #[.int .i64 0] 3)).alloc (.cells #[.slice (some ⟨w21.heap.size, 0, none⟩) 1 1, .slice (some ⟨w21.heap.size + 1, 0, none⟩) 1 1] 22)) = v41 at *
 generalize w21.heap.size = BZ at *
 have LE : LAt kD No v41 (.slice (some ⟨BZ + 1 + 1, 0, none⟩) 2 2) [([1], .slice (some ⟨BZ, 0, none⟩) 1 1), ([0], .slice (some ⟨BZ + 1, 0, none⟩) 1 1)] := two_list E3.out rfl rfl (Row.block (M := No) (n := 1) (s := 1) E1.out rfl no_no (by decide)) (Row.block (M := No) (n := 1) (s := 1) E2.out rfl no_no (by decide))
 refine (rsameLists_any _ _ [[1], [0]] [[1], [0]] Ld _ _ hLA.out hLd.out LE rfl).mono ?_
 rintro e50 w50 ⟨rfl, hx50⟩
 rw [decide_eq_true rfl]
 go_wp2_with fail
 go_ret
 exact ⟨rfl, HX.out.transNo hx50⟩
end Go.Proofs.Ytkdjdhflhlbelaa

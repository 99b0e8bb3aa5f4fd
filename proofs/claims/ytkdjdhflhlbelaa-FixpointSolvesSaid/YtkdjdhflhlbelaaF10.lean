/- flqlaw11.sane: the law's own example. -/
import Derived.Test.YtkdjdhflhlbelaaF9
set_option linter.unusedVariables false
set_option linter.unusedSimpArgs false
namespace Go.Proofs.Ytkdjdhflhlbelaa
open Go Go.RowKit
theorem loop_zero {R : Nat} (h : FixAt loopS R) : R = 0 := by
 rcases Nat.eq_zero_or_pos R with e | e
 ·exact e
 ·exact absurd (show iterD loopS 1 = iterD loopS 0 from by decide) (h.first 0 e)
theorem loop_full : decide ([3] = nextD loopS [3]) = true := by decide
theorem rawv2 {M : Nat → Prop} {w : World} {sl : Value} {n m : Nat} (h : SetAt M w sl n m) : RawV M w (.agg #[.int .i64 (n : Int), sl]) (setN n m) := ⟨sl, rfl, h.words⟩
set_option maxRecDepth 100000 in
set_option maxHeartbeats 2000000 in
theorem sane11_any (W : World) : Calls Try.prog 17 #[] W (BoolPost true W) := by
 go_enter Try.func17, Try.ntmps17
 go_wp2_with fail
 refine (loop_any _).mono ?_
 rintro e1 w1 ⟨vd, vt, vb, rfl, hS1, hx1⟩
 have HX1 := Lib.hid hx1
 clear hx1
 go_wp2_with fail
 refine (sysSolve_any No loopS _ _ _ _ no_lt' hS1.out).mono ?_
 rintro e2 w2 ⟨R, a2, c2, hR, rfl, hs2, hx2⟩
 obtain rfl := loop_zero hR
 have HS2 : Hid (SetsV No w2 (.slice a2 1 c2) 2 [0]) := Lib.hid hs2.out
 have HX2 := Lib.hid (HX1.out.transNo hx2)
 clear hR hs2 hx2 HX1 hS1
 rw [show loopS.deps.length = 1 from rfl]
 go_wp2_with fail
 obtain ⟨b, off, cap, a3, c3, hve, hq, hset⟩ := HS2.out.cells (i := 0) (by decide)
 rw [show ([0] : List Nat).length = 1 from rfl] at hve
 simp only [Value.slice.injEq] at hve
 obtain ⟨rfl, -, rfl⟩ := hve
 rw [Nat.zero_mul, Nat.add_zero] at hq
 have HQ := Lib.hid hq
 clear hq
 refine wp_region_held_drew (S := (fun w' => Ext No w2 w')) (by kernel_rfl) ?_ (fun hHeld => ?_)
 ·exact (Ext.refl _ _).drew
 refine hTk (i := 0) (v := ?_) rfl (by kernel_rfl) (fun _ _ _ h => h) rfl (fun w hSw => ?_) hHeld ?_
 rotate_left
 ·(have hEs : Ext No w2 _ := hSw); (obtain ⟨p0, p1⟩ := HQ.out); (have x0 := hEs.keep p0); (have x1 := hEs.keep p1); go_simp; (try with_reducible rfl)
 try simp only [Act.put, nzA, nzB, nzC]
 refine hTk (i := 1) (v := ?_) rfl (by kernel_rfl) (fun _ _ _ h => h) rfl (fun w hSw => ?_) hHeld ?_
 rotate_left
 ·(have hEs : Ext No w2 _ := hSw); (obtain ⟨p0, p1⟩ := HQ.out); (have x0 := hEs.keep p0); (have x1 := hEs.keep p1); go_simp; (try with_reducible rfl)
 try simp only [Act.put, nzA, nzB, nzC]
 refine hTk (i := 2) (v := ?_) rfl (by kernel_rfl) (fun _ _ _ h => h) rfl (fun w hSw => ?_) hHeld ?_
 rotate_left
 ·(have hEs : Ext No w2 _ := hSw); (obtain ⟨p0, p1⟩ := HQ.out); (have x0 := hEs.keep p0); (have x1 := hEs.keep p1); go_simp; (try with_reducible rfl)
 try simp only [Act.put, nzA, nzB, nzC]
 refine hTk (i := 3) (v := ?_) rfl (by kernel_rfl) (fun _ _ _ h => h) rfl (fun w hSw => ?_) hHeld ?_
 rotate_left
 ·(have hEs : Ext No w2 _ := hSw); (obtain ⟨p0, p1⟩ := HQ.out); (have x0 := hEs.keep p0); (have x1 := hEs.keep p1); go_simp; (try with_reducible rfl)
 try simp only [Act.put, nzA, nzB, nzC]
 refine hTk (i := 4) (v := ?_) rfl (by kernel_rfl) (fun _ _ _ h => h) rfl (fun w hSw => ?_) hHeld ?_
 rotate_left
 ·(have hEs : Ext No w2 _ := hSw); (obtain ⟨p0, p1⟩ := HQ.out); (have x0 := hEs.keep p0); (have x1 := hEs.keep p1); go_simp; (try with_reducible rfl)
 try simp only [Act.put, nzA, nzB, nzC]
 refine hTk (i := 5) (v := ?_) rfl (by kernel_rfl) (fun _ _ _ h => h) rfl (fun w hSw => ?_) hHeld ?_
 rotate_left
 ·(have hEs : Ext No w2 _ := hSw); (obtain ⟨p0, p1⟩ := HQ.out); (have x0 := hEs.keep p0); (have x1 := hEs.keep p1); go_simp; (try with_reducible rfl)
 try simp only [Act.put, nzA, nzB, nzC]
 refine hTk (i := 6) (v := ?_) rfl (by kernel_rfl) (fun _ _ _ h => h) rfl (fun w hSw => ?_) hHeld ?_
 rotate_left
 ·(have hEs : Ext No w2 _ := hSw); (obtain ⟨p0, p1⟩ := HQ.out); (have x0 := hEs.keep p0); (have x1 := hEs.keep p1); go_simp; (try with_reducible rfl)
 try simp only [Act.put, nzA, nzB, nzC]
 refine hTk (i := 7) (v := ?_) rfl (by kernel_rfl) (fun _ _ _ h => h) rfl (fun w hSw => ?_) hHeld ?_
 rotate_left
 ·(have hEs : Ext No w2 _ := hSw); (obtain ⟨p0, p1⟩ := HQ.out); (have x0 := hEs.keep p0); (have x1 := hEs.keep p1); go_simp; (try with_reducible rfl)
 try simp only [Act.put, nzA, nzB, nzC]
 refine hTk (i := 8) (v := ?_) rfl (by kernel_rfl) (fun _ _ _ h => h) rfl (fun w hSw => ?_) hHeld ?_
 rotate_left
 ·(have hEs : Ext No w2 _ := hSw); (obtain ⟨p0, p1⟩ := HQ.out); (have x0 := hEs.keep p0); (have x1 := hEs.keep p1); go_simp; (try with_reducible rfl)
 try simp only [Act.put, nzA, nzB, nzC]
 refine hTk (i := 9) (v := ?_) rfl (by kernel_rfl) (fun _ _ _ h => h) rfl (fun w hSw => ?_) hHeld ?_
 rotate_left
 ·(have hEs : Ext No w2 _ := hSw); (obtain ⟨p0, p1⟩ := HQ.out); (have x0 := hEs.keep p0); (have x1 := hEs.keep p1); go_simp; (try with_reducible rfl)
 try simp only [Act.put, nzA, nzB, nzC]
 refine hTk (i := 10) (v := ?_) rfl (by kernel_rfl) (fun _ _ _ h => h) rfl (fun w hSw => ?_) hHeld ?_
 rotate_left
 ·(have hEs : Ext No w2 _ := hSw); (obtain ⟨p0, p1⟩ := HQ.out); (have x0 := hEs.keep p0); (have x1 := hEs.keep p1); go_simp; (try with_reducible rfl)
 try simp only [Act.put, nzA, nzB, nzC]
 refine hTk (i := 11) (v := ?_) rfl (by kernel_rfl) (fun _ _ _ h => h) rfl (fun w hSw => ?_) hHeld ?_
 rotate_left
 ·(have hEs : Ext No w2 _ := hSw); (obtain ⟨p0, p1⟩ := HQ.out); (have x0 := hEs.keep p0); (have x1 := hEs.keep p1); go_simp; (try with_reducible rfl)
 try simp only [Act.put, nzA, nzB, nzC]
 refine hTk (i := 12) (v := ?_) rfl (by kernel_rfl) (fun _ _ _ h => h) rfl (fun w hSw => ?_) hHeld ?_
 rotate_left
 ·(have hEs : Ext No w2 _ := hSw); (obtain ⟨p0, p1⟩ := HQ.out); (have x0 := hEs.keep p0); (have x1 := hEs.keep p1); go_simp; (try with_reducible rfl)
 try simp only [Act.put, nzA, nzB, nzC]
 refine hTk (i := 13) (v := ?_) rfl (by kernel_rfl) (fun _ _ _ h => h) rfl (fun w hSw => ?_) hHeld ?_
 rotate_left
 ·(have hEs : Ext No w2 _ := hSw); (obtain ⟨p0, p1⟩ := HQ.out); (have x0 := hEs.keep p0); (have x1 := hEs.keep p1); go_simp; (try with_reducible rfl)
 try simp only [Act.put, nzA, nzB, nzC]
 refine hTk (i := 14) (v := ?_) rfl (by kernel_rfl) (fun _ _ _ h => h) rfl (fun w hSw => ?_) hHeld ?_
 rotate_left
 ·(have hEs : Ext No w2 _ := hSw); (obtain ⟨p0, p1⟩ := HQ.out); (have x0 := hEs.keep p0); (have x1 := hEs.keep p1); go_simp; (try with_reducible rfl)
 try simp only [Act.put, nzA, nzB, nzC]
 refine held_call (i := 15) rfl (by kernel_rfl) rfl (fun K hK => ?_)
 ((have hEx : Ext No w2 _ := hHeld); go_simp; (go_at_call 41); (refine (rempty_any 2 _ (by decide)).mono ?_); (rintro e4 w4 ⟨g4, rfl, hb4, _, hyA⟩); go_simp)
 refine hK.out _ _ ?_ (fun hNew => ?_)
 ·exact Ext.transNo (show Ext No w2 _ from hHeld) hyA
 clear hK K hHeld
 have hHeld := hNew
 clear hNew
 try simp only [Act.put, nzA, nzB, nzC]
 refine held_call (i := 16) rfl (by kernel_rfl) rfl (fun K hK => ?_)
 ((have hEx : Ext No w2 _ := hHeld); go_simp; (go_at_call 52); (refine (rsame_any (setN 2 0) (setN 2 0) _ _ _ (rawv2 (hset.out.extNo hEx)) (rawv2 (BlkW.set (show BlkW _ g4 2 0 from hb4.out) (by decide) (by decide) no_no))).mono ?_); (rintro e5 w5 ⟨rfl, hyA⟩); (rw [show sameB (setN 2 0) (setN 2 0) = true from decide_eq_true ⟨rfl, rfl⟩]); go_simp)
 refine hK.out _ _ ?_ (fun hNew => ?_)
 ·exact Ext.transNo (show Ext No w2 _ from hHeld) hyA
 clear hK K hHeld
 have hHeld := hNew
 clear hNew
 try simp only [Act.put, nzA, nzB, nzC]
 refine hTk (i := 17) (v := ?_) rfl (by kernel_rfl) (fun _ _ _ h => h) rfl (fun w hSw => ?_) hHeld ?_
 rotate_left
 ·(have hEs : Ext No w2 _ := hSw); (obtain ⟨p0, p1⟩ := HQ.out); (have x0 := hEs.keep p0); (have x1 := hEs.keep p1); go_simp; (try with_reducible rfl)
 try simp only [Act.put, nzA, nzB, nzC]
 refine hTk (i := 18) (v := ?_) rfl (by kernel_rfl) (fun _ _ _ h => h) rfl (fun w hSw => ?_) hHeld ?_
 rotate_left
 ·(have hEs : Ext No w2 _ := hSw); (obtain ⟨p0, p1⟩ := HQ.out); (have x0 := hEs.keep p0); (have x1 := hEs.keep p1); go_simp; (try with_reducible rfl)
 try simp only [Act.put, nzA, nzB, nzC]
 refine held_call (i := 19) rfl (by kernel_rfl) rfl (fun K hK => ?_)
 ((have hEx : Ext No w2 _ := hHeld); go_simp; (go_at_call 51); (refine (loop_any _).mono ?_); (rintro e6 w6 ⟨vd2, vt2, vb2, rfl, hS6, hyA⟩); (have HS6 := Lib.hid hS6.out); (clear hS6); go_simp)
 refine hK.out _ _ ?_ (fun hNew => ?_)
 ·exact Ext.transNo (show Ext No w2 _ from hHeld) hyA
 clear hK K hHeld
 have hHeld := hNew
 clear hNew
 try simp only [Act.put, nzA, nzB, nzC]
 refine held_call (i := 20) rfl (by kernel_rfl) rfl (fun K hK => ?_)
 ((have hEx : Ext No w2 _ := hHeld); go_simp; (go_at_call 53); (refine (rfull_any 2 _ (by decide)).mono ?_); (rintro e7 w7 ⟨g7, rfl, hb7, _, hyA⟩); (have HS7 := Lib.hid (HS6.out.extNo hyA)); (have HB7 := Lib.hid (show BlkW _ g7 2 3 from hb7.out)); (clear hb7 HS6); go_simp)
 refine hK.out _ _ ?_ (fun hNew => ?_)
 ·exact Ext.transNo (show Ext No w2 _ from hHeld) hyA
 clear hK K hHeld
 have hHeld := hNew
 clear hNew
 try simp only [Act.put, nzA, nzB, nzC]
 refine held_call (i := 21) rfl (by kernel_rfl) rfl (fun K hK => ?_)
 go_simp
 refine hK.out _ _ ?_ (fun hNew => ?_)
 ·exact Ext.alloc (show Ext No w2 _ from hHeld) _
 clear hK K hHeld
 have hHeld := hNew
 clear hNew
 try simp only [Act.put, nzA, nzB, nzC]
 have hz8 : Ext No w7 (w7.alloc (.cells #[.int .i64 2, .slice (some ⟨g7, 0, none⟩) (nw 2) (nw 2)] 33)) := (Ext.refl _ _).alloc _
 have HS8 := Lib.hid (HS7.out.extNo hz8)
 have hl8 := alloc_top (w := w7) (o := (.cells #[.int .i64 2, .slice (some ⟨g7, 0, none⟩) (nw 2) (nw 2)] 33)) rfl
 have hb8 : BlkW (w7.alloc (.cells #[.int .i64 2, .slice (some ⟨g7, 0, none⟩) (nw 2) (nw 2)] 33)) g7 2 3 := hz8.blk (HB7.out : w7.heap[g7]? = _) no_no
 have L8 : LAt kS No (w7.alloc (.cells #[.int .i64 2, .slice (some ⟨g7, 0, none⟩) (nw 2) (nw 2)] 33)) (.slice (some ⟨w7.heap.size, 0, none⟩) 1 1) [(setN 2 3, .slice (some ⟨g7, 0, none⟩) (nw 2) (nw 2))] := one_list hl8 rfl rfl (hb8.set (by decide) (by decide) no_no).words
 have HV8 := Lib.hid (show SetsV No (w7.alloc (.cells #[.int .i64 2, .slice (some ⟨g7, 0, none⟩) (nw 2) (nw 2)] 33)) (.slice (some ⟨w7.heap.size, 0, none⟩) 1 1) 2 [3] from L8.setsV rfl (by decide) (fun m hm => by rw [List.mem_singleton.1 hm]; decide))
 clear hz8 hl8 hb8 L8 HS7 HB7
 generalize (w7.alloc (.cells #[.int .i64 2, .slice (some ⟨g7, 0, none⟩) (nw 2) (nw 2)] 33)) = V8 at *
 generalize w7.heap.size = B8 at *
 refine held_call (i := 22) rfl (by kernel_rfl) rfl (fun K hK => ?_)
 ((have hEx : Ext No w2 _ := hHeld); go_simp; (go_at_call 26); (refine (isSol_any loopS _ _ _ _ [3] _ HS8.out HV8.out rfl).mono ?_); (rintro e9 w9 ⟨rfl, hyA⟩); (rw [loop_full]); go_simp)
 refine hK.out _ _ ?_ (fun hNew => ?_)
 ·exact Ext.transNo (show Ext No w2 _ from hHeld) hyA
 clear hK K hHeld
 have hHeld := hNew
 clear hNew
 try simp only [Act.put, nzA, nzB, nzC]
 refine hTk (i := 23) (v := ?_) rfl (by kernel_rfl) (fun _ _ _ h => h) rfl (fun w hSw => ?_) hHeld ?_
 rotate_left
 ·(have hEs : Ext No w2 _ := hSw); (obtain ⟨p0, p1⟩ := HQ.out); (have x0 := hEs.keep p0); (have x1 := hEs.keep p1); go_simp; (try with_reducible rfl)
 try simp only [Act.put, nzA, nzB, nzC]
 refine hTk (i := 24) (v := ?_) rfl (by kernel_rfl) (fun _ _ _ h => h) rfl (fun w hSw => ?_) hHeld ?_
 rotate_left
 ·(have hEs : Ext No w2 _ := hSw); (obtain ⟨p0, p1⟩ := HQ.out); (have x0 := hEs.keep p0); (have x1 := hEs.keep p1); go_simp; (try with_reducible rfl)
 try simp only [Act.put, nzA, nzB, nzC]
 refine wpAnyH_done (by kernel_rfl) ?_ _
 have hEx : Ext No w2 _ := hHeld
 go_wp2_with fail
 go_ret
 exact ⟨rfl, HX2.out.transNo hEx⟩
end Go.Proofs.Ytkdjdhflhlbelaa

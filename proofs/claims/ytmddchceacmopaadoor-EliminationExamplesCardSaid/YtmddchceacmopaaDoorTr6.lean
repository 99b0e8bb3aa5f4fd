
import Derived.Test.YtmddchceacmopaaDoorTrA
import Derived.Test.YtmddchceacmopaaDoorHeld
set_option linter.unusedVariables false
set_option linter.unusedSimpArgs false
namespace Go.Proofs.YtmddchceacmopaaDoor
open Go Go.RowKit
set_option maxRecDepth 100000 in
set_option maxHeartbeats 4000000 in
theorem validT_any (r : RawT) (sg sk sc : Value) (W : World) (h : RawTAt No W sg sk sc r) : Calls Tryd.prog 61 #[.agg #[.int .i64 (r.gen.width : Int), sg, .int .i64 (r.kill.width : Int), sk, sc]] W (BoolPost (validT r) W) := by
 cases hd : headT r with
 | false => exact validT_no r sg sk sc W h hd
 | true =>
  have HD := Lib.hid hd
  have H := Lib.hid h
  have hgv : RawV No W (.agg #[.int .i64 r.gen.width, sg]) r.gen := ⟨_, rfl, h.gen⟩
  have hkv : RawV No W (.agg #[.int .i64 r.kill.width, sk]) r.kill := ⟨_, rfl, h.kill⟩
  have HG := Lib.hid hgv
  have HK := Lib.hid hkv
  obtain ⟨ag, ng, cg, rfl⟩ := h.gen.shaped
  obtain ⟨ak, nk, ck, rfl⟩ := h.kill.shaped
  obtain ⟨ac, cc, rfl⟩ := Row.slice h.copies
  clear h hgv hkv
  unfold headT at hd
  simp only [Bool.and_eq_true, decide_eq_true_eq] at hd
  obtain ⟨h1, h2, h3, h4⟩ := hd
  have h3' : (r.gen.width != r.kill.width) = false := by simpa using h3
  have h4' : decide ((64 : Int) < (r.copies.length : Int)) = false := by simp; omega
  clear h3
  go_enter Tryd.func61, Tryd.ntmps61
  go_wp2_with fail
  refine (valid_any _ r.gen _ (HG.out.extNo ((Ext.refl _ _).alloc _))).mono ?_
  rintro e1 w1 ⟨rfl, hx1⟩
  rw [h1]
  have hxa : Ext No W w1 := ((Ext.refl _ _).alloc _).transNo hx1
  have hB := hx1.blk (alloc_top (w := W) rfl) no_no
  have cB := cellOf hB
  clear hx1
  go_wp2_with fail
  refine (valid_any _ r.kill _ (HK.out.extNo hxa)).mono ?_
  rintro e2 w2 ⟨rfl, hx2⟩
  rw [h2]
  have hB2 := Lib.hid (hx2.blk hB no_no)
  have HX2 := Lib.hid (hxa.transNo hx2)
  clear cB hB hxa hx2 h1 h2
  have cB := cellOf hB2.out
  go_wp2_with fail
  clear cB h3' h4'
  go_loopw [33] (fun i wr => ∃ k : Nat, k ≤ r.copies.length ∧ i = .int .i64 k ∧ Hid (Ext No W wr) ∧ Hid (wr.heap[W.heap.size]? = some (.cells #[.int .i64 r.gen.width, .slice ag ng cg, .int .i64 r.kill.width, .slice ak nk ck, .slice ac r.copies.length cc] 30 (0, 0))) ∧ Hid (∀ j (hj : j < r.copies.length), j < k → copyOk r.gen.width r.copies j hj = true)) (fun i _ => r.copies.length - (intOf i).toNat)
  case atStart => exact ⟨0, Nat.zero_le _, rfl, HX2, hB2, Lib.hid (fun j _ hj => absurd hj (Nat.not_lt_zero _))⟩
  clear HX2 hB2
  obtain ⟨k, hk, rfl, hx, hB, hall⟩ := hrel
  by_cases hlt : k < r.copies.length
  ·obtain ⟨b, off, cap', hsl, hb1, _, hcell⟩ := H.out.copies.at hlt
   simp only [Value.slice.injEq] at hsl
   obtain ⟨rfl, _, rfl⟩ := hsl
   obtain ⟨q0, q1⟩ := hcell k hlt
   replace q0 := hx.out.keep q0
   replace q1 := hx.out.keep q1
   have p0 := hx.out.keep (hcell (k - 1) (by omega)).1
   have p1 := hx.out.keep (hcell (k - 1) (by omega)).2
   clear hcell
   have hpos : (0 : Int) ≤ (k : Int) := by omega
   have hkb : k ≤ 64 := by omega
   have HE : Hid (copyOk r.gen.width r.copies k hlt = (inB r.gen.width r.copies[k].1 && (inB r.gen.width r.copies[k].2 && (decide (k = 0) || decide (compareZ r.copies[k - 1] r.copies[k] < 0))))) := Lib.hid rfl
   have hsz : W.heap.size < _ := lt_of_block hB.out
   rename World => wr
   have b0 : wr.cell? ⟨W.heap.size, 0, none⟩ = some (.int .i64 r.gen.width) := cellOf hB.out 0
   have b1' : wr.cell? ⟨W.heap.size, 1, none⟩ = some (.slice ag ng cg) := cellOf hB.out 1
   have b2 : wr.cell? ⟨W.heap.size, 2, none⟩ = some (.int .i64 r.kill.width) := cellOf hB.out 2
   have b3 : wr.cell? ⟨W.heap.size, 3, none⟩ = some (.slice ak nk ck) := cellOf hB.out 3
   have b4 : wr.cell? ⟨W.heap.size, 4, none⟩ = some (.slice (some ⟨b, off, none⟩) r.copies.length cc) := cellOf hB.out 4
   have HKK : Hid (Value.int .i64 ((k : Int) + 1) = .int .i64 ((k + 1 : Nat) : Int)) := Lib.hid (by rw [show ((k + 1 : Nat) : Int) = (k : Int) + 1 from by omega])
   generalize hx1 : r.copies[k] = x at *
   generalize hy1 : r.copies[k - 1] = y at *
   obtain ⟨x1, x2⟩ := x
   obtain ⟨y1, y2⟩ := y
   have HXX := Lib.hid hx1
   have HYY := Lib.hid hy1
   clear hx1 hy1
   simp only at q0 q1 p0 p1 HE
   go_wp2_with fail
   have l5 : (wr.alloc (.cells #[.int .i64 x1, .int .i64 x2] 27)).cell? ⟨wr.heap.size, 0, none⟩ = some (.int .i64 x1) := cellOf (alloc_top rfl) 0
   have l6 : (wr.alloc (.cells #[.int .i64 x1, .int .i64 x2] 27)).cell? ⟨wr.heap.size, 1, none⟩ = some (.int .i64 x2) := cellOf (alloc_top rfl) 1
   replace b0 := keepA (o := .cells #[.int .i64 x1, .int .i64 x2] 27) b0
   replace b1' := keepA (o := .cells #[.int .i64 x1, .int .i64 x2] 27) b1'
   replace b2 := keepA (o := .cells #[.int .i64 x1, .int .i64 x2] 27) b2
   replace b3 := keepA (o := .cells #[.int .i64 x1, .int .i64 x2] 27) b3
   replace b4 := keepA (o := .cells #[.int .i64 x1, .int .i64 x2] 27) b4
   replace p0 := keepA (o := .cells #[.int .i64 x1, .int .i64 x2] 27) p0
   replace p1 := keepA (o := .cells #[.int .i64 x1, .int .i64 x2] 27) p1
   have hx4 : Ext No wr (wr.alloc (.cells #[.int .i64 x1, .int .i64 x2] 27)) := (Ext.refl _ _).alloc _
   have hB4 := Lib.hid (alloc_under (o := .cells #[.int .i64 x1, .int .i64 x2] 27) hB.out)
   have hxW := Lib.hid (hx.out.transNo hx4)
   clear q0 q1 hx hB hsz
   generalize wr.heap.size = D at *
   generalize wr.alloc (.cells #[.int .i64 x1, .int .i64 x2] 27) = w4 at *
   clear hx4
   have l9 : Ext No w4 w4 := Ext.refl _ _
   have hw1 : 0 < k → IntKind.i64.wrap ((k : Int) - 1) = ((k - 1 : Nat) : Int) := fun h => by rw [IntWalk.i64_in _ (by omega)]; omega
   have hp1 : 0 ≤ ((k - 1 : Nat) : Int) := by omega
   have hp2 : ((k - 1 : Nat) : Int) < (r.copies.length : Int) := by omega
   cases g1 : inB r.gen.width x1 with
   | false =>
    refine wp_region_held_drew (S := (fun w' => w'.cell? ⟨W.heap.size, 0, none⟩ = some (.int .i64 r.gen.width) ∧ w'.cell? ⟨W.heap.size, 1, none⟩ = some (.slice ag ng cg) ∧ w'.cell? ⟨W.heap.size, 2, none⟩ = some (.int .i64 r.kill.width) ∧ w'.cell? ⟨W.heap.size, 3, none⟩ = some (.slice ak nk ck) ∧ w'.cell? ⟨W.heap.size, 4, none⟩ = some (.slice (some ⟨b, off, none⟩) r.copies.length cc) ∧ w'.cell? ⟨D, 0, none⟩ = some (.int .i64 x1) ∧ w'.cell? ⟨D, 1, none⟩ = some (.int .i64 x2) ∧ w'.cell? ⟨b, off + (k - 1) * 2, none⟩ = some (.int .i64 y1) ∧ w'.cell? ⟨b, off + (k - 1) * 2 + 1, none⟩ = some (.int .i64 y2) ∧ Ext No w4 w')) (by kernel_rfl) ?_ (fun hHeld => ?_)
    ·(go_split_ands; refine ⟨?_, ?_, ?_, ?_, ?_, ?_, ?_, ?_, ?_, ?_⟩ <;> (first | (first | ((with_reducible refine keepS2 ?_ ?_); (first | (with_reducible assumption) | (with_reducible exact keepN hyA (by with_reducible assumption))); (exact Nat.ne_of_lt hltB)) | (with_reducible assumption) | (with_reducible exact keepD (by with_reducible assumption)) | (with_reducible exact keepA (by with_reducible assumption)) | (with_reducible exact keepD (keepA (by with_reducible assumption))) | (with_reducible exact keepA (keepD (by with_reducible assumption))) | (with_reducible exact keepN hyA (by with_reducible assumption)) | (with_reducible exact keepA (keepN hyA (by with_reducible assumption)))) | (first | ((with_reducible refine ext2 ?_ ?_); (first | (with_reducible assumption) | (with_reducible exact Ext.transNo (by with_reducible assumption) hyA)); (exact Nat.le_refl _)) | (with_reducible assumption) | (with_reducible exact Ext.drew (by with_reducible assumption)) | (with_reducible exact Ext.alloc (by with_reducible assumption) _) | (with_reducible exact Ext.drew (Ext.alloc (by with_reducible assumption) _)) | (with_reducible exact Ext.transNo (by with_reducible assumption) hyA) | (with_reducible exact Ext.alloc (Ext.transNo (by with_reducible assumption) hyA) _))))
    refine hHs [0, 1, 2] ?_
    iterate 3
     refine hTn ?_ hHeld (fun w hSw => ?_) ?_
     rotate_left
     ·(try dsimp only at hSw); go_simp; (try with_reducible rfl)
     simp only [Act.put, nzA, nzB, nzC]
    refine hHe ?_
    refine hHc 3 fun K hK => ?_
    (go_simp; go_at_call 86; (with_reducible refine (bit_any r.gen.width r.kill.width _ _ _ _ _ (shp _ _ _) (shp _ _ _) (shp _ _ _)).mono ?_); (rintro e' w1 ⟨rfl, hyA⟩); go_simp)
    refine hK.out _ _ ?_ ?_
    ·((go_split_ands; refine ⟨?_, ?_, ?_, ?_, ?_, ?_, ?_, ?_, ?_, ?_⟩ <;> (first | (first | ((with_reducible refine keepS2 ?_ ?_); (first | (with_reducible assumption) | (with_reducible exact keepN hyA (by with_reducible assumption))); (exact Nat.ne_of_lt hltB)) | (with_reducible assumption) | (with_reducible exact keepD (by with_reducible assumption)) | (with_reducible exact keepA (by with_reducible assumption)) | (with_reducible exact keepD (keepA (by with_reducible assumption))) | (with_reducible exact keepA (keepD (by with_reducible assumption))) | (with_reducible exact keepN hyA (by with_reducible assumption)) | (with_reducible exact keepA (keepN hyA (by with_reducible assumption)))) | (first | ((with_reducible refine ext2 ?_ ?_); (first | (with_reducible assumption) | (with_reducible exact Ext.transNo (by with_reducible assumption) hyA)); (exact Nat.le_refl _)) | (with_reducible assumption) | (with_reducible exact Ext.drew (by with_reducible assumption)) | (with_reducible exact Ext.alloc (by with_reducible assumption) _) | (with_reducible exact Ext.drew (Ext.alloc (by with_reducible assumption) _)) | (with_reducible exact Ext.transNo (by with_reducible assumption) hyA) | (with_reducible exact Ext.alloc (Ext.transNo (by with_reducible assumption) hyA) _)))))
    clear hK K hHeld
    intro hHeld
    refine hHs [4, 5] ?_
    iterate 2
     refine hTn ?_ hHeld (fun w hSw => ?_) ?_
     rotate_left
     ·(try dsimp only at hSw); go_simp; (try with_reducible rfl)
     simp only [Act.put, nzA, nzB, nzC]
    refine hHe ?_
    refine hHs [6, 7, 8, 9, 10] ?_
    iterate 5
     refine hSn hHeld ?_
     simp only [Act.put, nzA, nzB, nzC]
    refine hHe ?_
    refine hHs [11, 12] ?_
    iterate 2
     refine hTn ?_ hHeld (fun w hSw => ?_) ?_
     rotate_left
     ·(try dsimp only at hSw); go_simp; (try with_reducible rfl)
     simp only [Act.put, nzA, nzB, nzC]
    refine hHe ?_
    refine hHs [13, 14, 15, 16, 17, 18, 19, 20, 21, 22, 23, 24, 25] ?_
    iterate 13
     refine hSn hHeld ?_
     simp only [Act.put, nzA, nzB, nzC]
    refine hHe ?_
    refine hTk 26 ?_ hHeld (fun w hSw => ?_) ?_
    rotate_left
    ·(try dsimp only at hSw); go_simp; (try with_reducible rfl)
    simp only [Act.put, nzA, nzB, nzC]
    refine wpAnyH_done (by kernel_rfl) ?_ _
    have lZ := hHeld.2.2.2.2.2.2.2.2.2
    go_wp2_with fail
    go_ret
    exact ⟨ret_bool (validT_bad k hlt (by rw [HE.out, g1]; rfl)).symm, hxW.out.transNo lZ⟩
   | true =>
    cases g2 : inB r.gen.width x2 with
    | false =>
     refine wp_region_held_drew (S := (fun w' => w'.cell? ⟨W.heap.size, 0, none⟩ = some (.int .i64 r.gen.width) ∧ w'.cell? ⟨W.heap.size, 1, none⟩ = some (.slice ag ng cg) ∧ w'.cell? ⟨W.heap.size, 2, none⟩ = some (.int .i64 r.kill.width) ∧ w'.cell? ⟨W.heap.size, 3, none⟩ = some (.slice ak nk ck) ∧ w'.cell? ⟨W.heap.size, 4, none⟩ = some (.slice (some ⟨b, off, none⟩) r.copies.length cc) ∧ w'.cell? ⟨D, 0, none⟩ = some (.int .i64 x1) ∧ w'.cell? ⟨D, 1, none⟩ = some (.int .i64 x2) ∧ w'.cell? ⟨b, off + (k - 1) * 2, none⟩ = some (.int .i64 y1) ∧ w'.cell? ⟨b, off + (k - 1) * 2 + 1, none⟩ = some (.int .i64 y2) ∧ Ext No w4 w')) (by kernel_rfl) ?_ (fun hHeld => ?_)
     ·(go_split_ands; refine ⟨?_, ?_, ?_, ?_, ?_, ?_, ?_, ?_, ?_, ?_⟩ <;> (first | (first | ((with_reducible refine keepS2 ?_ ?_); (first | (with_reducible assumption) | (with_reducible exact keepN hyA (by with_reducible assumption))); (exact Nat.ne_of_lt hltB)) | (with_reducible assumption) | (with_reducible exact keepD (by with_reducible assumption)) | (with_reducible exact keepA (by with_reducible assumption)) | (with_reducible exact keepD (keepA (by with_reducible assumption))) | (with_reducible exact keepA (keepD (by with_reducible assumption))) | (with_reducible exact keepN hyA (by with_reducible assumption)) | (with_reducible exact keepA (keepN hyA (by with_reducible assumption)))) | (first | ((with_reducible refine ext2 ?_ ?_); (first | (with_reducible assumption) | (with_reducible exact Ext.transNo (by with_reducible assumption) hyA)); (exact Nat.le_refl _)) | (with_reducible assumption) | (with_reducible exact Ext.drew (by with_reducible assumption)) | (with_reducible exact Ext.alloc (by with_reducible assumption) _) | (with_reducible exact Ext.drew (Ext.alloc (by with_reducible assumption) _)) | (with_reducible exact Ext.transNo (by with_reducible assumption) hyA) | (with_reducible exact Ext.alloc (Ext.transNo (by with_reducible assumption) hyA) _))))
     refine hHs [0, 1, 2] ?_
     iterate 3
      refine hTn ?_ hHeld (fun w hSw => ?_) ?_
      rotate_left
      ·(try dsimp only at hSw); go_simp; (try with_reducible rfl)
      simp only [Act.put, nzA, nzB, nzC]
     refine hHe ?_
     refine hHc 3 fun K hK => ?_
     (go_simp; go_at_call 86; (with_reducible refine (bit_any r.gen.width r.kill.width _ _ _ _ _ (shp _ _ _) (shp _ _ _) (shp _ _ _)).mono ?_); (rintro e' w1 ⟨rfl, hyA⟩); go_simp)
     refine hK.out _ _ ?_ ?_
     ·((go_split_ands; refine ⟨?_, ?_, ?_, ?_, ?_, ?_, ?_, ?_, ?_, ?_⟩ <;> (first | (first | ((with_reducible refine keepS2 ?_ ?_); (first | (with_reducible assumption) | (with_reducible exact keepN hyA (by with_reducible assumption))); (exact Nat.ne_of_lt hltB)) | (with_reducible assumption) | (with_reducible exact keepD (by with_reducible assumption)) | (with_reducible exact keepA (by with_reducible assumption)) | (with_reducible exact keepD (keepA (by with_reducible assumption))) | (with_reducible exact keepA (keepD (by with_reducible assumption))) | (with_reducible exact keepN hyA (by with_reducible assumption)) | (with_reducible exact keepA (keepN hyA (by with_reducible assumption)))) | (first | ((with_reducible refine ext2 ?_ ?_); (first | (with_reducible assumption) | (with_reducible exact Ext.transNo (by with_reducible assumption) hyA)); (exact Nat.le_refl _)) | (with_reducible assumption) | (with_reducible exact Ext.drew (by with_reducible assumption)) | (with_reducible exact Ext.alloc (by with_reducible assumption) _) | (with_reducible exact Ext.drew (Ext.alloc (by with_reducible assumption) _)) | (with_reducible exact Ext.transNo (by with_reducible assumption) hyA) | (with_reducible exact Ext.alloc (Ext.transNo (by with_reducible assumption) hyA) _)))))
     clear hK K hHeld
     intro hHeld
     refine hHs [4, 5, 6, 7, 8] ?_
     iterate 5
      refine hTn ?_ hHeld (fun w hSw => ?_) ?_
      rotate_left
      ·(try dsimp only at hSw); go_simp; (try with_reducible rfl)
      simp only [Act.put, nzA, nzB, nzC]
     refine hHe ?_
     refine hHc 9 fun K hK => ?_
     (go_simp; go_at_call 86; (with_reducible refine (bit_any r.gen.width r.kill.width _ _ _ _ _ (shp _ _ _) (shp _ _ _) (shp _ _ _)).mono ?_); (rintro e' w1 ⟨rfl, hyA⟩); go_simp)
     refine hK.out _ _ ?_ ?_
     ·((go_split_ands; refine ⟨?_, ?_, ?_, ?_, ?_, ?_, ?_, ?_, ?_, ?_⟩ <;> (first | (first | ((with_reducible refine keepS2 ?_ ?_); (first | (with_reducible assumption) | (with_reducible exact keepN hyA (by with_reducible assumption))); (exact Nat.ne_of_lt hltB)) | (with_reducible assumption) | (with_reducible exact keepD (by with_reducible assumption)) | (with_reducible exact keepA (by with_reducible assumption)) | (with_reducible exact keepD (keepA (by with_reducible assumption))) | (with_reducible exact keepA (keepD (by with_reducible assumption))) | (with_reducible exact keepN hyA (by with_reducible assumption)) | (with_reducible exact keepA (keepN hyA (by with_reducible assumption)))) | (first | ((with_reducible refine ext2 ?_ ?_); (first | (with_reducible assumption) | (with_reducible exact Ext.transNo (by with_reducible assumption) hyA)); (exact Nat.le_refl _)) | (with_reducible assumption) | (with_reducible exact Ext.drew (by with_reducible assumption)) | (with_reducible exact Ext.alloc (by with_reducible assumption) _) | (with_reducible exact Ext.drew (Ext.alloc (by with_reducible assumption) _)) | (with_reducible exact Ext.transNo (by with_reducible assumption) hyA) | (with_reducible exact Ext.alloc (Ext.transNo (by with_reducible assumption) hyA) _)))))
     clear hK K hHeld
     intro hHeld
     refine hHs [10, 11, 12] ?_
     iterate 3
      refine hTn ?_ hHeld (fun w hSw => ?_) ?_
      rotate_left
      ·(try dsimp only at hSw); go_simp; (try with_reducible rfl)
      simp only [Act.put, nzA, nzB, nzC]
     refine hHe ?_
     refine hHs [13, 14, 15, 16, 17, 18, 19, 20, 21, 22, 23, 24, 25] ?_
     iterate 13
      refine hSn hHeld ?_
      simp only [Act.put, nzA, nzB, nzC]
     refine hHe ?_
     refine hTk 26 ?_ hHeld (fun w hSw => ?_) ?_
     rotate_left
     ·(try dsimp only at hSw); go_simp; (try with_reducible rfl)
     simp only [Act.put, nzA, nzB, nzC]
     refine wpAnyH_done (by kernel_rfl) ?_ _
     have lZ := hHeld.2.2.2.2.2.2.2.2.2
     go_wp2_with fail
     go_ret
     exact ⟨ret_bool (validT_bad k hlt (by rw [HE.out, g1, g2]; rfl)).symm, hxW.out.transNo lZ⟩
    | true =>
     by_cases hk0 : k = 0
     ·subst hk0
      clear hw1 hp1 hp2
      refine wp_region_held_drew (S := (fun w' => w'.cell? ⟨W.heap.size, 0, none⟩ = some (.int .i64 r.gen.width) ∧ w'.cell? ⟨W.heap.size, 1, none⟩ = some (.slice ag ng cg) ∧ w'.cell? ⟨W.heap.size, 2, none⟩ = some (.int .i64 r.kill.width) ∧ w'.cell? ⟨W.heap.size, 3, none⟩ = some (.slice ak nk ck) ∧ w'.cell? ⟨W.heap.size, 4, none⟩ = some (.slice (some ⟨b, off, none⟩) r.copies.length cc) ∧ w'.cell? ⟨D, 0, none⟩ = some (.int .i64 x1) ∧ w'.cell? ⟨D, 1, none⟩ = some (.int .i64 x2) ∧ w'.cell? ⟨b, off + (0 - 1) * 2, none⟩ = some (.int .i64 y1) ∧ w'.cell? ⟨b, off + (0 - 1) * 2 + 1, none⟩ = some (.int .i64 y2) ∧ Ext No w4 w')) (by kernel_rfl) ?_ (fun hHeld => ?_)
      ·(go_split_ands; refine ⟨?_, ?_, ?_, ?_, ?_, ?_, ?_, ?_, ?_, ?_⟩ <;> (first | (first | ((with_reducible refine keepS2 ?_ ?_); (first | (with_reducible assumption) | (with_reducible exact keepN hyA (by with_reducible assumption))); (exact Nat.ne_of_lt hltB)) | (with_reducible assumption) | (with_reducible exact keepD (by with_reducible assumption)) | (with_reducible exact keepA (by with_reducible assumption)) | (with_reducible exact keepD (keepA (by with_reducible assumption))) | (with_reducible exact keepA (keepD (by with_reducible assumption))) | (with_reducible exact keepN hyA (by with_reducible assumption)) | (with_reducible exact keepA (keepN hyA (by with_reducible assumption)))) | (first | ((with_reducible refine ext2 ?_ ?_); (first | (with_reducible assumption) | (with_reducible exact Ext.transNo (by with_reducible assumption) hyA)); (exact Nat.le_refl _)) | (with_reducible assumption) | (with_reducible exact Ext.drew (by with_reducible assumption)) | (with_reducible exact Ext.alloc (by with_reducible assumption) _) | (with_reducible exact Ext.drew (Ext.alloc (by with_reducible assumption) _)) | (with_reducible exact Ext.transNo (by with_reducible assumption) hyA) | (with_reducible exact Ext.alloc (Ext.transNo (by with_reducible assumption) hyA) _))))
      refine hHs [0, 1, 2] ?_
      iterate 3
       refine hTn ?_ hHeld (fun w hSw => ?_) ?_
       rotate_left
       ·(try dsimp only at hSw); go_simp; (try with_reducible rfl)
       simp only [Act.put, nzA, nzB, nzC]
      refine hHe ?_
      refine hHc 3 fun K hK => ?_
      (go_simp; go_at_call 86; (with_reducible refine (bit_any r.gen.width r.kill.width _ _ _ _ _ (shp _ _ _) (shp _ _ _) (shp _ _ _)).mono ?_); (rintro e' w1 ⟨rfl, hyA⟩); go_simp)
      refine hK.out _ _ ?_ ?_
      ·((go_split_ands; refine ⟨?_, ?_, ?_, ?_, ?_, ?_, ?_, ?_, ?_, ?_⟩ <;> (first | (first | ((with_reducible refine keepS2 ?_ ?_); (first | (with_reducible assumption) | (with_reducible exact keepN hyA (by with_reducible assumption))); (exact Nat.ne_of_lt hltB)) | (with_reducible assumption) | (with_reducible exact keepD (by with_reducible assumption)) | (with_reducible exact keepA (by with_reducible assumption)) | (with_reducible exact keepD (keepA (by with_reducible assumption))) | (with_reducible exact keepA (keepD (by with_reducible assumption))) | (with_reducible exact keepN hyA (by with_reducible assumption)) | (with_reducible exact keepA (keepN hyA (by with_reducible assumption)))) | (first | ((with_reducible refine ext2 ?_ ?_); (first | (with_reducible assumption) | (with_reducible exact Ext.transNo (by with_reducible assumption) hyA)); (exact Nat.le_refl _)) | (with_reducible assumption) | (with_reducible exact Ext.drew (by with_reducible assumption)) | (with_reducible exact Ext.alloc (by with_reducible assumption) _) | (with_reducible exact Ext.drew (Ext.alloc (by with_reducible assumption) _)) | (with_reducible exact Ext.transNo (by with_reducible assumption) hyA) | (with_reducible exact Ext.alloc (Ext.transNo (by with_reducible assumption) hyA) _)))))
      clear hK K hHeld
      intro hHeld
      refine hHs [4, 5, 6, 7, 8] ?_
      iterate 5
       refine hTn ?_ hHeld (fun w hSw => ?_) ?_
       rotate_left
       ·(try dsimp only at hSw); go_simp; (try with_reducible rfl)
       simp only [Act.put, nzA, nzB, nzC]
      refine hHe ?_
      refine hHc 9 fun K hK => ?_
      (go_simp; go_at_call 86; (with_reducible refine (bit_any r.gen.width r.kill.width _ _ _ _ _ (shp _ _ _) (shp _ _ _) (shp _ _ _)).mono ?_); (rintro e' w1 ⟨rfl, hyA⟩); go_simp)
      refine hK.out _ _ ?_ ?_
      ·((go_split_ands; refine ⟨?_, ?_, ?_, ?_, ?_, ?_, ?_, ?_, ?_, ?_⟩ <;> (first | (first | ((with_reducible refine keepS2 ?_ ?_); (first | (with_reducible assumption) | (with_reducible exact keepN hyA (by with_reducible assumption))); (exact Nat.ne_of_lt hltB)) | (with_reducible assumption) | (with_reducible exact keepD (by with_reducible assumption)) | (with_reducible exact keepA (by with_reducible assumption)) | (with_reducible exact keepD (keepA (by with_reducible assumption))) | (with_reducible exact keepA (keepD (by with_reducible assumption))) | (with_reducible exact keepN hyA (by with_reducible assumption)) | (with_reducible exact keepA (keepN hyA (by with_reducible assumption)))) | (first | ((with_reducible refine ext2 ?_ ?_); (first | (with_reducible assumption) | (with_reducible exact Ext.transNo (by with_reducible assumption) hyA)); (exact Nat.le_refl _)) | (with_reducible assumption) | (with_reducible exact Ext.drew (by with_reducible assumption)) | (with_reducible exact Ext.alloc (by with_reducible assumption) _) | (with_reducible exact Ext.drew (Ext.alloc (by with_reducible assumption) _)) | (with_reducible exact Ext.transNo (by with_reducible assumption) hyA) | (with_reducible exact Ext.alloc (Ext.transNo (by with_reducible assumption) hyA) _)))))
      clear hK K hHeld
      intro hHeld
      refine hHs [10, 11, 12, 13, 14, 15] ?_
      iterate 6
       refine hTn ?_ hHeld (fun w hSw => ?_) ?_
       rotate_left
       ·(try dsimp only at hSw); go_simp; (try with_reducible rfl)
       simp only [Act.put, nzA, nzB, nzC]
      refine hHe ?_
      refine hHs [16, 17, 18, 19, 20, 21, 22, 23, 24] ?_
      iterate 9
       refine hSn hHeld ?_
       simp only [Act.put, nzA, nzB, nzC]
      refine hHe ?_
      refine hHs [25, 26] ?_
      iterate 2
       refine hTn ?_ hHeld (fun w hSw => ?_) ?_
       rotate_left
       ·(try dsimp only at hSw); go_simp; (try with_reducible rfl)
       simp only [Act.put, nzA, nzB, nzC]
      refine hHe ?_
      refine wpAnyH_done (by kernel_rfl) ?_ _
      have lZ := hHeld.2.2.2.2.2.2.2.2.2
      go_wp2_with fail
      go_roundw
      case rel => exact ⟨0 + 1, by omega, rfl, Lib.hid (hxW.out.transNo lZ), Lib.hid (lZ.blk hB4.out no_no), Lib.hid (fun j hj hjk => by
       obtain rfl : j = 0 := by omega
       rw [HE.out, g1, g2]; rfl)⟩
      case measure => simp [intOf]; omega
     have hkp : 0 < k := by omega
     have hw2 := hw1 hkp
     have HK0 := Lib.hid hk0
     clear hw1 hk0
     have hkd : decide ((0 : Int) < (k : Int)) = true := by simpa using hkp
     by_cases hcz : compareZ (y1, y2) (x1, x2) < 0
     ·have hcd : decide (0 ≤ compareZ (y1, y2) (x1, x2)) = false := by simpa using hcz
      have HCZ := Lib.hid (decide_eq_true hcz)
      clear hcz
      refine wp_region_held_drew (S := (fun w' => w'.cell? ⟨W.heap.size, 0, none⟩ = some (.int .i64 r.gen.width) ∧ w'.cell? ⟨W.heap.size, 1, none⟩ = some (.slice ag ng cg) ∧ w'.cell? ⟨W.heap.size, 2, none⟩ = some (.int .i64 r.kill.width) ∧ w'.cell? ⟨W.heap.size, 3, none⟩ = some (.slice ak nk ck) ∧ w'.cell? ⟨W.heap.size, 4, none⟩ = some (.slice (some ⟨b, off, none⟩) r.copies.length cc) ∧ w'.cell? ⟨D, 0, none⟩ = some (.int .i64 x1) ∧ w'.cell? ⟨D, 1, none⟩ = some (.int .i64 x2) ∧ w'.cell? ⟨b, off + (k - 1) * 2, none⟩ = some (.int .i64 y1) ∧ w'.cell? ⟨b, off + (k - 1) * 2 + 1, none⟩ = some (.int .i64 y2) ∧ Ext No w4 w')) (by kernel_rfl) ?_ (fun hHeld => ?_)
      ·(go_split_ands; refine ⟨?_, ?_, ?_, ?_, ?_, ?_, ?_, ?_, ?_, ?_⟩ <;> (first | (first | ((with_reducible refine keepS2 ?_ ?_); (first | (with_reducible assumption) | (with_reducible exact keepN hyA (by with_reducible assumption))); (exact Nat.ne_of_lt hltB)) | (with_reducible assumption) | (with_reducible exact keepD (by with_reducible assumption)) | (with_reducible exact keepA (by with_reducible assumption)) | (with_reducible exact keepD (keepA (by with_reducible assumption))) | (with_reducible exact keepA (keepD (by with_reducible assumption))) | (with_reducible exact keepN hyA (by with_reducible assumption)) | (with_reducible exact keepA (keepN hyA (by with_reducible assumption)))) | (first | ((with_reducible refine ext2 ?_ ?_); (first | (with_reducible assumption) | (with_reducible exact Ext.transNo (by with_reducible assumption) hyA)); (exact Nat.le_refl _)) | (with_reducible assumption) | (with_reducible exact Ext.drew (by with_reducible assumption)) | (with_reducible exact Ext.alloc (by with_reducible assumption) _) | (with_reducible exact Ext.drew (Ext.alloc (by with_reducible assumption) _)) | (with_reducible exact Ext.transNo (by with_reducible assumption) hyA) | (with_reducible exact Ext.alloc (Ext.transNo (by with_reducible assumption) hyA) _))))
      refine hHs [0, 1, 2] ?_
      iterate 3
       refine hTn ?_ hHeld (fun w hSw => ?_) ?_
       rotate_left
       ·(try dsimp only at hSw); go_simp; (try with_reducible rfl)
       simp only [Act.put, nzA, nzB, nzC]
      refine hHe ?_
      refine hHc 3 fun K hK => ?_
      (go_simp; go_at_call 86; (with_reducible refine (bit_any r.gen.width r.kill.width _ _ _ _ _ (shp _ _ _) (shp _ _ _) (shp _ _ _)).mono ?_); (rintro e' w1 ⟨rfl, hyA⟩); go_simp)
      refine hK.out _ _ ?_ ?_
      ·((go_split_ands; refine ⟨?_, ?_, ?_, ?_, ?_, ?_, ?_, ?_, ?_, ?_⟩ <;> (first | (first | ((with_reducible refine keepS2 ?_ ?_); (first | (with_reducible assumption) | (with_reducible exact keepN hyA (by with_reducible assumption))); (exact Nat.ne_of_lt hltB)) | (with_reducible assumption) | (with_reducible exact keepD (by with_reducible assumption)) | (with_reducible exact keepA (by with_reducible assumption)) | (with_reducible exact keepD (keepA (by with_reducible assumption))) | (with_reducible exact keepA (keepD (by with_reducible assumption))) | (with_reducible exact keepN hyA (by with_reducible assumption)) | (with_reducible exact keepA (keepN hyA (by with_reducible assumption)))) | (first | ((with_reducible refine ext2 ?_ ?_); (first | (with_reducible assumption) | (with_reducible exact Ext.transNo (by with_reducible assumption) hyA)); (exact Nat.le_refl _)) | (with_reducible assumption) | (with_reducible exact Ext.drew (by with_reducible assumption)) | (with_reducible exact Ext.alloc (by with_reducible assumption) _) | (with_reducible exact Ext.drew (Ext.alloc (by with_reducible assumption) _)) | (with_reducible exact Ext.transNo (by with_reducible assumption) hyA) | (with_reducible exact Ext.alloc (Ext.transNo (by with_reducible assumption) hyA) _)))))
      clear hK K hHeld
      intro hHeld
      refine hHs [4, 5, 6, 7, 8] ?_
      iterate 5
       refine hTn ?_ hHeld (fun w hSw => ?_) ?_
       rotate_left
       ·(try dsimp only at hSw); go_simp; (try with_reducible rfl)
       simp only [Act.put, nzA, nzB, nzC]
      refine hHe ?_
      refine hHc 9 fun K hK => ?_
      (go_simp; go_at_call 86; (with_reducible refine (bit_any r.gen.width r.kill.width _ _ _ _ _ (shp _ _ _) (shp _ _ _) (shp _ _ _)).mono ?_); (rintro e' w1 ⟨rfl, hyA⟩); go_simp)
      refine hK.out _ _ ?_ ?_
      ·((go_split_ands; refine ⟨?_, ?_, ?_, ?_, ?_, ?_, ?_, ?_, ?_, ?_⟩ <;> (first | (first | ((with_reducible refine keepS2 ?_ ?_); (first | (with_reducible assumption) | (with_reducible exact keepN hyA (by with_reducible assumption))); (exact Nat.ne_of_lt hltB)) | (with_reducible assumption) | (with_reducible exact keepD (by with_reducible assumption)) | (with_reducible exact keepA (by with_reducible assumption)) | (with_reducible exact keepD (keepA (by with_reducible assumption))) | (with_reducible exact keepA (keepD (by with_reducible assumption))) | (with_reducible exact keepN hyA (by with_reducible assumption)) | (with_reducible exact keepA (keepN hyA (by with_reducible assumption)))) | (first | ((with_reducible refine ext2 ?_ ?_); (first | (with_reducible assumption) | (with_reducible exact Ext.transNo (by with_reducible assumption) hyA)); (exact Nat.le_refl _)) | (with_reducible assumption) | (with_reducible exact Ext.drew (by with_reducible assumption)) | (with_reducible exact Ext.alloc (by with_reducible assumption) _) | (with_reducible exact Ext.drew (Ext.alloc (by with_reducible assumption) _)) | (with_reducible exact Ext.transNo (by with_reducible assumption) hyA) | (with_reducible exact Ext.alloc (Ext.transNo (by with_reducible assumption) hyA) _)))))
      clear hK K hHeld
      intro hHeld
      refine hHs [10, 11, 12, 13, 14, 15, 16, 17, 18, 19, 20, 21, 22] ?_
      iterate 13
       refine hTn ?_ hHeld (fun w hSw => ?_) ?_
       rotate_left
       ·(try dsimp only at hSw); go_simp; (try with_reducible rfl)
       simp only [Act.put, nzA, nzB, nzC]
      refine hHe ?_
      refine hHc 23 fun K hK => ?_
      (go_simp; go_at_call 87; (with_reducible refine (compare_any (y1, y2) (x1, x2) _).mono ?_); (rintro e' w1 ⟨rfl, hyA⟩); go_simp)
      refine hK.out _ _ ?_ ?_
      ·((go_split_ands; refine ⟨?_, ?_, ?_, ?_, ?_, ?_, ?_, ?_, ?_, ?_⟩ <;> (first | (first | ((with_reducible refine keepS2 ?_ ?_); (first | (with_reducible assumption) | (with_reducible exact keepN hyA (by with_reducible assumption))); (exact Nat.ne_of_lt hltB)) | (with_reducible assumption) | (with_reducible exact keepD (by with_reducible assumption)) | (with_reducible exact keepA (by with_reducible assumption)) | (with_reducible exact keepD (keepA (by with_reducible assumption))) | (with_reducible exact keepA (keepD (by with_reducible assumption))) | (with_reducible exact keepN hyA (by with_reducible assumption)) | (with_reducible exact keepA (keepN hyA (by with_reducible assumption)))) | (first | ((with_reducible refine ext2 ?_ ?_); (first | (with_reducible assumption) | (with_reducible exact Ext.transNo (by with_reducible assumption) hyA)); (exact Nat.le_refl _)) | (with_reducible assumption) | (with_reducible exact Ext.drew (by with_reducible assumption)) | (with_reducible exact Ext.alloc (by with_reducible assumption) _) | (with_reducible exact Ext.drew (Ext.alloc (by with_reducible assumption) _)) | (with_reducible exact Ext.transNo (by with_reducible assumption) hyA) | (with_reducible exact Ext.alloc (Ext.transNo (by with_reducible assumption) hyA) _)))))
      clear hK K hHeld
      intro hHeld
      refine hHs [24, 25, 26] ?_
      iterate 3
       refine hTn ?_ hHeld (fun w hSw => ?_) ?_
       rotate_left
       ·(try dsimp only at hSw); go_simp; (try with_reducible rfl)
       simp only [Act.put, nzA, nzB, nzC]
      refine hHe ?_
      refine wpAnyH_done (by kernel_rfl) ?_ _
      have lZ := hHeld.2.2.2.2.2.2.2.2.2
      go_wp2_with fail
      go_roundw
      case rel => exact ⟨k + 1, by omega, HKK.out, Lib.hid (hxW.out.transNo lZ), Lib.hid (lZ.blk hB4.out no_no), Lib.hid (fun j hj hjk => by
       by_cases e : j = k
       ·subst e
        rw [HE.out, g1, g2, HCZ.out, Bool.or_true]; rfl
       exact hall.out j hj (by omega))⟩
      case measure => simp [intOf]; omega
     have hcd : decide (0 ≤ compareZ (y1, y2) (x1, x2)) = true := by simpa using hcz
     have HCZ := Lib.hid (decide_eq_false hcz)
     clear hcz
     refine wp_region_held_drew (S := (fun w' => w'.cell? ⟨W.heap.size, 0, none⟩ = some (.int .i64 r.gen.width) ∧ w'.cell? ⟨W.heap.size, 1, none⟩ = some (.slice ag ng cg) ∧ w'.cell? ⟨W.heap.size, 2, none⟩ = some (.int .i64 r.kill.width) ∧ w'.cell? ⟨W.heap.size, 3, none⟩ = some (.slice ak nk ck) ∧ w'.cell? ⟨W.heap.size, 4, none⟩ = some (.slice (some ⟨b, off, none⟩) r.copies.length cc) ∧ w'.cell? ⟨D, 0, none⟩ = some (.int .i64 x1) ∧ w'.cell? ⟨D, 1, none⟩ = some (.int .i64 x2) ∧ w'.cell? ⟨b, off + (k - 1) * 2, none⟩ = some (.int .i64 y1) ∧ w'.cell? ⟨b, off + (k - 1) * 2 + 1, none⟩ = some (.int .i64 y2) ∧ Ext No w4 w')) (by kernel_rfl) ?_ (fun hHeld => ?_)
     ·(go_split_ands; refine ⟨?_, ?_, ?_, ?_, ?_, ?_, ?_, ?_, ?_, ?_⟩ <;> (first | (first | ((with_reducible refine keepS2 ?_ ?_); (first | (with_reducible assumption) | (with_reducible exact keepN hyA (by with_reducible assumption))); (exact Nat.ne_of_lt hltB)) | (with_reducible assumption) | (with_reducible exact keepD (by with_reducible assumption)) | (with_reducible exact keepA (by with_reducible assumption)) | (with_reducible exact keepD (keepA (by with_reducible assumption))) | (with_reducible exact keepA (keepD (by with_reducible assumption))) | (with_reducible exact keepN hyA (by with_reducible assumption)) | (with_reducible exact keepA (keepN hyA (by with_reducible assumption)))) | (first | ((with_reducible refine ext2 ?_ ?_); (first | (with_reducible assumption) | (with_reducible exact Ext.transNo (by with_reducible assumption) hyA)); (exact Nat.le_refl _)) | (with_reducible assumption) | (with_reducible exact Ext.drew (by with_reducible assumption)) | (with_reducible exact Ext.alloc (by with_reducible assumption) _) | (with_reducible exact Ext.drew (Ext.alloc (by with_reducible assumption) _)) | (with_reducible exact Ext.transNo (by with_reducible assumption) hyA) | (with_reducible exact Ext.alloc (Ext.transNo (by with_reducible assumption) hyA) _))))
     refine hHs [0, 1, 2] ?_
     iterate 3
      refine hTn ?_ hHeld (fun w hSw => ?_) ?_
      rotate_left
      ·(try dsimp only at hSw); go_simp; (try with_reducible rfl)
      simp only [Act.put, nzA, nzB, nzC]
     refine hHe ?_
     refine hHc 3 fun K hK => ?_
     (go_simp; go_at_call 86; (with_reducible refine (bit_any r.gen.width r.kill.width _ _ _ _ _ (shp _ _ _) (shp _ _ _) (shp _ _ _)).mono ?_); (rintro e' w1 ⟨rfl, hyA⟩); go_simp)
     refine hK.out _ _ ?_ ?_
     ·((go_split_ands; refine ⟨?_, ?_, ?_, ?_, ?_, ?_, ?_, ?_, ?_, ?_⟩ <;> (first | (first | ((with_reducible refine keepS2 ?_ ?_); (first | (with_reducible assumption) | (with_reducible exact keepN hyA (by with_reducible assumption))); (exact Nat.ne_of_lt hltB)) | (with_reducible assumption) | (with_reducible exact keepD (by with_reducible assumption)) | (with_reducible exact keepA (by with_reducible assumption)) | (with_reducible exact keepD (keepA (by with_reducible assumption))) | (with_reducible exact keepA (keepD (by with_reducible assumption))) | (with_reducible exact keepN hyA (by with_reducible assumption)) | (with_reducible exact keepA (keepN hyA (by with_reducible assumption)))) | (first | ((with_reducible refine ext2 ?_ ?_); (first | (with_reducible assumption) | (with_reducible exact Ext.transNo (by with_reducible assumption) hyA)); (exact Nat.le_refl _)) | (with_reducible assumption) | (with_reducible exact Ext.drew (by with_reducible assumption)) | (with_reducible exact Ext.alloc (by with_reducible assumption) _) | (with_reducible exact Ext.drew (Ext.alloc (by with_reducible assumption) _)) | (with_reducible exact Ext.transNo (by with_reducible assumption) hyA) | (with_reducible exact Ext.alloc (Ext.transNo (by with_reducible assumption) hyA) _)))))
     clear hK K hHeld
     intro hHeld
     refine hHs [4, 5, 6, 7, 8] ?_
     iterate 5
      refine hTn ?_ hHeld (fun w hSw => ?_) ?_
      rotate_left
      ·(try dsimp only at hSw); go_simp; (try with_reducible rfl)
      simp only [Act.put, nzA, nzB, nzC]
     refine hHe ?_
     refine hHc 9 fun K hK => ?_
     (go_simp; go_at_call 86; (with_reducible refine (bit_any r.gen.width r.kill.width _ _ _ _ _ (shp _ _ _) (shp _ _ _) (shp _ _ _)).mono ?_); (rintro e' w1 ⟨rfl, hyA⟩); go_simp)
     refine hK.out _ _ ?_ ?_
     ·((go_split_ands; refine ⟨?_, ?_, ?_, ?_, ?_, ?_, ?_, ?_, ?_, ?_⟩ <;> (first | (first | ((with_reducible refine keepS2 ?_ ?_); (first | (with_reducible assumption) | (with_reducible exact keepN hyA (by with_reducible assumption))); (exact Nat.ne_of_lt hltB)) | (with_reducible assumption) | (with_reducible exact keepD (by with_reducible assumption)) | (with_reducible exact keepA (by with_reducible assumption)) | (with_reducible exact keepD (keepA (by with_reducible assumption))) | (with_reducible exact keepA (keepD (by with_reducible assumption))) | (with_reducible exact keepN hyA (by with_reducible assumption)) | (with_reducible exact keepA (keepN hyA (by with_reducible assumption)))) | (first | ((with_reducible refine ext2 ?_ ?_); (first | (with_reducible assumption) | (with_reducible exact Ext.transNo (by with_reducible assumption) hyA)); (exact Nat.le_refl _)) | (with_reducible assumption) | (with_reducible exact Ext.drew (by with_reducible assumption)) | (with_reducible exact Ext.alloc (by with_reducible assumption) _) | (with_reducible exact Ext.drew (Ext.alloc (by with_reducible assumption) _)) | (with_reducible exact Ext.transNo (by with_reducible assumption) hyA) | (with_reducible exact Ext.alloc (Ext.transNo (by with_reducible assumption) hyA) _)))))
     clear hK K hHeld
     intro hHeld
     refine hHs [10, 11, 12, 13, 14, 15, 16, 17, 18, 19, 20, 21, 22] ?_
     iterate 13
      refine hTn ?_ hHeld (fun w hSw => ?_) ?_
      rotate_left
      ·(try dsimp only at hSw); go_simp; (try with_reducible rfl)
      simp only [Act.put, nzA, nzB, nzC]
     refine hHe ?_
     refine hHc 23 fun K hK => ?_
     (go_simp; go_at_call 87; (with_reducible refine (compare_any (y1, y2) (x1, x2) _).mono ?_); (rintro e' w1 ⟨rfl, hyA⟩); go_simp)
     refine hK.out _ _ ?_ ?_
     ·((go_split_ands; refine ⟨?_, ?_, ?_, ?_, ?_, ?_, ?_, ?_, ?_, ?_⟩ <;> (first | (first | ((with_reducible refine keepS2 ?_ ?_); (first | (with_reducible assumption) | (with_reducible exact keepN hyA (by with_reducible assumption))); (exact Nat.ne_of_lt hltB)) | (with_reducible assumption) | (with_reducible exact keepD (by with_reducible assumption)) | (with_reducible exact keepA (by with_reducible assumption)) | (with_reducible exact keepD (keepA (by with_reducible assumption))) | (with_reducible exact keepA (keepD (by with_reducible assumption))) | (with_reducible exact keepN hyA (by with_reducible assumption)) | (with_reducible exact keepA (keepN hyA (by with_reducible assumption)))) | (first | ((with_reducible refine ext2 ?_ ?_); (first | (with_reducible assumption) | (with_reducible exact Ext.transNo (by with_reducible assumption) hyA)); (exact Nat.le_refl _)) | (with_reducible assumption) | (with_reducible exact Ext.drew (by with_reducible assumption)) | (with_reducible exact Ext.alloc (by with_reducible assumption) _) | (with_reducible exact Ext.drew (Ext.alloc (by with_reducible assumption) _)) | (with_reducible exact Ext.transNo (by with_reducible assumption) hyA) | (with_reducible exact Ext.alloc (Ext.transNo (by with_reducible assumption) hyA) _)))))
     clear hK K hHeld
     intro hHeld
     refine hHs [24, 25, 26] ?_
     iterate 3
      refine hTn ?_ hHeld (fun w hSw => ?_) ?_
      rotate_left
      ·(try dsimp only at hSw); go_simp; (try with_reducible rfl)
      simp only [Act.put, nzA, nzB, nzC]
     refine hHe ?_
     refine wpAnyH_done (by kernel_rfl) ?_ _
     have lZ := hHeld.2.2.2.2.2.2.2.2.2
     go_wp2_with fail
     go_ret
     exact ⟨ret_bool (validT_bad k hlt (by rw [HE.out, g1, g2, HCZ.out, decide_eq_false HK0.out]; rfl)).symm, hxW.out.transNo lZ⟩
  go_wp2_with fail
  go_ret
  exact ⟨ret_bool (validT_all HD.out (fun j hj => hall.out j hj (by omega))).symm, hx.out⟩

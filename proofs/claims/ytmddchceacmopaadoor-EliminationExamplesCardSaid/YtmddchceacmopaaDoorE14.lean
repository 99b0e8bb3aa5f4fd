
import Derived.Test.YtmddchceacmopaaDoorE13
import Derived.Laws.MakeOwn
set_option linter.unusedVariables false
set_option linter.unusedSimpArgs false
namespace Go.Proofs.YtmddchceacmopaaDoor
open Go Go.RowKit
theorem run_copy_full {P : Program} {w : World} {M : Nat → Prop} (dT sT ty elem : TypeId) (k : Nat) (hu : P.underlying dT = some (.slice elem)) (hsz : (P.info? elem).map (·.size) = some k)
  (g n dCap : Nat) (A : Option Addr) (c : Nat) (cur : Array Value) (t : TypeId) (hg : w.heap[g]? = some (.cells cur t (0, 0))) (hcur : cur.size = n * k) (news : List Value) (hr : Row M w k (.slice A n c) n news) (h1 : ∀ u ∈ news, u.oneCell' = true) :
  ∃ w', (Builtin.copy_ #[dT, sT] ty #[.slice (some ⟨g, 0, none⟩) n dCap, .slice A n c]).run P w = .ok (goInt n) w' ∧ Hid (w'.heap[g]? = some (.cells news.toArray t (0, 0))) ∧ Hid (Ext (At g) w w') := by
 obtain ⟨hl, hc⟩ := hr.src
 cases A with
 | some ad =>
  have hsrc : ∀ j v, news[j]? = some v → w.cell? (ad.add j) = some v := by
   rcases hc with ⟨h0, h2⟩ | ⟨ad', h0, h2⟩
   ·intro j v hj
    rw [h2] at hj; simp at hj
   simp only [Option.some.injEq] at h0
   subst h0; exact h2
  have hm : Nat.min n n = n := Nat.min_self n
  have h0 := run_copy_rowK (P := P) w dT sT ty elem k g 0 n dCap ad n c cur t news hu hsz hg (by rw [hl, hm]) hsrc (by rw [hl, hcur]; omega) h1
  rw [hm] at h0
  refine ⟨_, h0, ?_, ⟨rfl, rfl, rfl, by simp [World.setRow], fun i hi hne => setRow_other w g i _ (fun e => hne e)⟩⟩
  have h := setRow_heap w g cur (cur.toList.take 0 ++ news ++ cur.toList.drop (0 + news.length)).toArray t (0, 0) hg
  have e : (cur.toList.take 0 ++ news ++ cur.toList.drop (0 + news.length)) = news := by
   rw [List.take_zero, List.nil_append, List.drop_of_length_le (by rw [Array.length_toList, hcur, hl]; omega), List.append_nil]
  rw [e] at h
  rw [e]
  exact h
 | none =>
  have h0 : n = 0 ∧ news = [] := by
   rcases hc with h | ⟨_, h, _⟩
   ·exact h
   cases h
  obtain ⟨rfl, rfl⟩ := h0
  refine ⟨w, ?_, ?_, Ext.refl _ _⟩
  ·cases hq : P.info? elem with
   | none => simp [hq] at hsz
   | some i => simp [Builtin.copy_, run_underlying hu, Builtin.lenOf, Builtin.firstCells, sizeOf, typeInfo, hq, storeCells]
  have : cur = #[] := Array.eq_empty_of_size_eq_zero (by rw [hcur]; simp)
  rw [this] at hg
  exact hg
theorem made_flat {β : Type} (K : EK β) (zp : β) (z : Value) (hz : z.cells.toList = K.cells zp) (hs : 0 < K.s) (n : Nat) : (madeCells z.cells (n * K.s)).toList = (List.replicate n zp).flatMap K.cells := by
 have hzs : z.cells.size = K.s := by rw [← Array.length_toList, hz, K.len]
 refine List.ext_getElem? (fun m => ?_)
 rcases Nat.lt_or_ge m (n * K.s) with h | h
 ·have hm : m / K.s < n := Nat.div_lt_of_lt_mul (by rw [Nat.mul_comm]; exact h)
  have h2 := flat_get2 K (List.replicate n zp) (m / K.s) (m % K.s) (by simpa using hm) (Nat.mod_lt _ hs)
  rw [show m / K.s * K.s + m % K.s = m from by rw [Nat.mul_comm]; exact Nat.div_add_mod m K.s] at h2
  rw [h2, List.getElem_replicate, ← hz]
  simp [madeCells, hzs, h, Nat.mod_lt _ hs]
 rw [List.getElem?_eq_none (by simp [madeCells]; exact h), List.getElem?_eq_none (by rw [flat_len2]; simpa using h)]
theorem made_own {β : Type} (K : EK β) (zp : β) (z : Value) (hz : z.cells.toList = K.cells zp) (hs : 0 < K.s) (n : Nat) (hn : n ≤ maxLen) (w : World) : (w.alloc (.cells (madeCells z.cells (n * K.s)) K.T)).ownsRow w.heap.size K.T K.s (.slice (some ⟨w.heap.size, 0, none⟩) n n) n ((List.replicate n zp).flatMap K.cells) := by
 refine ⟨by rw [flat_len2]; simp, .inr ⟨w.heap.size, n, _, rfl, Nat.le_refl _, alloc_top rfl, Nat.le_refl _, hn, by simp [madeCells], ?_⟩⟩
 rw [made_flat K zp z hz hs]
 exact List.take_of_length_le (by rw [flat_len2]; simp)
theorem mk_any (t e : TypeId) (i : TypeInfo) (z : Value) (ht : Tryd.prog.underlying t = some (.slice e)) (hi : Tryd.prog.info? e = some i) (hz : i.zero = some z) (s b : Nat) (hsz : i.size = s) (hby : i.bytes = b) (n : Nat) (hn : n ≤ 1100) (hs : s ≤ 16) (hb : b ≤ 1000) (w : World) :
  (Instr.makeSlice t (.int .i64 (n : Int)) (.int .i64 (n : Int))).run Tryd.prog w = .ok (.slice (some ⟨w.heap.size, 0, none⟩) n n) (w.alloc (.cells (madeCells z.cells (n * s)) e)) := by
 have h1 : n * s ≤ 1100 * 16 := Nat.mul_le_mul hn hs
 have h2 : (b : Int) * (n : Int) ≤ 1000 * 1100 := by
  have := Nat.mul_le_mul hb hn
  have h3 : ((b * n : Nat) : Int) ≤ ((1000 * 1100 : Nat) : Int) := by exact_mod_cast this
  rw [Int.natCast_mul] at h3
  omega
 have h := run_makeSlice (P := Tryd.prog) w t e i z ht hi hz .i64 .i64 n n (by omega) (Int.le_refl _) (by rw [hsz]; simp; omega) (by rw [hby]; omega) (by omega)
 simp only [Int.toNat_natCast, hsz] at h
 exact h
theorem setE2 (w : World) (C : Nat) (a b : Value) : Ext (At C) w ((w.setCell ⟨C, 0, none⟩ a).setCell ⟨C, 1, none⟩ b) := ((Ext.refl (At C) w).setAt 0 a).setAt 1 b
theorem finE2 {w : World} {C : Nat} {T : TypeId} {x0 x1 : Value} (h : w.heap[C]? = some (.cells #[x0, x1] T (0, 0))) (a b : Value) : ((w.setCell ⟨C, 0, none⟩ a).setCell ⟨C, 1, none⟩ b).heap[C]? = some (.cells #[a, b] T (0, 0)) :=
 (set_same (j := 1) (set_same (j := 0) h)).trans rfl
theorem infoU14 : (Tryd.prog.info? 83).map (fun i => (i.zero, i.size, i.bytes)) = some (some (.int .u64 0), 1, 8) := by kernel_rfl
theorem size_of_info {P : Program} {e : TypeId} {i : TypeInfo} {s : Nat} (hi : P.info? e = some i) (hs : i.size = s) : (P.info? e).map (·.size) = some s := by rw [hi]; simp [hs]
set_option maxRecDepth 100000 in
set_option maxHeartbeats 4000000 in
theorem eset_any (M : Nat → Prop) (w m : Nat) (sl : Value) (W : World) (hM : ∀ b, M b → b < W.heap.size) (h : SetAt No W sl w m) : Calls Tryd.prog 42 #[.agg #[.int .i64 (w : Int), sl]] W (SetPost M w m W) := by
 obtain ⟨iU, hiU, hU0, hU1, hU2⟩ := info_parts infoU14
 have H := Lib.hid h
 have HM := Lib.hid hM
 have hw := h.hw
 obtain ⟨a, c, rfl⟩ := h.slice
 clear h hM
 have hnw : nw w ≤ 4 := by unfold nw; omega
 have hmk := mk_any 22 83 iU _ Tryd.underlying22 hiU hU0 1 8 hU1 hU2 (nw w) (by omega) (by omega) (by omega)
 go_enter Tryd.func42, Tryd.ntmps42
 go_upto_region 1 with (fail)
 have hx0 : Ext No W ((W.alloc (.cells #[.int .i64 (w : Int), .slice a (nw w) c] 24)).alloc (.cells #[.int .i64 0, .slice none 0 0] 24)) := ((Ext.refl _ _).alloc _).alloc _
 have HA := Lib.hid (show ((W.alloc (.cells #[.int .i64 (w : Int), .slice a (nw w) c] 24)).alloc (.cells #[.int .i64 0, .slice none 0 0] 24)).heap[W.heap.size]? = some (.cells #[.int .i64 (w : Int), .slice a (nw w) c] 24 (0, 0)) from alloc_under (alloc_top rfl))
 have HC := Lib.hid (show ((W.alloc (.cells #[.int .i64 (w : Int), .slice a (nw w) c] 24)).alloc (.cells #[.int .i64 0, .slice none 0 0] 24)).heap[W.heap.size + 1]? = some (.cells #[.int .i64 0, .slice none 0 0] 24 (0, 0)) from alloc_top (by simp))
 have HX := Lib.hid hx0
 clear hx0
 generalize ((W.alloc (.cells #[.int .i64 (w : Int), .slice a (nw w) c] 24)).alloc (.cells #[.int .i64 0, .slice none 0 0] 24)) = V at *
 go_cut [3] (fun s3 wx => ∃ (D G : Nat), s3 = .pointer (some ⟨D, 0, none⟩) ∧ Hid (Ext No V wx) ∧ Hid (wx.heap[D]? = some (.cells #[.int .i64 (w : Int), .slice (some ⟨G, 0, none⟩) (nw w) (nw w)] 24 (0, 0))) ∧ Hid (wx.heap[G]? = some (.cells (madeCells #[.int .u64 0] (nw w)) 83 (0, 0))) ∧ G ≠ D ∧ V.heap.size ≤ G ∧ V.heap.size ≤ D)
 case first =>
  refine wp_region_held_drew (S := (fun w' => Ext No V w')) (by kernel_rfl) ?_ (fun hHeld => ?_)
  ·exact (Ext.refl _ _).drew
  generalize V.drew = v0 at *
  refine hHs [0, 1, 2, 3, 4] ?_
  iterate 5
   refine hTn ?_ hHeld (fun w hSw => ?_) ?_
   rotate_left
   ·(have hEs : Ext No V _ := hSw); (have q0 := cellOf (hEs.blk HA.out no_no)); go_simp; (try with_reducible rfl)
   simp only [Act.put, nzA, nzB, nzC]
  refine hHe ?_
  refine held_next2 (i := 5) (j := 7) (by kernel_rfl) (NextOp.mk rfl rfl (fun K hK => ?_)) (NextOp.mk rfl rfl (fun K hK => ?_))
  ·((have hGV : V.heap.size ≤ v0.heap.size := (show Ext No V _ from hHeld).size); go_simp)
   refine hK.out _ _ ?_ ?_
   ·exact Ext.alloc (show Ext No V _ from hHeld) _
   clear hK K hHeld
   intro hHeld
   have hG := Lib.hid (alloc_top (w := v0) (o := (.cells (madeCells #[.int .u64 0] (nw w)) 83)) rfl)
   have hGl := Lib.hid (show v0.heap.size < (v0.alloc (.cells (madeCells #[.int .u64 0] (nw w)) 83)).heap.size from by simp)
   have hGW := Lib.hid (show V.heap.size ≤ v0.heap.size from hGV)
   clear hGV
   generalize (v0.alloc (.cells (madeCells #[.int .u64 0] (nw w)) 83)) = v1 at *
   generalize v0.heap.size = G at *
   try simp only [Act.put, nzA, nzB, nzC]
   refine hTk 6 ?_ hHeld (fun w hSw => ?_) ?_
   rotate_left
   ·go_simp; (try with_reducible rfl)
   simp only [Act.put, nzA, nzB, nzC]
   refine hHc 7 fun K hK => ?_
   ((have hGV : V.heap.size ≤ v1.heap.size := (show Ext No V _ from hHeld).size); go_simp)
   refine hK.out _ _ ?_ ?_
   ·exact Ext.alloc (show Ext No V _ from hHeld) _
   clear hK K hHeld
   intro hHeld
   have hB := Lib.hid (alloc_top (w := v1) (o := (.cells #[.int .i64 0, .slice none 0 0] 24)) rfl)
   replace hG := Lib.hid (((Ext.refl No v1).alloc (.cells #[.int .i64 0, .slice none 0 0] 24)).blk hG.out no_no)
   have hne := Lib.hid (show G ≠ v1.heap.size from by have := hGl.out; omega)
   have hDl := Lib.hid (show v1.heap.size < (v1.alloc (.cells #[.int .i64 0, .slice none 0 0] 24)).heap.size from by simp)
   have hDV := hGV
   clear hGV
   generalize (v1.alloc (.cells #[.int .i64 0, .slice none 0 0] 24)) = v2 at *
   generalize v1.heap.size = D at *
   try simp only [Act.put, nzA, nzB, nzC]
   refine hHc 8 fun K hK => ?_
   ((have cS := cellOf hB.out); (have fS := freeOf hB.out); go_simp; (clear cS fS))
   refine hK.out _ _ ?_ ?_
   ·exact ext2 (show Ext No V _ from hHeld) hDV
   clear hK K hHeld
   intro hHeld
   try simp only [Act.put, nzA, nzB, nzC]
   refine wpAnyH_done (by kernel_rfl) ?_ _
   have hEx : Ext No V _ := hHeld
   go_wp2_with fail
   go_meet
   exact ⟨D, G, rfl, Lib.hid hEx, Lib.hid ((set_same (j := 1) (set_same (j := 0) hB.out)).trans rfl), Lib.hid ((((Ext.refl (At D) v2).setAt 0 _).setAt 1 _).blk hG.out (fun e => hne.out e)), hne.out, hGW.out, hDV⟩
  ((have hGV : V.heap.size ≤ v0.heap.size := (show Ext No V _ from hHeld).size); go_simp)
  refine hK.out _ _ ?_ ?_
  ·exact Ext.alloc (show Ext No V _ from hHeld) _
  clear hK K hHeld
  intro hHeld
  have hB := Lib.hid (alloc_top (w := v0) (o := (.cells #[.int .i64 0, .slice none 0 0] 24)) rfl)
  have hDl := Lib.hid (show v0.heap.size < (v0.alloc (.cells #[.int .i64 0, .slice none 0 0] 24)).heap.size from by simp)
  have hDV := hGV
  clear hGV
  generalize (v0.alloc (.cells #[.int .i64 0, .slice none 0 0] 24)) = v1 at *
  generalize v0.heap.size = D at *
  try simp only [Act.put, nzA, nzB, nzC]
  refine hHc 5 fun K hK => ?_
  ((have hGV : V.heap.size ≤ v1.heap.size := (show Ext No V _ from hHeld).size); go_simp)
  refine hK.out _ _ ?_ ?_
  ·exact Ext.alloc (show Ext No V _ from hHeld) _
  clear hK K hHeld
  intro hHeld
  have hG := Lib.hid (alloc_top (w := v1) (o := (.cells (madeCells #[.int .u64 0] (nw w)) 83)) rfl)
  replace hB := Lib.hid (((Ext.refl No v1).alloc (.cells (madeCells #[.int .u64 0] (nw w)) 83)).blk hB.out no_no)
  have hne := Lib.hid (show v1.heap.size ≠ D from by have := hDl.out; omega)
  replace hDl := Lib.hid (show D < (v1.alloc (.cells (madeCells #[.int .u64 0] (nw w)) 83)).heap.size from by have := hDl.out; simp; omega)
  have hGl := Lib.hid (show v1.heap.size < (v1.alloc (.cells (madeCells #[.int .u64 0] (nw w)) 83)).heap.size from by simp)
  have hGW := Lib.hid (show V.heap.size ≤ v1.heap.size from hGV)
  clear hGV
  generalize (v1.alloc (.cells (madeCells #[.int .u64 0] (nw w)) 83)) = v2 at *
  generalize v1.heap.size = G at *
  try simp only [Act.put, nzA, nzB, nzC]
  refine hTk 6 ?_ hHeld (fun w hSw => ?_) ?_
  rotate_left
  ·go_simp; (try with_reducible rfl)
  simp only [Act.put, nzA, nzB, nzC]
  refine hHc 8 fun K hK => ?_
  ((have cS := cellOf hB.out); (have fS := freeOf hB.out); go_simp; (clear cS fS))
  refine hK.out _ _ ?_ ?_
  ·exact ext2 (show Ext No V _ from hHeld) hDV
  clear hK K hHeld
  intro hHeld
  try simp only [Act.put, nzA, nzB, nzC]
  refine wpAnyH_done (by kernel_rfl) ?_ _
  have hEx : Ext No V _ := hHeld
  go_wp2_with fail
  go_meet
  exact ⟨D, G, rfl, Lib.hid hEx, Lib.hid ((set_same (j := 1) (set_same (j := 0) hB.out)).trans rfl), Lib.hid ((((Ext.refl (At D) v2).setAt 0 _).setAt 1 _).blk hG.out (fun e => hne.out e)), hne.out, hGW.out, hDV⟩
 case rest =>
  obtain ⟨D, G, rfl, hx, hD, hG, hne, hGV, hDV⟩ := hcut
  rename World => wx
  have HAx := Lib.hid (hx.out.blk HA.out no_no)
  have hsr : Row No wx 1 (.slice a (nw w) c) (nw w) (u64s (wordsN w m)) := by
   have h := (H.out.extNo (HX.out.transNo hx.out)).words.row
   rw [wordsN_len] at h
   exact h
  obtain ⟨w2, hrun, hG2, hE2⟩ := run_copy_full (P := Tryd.prog) 22 22 3 83 1 Tryd.underlying22 (size_of_info hiU hU1) G (nw w) (nw w) a c _ _ hG.out (by simp [madeCells]) (u64s (wordsN w m)) hsr (u64s_one _)
  have HB2 := Lib.hid (show BlkW w2 G w m from hG2.out)
  have HD2 := Lib.hid (hE2.out.blk hD.out (fun (e : D = G) => hne e.symm))
  have HVx := hx.out.size
  have HVs := lt_of_block HC.out
  have HC2 := Lib.hid (hE2.out.blk (hx.out.blk HC.out no_no) (fun (e : W.heap.size + 1 = G) => by omega))
  have HM2 := Lib.hid (H.out.hm)
  have HX2 := Lib.hid ((HX.out.transNo hx.out).trans2 hE2.out (fun i hi e => by have h9 := HX.out.size; unfold At at e; omega))
  have cA := cellOf HAx.out
  have cD0 := cellOf hD.out
  have cD := cellOf HD2.out
  have cC := cellOf HC2.out
  have fC := freeOf HC2.out
  have hC2 := lt_of_block HC2.out
  have HWs := Lib.hid HX.out.size
  clear hG hG2 hsr hx hE2
  go_wp2_with fail
  refine ret_ex rfl ?_
  have cF := cellOf (finE2 HC2.out (.int .i64 (w : Int)) (.slice (some ⟨G, 0, none⟩) (nw w) (nw w)))
  clear cC fC cA cD0 cD
  simp [results, Tryd.results42, go_sem, cF]
  have hE3 : Ext (At (W.heap.size + 1)) w2 ((w2.setCell ⟨W.heap.size + 1, 0, none⟩ (.int .i64 (w : Int))).setCell ⟨W.heap.size + 1, 1, none⟩ (.slice (some ⟨G, 0, none⟩) (nw w) (nw w))) := setE2 w2 _ _ _
  have hGC : G ≠ W.heap.size + 1 := by have h9 := HX.out.size; omega
  exact ⟨some ⟨G, 0, none⟩, nw w, rfl, Lib.hid ((HB2.out.set (M := fun b => M b ∨ b = W.heap.size + 1) hw HM2.out (fun e => by
   rcases e with e | e
   ·have := HM.out G e; have := HWs.out; omega
   exact hGC e)).ext hE3 (fun i _ e => .inr e) |>.mono (fun i _ e => .inl e)), HX2.out.trans2 hE3 (fun i hi e => by unfold At at e; omega)⟩

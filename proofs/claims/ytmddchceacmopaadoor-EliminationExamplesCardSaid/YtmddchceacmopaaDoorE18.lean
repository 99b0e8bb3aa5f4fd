
import Derived.Test.YtmddchceacmopaaDoorE14
import Derived.Lib.AppendZerosOnto
import Derived.Lib.Overlaps
import Derived.Laws.NewBlocks
set_option linter.unusedVariables false
set_option linter.unusedSimpArgs false
namespace Go.Proofs.YtmddchceacmopaaDoor
open Go Go.RowKit
def InsPost13 (base : Nat) (v : Value) (N i : Nat) (xs us : List Value) (W : World) (e : Ending) (w' : World) : Prop :=
 ∃ (g' c' : Nat), e = .returned (.slice (some ⟨g', 0, none⟩) (N + 1) c') ∧ Hid (w'.ownsRow base 33 6 (.slice (some ⟨g', 0, none⟩) (N + 1) c') (N + 1) (xs.take (i * 6) ++ us ++ xs.drop (i * 6))) ∧ Hid (Ext (fun k => v.ownBlock = some k) W w') ∧ (v.ownBlock = some g' ∨ W.heap.size ≤ g')
theorem own_shape {w : World} {base : Nat} {v : Value} {n : Nat} {xs : List Value} (h : w.ownsRow base 33 6 v n xs) (hn : n ≠ 0) : ∃ g cap, v = .slice (some ⟨g, 0, none⟩) n cap := by
 rcases h.2 with ⟨_, h0⟩ | ⟨g, cap, _, e, _⟩
 ·exact absurd h0 hn
 exact ⟨g, cap, e⟩
set_option maxRecDepth 100000 in
set_option maxHeartbeats 4000000 in
theorem insert_end (base n vb : Nat) (v : Value) (xs us : List Value) (W : World) (h : W.ownsRow base 33 6 v n xs) (hb : base ≤ W.heap.size) (hn2 : n ≤ 1000) (hu : W.heap[vb]? = some (.cells us.toArray 33 (0, 0))) (hul : us.length = 6) (hu1 : ∀ u ∈ us, u.oneCell' = true) :
  Calls Tryd.prog 76 #[v, .int .i64 (n : Int), .slice (some ⟨vb, 0, none⟩) 1 1] W (InsPost13 base v n n xs us W) := by
 obtain ⟨iA, hiA, hA0, hA1, hA2⟩ := info_parts infoAE
 have hxl := h.1
 have HO := Lib.hid h
 have HU := Lib.hid (show Row No W 6 (.slice (some ⟨vb, 0, none⟩) 1 1) 1 us from Row.block (cs := us.toArray) hu (by simpa using hul) no_no (by omega))
 have hcase : (v = .slice none 0 0 ∧ n = 0) ∨ ∃ g cap, v = .slice (some ⟨g, 0, none⟩) n cap ∧ n ≤ cap ∧ cap ≤ 9223372036854775807 := by
  rcases h.2 with ⟨e, h0⟩ | ⟨g, cap, _, e, _⟩
  ·exact .inl ⟨e, h0⟩
  subst e
  have := (Row.ofOwns (M := No) h (fun _ _ x => x)).caps
  exact .inr ⟨g, cap, rfl, this⟩
 clear h
 rcases hcase with ⟨rfl, rfl⟩ | ⟨g, cap, rfl, hc1, hc2⟩
 ·go_enter Tryd.func76, Tryd.ntmps76
  go_wp2_with (at_builtin; (refine wpList_app _ rfl (.tmp 23) (.tmp 24) 34 rfl base 33 iA _ 6 96 Tryd.underlying34 hiA hA0 hA1 hA2 rfl (by omega) (.slice none 0 0) 0 xs rfl HO.out No (some ⟨vb, 0, none⟩) 1 1 us rfl HU.out hu1 (by omega) (by omega) hb ?_); (intro v9 w9 hown1 hg1 hv1); (have hsh := own_shape hown1 (by omega)); (obtain ⟨g9, c9, rfl⟩ := hsh))
  go_ret
  have e : xs = [] := List.eq_nil_of_length_eq_zero (by rw [hxl])
  subst e
  exact ⟨g9, c9, rfl, Lib.hid (by simpa using hown1), Lib.hid ((Ext.refl _ W).grown hg1 (fun k hk _ => hk)), hv1.imp (fun e => e.symm) (fun e => Nat.le_of_eq (Option.some.inj e).symm)⟩
 have b1 : (0 : Int) ≤ (n : Int) := by omega
 have b2 : (n : Int) ≤ (cap : Int) := by omega
 go_enter Tryd.func76, Tryd.ntmps76
 go_wp2_with (at_builtin; (refine wpList_app _ rfl (.tmp 23) (.tmp 24) 34 rfl base 33 iA _ 6 96 Tryd.underlying34 hiA hA0 hA1 hA2 rfl (by omega) (.slice (some ⟨g, 0, none⟩) n cap) n xs rfl HO.out No (some ⟨vb, 0, none⟩) 1 1 us rfl HU.out hu1 (by omega) (by omega) hb ?_); (intro v9 w9 hown1 hg1 hv1); (have hsh := own_shape hown1 (by omega)); (obtain ⟨g9, c9, rfl⟩ := hsh))
 all_goals go_ret
 all_goals (have e1 : xs.take (n * 6) = xs := List.take_of_length_le (by omega))
 all_goals (have e2 : xs.drop (n * 6) = [] := List.drop_eq_nil_of_le (by omega))
 all_goals exact ⟨g9, c9, rfl, Lib.hid (by rw [e1, e2, List.append_nil]; exact hown1), Lib.hid ((Ext.refl _ W).grown hg1 (fun k hk _ => hk)), hv1.imp (fun e => e.symm) (fun e => Nat.le_of_eq (Option.some.inj e).symm)⟩
theorem spl_take {l cs : List Value} {o k : Nat} (h : o ≤ l.length) (hk : k ≤ o) : (l.take o ++ (cs ++ l.drop (o + cs.length))).take k = l.take k := by
 rw [List.take_append_of_le_length (by rw [List.length_take]; omega), List.take_take, Nat.min_eq_left hk]
theorem spl_get {l cs : List Value} {o : Nat} (h : o ≤ l.length) : (l.take o ++ (cs ++ l.drop (o + cs.length))).take (o + cs.length) = l.take o ++ cs := by
 rw [← List.append_assoc]
 exact List.take_left' (by rw [List.length_append, List.length_take, Nat.min_eq_left h])
theorem spl_len {l cs : List Value} {o : Nat} (h : o + cs.length ≤ l.length) : (l.take o ++ (cs ++ l.drop (o + cs.length))).length = l.length := by
 simp only [List.length_append, List.length_take, List.length_drop]; omega
theorem ins_cells {cur xs us : List Value} {n i : Nat} (hxl : xs.length = n * 6) (hul : us.length = 6) (hi : i < n) (ht : cur.take (n * 6) = xs) (hc : (i + 1) * 6 ≤ cur.length) :
  (((cur.take ((i + 1) * 6) ++ (xs.drop (i * 6) ++ cur.drop ((i + 1) * 6 + (xs.drop (i * 6)).length))).take (i * 6) ++ (us ++ (cur.take ((i + 1) * 6) ++ (xs.drop (i * 6) ++ cur.drop ((i + 1) * 6 + (xs.drop (i * 6)).length))).drop (i * 6 + us.length))).toArray).toList.take ((n + 1) * 6) = xs.take (i * 6) ++ us ++ xs.drop (i * 6) := by
 have h1 : (cur.take ((i + 1) * 6) ++ (xs.drop (i * 6) ++ cur.drop ((i + 1) * 6 + (xs.drop (i * 6)).length))).take (i * 6) = xs.take (i * 6) := by
  rw [spl_take hc (by omega), ← ht, List.take_take, Nat.min_eq_left (by omega)]
 have h2 : (cur.take ((i + 1) * 6) ++ (xs.drop (i * 6) ++ cur.drop ((i + 1) * 6 + (xs.drop (i * 6)).length))).drop (i * 6 + us.length) = xs.drop (i * 6) ++ cur.drop ((i + 1) * 6 + (xs.drop (i * 6)).length) :=
  List.drop_left' (by rw [List.length_take, hul, Nat.min_eq_left hc]; omega)
 rw [h1, h2]
 show List.take _ (_ ++ (us ++ (xs.drop (i * 6) ++ _))) = _
 rw [← List.append_assoc us, ← List.append_assoc, ← List.append_assoc]
 exact List.take_left' (by simp only [List.length_append, List.length_take, List.length_drop, hul, hxl]; omega)
theorem run_copy_atK {P : Program} {w : World} (dT sT ty elem : TypeId) (k : Nat) (hu : P.underlying dT = some (.slice elem)) (hsz : (P.info? elem).map (·.size) = some k)
  (g off dLen dCap : Nat) (ad : Addr) (sLen sCap : Nat) (cur : List Value) (t : TypeId) (hg : w.heap[g]? = some (.cells cur.toArray t (0, 0))) (cs : List Value) (hn : cs.length = Nat.min sLen dLen * k)
  (hsrc : ∀ j v, cs[j]? = some v → w.cell? (ad.add j) = some v) (hfit : off + cs.length ≤ cur.length) (h1 : ∀ v ∈ cs, v.oneCell' = true) :
  ∃ w', (Builtin.copy_ #[dT, sT] ty #[.slice (some ⟨g, off, none⟩) dLen dCap, .slice (some ad) sLen sCap]).run P w = .ok (goInt (Nat.min sLen dLen)) w' ∧ Hid (w'.heap[g]? = some (.cells (cur.take off ++ (cs ++ cur.drop (off + cs.length))).toArray t (0, 0))) ∧ Hid (Ext (At g) w w') := by
 have hrun := run_copy_rowK (P := P) w dT sT ty elem k g off dLen dCap ad sLen sCap cur.toArray t cs hu hsz hg hn hsrc (by simpa using hfit) h1
 exact ⟨_, hrun, Lib.hid (by simpa using setRow_heap w g _ _ t _ hg), Lib.hid ⟨rfl, rfl, rfl, by simp [World.setRow], fun i hi hne => setRow_other w g i _ (fun e => hne e)⟩⟩
set_option maxRecDepth 100000 in
set_option maxHeartbeats 8000000 in
theorem insert_room (base g n cap i vb : Nat) (xs us : List Value) (W : World) (h : W.ownsRow base 33 6 (.slice (some ⟨g, 0, none⟩) n cap) n xs) (hi : i < n) (hn2 : n ≤ 1000) (hroom : n + 1 ≤ cap) (hone : ∀ u ∈ xs, u.oneCell' = true) (hu : W.heap[vb]? = some (.cells us.toArray 33 (0, 0))) (hul : us.length = 6) (hu1 : ∀ u ∈ us, u.oneCell' = true) (hne : vb ≠ g) :
  Calls Tryd.prog 76 #[.slice (some ⟨g, 0, none⟩) n cap, .int .i64 (i : Int), .slice (some ⟨vb, 0, none⟩) 1 1] W (InsPost13 base (.slice (some ⟨g, 0, none⟩) n cap) n i xs us W) := by
 obtain ⟨iA, hiA, hA0, hA1, hA2⟩ := info_parts infoAE
 have hxl := h.1
 have HONE := Lib.hid hone
 obtain ⟨cur, hg, hbase, hcm, hcs, htake⟩ : ∃ cur : List Value, W.heap[g]? = some (.cells cur.toArray 33 (0, 0)) ∧ base ≤ g ∧ cap ≤ maxLen ∧ cur.length = cap * 6 ∧ cur.take (n * 6) = xs := by
  rcases h.2 with ⟨h3, _⟩ | ⟨g', cap', cur, h3, hb, hg', hnc, hcm, hcs, htake⟩
  ·simp at h3
  simp only [Value.slice.injEq, Option.some.injEq, Addr.mk.injEq, and_true, true_and] at h3
  obtain ⟨rfl, rfl⟩ := h3
  exact ⟨cur.toList, by simpa using hg', hb, hcm, by simpa using hcs, htake⟩
 have hcap2 : cap ≤ 9223372036854775807 := hcm
 have hmul : n * 6 + 6 ≤ cap * 6 := by omega
 have HCUR := Lib.hid (And.intro hcs htake)
 have b0 : (0 : Int) ≤ (i : Int) := by omega
 have b1 : (i : Int) ≤ (n : Int) := by omega
 have b2 : (n : Int) ≤ (cap : Int) := by omega
 have b3 : ¬ (i : Int) = (n : Int) := by omega
 have b4 : ¬ (cap : Int) < (n : Int) + 1 := by omega
 have b5 : (0 : Int) ≤ (n : Int) + 1 := by omega
 have b6 : (n : Int) + 1 ≤ (cap : Int) := by omega
 have b7 : (0 : Int) ≤ (i : Int) + 1 := by omega
 have b8 : (i : Int) + 1 ≤ (n : Int) + 1 := by omega
 have b9 : (i : Int) ≤ (n : Int) + 1 := by omega
 have hw1 : IntKind.i64.wrap ((i : Int) + 1) = (i : Int) + 1 := by rw [IntKind.wrap_i64]; omega
 have t1 : ((n : Int) + 1).toNat = n + 1 := by omega
 have t2 : ((i : Int) + 1).toNat = i + 1 := by omega
 have c1 : ¬ cap = i + 1 := by omega
 have c2 : ¬ cap = i := by omega
 have e1 : n + 1 - (i + 1) = n - i := by omega
 have hov : ∀ lb cb, (callFunc 100 #[.slice (some ⟨vb, 0, none⟩) 1 1, .slice (some ⟨g, (i + 1) * 6, none⟩) lb cb]).run Tryd.prog W = .ok (.value (.bool false)) W := fun lb cb => by
  rw [run_callFunc_extern Tryd.func100 (by kernel_rfl) (by kernel_rfl) (by kernel_rfl) (e := Extern.SlicesOverlaps.overlaps #[34, 34] #[4]) (by kernel_rfl),
   Lib.run_overlaps_apart W 34 4 33 Tryd.underlying34 6 (fun w => by simp [sizeOf, typeInfo, hiA, hA1]) ⟨vb, 0, none⟩ ⟨g, (i + 1) * 6, none⟩ 1 1 lb cb hne 33 33 us.toArray.size cur.toArray.size (by simp [World.shape?, hu]) (by simp [World.shape?, hg]) (by rw [List.size_toArray]; omega) (freeOf hu 0) (freeOf hu _)]
  rfl
 have HB2' := Lib.hid hg
 have HU' := Lib.hid hu
 have HL3 := Lib.hid (show (xs.drop (i * 6)).length = Nat.min (n + 1 - i) (n - i) * 6 from by rw [List.length_drop, hxl, show Nat.min (n + 1 - i) (n - i) = n - i from Nat.min_eq_right (by omega), ← Nat.sub_mul])
 have HF3 := Lib.hid (show (i + 1) * 6 + (xs.drop (i * 6)).length ≤ cur.length from by rw [List.length_drop, hxl, hcs]; omega)
 clear hg hu hcs hmul hone
 go_enter Tryd.func76, Tryd.ntmps76
 go_wp2_with (simp only [hov])
 clear hov
 have hWz : Ext No W W := Ext.refl _ _
 obtain ⟨wz, hwz⟩ : ∃ wz, wz = W := ⟨_, rfl⟩
 rw [← hwz] at HB2' HU'
 rw [← hwz]
 have HB2 := Lib.hid (show wz.drew.heap[g]? = some (.cells cur.toArray 33 (0, 0)) from HB2'.out)
 have HUD := Lib.hid (show wz.drew.heap[vb]? = some (.cells us.toArray 33 (0, 0)) from HU'.out)
 have HS2 := Lib.hid (show ∀ j u, (xs.drop (i * 6))[j]? = some u → wz.drew.cell? ((⟨g, i * 6, none⟩ : Addr).add j) = some u from fun j u hj => by
  rw [Addr.add_lit, cellOf HB2.out]
  rw [List.getElem?_drop, ← HCUR.out.2, List.getElem?_take] at hj
  split at hj
  ·simpa using hj
  cases hj)
 have HED := Lib.hid (show Ext No W wz.drew from by rw [hwz]; exact (Ext.refl _ _).drew)
 refine wp_region_held_drew (S := (fun _ => True)) (by kernel_rfl) ?_ (fun hHeld => ?_)
 ·trivial
 generalize hDW : wz.drew = v0 at *
 refine hHs [0, 1, 2, 3, 4, 5, 6, 7] ?_
 iterate 8
  refine hTn ?_ hHeld (fun w hSw => ?_) ?_
  rotate_left
  ·go_simp; (try with_reducible rfl)
  simp only [Act.put, nzA, nzB, nzC]
 refine hHe ?_
 refine hHc 8 fun K hK => ?_
 (refine wp_copyK (.tmp 73) (.tmp 76) 34 34 6 rfl 33 Tryd.underlying34 (size_of_info hiA hA1) g ((i + 1) * 6) (n - i) (cap - (i + 1)) ⟨g, i * 6, none⟩ (n + 1 - i) (cap - i) (by simp [Act.eval, Act.put]) (by simp [Act.eval, Act.put]) _ _ HB2.out (xs.drop (i * 6)) HL3.out HS2.out HF3.out (fun u hu => HONE.out u (List.mem_of_mem_drop hu)) ?_); (intro w5 hB5 hE5)
 refine hK.out _ _ ?_ ?_
 ·trivial
 clear hK K hHeld
 intro hHeld
 skip
 try simp only [Act.put, nzA, nzB, nzC]
 refine wpAnyH_done (by kernel_rfl) ?_ _
 skip
 have HB5 := Lib.hid hB5
 have HE5 := Lib.hid hE5
 have HU5 := Lib.hid (hE5.blk HUD.out hne)
 clear hB5 hE5
 obtain ⟨w6, hrun, hB6, hE6⟩ := run_copy_atK (P := Tryd.prog) (w := w5) 34 34 3 33 6 Tryd.underlying34 (size_of_info hiA hA1) g (i * 6) (n + 1 - i) (cap - i) ⟨vb, 0, none⟩ 1 1 _ _ HB5.out us (by rw [hul, show Nat.min 1 (n + 1 - i) = 1 from Nat.min_eq_left (by omega)]) (fun j u hj => by rw [Addr.add_lit, cellOf HU5.out]; simpa using hj) (by rw [spl_len HF3.out, HCUR.out.1, hul]; omega) hu1
 go_wp2_with fail
 go_ret
 have hl3 := HL3.out
 have hcl := HCUR.out.1
 have hc6 : i * 6 ≤ cur.length := by omega
 have hc7 : (i + 1) * 6 ≤ cur.length := by omega
 have hE9 : Ext (At g) W w6 := ((HED.out.ofNo).trans HE5.out).trans hE6.out
 refine ⟨g, cap, rfl, Lib.hid ⟨?_, .inr ⟨g, cap, _, rfl, hbase, hB6.out, by omega, hcm, ?_, ?_⟩⟩, Lib.hid (hE9.mono (fun k _ e => by rw [show k = g from e]; rfl)), .inl rfl⟩
 ·simp only [List.length_append, List.length_take, List.length_drop, hul]; omega
 ·have h8 := spl_len (l := cur) (cs := xs.drop (i * 6)) (o := (i + 1) * 6) HF3.out
  rw [List.size_toArray, spl_len (by rw [h8, hul]; omega), h8, hcl]
 exact ins_cells hxl hul hi HCUR.out.2 (by omega)
theorem own_olds {w : World} {base g n cap i : Nat} {xs : List Value} (h : w.ownsRow base 33 6 (.slice (some ⟨g, 0, none⟩) n cap) n xs) (hi : i ≤ n) : (Builtin.firstCells 6 i (.slice (some ⟨g, 0, none⟩) i cap)).run Tryd.prog w = .ok (xs.take (i * 6)).toArray w :=
 run_firstCells_some w 6 i ⟨g, 0, none⟩ i cap (xs.take (i * 6)) (by rw [List.length_take, h.1]; omega) (fun j v hj => by
  rw [Addr.add_lit, Nat.zero_add]
  rw [List.getElem?_take] at hj
  split at hj
  ·rw [World.ownsRow.cellAt h j (by omega)]; exact hj
  cases hj)
theorem zc_size (n : Nat) : (Builtin.zeroCells (Value.cells zA) n).size = n * 6 := by simp [Builtin.zeroCells, zA, Value.cells]
theorem ins_cells2 {row xs us : List Value} {n i G : Nat} (hxl : xs.length = n * 6) (hul : us.length = 6) (hi : i < n) (hr : row.length = G * 6) (hG : n + 1 ≤ G) (ht : row.take (i * 6) = xs.take (i * 6)) :
  (((row.take (i * 6) ++ (us ++ row.drop (i * 6 + us.length))).take ((i + 1) * 6) ++ (xs.drop (i * 6) ++ (row.take (i * 6) ++ (us ++ row.drop (i * 6 + us.length))).drop ((i + 1) * 6 + (xs.drop (i * 6)).length))).toArray).toList.take ((n + 1) * 6) = xs.take (i * 6) ++ us ++ xs.drop (i * 6) := by
 have h1 : (row.take (i * 6) ++ (us ++ row.drop (i * 6 + us.length))).take ((i + 1) * 6) = xs.take (i * 6) ++ us := by
  rw [show (i + 1) * 6 = i * 6 + us.length by omega, spl_get (by omega), ht]
 rw [h1]
 show List.take _ (_ ++ (xs.drop (i * 6) ++ _)) = _
 rw [← List.append_assoc]
 exact List.take_left' (by simp only [List.length_append, List.length_take, List.length_drop, hul, hxl]; omega)
set_option maxRecDepth 100000 in
set_option maxHeartbeats 8000000 in
theorem insert_grow (base g n cap i vb : Nat) (xs us : List Value) (W : World) (h : W.ownsRow base 33 6 (.slice (some ⟨g, 0, none⟩) n cap) n xs) (hb : base ≤ W.heap.size) (hi : i < n) (hn2 : n ≤ 1000) (hroom : cap < n + 1) (hone : ∀ u ∈ xs, u.oneCell' = true) (hu : W.heap[vb]? = some (.cells us.toArray 33 (0, 0))) (hul : us.length = 6) (hu1 : ∀ u ∈ us, u.oneCell' = true) :
  Calls Tryd.prog 76 #[.slice (some ⟨g, 0, none⟩) n cap, .int .i64 (i : Int), .slice (some ⟨vb, 0, none⟩) 1 1] W (InsPost13 base (.slice (some ⟨g, 0, none⟩) n cap) n i xs us W) := by
 obtain ⟨iA, hiA, hA0, hA1, hA2⟩ := info_parts infoAE
 have hxl := h.1
 have HONE := Lib.hid hone
 have HO := Lib.hid h
 obtain ⟨hcn, hcap2⟩ : n ≤ cap ∧ cap ≤ 9223372036854775807 := (Row.ofOwns (M := No) h (fun _ _ x => x)).caps
 have hik : i + (n + 1 - i) = n + 1 := by omega
 have hgl : g < W.heap.size := (World.ownsRow.lt h g rfl).2
 have hkk : (n : Int) + 1 - (i : Int) = ((n + 1 - i : Nat) : Int) := by omega
 obtain ⟨G, hG⟩ : ∃ G, G = grownCap W (n + 1) cap 33 := ⟨_, rfl⟩
 obtain ⟨NB, hNB⟩ : ∃ NB, NB = W.heap.size := ⟨_, rfl⟩
 have hG1 : n + 1 ≤ G := by rw [hG]; exact grownCap_ge W _ _ _
 have hG63 : G ≤ maxLen := by rw [hG]; exact grownCap_le_maxLen W (n + 1) cap 33 (by simp only [maxLen]; omega)
 obtain ⟨W1, hrz, HB1, HE1⟩ : ∃ W1, (Builtin.append_ #[34, 3] 34 #[.slice (some ⟨g, 0, none⟩) i cap, .int .i64 ((n : Int) + 1 - (i : Int))]).run Tryd.prog W = .ok (.slice (some ⟨NB, 0, none⟩) (n + 1) G) W1 ∧ Hid (∃ row : List Value, W1.heap[NB]? = some (.cells row.toArray 33 (0, 0)) ∧ row.length = G * 6 ∧ row.take (i * 6) = xs.take (i * 6)) ∧ Hid (Ext No W W1) := by
  have h1 := Lib.run_append_grow_zeros (P := Tryd.prog) W 34 3 34 33 iA _ .i64 .i64 Tryd.underlying34 Tryd.underlying3 hiA hA0 (some ⟨g, 0, none⟩) i cap (xs.take (i * 6)) (by rw [hA1]; exact own_olds (row_keep2 h (Ext.refl No W).drew (fun _ _ x => x)) (by omega)) (n + 1 - i) (by omega) (by omega) (by omega) (by omega) (by rw [hA2]; omega) (by rw [hA2, hik]; exact growslice_fits hroom (by omega))
  rw [hik, ← hG, ← hNB] at h1
  rw [hkk]
  refine ⟨_, h1, Lib.hid ⟨xs.take (i * 6) ++ ((Builtin.zeroCells (Value.cells zA) (n + 1 - i)).toList ++ (Builtin.zeroCells (Value.cells zA) (G - (n + 1))).toList), ?_, ?_, ?_⟩, Lib.hid ((Ext.refl No W).drew.alloc _)⟩
  ·rw [hNB]
   refine (alloc_top (w := W.drew) rfl).trans ?_
   congr 2
   refine Array.ext' ?_
   simp [zA]
  ·have z1 := zc_size (n + 1 - i)
   have z2 := zc_size (G - (n + 1))
   simp only [List.length_append, List.length_take, Array.length_toList, z1, z2, hxl]
   omega
  exact List.take_left' (by rw [List.length_take]; omega)
 obtain ⟨row, hB1, hrl, hrt⟩ := HB1.out
 have HRL := Lib.hid hrl
 have HRT := Lib.hid hrt
 have HUL := Lib.hid hul
 have hune : vb ≠ NB := by have := lt_of_block hu; omega
 have HU1 := Lib.hid (HE1.out.blk hu no_no)
 obtain ⟨w2, hrun, hB2, hE2⟩ := run_copy_atK (P := Tryd.prog) (w := W1) 34 34 3 33 6 Tryd.underlying34 (size_of_info hiA hA1) NB (i * 6) (n + 1 - i) (G - i) ⟨vb, 0, none⟩ 1 1 _ _ hB1 us (by rw [hul, show Nat.min 1 (n + 1 - i) = 1 from Nat.min_eq_left (by omega)]) (fun j u hj => by rw [Addr.add_lit, cellOf HU1.out]; simpa using hj) (by rw [hrl, hul]; omega) hu1
 have b0 : (0 : Int) ≤ (i : Int) := by omega
 have b1 : (i : Int) ≤ (n : Int) := by omega
 have b2 : (n : Int) ≤ (cap : Int) := by omega
 have b3 : ¬ (i : Int) = (n : Int) := by omega
 have b4 : (cap : Int) < (n : Int) + 1 := by omega
 have b5 : (i : Int) ≤ (cap : Int) := by omega
 have b7 : (0 : Int) ≤ (i : Int) + 1 := by omega
 have b8 : (i : Int) + 1 ≤ (n : Int) + 1 := by omega
 have b9 : (i : Int) ≤ (n : Int) + 1 := by omega
 have b10 : (n : Int) + 1 ≤ (G : Int) := by omega
 have hw1 : IntKind.i64.wrap ((i : Int) + 1) = (i : Int) + 1 := by rw [IntKind.wrap_i64]; omega
 have hw2 : IntKind.i64.wrap ((n : Int) + 1 - (i : Int)) = (n : Int) + 1 - (i : Int) := by rw [IntKind.wrap_i64]; omega
 have t2 : ((i : Int) + 1).toNat = i + 1 := by omega
 have c1 : ¬ G = i + 1 := by omega
 have c2 : ¬ G = i := by omega
 have c3 : ¬ cap = i := by omega
 have HNB := Lib.hid hNB
 clear hone h hu hul HB1 hB1 hrl hrt hik hkk hG hNB
 go_enter Tryd.func76, Tryd.ntmps76
 go_wp2_with (at_builtin; refine Lib.wpList_append_run _ rfl _ _ _ _ rfl _ _ rfl rfl _ _ hrz ?_)
 clear hrun hrz
 obtain ⟨wz, hwz⟩ : ∃ wz, wz = w2 := ⟨_, rfl⟩
 rw [← hwz] at hB2 hE2 ⊢
 have HB2 := Lib.hid (show wz.drew.heap[NB]? = some (.cells _ 33 (0, 0)) from hB2.out)
 have HED := Lib.hid (show Ext (At NB) W wz.drew from (HE1.out.ofNo.trans hE2.out).transNo (Ext.refl _ _).drew)
 have HL3 := Lib.hid (show (xs.drop (i * 6)).length = Nat.min (n - i) (n - i) * 6 from by rw [List.length_drop, hxl, show Nat.min (n - i) (n - i) = n - i from Nat.min_self _, ← Nat.sub_mul])
 have HF3 := Lib.hid (show (i + 1) * 6 + (xs.drop (i * 6)).length ≤ (row.take (i * 6) ++ (us ++ row.drop (i * 6 + us.length))).length from by rw [spl_len (by rw [HRL.out, HUL.out]; omega), HRL.out, List.length_drop, hxl]; omega)
 have HS2 := Lib.hid (show ∀ j u, (xs.drop (i * 6))[j]? = some u → wz.drew.cell? ((⟨g, i * 6, none⟩ : Addr).add j) = some u from fun j u hj => by
  have h9 := row_keep2 HO.out HED.out (fun k hk e => by have h8 : g = k := Option.some.inj hk; unfold At at e; have := HNB.out; omega)
  have hjl : j < (xs.drop (i * 6)).length := (List.getElem?_eq_some_iff.1 hj).1
  rw [List.length_drop, hxl] at hjl
  rw [Addr.add_lit, World.ownsRow.cellAt h9 _ (by omega)]
  rw [List.getElem?_drop] at hj
  exact hj)
 refine wp_region_held_drew (S := (fun _ => True)) (by kernel_rfl) ?_ (fun hHeld => ?_)
 ·trivial
 generalize hDW : wz.drew = v0 at *
 refine hHs [0, 1, 2, 3, 4, 5, 6, 7] ?_
 iterate 8
  refine hTn ?_ hHeld (fun w hSw => ?_) ?_
  rotate_left
  ·go_simp; (try with_reducible rfl)
  simp only [Act.put, nzA, nzB, nzC]
 refine hHe ?_
 refine hHc 8 fun K hK => ?_
 (refine wp_copyK (.tmp 50) (.tmp 53) 34 34 6 rfl 33 Tryd.underlying34 (size_of_info hiA hA1) NB ((i + 1) * 6) (n - i) (G - (i + 1)) ⟨g, i * 6, none⟩ (n - i) (cap - i) (by simp [Act.eval, Act.put]) (by simp [Act.eval, Act.put]) _ _ HB2.out (xs.drop (i * 6)) HL3.out HS2.out HF3.out (fun u hu => HONE.out u (List.mem_of_mem_drop hu)) ?_); (intro w5 hB5 hE5)
 refine hK.out _ _ ?_ ?_
 ·trivial
 clear hK K hHeld
 intro hHeld
 skip
 try simp only [Act.put, nzA, nzB, nzC]
 refine wpAnyH_done (by kernel_rfl) ?_ _
 skip
 have HB5 := Lib.hid hB5
 have HE5 := Lib.hid hE5
 clear hB5 hE5
 go_wp2_with fail
 go_ret
 have hnb := HNB.out
 refine ⟨NB, G, rfl, Lib.hid ⟨?_, .inr ⟨NB, G, _, rfl, by omega, HB5.out, by omega, hG63, ?_, ?_⟩⟩, Lib.hid ((HED.out.trans HE5.out).mono (fun k hk e => by rw [show k = NB from e] at hk; omega)), .inr (by omega)⟩
 ·have := HUL.out
  simp only [List.length_append, List.length_take, List.length_drop, this]; omega
 ·rw [List.size_toArray, spl_len HF3.out, spl_len (by rw [HRL.out, HUL.out]; omega), HRL.out]
 exact ins_cells2 hxl HUL.out hi HRL.out hG1 HRT.out
theorem inArc_any (base n i vb : Nat) (v : Value) (xs us : List Value) (W : World) (h : W.ownsRow base 33 6 v n xs) (hb : base ≤ W.heap.size) (hi : i ≤ n) (hn2 : n ≤ 1000) (hone : ∀ u ∈ xs, u.oneCell' = true) (hu : W.heap[vb]? = some (.cells us.toArray 33 (0, 0))) (hul : us.length = 6) (hu1 : ∀ u ∈ us, u.oneCell' = true) (hne : v.ownBlock ≠ some vb) :
  Calls Tryd.prog 76 #[v, .int .i64 (i : Int), .slice (some ⟨vb, 0, none⟩) 1 1] W (InsPost13 base v n i xs us W) := by
 by_cases hin : i = n
 ·subst hin
  exact insert_end base i vb v xs us W h hb hn2 hu hul hu1
 obtain ⟨g, cap, rfl⟩ := own_shape h (by omega)
 by_cases hroom : n + 1 ≤ cap
 ·exact insert_room base g n cap i vb xs us W h (by omega) hn2 hroom hone hu hul hu1 (fun e => hne (by rw [e]; rfl))
 exact insert_grow base g n cap i vb xs us W h hb (by omega) hn2 (by omega) hone hu hul hu1

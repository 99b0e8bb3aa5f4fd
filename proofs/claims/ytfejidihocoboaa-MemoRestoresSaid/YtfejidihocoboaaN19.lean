/- slices.Insert of one key. -/
import Derived.Test.YtfejidihocoboaaN18
import Derived.Test.YtfejidihocoboaaN11
import Derived.Lib.AppendZerosOnto
import Derived.Lib.Overlaps
import Derived.Laws.NewBlocks
set_option linter.unusedVariables false
set_option linter.unusedSimpArgs false
namespace Go.Proofs.Ytfejidihocoboaa
open Go Go.RowKit
theorem size_of_info {P : Program} {e : TypeId} {i : TypeInfo} {s : Nat} (hi : P.info? e = some i) (hs : i.size = s) : (P.info? e).map (·.size) = some s := by rw [hi]; simp [hs]
def InsPostK (base : Nat) (v : Value) (N i : Nat) (xs us : List Value) (W : World) (e : Ending) (w' : World) : Prop :=
  ∃ (g' c' : Nat), e = .returned (.slice (some ⟨g', 0, none⟩) (N + 1) c') ∧ Hid (w'.ownsRow base 68 3 (.slice (some ⟨g', 0, none⟩) (N + 1) c') (N + 1) (xs.take (i * 3) ++ us ++ xs.drop (i * 3))) ∧ Hid (Ext (fun k => v.ownBlock = some k) W w') ∧ (v.ownBlock = some g' ∨ W.heap.size ≤ g')
theorem kown_shape {w : World} {base : Nat} {v : Value} {n : Nat} {xs : List Value} (h : w.ownsRow base 68 3 v n xs) (hn : n ≠ 0) : ∃ g cap, v = .slice (some ⟨g, 0, none⟩) n cap := by
  rcases h.2 with ⟨_, h0⟩ | ⟨g, cap, _, e, _⟩
  · exact absurd h0 hn
  · exact ⟨g, cap, e⟩
set_option maxRecDepth 100000 in
set_option maxHeartbeats 4000000 in
theorem kins_end (base n vb : Nat) (v : Value) (xs us : List Value) (W : World) (h : W.ownsRow base 68 3 v n xs) (hb : base ≤ W.heap.size) (hn2 : n ≤ 1000) (hu : W.heap[vb]? = some (.cells us.toArray 68 (0, 0))) (hul : us.length = 3) (hu1 : ∀ u ∈ us, u.oneCell' = true) :
    Calls Try.prog 47 #[v, .int .i64 (n : Int), .slice (some ⟨vb, 0, none⟩) 1 1] W (InsPostK base v n n xs us W) := by
  obtain ⟨iA, hiA, hA0, hA1, hA2⟩ := info_parts infoKey
  have hxl := h.1
  have HO := Lib.hid h
  have HU := Lib.hid (show Row No W 3 (.slice (some ⟨vb, 0, none⟩) 1 1) 1 us from Row.block (cs := us.toArray) hu (by simpa using hul) no_no (by omega))
  have hcase : (v = .slice none 0 0 ∧ n = 0) ∨ ∃ g cap, v = .slice (some ⟨g, 0, none⟩) n cap ∧ n ≤ cap ∧ cap ≤ 9223372036854775807 := by
    rcases h.2 with ⟨e, h0⟩ | ⟨g, cap, _, e, _⟩
    · exact .inl ⟨e, h0⟩
    · subst e
      have := (Row.ofOwns (M := No) h (fun _ _ x => x)).caps
      exact .inr ⟨g, cap, rfl, this⟩
  clear h
  rcases hcase with ⟨rfl, rfl⟩ | ⟨g, cap, rfl, hc1, hc2⟩
  · go_enter Try.func47, Try.ntmps47
    go_wp2_with (at_builtin; (refine wpList_app _ rfl (.tmp 23) (.tmp 24) 63 rfl base 68 iA _ 3 24 Try.underlying63 hiA hA0 hA1 hA2 rfl (by omega) (.slice none 0 0) 0 xs rfl HO.out No (some ⟨vb, 0, none⟩) 1 1 us rfl HU.out hu1 (by omega) (by omega) hb ?_); (intro v9 w9 hown1 hg1 hv1); (have hsh := kown_shape hown1 (by omega)); (obtain ⟨g9, c9, rfl⟩ := hsh))
    go_ret
    have e : xs = [] := List.eq_nil_of_length_eq_zero (by rw [hxl])
    subst e
    exact ⟨g9, c9, rfl, Lib.hid (by simpa using hown1), Lib.hid ((Ext.refl _ W).grown hg1 (fun k hk _ => hk)), hv1.imp (fun e => e.symm) (fun e => Nat.le_of_eq (Option.some.inj e).symm)⟩
  · have b1 : (0 : Int) ≤ (n : Int) := by omega
    have b2 : (n : Int) ≤ (cap : Int) := by omega
    go_enter Try.func47, Try.ntmps47
    go_wp2_with (at_builtin; (refine wpList_app _ rfl (.tmp 23) (.tmp 24) 63 rfl base 68 iA _ 3 24 Try.underlying63 hiA hA0 hA1 hA2 rfl (by omega) (.slice (some ⟨g, 0, none⟩) n cap) n xs rfl HO.out No (some ⟨vb, 0, none⟩) 1 1 us rfl HU.out hu1 (by omega) (by omega) hb ?_); (intro v9 w9 hown1 hg1 hv1); (have hsh := kown_shape hown1 (by omega)); (obtain ⟨g9, c9, rfl⟩ := hsh))
    all_goals go_ret
    all_goals (have e1 : xs.take (n * 3) = xs := List.take_of_length_le (by omega))
    all_goals (have e2 : xs.drop (n * 3) = [] := List.drop_eq_nil_of_le (by omega))
    all_goals exact ⟨g9, c9, rfl, Lib.hid (by rw [e1, e2, List.append_nil]; exact hown1), Lib.hid ((Ext.refl _ W).grown hg1 (fun k hk _ => hk)), hv1.imp (fun e => e.symm) (fun e => Nat.le_of_eq (Option.some.inj e).symm)⟩
theorem kinscells {cur xs us : List Value} {n i : Nat} (hxl : xs.length = n * 3) (hul : us.length = 3) (hi : i < n) (ht : cur.take (n * 3) = xs) (hc : (i + 1) * 3 ≤ cur.length) :
    (((cur.take ((i + 1) * 3) ++ (xs.drop (i * 3) ++ cur.drop ((i + 1) * 3 + (xs.drop (i * 3)).length))).take (i * 3) ++ (us ++ (cur.take ((i + 1) * 3) ++ (xs.drop (i * 3) ++ cur.drop ((i + 1) * 3 + (xs.drop (i * 3)).length))).drop (i * 3 + us.length))).toArray).toList.take ((n + 1) * 3) = xs.take (i * 3) ++ us ++ xs.drop (i * 3) := by
  have h1 : (cur.take ((i + 1) * 3) ++ (xs.drop (i * 3) ++ cur.drop ((i + 1) * 3 + (xs.drop (i * 3)).length))).take (i * 3) = xs.take (i * 3) := by
    rw [spl_take hc (by omega), ← ht, List.take_take, Nat.min_eq_left (by omega)]
  have h2 : (cur.take ((i + 1) * 3) ++ (xs.drop (i * 3) ++ cur.drop ((i + 1) * 3 + (xs.drop (i * 3)).length))).drop (i * 3 + us.length) = xs.drop (i * 3) ++ cur.drop ((i + 1) * 3 + (xs.drop (i * 3)).length) :=
    List.drop_left' (by rw [List.length_take, hul, Nat.min_eq_left hc]; omega)
  rw [h1, h2]
  show List.take _ (_ ++ (us ++ (xs.drop (i * 3) ++ _))) = _
  rw [← List.append_assoc us, ← List.append_assoc, ← List.append_assoc]
  exact List.take_left' (by simp only [List.length_append, List.length_take, List.length_drop, hul, hxl]; omega)
set_option maxRecDepth 100000 in
set_option maxHeartbeats 8000000 in
theorem kins_room (base g n cap i vb : Nat) (xs us : List Value) (W : World) (h : W.ownsRow base 68 3 (.slice (some ⟨g, 0, none⟩) n cap) n xs) (hi : i < n) (hn2 : n ≤ 1000) (hroom : n + 1 ≤ cap) (hone : ∀ u ∈ xs, u.oneCell' = true) (hu : W.heap[vb]? = some (.cells us.toArray 68 (0, 0))) (hul : us.length = 3) (hu1 : ∀ u ∈ us, u.oneCell' = true) (hne : vb ≠ g) :
    Calls Try.prog 47 #[.slice (some ⟨g, 0, none⟩) n cap, .int .i64 (i : Int), .slice (some ⟨vb, 0, none⟩) 1 1] W (InsPostK base (.slice (some ⟨g, 0, none⟩) n cap) n i xs us W) := by
  obtain ⟨iA, hiA, hA0, hA1, hA2⟩ := info_parts infoKey
  have hxl := h.1
  have HONE := Lib.hid hone
  obtain ⟨cur, hg, hbase, hcm, hcs, htake⟩ : ∃ cur : List Value, W.heap[g]? = some (.cells cur.toArray 68 (0, 0)) ∧ base ≤ g ∧ cap ≤ maxLen ∧ cur.length = cap * 3 ∧ cur.take (n * 3) = xs := by
    rcases h.2 with ⟨h3, _⟩ | ⟨g', cap', cur, h3, hb, hg', hnc, hcm, hcs, htake⟩
    · simp at h3
    · simp only [Value.slice.injEq, Option.some.injEq, Addr.mk.injEq, and_true, true_and] at h3
      obtain ⟨rfl, rfl⟩ := h3
      exact ⟨cur.toList, by simpa using hg', hb, hcm, by simpa using hcs, htake⟩
  have hcap2 : cap ≤ 9223372036854775807 := hcm
  have hmul : n * 3 + 3 ≤ cap * 3 := by omega
  have HCUR := Lib.hid (And.intro hcs htake)
  have b0 : (0 : Int) ≤ (i : Int) := by omega
  have b1 : (i : Int) ≤ (n : Int) := by omega
  have b2 : (n : Int) ≤ (cap : Int) := by omega
  have b3 : ¬ (i : Int) = (n : Int) := by omega
  have b4 : ¬ (cap : Int) < (n : Int) + 1 := by omega
  have b5 : (0 : Int) ≤ (n : Int) + 1 := by omega
  have b6 : (n : Int) + 1 ≤ (cap : Int) := by omega
  have b7 : (0 : Int) ≤ (i : Int) + 1 := by omega
  have b8 : (i : Int) + 1 ≤ (n : Int) + 1 := by omega
  have b9 : (i : Int) ≤ (n : Int) + 1 := by omega
  have hw1 : IntKind.i64.wrap ((i : Int) + 1) = (i : Int) + 1 := by rw [IntKind.wrap_i64]; omega
  have t1 : ((n : Int) + 1).toNat = n + 1 := by omega
  have t2 : ((i : Int) + 1).toNat = i + 1 := by omega
  have c1 : ¬ cap = i + 1 := by omega
  have c2 : ¬ cap = i := by omega
  have e1 : n + 1 - (i + 1) = n - i := by omega
  have hov : ∀ lb cb, (callFunc 72 #[.slice (some ⟨vb, 0, none⟩) 1 1, .slice (some ⟨g, (i + 1) * 3, none⟩) lb cb]).run Try.prog W = .ok (.value (.bool false)) W := fun lb cb => by
    rw [run_callFunc_extern Try.func72 (by kernel_rfl) (by kernel_rfl) (by kernel_rfl) (e := Extern.SlicesOverlaps.overlaps #[63, 63] #[4]) (by kernel_rfl),
      Lib.run_overlaps_apart W 63 4 68 Try.underlying63 3 (fun w => by simp [sizeOf, typeInfo, hiA, hA1]) ⟨vb, 0, none⟩ ⟨g, (i + 1) * 3, none⟩ 1 1 lb cb hne 68 68 us.toArray.size cur.toArray.size (by simp [World.shape?, hu]) (by simp [World.shape?, hg]) (by rw [List.size_toArray]; omega) (freeOf hu 0) (freeOf hu _)]
    rfl
  have HB2' := Lib.hid hg
  have HU' := Lib.hid hu
  have HL3 := Lib.hid (show (xs.drop (i * 3)).length = Nat.min (n + 1 - i) (n - i) * 3 from by rw [List.length_drop, hxl, show Nat.min (n + 1 - i) (n - i) = n - i from Nat.min_eq_right (by omega), ← Nat.sub_mul])
  have HF3 := Lib.hid (show (i + 1) * 3 + (xs.drop (i * 3)).length ≤ cur.length from by rw [List.length_drop, hxl, hcs]; omega)
  clear hg hu hcs hmul hone
  go_enter Try.func47, Try.ntmps47
  go_wp2_with (simp only [hov])
  clear hov
  have hWz : Ext No W W := Ext.refl _ _
  obtain ⟨wz, hwz⟩ : ∃ wz, wz = W := ⟨_, rfl⟩
  rw [← hwz] at HB2' HU'
  rw [← hwz]
  have HB2 := Lib.hid (show wz.drew.heap[g]? = some (.cells cur.toArray 68 (0, 0)) from HB2'.out)
  have HUD := Lib.hid (show wz.drew.heap[vb]? = some (.cells us.toArray 68 (0, 0)) from HU'.out)
  have HS2 := Lib.hid (show ∀ j u, (xs.drop (i * 3))[j]? = some u → wz.drew.cell? ((⟨g, i * 3, none⟩ : Addr).add j) = some u from fun j u hj => by
    rw [Addr.add_lit, cellOf HB2.out]
    rw [List.getElem?_drop, ← HCUR.out.2, List.getElem?_take] at hj
    split at hj
    · simpa using hj
    · cases hj)
  have HED := Lib.hid (show Ext No W wz.drew from by rw [hwz]; exact (Ext.refl _ _).drew)
  refine wp_region_held_drew (S := (fun _ => True)) (by kernel_rfl) ?_ (fun hHeld => ?_)
  · trivial
  generalize hDW : wz.drew = v0 at *
  refine held_take (i := 0) (v := ?_) rfl (by kernel_rfl) (by kernel_rfl) (by kernel_rfl) (fun _ _ _ h => h) rfl (fun w hSw => ?_) hHeld ?_
  rotate_left
  · go_simp; (try with_reducible rfl)
  try simp only [Act.put, List.setIfInBounds_toArray, List.set_cons_zero, List.set_cons_succ]
  refine held_take (i := 1) (v := ?_) rfl (by kernel_rfl) (by kernel_rfl) (by kernel_rfl) (fun _ _ _ h => h) rfl (fun w hSw => ?_) hHeld ?_
  rotate_left
  · go_simp; (try with_reducible rfl)
  try simp only [Act.put, List.setIfInBounds_toArray, List.set_cons_zero, List.set_cons_succ]
  refine held_take (i := 2) (v := ?_) rfl (by kernel_rfl) (by kernel_rfl) (by kernel_rfl) (fun _ _ _ h => h) rfl (fun w hSw => ?_) hHeld ?_
  rotate_left
  · go_simp; (try with_reducible rfl)
  try simp only [Act.put, List.setIfInBounds_toArray, List.set_cons_zero, List.set_cons_succ]
  refine held_take (i := 3) (v := ?_) rfl (by kernel_rfl) (by kernel_rfl) (by kernel_rfl) (fun _ _ _ h => h) rfl (fun w hSw => ?_) hHeld ?_
  rotate_left
  · go_simp; (try with_reducible rfl)
  try simp only [Act.put, List.setIfInBounds_toArray, List.set_cons_zero, List.set_cons_succ]
  refine held_take (i := 4) (v := ?_) rfl (by kernel_rfl) (by kernel_rfl) (by kernel_rfl) (fun _ _ _ h => h) rfl (fun w hSw => ?_) hHeld ?_
  rotate_left
  · go_simp; (try with_reducible rfl)
  try simp only [Act.put, List.setIfInBounds_toArray, List.set_cons_zero, List.set_cons_succ]
  refine held_take (i := 5) (v := ?_) rfl (by kernel_rfl) (by kernel_rfl) (by kernel_rfl) (fun _ _ _ h => h) rfl (fun w hSw => ?_) hHeld ?_
  rotate_left
  · go_simp; (try with_reducible rfl)
  try simp only [Act.put, List.setIfInBounds_toArray, List.set_cons_zero, List.set_cons_succ]
  refine held_take (i := 6) (v := ?_) rfl (by kernel_rfl) (by kernel_rfl) (by kernel_rfl) (fun _ _ _ h => h) rfl (fun w hSw => ?_) hHeld ?_
  rotate_left
  · go_simp; (try with_reducible rfl)
  try simp only [Act.put, List.setIfInBounds_toArray, List.set_cons_zero, List.set_cons_succ]
  refine held_take (i := 7) (v := ?_) rfl (by kernel_rfl) (by kernel_rfl) (by kernel_rfl) (fun _ _ _ h => h) rfl (fun w hSw => ?_) hHeld ?_
  rotate_left
  · go_simp; (try with_reducible rfl)
  try simp only [Act.put, List.setIfInBounds_toArray, List.set_cons_zero, List.set_cons_succ]
  refine held_call (i := 8) rfl (by kernel_rfl) rfl (fun K hK => ?_)
  (refine wp_copyK (.tmp 73) (.tmp 76) 63 63 3 rfl 68 Try.underlying63 (size_of_info hiA hA1) g ((i + 1) * 3) (n - i) (cap - (i + 1)) ⟨g, i * 3, none⟩ (n + 1 - i) (cap - i) (by simp [Act.eval, Act.put]) (by simp [Act.eval, Act.put]) _ _ HB2.out (xs.drop (i * 3)) HL3.out HS2.out HF3.out (fun u hu => HONE.out u (List.mem_of_mem_drop hu)) ?_); (intro w5 hB5 hE5)
  refine hK.out _ _ ?_ (fun hNew => ?_)
  · trivial
  clear hK K hHeld
  have hHeld := hNew
  clear hNew
  skip
  try simp only [Act.put, List.setIfInBounds_toArray, List.set_cons_zero, List.set_cons_succ]
  refine wpAnyH_done (by kernel_rfl) ?_ _
  skip
  have HB5 := Lib.hid hB5
  have HE5 := Lib.hid hE5
  have HU5 := Lib.hid (hE5.blk HUD.out hne)
  clear hB5 hE5
  obtain ⟨w6, hrun, hB6, hE6⟩ := run_copy_atK (P := Try.prog) (w := w5) 63 63 3 68 3 Try.underlying63 (size_of_info hiA hA1) g (i * 3) (n + 1 - i) (cap - i) ⟨vb, 0, none⟩ 1 1 _ _ HB5.out us (by rw [hul, show Nat.min 1 (n + 1 - i) = 1 from Nat.min_eq_left (by omega)]) (fun j u hj => by rw [Addr.add_lit, cellOf HU5.out]; simpa using hj) (by rw [spl_len HF3.out, HCUR.out.1, hul]; omega) hu1
  go_wp2_with fail
  go_ret
  have hl3 := HL3.out
  have hcl := HCUR.out.1
  have hc6 : i * 3 ≤ cur.length := by omega
  have hc7 : (i + 1) * 3 ≤ cur.length := by omega
  have hE9 : Ext (At g) W w6 := ((HED.out.ofNo).trans HE5.out).trans hE6.out
  refine ⟨g, cap, rfl, Lib.hid ⟨?_, .inr ⟨g, cap, _, rfl, hbase, hB6.out, by omega, hcm, ?_, ?_⟩⟩, Lib.hid (hE9.mono (fun k _ e => by rw [show k = g from e]; rfl)), .inl rfl⟩
  · simp only [List.length_append, List.length_take, List.length_drop, hul]; omega
  · have h8 := spl_len (l := cur) (cs := xs.drop (i * 3)) (o := (i + 1) * 3) HF3.out
    rw [List.size_toArray, spl_len (by rw [h8, hul]; omega), h8, hcl]
  · exact kinscells hxl hul hi HCUR.out.2 (by omega)
theorem kown_olds {w : World} {base g n cap i : Nat} {xs : List Value} (h : w.ownsRow base 68 3 (.slice (some ⟨g, 0, none⟩) n cap) n xs) (hi : i ≤ n) : (Builtin.firstCells 3 i (.slice (some ⟨g, 0, none⟩) i cap)).run Try.prog w = .ok (xs.take (i * 3)).toArray w :=
  run_firstCells_some w 3 i ⟨g, 0, none⟩ i cap (xs.take (i * 3)) (by rw [List.length_take, h.1]; omega) (fun j v hj => by
    rw [Addr.add_lit, Nat.zero_add]
    rw [List.getElem?_take] at hj
    split at hj
    · rw [World.ownsRow.cellAt h j (by omega)]; exact hj
    · cases hj)
theorem kzc_size (n : Nat) : (Builtin.zeroCells (Value.cells zK) n).size = n * 3 := by simp [Builtin.zeroCells, zK, Value.cells]
theorem kinscells2 {row xs us : List Value} {n i G : Nat} (hxl : xs.length = n * 3) (hul : us.length = 3) (hi : i < n) (hr : row.length = G * 3) (hG : n + 1 ≤ G) (ht : row.take (i * 3) = xs.take (i * 3)) :
    (((row.take (i * 3) ++ (us ++ row.drop (i * 3 + us.length))).take ((i + 1) * 3) ++ (xs.drop (i * 3) ++ (row.take (i * 3) ++ (us ++ row.drop (i * 3 + us.length))).drop ((i + 1) * 3 + (xs.drop (i * 3)).length))).toArray).toList.take ((n + 1) * 3) = xs.take (i * 3) ++ us ++ xs.drop (i * 3) := by
  have h1 : (row.take (i * 3) ++ (us ++ row.drop (i * 3 + us.length))).take ((i + 1) * 3) = xs.take (i * 3) ++ us := by
    rw [show (i + 1) * 3 = i * 3 + us.length by omega, spl_get (by omega), ht]
  rw [h1]
  show List.take _ (_ ++ (xs.drop (i * 3) ++ _)) = _
  rw [← List.append_assoc]
  exact List.take_left' (by simp only [List.length_append, List.length_take, List.length_drop, hul, hxl]; omega)
set_option maxRecDepth 100000 in
set_option maxHeartbeats 8000000 in
theorem kins_grow (base g n cap i vb : Nat) (xs us : List Value) (W : World) (h : W.ownsRow base 68 3 (.slice (some ⟨g, 0, none⟩) n cap) n xs) (hb : base ≤ W.heap.size) (hi : i < n) (hn2 : n ≤ 1000) (hroom : cap < n + 1) (hone : ∀ u ∈ xs, u.oneCell' = true) (hu : W.heap[vb]? = some (.cells us.toArray 68 (0, 0))) (hul : us.length = 3) (hu1 : ∀ u ∈ us, u.oneCell' = true) :
    Calls Try.prog 47 #[.slice (some ⟨g, 0, none⟩) n cap, .int .i64 (i : Int), .slice (some ⟨vb, 0, none⟩) 1 1] W (InsPostK base (.slice (some ⟨g, 0, none⟩) n cap) n i xs us W) := by
  obtain ⟨iA, hiA, hA0, hA1, hA2⟩ := info_parts infoKey
  have hxl := h.1
  have HONE := Lib.hid hone
  have HO := Lib.hid h
  obtain ⟨hcn, hcap2⟩ : n ≤ cap ∧ cap ≤ 9223372036854775807 := (Row.ofOwns (M := No) h (fun _ _ x => x)).caps
  have hik : i + (n + 1 - i) = n + 1 := by omega
  have hgl : g < W.heap.size := (World.ownsRow.lt h g rfl).2
  have hkk : (n : Int) + 1 - (i : Int) = ((n + 1 - i : Nat) : Int) := by omega
  obtain ⟨G, hG⟩ : ∃ G, G = grownCap W (n + 1) cap 68 := ⟨_, rfl⟩
  obtain ⟨NB, hNB⟩ : ∃ NB, NB = W.heap.size := ⟨_, rfl⟩
  have hG1 : n + 1 ≤ G := by rw [hG]; exact grownCap_ge W _ _ _
  have hG63 : G ≤ maxLen := by rw [hG]; exact grownCap_le_maxLen W (n + 1) cap 68 (by simp only [maxLen]; omega)
  obtain ⟨W1, hrz, HB1, HE1⟩ : ∃ W1, (Builtin.append_ #[63, 3] 63 #[.slice (some ⟨g, 0, none⟩) i cap, .int .i64 ((n : Int) + 1 - (i : Int))]).run Try.prog W = .ok (.slice (some ⟨NB, 0, none⟩) (n + 1) G) W1 ∧ Hid (∃ row : List Value, W1.heap[NB]? = some (.cells row.toArray 68 (0, 0)) ∧ row.length = G * 3 ∧ row.take (i * 3) = xs.take (i * 3)) ∧ Hid (Ext No W W1) := by
    have h1 := Lib.run_append_grow_zeros (P := Try.prog) W 63 3 63 68 iA _ .i64 .i64 Try.underlying63 Try.underlying3 hiA hA0 (some ⟨g, 0, none⟩) i cap (xs.take (i * 3)) (by rw [hA1]; exact kown_olds (row_keep2 h (Ext.refl No W).drew (fun _ _ x => x)) (by omega)) (n + 1 - i) (by omega) (by omega) (by omega) (by omega) (by rw [hA2]; omega) (by rw [hA2, hik]; exact growslice_fits hroom (by omega))
    rw [hik, ← hG, ← hNB] at h1
    rw [hkk]
    refine ⟨_, h1, Lib.hid ⟨xs.take (i * 3) ++ ((Builtin.zeroCells (Value.cells zK) (n + 1 - i)).toList ++ (Builtin.zeroCells (Value.cells zK) (G - (n + 1))).toList), ?_, ?_, ?_⟩, Lib.hid ((Ext.refl No W).drew.alloc _)⟩
    · rw [hNB]
      refine (alloc_top (w := W.drew) rfl).trans ?_
      congr 2
      refine Array.ext' ?_
      simp [zK]
    · have z1 := kzc_size (n + 1 - i)
      have z2 := kzc_size (G - (n + 1))
      simp only [List.length_append, List.length_take, Array.length_toList, z1, z2, hxl]
      omega
    · exact List.take_left' (by rw [List.length_take]; omega)
  obtain ⟨row, hB1, hrl, hrt⟩ := HB1.out
  have HRL := Lib.hid hrl
  have HRT := Lib.hid hrt
  have HUL := Lib.hid hul
  have hune : vb ≠ NB := by have := lt_of_block hu; omega
  have HU1 := Lib.hid (HE1.out.blk hu no_no)
  obtain ⟨w2, hrun, hB2, hE2⟩ := run_copy_atK (P := Try.prog) (w := W1) 63 63 3 68 3 Try.underlying63 (size_of_info hiA hA1) NB (i * 3) (n + 1 - i) (G - i) ⟨vb, 0, none⟩ 1 1 _ _ hB1 us (by rw [hul, show Nat.min 1 (n + 1 - i) = 1 from Nat.min_eq_left (by omega)]) (fun j u hj => by rw [Addr.add_lit, cellOf HU1.out]; simpa using hj) (by rw [hrl, hul]; omega) hu1
  have b0 : (0 : Int) ≤ (i : Int) := by omega
  have b1 : (i : Int) ≤ (n : Int) := by omega
  have b2 : (n : Int) ≤ (cap : Int) := by omega
  have b3 : ¬ (i : Int) = (n : Int) := by omega
  have b4 : (cap : Int) < (n : Int) + 1 := by omega
  have b5 : (i : Int) ≤ (cap : Int) := by omega
  have b7 : (0 : Int) ≤ (i : Int) + 1 := by omega
  have b8 : (i : Int) + 1 ≤ (n : Int) + 1 := by omega
  have b9 : (i : Int) ≤ (n : Int) + 1 := by omega
  have b10 : (n : Int) + 1 ≤ (G : Int) := by omega
  have hw1 : IntKind.i64.wrap ((i : Int) + 1) = (i : Int) + 1 := by rw [IntKind.wrap_i64]; omega
  have hw2 : IntKind.i64.wrap ((n : Int) + 1 - (i : Int)) = (n : Int) + 1 - (i : Int) := by rw [IntKind.wrap_i64]; omega
  have t2 : ((i : Int) + 1).toNat = i + 1 := by omega
  have c1 : ¬ G = i + 1 := by omega
  have c2 : ¬ G = i := by omega
  have c3 : ¬ cap = i := by omega
  have HNB := Lib.hid hNB
  clear hone h hu hul HB1 hB1 hrl hrt hik hkk hG hNB
  go_enter Try.func47, Try.ntmps47
  go_wp2_with (at_builtin; refine Lib.wpList_append_run _ rfl _ _ _ _ rfl _ _ rfl rfl _ _ hrz ?_)
  clear hrun hrz
  obtain ⟨wz, hwz⟩ : ∃ wz, wz = w2 := ⟨_, rfl⟩
  rw [← hwz] at hB2 hE2 ⊢
  have HB2 := Lib.hid (show wz.drew.heap[NB]? = some (.cells _ 68 (0, 0)) from hB2.out)
  have HED := Lib.hid (show Ext (At NB) W wz.drew from (HE1.out.ofNo.trans hE2.out).transNo (Ext.refl _ _).drew)
  have HL3 := Lib.hid (show (xs.drop (i * 3)).length = Nat.min (n - i) (n - i) * 3 from by rw [List.length_drop, hxl, show Nat.min (n - i) (n - i) = n - i from Nat.min_self _, ← Nat.sub_mul])
  have HF3 := Lib.hid (show (i + 1) * 3 + (xs.drop (i * 3)).length ≤ (row.take (i * 3) ++ (us ++ row.drop (i * 3 + us.length))).length from by rw [spl_len (by rw [HRL.out, HUL.out]; omega), HRL.out, List.length_drop, hxl]; omega)
  have HS2 := Lib.hid (show ∀ j u, (xs.drop (i * 3))[j]? = some u → wz.drew.cell? ((⟨g, i * 3, none⟩ : Addr).add j) = some u from fun j u hj => by
    have h9 := row_keep2 HO.out HED.out (fun k hk e => by have h8 : g = k := Option.some.inj hk; unfold At at e; have := HNB.out; omega)
    have hjl : j < (xs.drop (i * 3)).length := (List.getElem?_eq_some_iff.1 hj).1
    rw [List.length_drop, hxl] at hjl
    rw [Addr.add_lit, World.ownsRow.cellAt h9 _ (by omega)]
    rw [List.getElem?_drop] at hj
    exact hj)
  refine wp_region_held_drew (S := (fun _ => True)) (by kernel_rfl) ?_ (fun hHeld => ?_)
  · trivial
  generalize hDW : wz.drew = v0 at *
  refine held_take (i := 0) (v := ?_) rfl (by kernel_rfl) (by kernel_rfl) (by kernel_rfl) (fun _ _ _ h => h) rfl (fun w hSw => ?_) hHeld ?_
  rotate_left
  · go_simp; (try with_reducible rfl)
  try simp only [Act.put, List.setIfInBounds_toArray, List.set_cons_zero, List.set_cons_succ]
  refine held_take (i := 1) (v := ?_) rfl (by kernel_rfl) (by kernel_rfl) (by kernel_rfl) (fun _ _ _ h => h) rfl (fun w hSw => ?_) hHeld ?_
  rotate_left
  · go_simp; (try with_reducible rfl)
  try simp only [Act.put, List.setIfInBounds_toArray, List.set_cons_zero, List.set_cons_succ]
  refine held_take (i := 2) (v := ?_) rfl (by kernel_rfl) (by kernel_rfl) (by kernel_rfl) (fun _ _ _ h => h) rfl (fun w hSw => ?_) hHeld ?_
  rotate_left
  · go_simp; (try with_reducible rfl)
  try simp only [Act.put, List.setIfInBounds_toArray, List.set_cons_zero, List.set_cons_succ]
  refine held_take (i := 3) (v := ?_) rfl (by kernel_rfl) (by kernel_rfl) (by kernel_rfl) (fun _ _ _ h => h) rfl (fun w hSw => ?_) hHeld ?_
  rotate_left
  · go_simp; (try with_reducible rfl)
  try simp only [Act.put, List.setIfInBounds_toArray, List.set_cons_zero, List.set_cons_succ]
  refine held_take (i := 4) (v := ?_) rfl (by kernel_rfl) (by kernel_rfl) (by kernel_rfl) (fun _ _ _ h => h) rfl (fun w hSw => ?_) hHeld ?_
  rotate_left
  · go_simp; (try with_reducible rfl)
  try simp only [Act.put, List.setIfInBounds_toArray, List.set_cons_zero, List.set_cons_succ]
  refine held_take (i := 5) (v := ?_) rfl (by kernel_rfl) (by kernel_rfl) (by kernel_rfl) (fun _ _ _ h => h) rfl (fun w hSw => ?_) hHeld ?_
  rotate_left
  · go_simp; (try with_reducible rfl)
  try simp only [Act.put, List.setIfInBounds_toArray, List.set_cons_zero, List.set_cons_succ]
  refine held_take (i := 6) (v := ?_) rfl (by kernel_rfl) (by kernel_rfl) (by kernel_rfl) (fun _ _ _ h => h) rfl (fun w hSw => ?_) hHeld ?_
  rotate_left
  · go_simp; (try with_reducible rfl)
  try simp only [Act.put, List.setIfInBounds_toArray, List.set_cons_zero, List.set_cons_succ]
  refine held_take (i := 7) (v := ?_) rfl (by kernel_rfl) (by kernel_rfl) (by kernel_rfl) (fun _ _ _ h => h) rfl (fun w hSw => ?_) hHeld ?_
  rotate_left
  · go_simp; (try with_reducible rfl)
  try simp only [Act.put, List.setIfInBounds_toArray, List.set_cons_zero, List.set_cons_succ]
  refine held_call (i := 8) rfl (by kernel_rfl) rfl (fun K hK => ?_)
  (refine wp_copyK (.tmp 50) (.tmp 53) 63 63 3 rfl 68 Try.underlying63 (size_of_info hiA hA1) NB ((i + 1) * 3) (n - i) (G - (i + 1)) ⟨g, i * 3, none⟩ (n - i) (cap - i) (by simp [Act.eval, Act.put]) (by simp [Act.eval, Act.put]) _ _ HB2.out (xs.drop (i * 3)) HL3.out HS2.out HF3.out (fun u hu => HONE.out u (List.mem_of_mem_drop hu)) ?_); (intro w5 hB5 hE5)
  refine hK.out _ _ ?_ (fun hNew => ?_)
  · trivial
  clear hK K hHeld
  have hHeld := hNew
  clear hNew
  skip
  try simp only [Act.put, List.setIfInBounds_toArray, List.set_cons_zero, List.set_cons_succ]
  refine wpAnyH_done (by kernel_rfl) ?_ _
  skip
  have HB5 := Lib.hid hB5
  have HE5 := Lib.hid hE5
  clear hB5 hE5
  go_wp2_with fail
  go_ret
  have hnb := HNB.out
  refine ⟨NB, G, rfl, Lib.hid ⟨?_, .inr ⟨NB, G, _, rfl, by omega, HB5.out, by omega, hG63, ?_, ?_⟩⟩, Lib.hid ((HED.out.trans HE5.out).mono (fun k hk e => by rw [show k = NB from e] at hk; omega)), .inr (by omega)⟩
  · have := HUL.out
    simp only [List.length_append, List.length_take, List.length_drop, this]; omega
  · rw [List.size_toArray, spl_len HF3.out, spl_len (by rw [HRL.out, HUL.out]; omega), HRL.out]
  · exact kinscells2 hxl HUL.out hi HRL.out hG1 HRT.out
theorem kinsert_any (base n i vb : Nat) (v : Value) (xs us : List Value) (W : World) (h : W.ownsRow base 68 3 v n xs) (hb : base ≤ W.heap.size) (hi : i ≤ n) (hn2 : n ≤ 1000) (hone : ∀ u ∈ xs, u.oneCell' = true) (hu : W.heap[vb]? = some (.cells us.toArray 68 (0, 0))) (hul : us.length = 3) (hu1 : ∀ u ∈ us, u.oneCell' = true) (hne : v.ownBlock ≠ some vb) :
    Calls Try.prog 47 #[v, .int .i64 (i : Int), .slice (some ⟨vb, 0, none⟩) 1 1] W (InsPostK base v n i xs us W) := by
  by_cases hin : i = n
  · subst hin
    exact kins_end base i vb v xs us W h hb hn2 hu hul hu1
  · obtain ⟨g, cap, rfl⟩ := kown_shape h (by omega)
    by_cases hroom : n + 1 ≤ cap
    · exact kins_room base g n cap i vb xs us W h (by omega) hn2 hroom hone hu hul hu1 (fun e => hne (by rw [e]; rfl))
    · exact kins_grow base g n cap i vb xs us W h hb (by omega) hn2 (by omega) hone hu hul hu1
end Go.Proofs.Ytfejidihocoboaa

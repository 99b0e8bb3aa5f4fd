/- What Restore accepts: the plain model; an entry pushed onto a table. -/
import Derived.Test.YtfejidihocoboaaN37
set_option linter.unusedVariables false
set_option linter.unusedSimpArgs false
namespace Go.Proofs.Ytfejidihocoboaa
open Go Go.RowKit
theorem tab_push {M : Nat → Prop} {W w' : World} {T bm : Nat} {cap clk : Int} {vk v' : Value} {L : List PE} {p : PE} (h : PTab M W T cap clk bm vk L) (hx : KeyOk p.1.key) (hn : p.1.key ∉ keysOf L) (hM : ∀ b, M b → b < W.heap.size) (ha : W.heap.size ≤ p.2.1)
    (hit : w'.heap[p.2.1]? = some (.cells (itemC p) 71 (0, 0))) (hw : WordsAt (fun b => M b ∨ POwn T bm v' (L ++ [p]) b) w' p.2.2 p.1.s.words) (hX : Ext (fun b => b = T ∨ b = bm ∨ vk.ownBlock = some b) W w')
    (hb : w'.heap[T]? = some (.cells #[.int .i64 cap, .int .i64 clk, .map (some bm), v'] 65 (0, 0))) (hk : LOwn kK No w' 0 v' (keysOf L ++ [p.1.key]))
    (hm : MapR Try.prog 68 w' bm (fun y v => (y = keyV p.1.key ∧ v = ptrV p.2.1) ∨ (y ≠ keyV p.1.key ∧ itemR L y v))) (ho : ∀ g, v'.ownBlock = some g → vk.ownBlock = some g ∨ W.heap.size ≤ g) :
    PTab M w' T cap clk bm v' (L ++ [p]) ∧ ∀ b, POwn T bm v' (L ++ [p]) b → POwn T bm vk L b ∨ W.heap.size ≤ b := by
  have hmem : ∀ e, e ∈ L ++ [p] ↔ e = p ∨ e ∈ L := fun e => by
    rw [List.mem_append, List.mem_singleton]
    exact or_comm
  have hown : ∀ b, POwn T bm v' (L ++ [p]) b → POwn T bm vk L b ∨ W.heap.size ≤ b := fun b hb => by
    rcases hb with h1 | h1 | h1 | ⟨e, he, h1⟩
    · exact .inl (.inl h1)
    · exact .inl (.inr (.inl h1))
    · exact (ho b h1).imp (fun e => .inr (.inr (.inl e))) id
    · rcases (hmem e).1 he with rfl | he
      · exact .inr (by rw [← h1]; exact ha)
      · exact .inl (.inr (.inr (.inr ⟨e, he, h1⟩)))
  have hkeys : keysOf (L ++ [p]) = keysOf L ++ [p.1.key] := by
    unfold keysOf
    rw [List.map_append]
    rfl
  refine ⟨⟨⟨hb, by rw [hkeys]; exact hk, fun e he => ?_, fun e he => ?_, fun e he => ?_, ?_, ?_, fun b hb e => ?_⟩, hm.iff (fun y v => ?_)⟩, hown⟩
  · rcases (hmem e).1 he with rfl | he
    · exact hit
    · refine hX.blk (h.t.it e he) (fun e3 => ?_)
      rcases e3 with e3 | e3 | e3
      · exact h.t.neTI he e3.symm
      · exact h.neIM he e3
      · exact h.t.neKI e3 he rfl
  · rcases (hmem e).1 he with rfl | he
    · exact hw
    · refine ((h.t.wd e he).mono (M' := fun b => M b ∨ POwn T bm v' (L ++ [p]) b ∨ vk.ownBlock = some b) (fun j hj e3 => ?_)).ext hX (fun j _ e3 => ?_) |>.mono (fun j _ e3 => e3.elim .inl (fun e3 => .inr (.inl e3)))
      · rcases e3 with e3 | e3 | e3
        · exact .inl e3
        · rcases hown j e3 with e3 | e3
          · exact .inr e3
          · omega
        · exact .inr (.inr (.inr (.inl e3)))
      · rcases e3 with e3 | e3 | e3
        · exact .inr (.inl (.inl e3))
        · exact .inr (.inl (.inr (.inl e3)))
        · exact .inr (.inr e3)
  · rcases (hmem e).1 he with rfl | he
    · exact hx
    · exact h.t.ok e he
  · have e1 : addrsOf (L ++ [p]) = addrsOf L ++ [p.2.1] := by
      unfold addrsOf
      rw [List.map_append]
      rfl
    rw [e1]
    have hna : p.2.1 ∉ addrsOf L := fun h1 => by
      obtain ⟨e, he, h2⟩ := List.mem_map.1 h1
      have := lt_of_block (h.t.it e he)
      omega
    exact (List.perm_append_singleton p.2.1 (addrsOf L)).nodup_iff.2 (List.nodup_cons.2 ⟨hna, h.t.nd⟩)
  · rw [hkeys]
    exact (List.perm_append_singleton p.1.key (keysOf L)).nodup_iff.2 (List.nodup_cons.2 ⟨hn, h.t.uk⟩)
  · rcases hown b hb with h1 | h1
    · exact h.t.out b h1 e
    · have := hM b e; omega
  · unfold itemR
    constructor
    · rintro (⟨rfl, rfl⟩ | ⟨_, e, he, rfl, rfl⟩)
      · exact ⟨p, (hmem _).2 (.inl rfl), rfl, rfl⟩
      · exact ⟨e, (hmem _).2 (.inr he), rfl, rfl⟩
    · rintro ⟨e, he, rfl, rfl⟩
      rcases (hmem e).1 he with rfl | he
      · exact .inl ⟨rfl, rfl⟩
      · refine .inr ⟨fun e3 => hn ?_, e, he, rfl, rfl⟩
        rw [← keyV_inj e3]
        exact List.mem_map_of_mem he
/-- the entry k of a list is refused -/
def BadA (es : List Ent) (k : Nat) : Prop := ∃ hk : k < es.length, ∃ _ : 0 < k, ¬ ltK (es[k - 1]'(by omega)).key es[k].key
def BadB (y : Int) (e : Ent) : Prop := badK e.key ∨ validB e.s = false ∨ e.t < 1 ∨ y < e.t
def BadAt (y : Int) (es : List Ent) (k : Nat) : Prop := BadA es k ∨ ∃ hk : k < es.length, BadB y es[k]
open Classical in
noncomputable def restE (z : Int) (es : List Ent) (y : Int) : Int :=
  if z < 0 ∨ 512 < z then 3 else if z < (es.length : Int) then 7 else if y < 0 ∨ 1073741824 < y then 1 else if ∃ k, BadAt y es k then 1 else 0
theorem restE_1 {z y : Int} {es : List Ent} (h : z < 0 ∨ 512 < z) : restE z es y = 3 := by unfold restE; rw [if_pos h]
theorem restE_2 {z y : Int} {es : List Ent} (h : ¬ (z < 0 ∨ 512 < z)) (h2 : z < (es.length : Int)) : restE z es y = 7 := by unfold restE; rw [if_neg h, if_pos h2]
theorem restE_3 {z y : Int} {es : List Ent} (h : ¬ (z < 0 ∨ 512 < z)) (h2 : ¬ z < (es.length : Int)) (h3 : y < 0 ∨ 1073741824 < y) : restE z es y = 1 := by unfold restE; rw [if_neg h, if_neg h2, if_pos h3]
theorem restE_4 {z y : Int} {es : List Ent} (h : ¬ (z < 0 ∨ 512 < z)) (h2 : ¬ z < (es.length : Int)) (h3 : ¬ (y < 0 ∨ 1073741824 < y)) {k : Nat} (h4 : BadAt y es k) : restE z es y = 1 := by unfold restE; rw [if_neg h, if_neg h2, if_neg h3, if_pos ⟨k, h4⟩]
theorem restE_5 {z y : Int} {es : List Ent} (h : ¬ (z < 0 ∨ 512 < z)) (h2 : ¬ z < (es.length : Int)) (h3 : ¬ (y < 0 ∨ 1073741824 < y)) (h4 : ∀ k, k < es.length → ¬ BadAt y es k) : restE z es y = 0 := by
  unfold restE
  rw [if_neg h, if_neg h2, if_neg h3, if_neg]
  rintro ⟨k, hk⟩
  have hl : k < es.length := hk.elim (fun e => e.1) (fun e => e.1)
  exact h4 k hl hk
/-- a list without refused entries is in order -/
theorem good_sorted {y : Int} {es : List Ent} : ∀ n, n ≤ es.length → (∀ k, k < n → ¬ BadAt y es k) → (keysE (es.take n)).Pairwise ltK
  | 0, _, _ => by rw [List.take_zero]; exact List.Pairwise.nil
  | n + 1, hn, h => by
    have ih := good_sorted n (by omega) (fun k hk => h k (by omega))
    rw [List.take_succ_eq_append_getElem (by omega)]
    unfold keysE at ih ⊢
    rw [List.map_append, List.pairwise_append]
    refine ⟨ih, List.pairwise_singleton _ _, fun a ha b hb => ?_⟩
    rw [List.mem_singleton.1 hb]
    cases n with
    | zero => rw [List.take_zero] at ha; cases ha
    | succ m =>
      have h1 : ltK es[m].key es[m + 1].key := by
        by_cases hc : ltK es[m].key es[m + 1].key
        · exact hc
        · exact absurd (.inl ⟨by omega, by omega, hc⟩) (h (m + 1) (by omega))
      obtain ⟨q, hq, rfl⟩ := List.getElem_of_mem ha
      rw [List.length_map, List.length_take] at hq
      by_cases e : q = m
      · subst e
        simpa using h1
      · have h2 := List.pairwise_iff_getElem.1 ih q m (by rw [List.length_map, List.length_take]; omega) (by rw [List.length_map, List.length_take]; omega) (by omega)
        refine ltK_trans h2 ?_
        simpa using h1
theorem good_inv {z y : Int} {es : List Ent} (h0 : ¬ (y < 0 ∨ 1073741824 < y)) (h2 : ¬ z < (es.length : Int)) (hk : ∀ e ∈ es, KeyOk e.key) (h : ∀ k, k < es.length → ¬ BadAt y es k) : Inv z y y es := by
  have hs := good_sorted es.length (Nat.le_refl _) h
  rw [List.take_of_length_le (Nat.le_refl _)] at hs
  have hb : ∀ e ∈ es, ¬ BadB y e := fun e he hb => by
    obtain ⟨k, hk, rfl⟩ := List.getElem_of_mem he
    exact h k hk (.inr ⟨hk, hb⟩)
  refine ⟨hs, by omega, fun e he => ?_, fun e he => ⟨hk e he, fun e2 => hb e he (.inl e2)⟩, fun e he => ?_, by omega⟩
  · cases hv : validB e.s with
    | true => rfl
    | false => exact absurd (.inr (.inl hv)) (hb e he)
  · constructor
    · rcases Int.lt_or_le e.t 1 with h1 | h1
      · exact absurd (.inr (.inr (.inl h1))) (hb e he)
      · exact h1
    · rcases Int.lt_or_le y e.t with h1 | h1
      · exact absurd (.inr (.inr (.inr h1))) (hb e he)
      · exact h1
theorem good_inv_err {z y : Int} {es : List Ent} (h : restE z es y = 0) (hk : ∀ e ∈ es, KeyOk e.key) : Inv z y y es := by
  unfold restE at h
  split at h
  · cases h
  · split at h
    · cases h
    · next h2 =>
      split at h
      · cases h
      · next h3 =>
        split at h
        · cases h
        · next h4 => exact good_inv h3 h2 hk (fun k _ e => h4 ⟨k, e⟩)
end Go.Proofs.Ytfejidihocoboaa

/- remove of the reference's memo table. -/
import Derived.Test.YtfejidihocoboaaN29
import Derived.Test.YtfejidihocoboaaN11
set_option linter.unusedVariables false
set_option linter.unusedSimpArgs false
namespace Go.Proofs.Ytfejidihocoboaa
open Go Go.RowKit
theorem empty_ownE {w : World} {g base : Nat} (h : w.heap[g]? = some (.cells #[] 42 (0, 0))) (hb : base ≤ g) : w.ownsRow base 42 6 (.slice (some ⟨g, 0, none⟩) 0 0) 0 [] :=
  ⟨rfl, .inr ⟨g, 0, #[], rfl, hb, h, Nat.le_refl _, by simp only [maxLen]; omega, by simp, by simp⟩⟩
theorem LOwn.one {A : Nat → Prop} {w : World} {base : Nat} {v : Value} {LL : List EV} (h : LOwn kE A w base v LL) (L' : List EV) (hs : ∀ p ∈ L', p ∈ LL) : ∀ u ∈ L'.flatMap kE.cells, u.oneCell' = true :=
  ents_one L' (fun p hp => by obtain ⟨a, c, e⟩ := (h.ok p (hs p hp)).slice; exact ⟨a, _, c, e⟩)
/-- the cuts of the entries that an append reads -/
theorem RTab.cut1 {M : Nat → Prop} {w : World} {D : Nat} {cap clk : Int} {g c n : Nat} {LL : List EV} (h : RTab M w D cap clk (.slice (some ⟨g, 0, none⟩) n c) LL) (hn : n = LL.length) {i : Nat} (hi : i ≤ n) : Row No w 6 (.slice (some ⟨g, 0, none⟩) i c) i ((LL.take i).flatMap kE.cells) := by
  subst hn
  have h9 := Row.takeC (k := i) h.list.row hi
  have e : (LL.flatMap kE.cells).take (i * kE.s) = (LL.take i).flatMap kE.cells := flat_take kE LL i
  rw [e] at h9
  exact h9
theorem RTab.cut2 {M : Nat → Prop} {w : World} {D : Nat} {cap clk : Int} {g c n : Nat} {LL : List EV} (h : RTab M w D cap clk (.slice (some ⟨g, 0, none⟩) n c) LL) (hn : n = LL.length) {i : Nat} (hi : i ≤ n) : Row No w 6 (.slice (if c = i then some ⟨g, 0, none⟩ else some ⟨g, 0 + i * 6, none⟩) (n - i) (c - i)) (n - i) ((LL.drop i).flatMap kE.cells) := by
  subst hn
  have hcap := h.list.row.caps
  by_cases hc : c = i
  · have e1 : LL.length - i = 0 := by omega
    have e2 : LL.drop i = [] := List.drop_of_length_le (by omega)
    rw [e1, e2]
    exact Row.nil _ _ _ _ _ (by omega)
  · have h9 := Row.drop (k := i) h.list.row (by omega)
    have e : (LL.flatMap kE.cells).drop (i * kE.s) = (LL.drop i).flatMap kE.cells := flat_drop kE LL i
    rw [e] at h9
    rw [if_neg hc]
    exact h9
set_option maxRecDepth 100000 in
set_option maxHeartbeats 4000000 in
theorem rremove_any (i : Nat) {M : Nat → Prop} {W : World} {D : Nat} {cap clk : Int} {v : Value} {LL : List EV} (h : RTab M W D cap clk v LL) (hi : i < LL.length) (hl : LL.length ≤ 1000) (hM : ∀ b, M b → b < W.heap.size) :
    Calls Try.prog 59 #[ptrV D, .int .i64 (i : Int)] W (RPost M D cap (ROwnT D v) (.returned (.tuple #[])) clk ((LL.map Prod.fst).eraseIdx i) W) := by
  obtain ⟨iE, hiE, hE0, hE1, hE2⟩ := info_parts infoEnt
  obtain ⟨g, c, rfl, -, -⟩ := h.ents.shape (by omega)
  have hcap := h.list.row.caps
  obtain ⟨n, hn⟩ : ∃ n, n = LL.length := ⟨_, rfl⟩
  have HN := Lib.hid hn
  rw [← hn] at h hi hl hcap ⊢
  have H := Lib.hid h
  have HMM := Lib.hid hM
  obtain ⟨A, hA⟩ : ∃ A, A = (if c = i + 1 then some (⟨g, 0, none⟩ : Addr) else some ⟨g, 0 + (i + 1) * 6, none⟩) := ⟨_, rfl⟩
  have HR1 := Lib.hid (h.cut1 hn (i := i) (by omega))
  have HR2 := Lib.hid (h.cut2 hn (i := i + 1) (by omega))
  rw [← hA] at HR2
  rw [Nat.zero_add] at hA
  have hAif := hA.symm
  clear hA
  have hic : i ≤ c := by omega
  have hp1 : 0 ≤ (i : Int) + 1 := by omega
  have hp2 : (i : Int) + 1 ≤ (n : Int) := by omega
  have hiz : (i : Int) < (n : Int) := by omega
  have hi1 : IntKind.i64.wrap ((i : Int) + 1) = ((i + 1 : Nat) : Int) := by rw [IntKind.wrap_i64]; omega
  clear h hn hM
  unfold ptrV
  go_enter Try.func59, Try.ntmps59
  refine wp_region_heldL [19] (fun w' => Ext No W w') (by kernel_rfl) ?_ (fun hHeld => ?_)
  · exact (Ext.refl _ _).drew
  have HE := Lib.hid (show Ext No W W.drew from (Ext.refl _ _).drew)
  generalize W.drew = v0 at *
  refine heldL_free (i := 0) (v := ?_) rfl (by kernel_rfl) (by kernel_rfl) (by kernel_rfl) (by kernel_rfl) (by kernel_rfl) (fun _ _ _ h => h) rfl (fun w => ?_) hHeld ?_
  rotate_left
  · go_simp; (try with_reducible rfl)
  try simp only [Act.put, List.setIfInBounds_toArray, List.set_cons_zero, List.set_cons_succ]
  replace hHeld := (ST_set (T := [19]) (i := 0) (by kernel_rfl) _ _).2 hHeld
  refine heldL_free (i := 2) (v := ?_) rfl (by kernel_rfl) (by kernel_rfl) (by kernel_rfl) (by kernel_rfl) (by kernel_rfl) (fun _ _ _ h => h) rfl (fun w => ?_) hHeld ?_
  rotate_left
  · go_simp; (try with_reducible rfl)
  try simp only [Act.put, List.setIfInBounds_toArray, List.set_cons_zero, List.set_cons_succ]
  replace hHeld := (ST_set (T := [19]) (i := 2) (by kernel_rfl) _ _).2 hHeld
  refine heldL_free (i := 3) (v := ?_) rfl (by kernel_rfl) (by kernel_rfl) (by kernel_rfl) (by kernel_rfl) (by kernel_rfl) (fun _ _ _ h => h) rfl (fun w => ?_) hHeld ?_
  rotate_left
  · go_simp; (try with_reducible rfl)
  try simp only [Act.put, List.setIfInBounds_toArray, List.set_cons_zero, List.set_cons_succ]
  replace hHeld := (ST_set (T := [19]) (i := 3) (by kernel_rfl) _ _).2 hHeld
  refine heldL_free (i := 4) (v := ?_) rfl (by kernel_rfl) (by kernel_rfl) (by kernel_rfl) (by kernel_rfl) (by kernel_rfl) (fun _ _ _ h => h) rfl (fun w => ?_) hHeld ?_
  rotate_left
  · go_simp; (try with_reducible rfl)
  try simp only [Act.put, List.setIfInBounds_toArray, List.set_cons_zero, List.set_cons_succ]
  replace hHeld := (ST_set (T := [19]) (i := 4) (by kernel_rfl) _ _).2 hHeld
  refine heldL_take (i := 5) (v := ?_) rfl (by kernel_rfl) (by kernel_rfl) (by kernel_rfl) (by kernel_rfl) (by kernel_rfl) (fun _ _ _ h => h) rfl (fun w hSw => ?_) hHeld ?_
  rotate_left
  · (have hEs : Ext No W _ := hSw); (have x0 := cellOf (hEs.blk H.out.box no_no)); go_simp; (try with_reducible rfl)
  try simp only [Act.put, List.setIfInBounds_toArray, List.set_cons_zero, List.set_cons_succ]
  replace hHeld := (ST_set (T := [19]) (i := 5) (by kernel_rfl) _ _).2 hHeld
  refine heldL_free (i := 6) (v := ?_) rfl (by kernel_rfl) (by kernel_rfl) (by kernel_rfl) (by kernel_rfl) (by kernel_rfl) (fun _ _ _ h => h) rfl (fun w => ?_) hHeld ?_
  rotate_left
  · go_simp; (try with_reducible rfl)
  try simp only [Act.put, List.setIfInBounds_toArray, List.set_cons_zero, List.set_cons_succ]
  replace hHeld := (ST_set (T := [19]) (i := 6) (by kernel_rfl) _ _).2 hHeld
  refine heldL_free (i := 7) (v := ?_) rfl (by kernel_rfl) (by kernel_rfl) (by kernel_rfl) (by kernel_rfl) (by kernel_rfl) (fun _ _ _ h => h) rfl (fun w => ?_) hHeld ?_
  rotate_left
  · go_simp; (try with_reducible rfl)
  try simp only [Act.put, List.setIfInBounds_toArray, List.set_cons_zero, List.set_cons_succ]
  replace hHeld := (ST_set (T := [19]) (i := 7) (by kernel_rfl) _ _).2 hHeld
  refine heldL_free (i := 9) (v := ?_) rfl (by kernel_rfl) (by kernel_rfl) (by kernel_rfl) (by kernel_rfl) (by kernel_rfl) (fun _ _ _ h => h) rfl (fun w => ?_) hHeld ?_
  rotate_left
  · go_simp; (try with_reducible rfl)
  try simp only [Act.put, List.setIfInBounds_toArray, List.set_cons_zero, List.set_cons_succ]
  replace hHeld := (ST_set (T := [19]) (i := 9) (by kernel_rfl) _ _).2 hHeld
  refine heldL_free (i := 10) (v := ?_) rfl (by kernel_rfl) (by kernel_rfl) (by kernel_rfl) (by kernel_rfl) (by kernel_rfl) (fun _ _ _ h => h) rfl (fun w => ?_) hHeld ?_
  rotate_left
  · go_simp; (try with_reducible rfl)
  try simp only [Act.put, List.setIfInBounds_toArray, List.set_cons_zero, List.set_cons_succ]
  replace hHeld := (ST_set (T := [19]) (i := 10) (by kernel_rfl) _ _).2 hHeld
  refine heldL_free (i := 11) (v := ?_) rfl (by kernel_rfl) (by kernel_rfl) (by kernel_rfl) (by kernel_rfl) (by kernel_rfl) (fun _ _ _ h => h) rfl (fun w => ?_) hHeld ?_
  rotate_left
  · go_simp; (try with_reducible rfl)
  try simp only [Act.put, List.setIfInBounds_toArray, List.set_cons_zero, List.set_cons_succ]
  replace hHeld := (ST_set (T := [19]) (i := 11) (by kernel_rfl) _ _).2 hHeld
  refine heldL_take (i := 12) (v := ?_) rfl (by kernel_rfl) (by kernel_rfl) (by kernel_rfl) (by kernel_rfl) (by kernel_rfl) (fun _ _ _ h => h) rfl (fun w hSw => ?_) hHeld ?_
  rotate_left
  · (have hEs : Ext No W _ := hSw); (have x0 := cellOf (hEs.blk H.out.box no_no)); go_simp; (try with_reducible rfl)
  try simp only [Act.put, List.setIfInBounds_toArray, List.set_cons_zero, List.set_cons_succ]
  replace hHeld := (ST_set (T := [19]) (i := 12) (by kernel_rfl) _ _).2 hHeld
  refine heldL_free (i := 13) (v := ?_) rfl (by kernel_rfl) (by kernel_rfl) (by kernel_rfl) (by kernel_rfl) (by kernel_rfl) (fun _ _ _ h => h) rfl (fun w => ?_) hHeld ?_
  rotate_left
  · go_simp; (try with_reducible rfl)
  try simp only [Act.put, List.setIfInBounds_toArray, List.set_cons_zero, List.set_cons_succ]
  replace hHeld := (ST_set (T := [19]) (i := 13) (by kernel_rfl) _ _).2 hHeld
  refine heldL_free (i := 14) (v := ?_) rfl (by kernel_rfl) (by kernel_rfl) (by kernel_rfl) (by kernel_rfl) (by kernel_rfl) (fun _ _ _ h => h) rfl (fun w => ?_) hHeld ?_
  rotate_left
  · go_simp; (try with_reducible rfl)
  try simp only [Act.put, List.setIfInBounds_toArray, List.set_cons_zero, List.set_cons_succ]
  replace hHeld := (ST_set (T := [19]) (i := 14) (by kernel_rfl) _ _).2 hHeld
  refine heldL_free (i := 15) (v := ?_) rfl (by kernel_rfl) (by kernel_rfl) (by kernel_rfl) (by kernel_rfl) (by kernel_rfl) (fun _ _ _ h => h) rfl (fun w => ?_) hHeld ?_
  rotate_left
  · go_simp; (try with_reducible rfl)
  try simp only [Act.put, List.setIfInBounds_toArray, List.set_cons_zero, List.set_cons_succ]
  replace hHeld := (ST_set (T := [19]) (i := 15) (by kernel_rfl) _ _).2 hHeld
  refine heldL_next1 (i := 1) (by kernel_rfl) (NextL.mk rfl rfl (fun K hK => ?_))
  go_simp
  refine hK.out _ _ ?_ (fun hNew => ?_)
  · intro _; exact HE.out.alloc _
  clear hK K hHeld
  have hHeld := hNew
  clear hNew
  have hyA := (Ext.refl No v0).alloc (.cells #[] 42)
  have hE := Lib.hid (alloc_top (w := v0) (o := (.cells #[] 42)) rfl)
  have hgE := Lib.hid (show W.heap.size ≤ v0.heap.size from HE.out.size)
  replace HE := Lib.hid (HE.out.transNo hyA)
  clear hyA
  generalize (v0.alloc (.cells #[] 42)) = v1 at *
  generalize v0.heap.size = EB at *
  try simp only [Act.put, List.setIfInBounds_toArray, List.set_cons_zero, List.set_cons_succ]
  refine heldL_next1 (i := 8) (by kernel_rfl) (NextL.mk rfl rfl (fun K hK => ?_))
  ((refine wp_app _ (.tmp 5) (.tmp 11) 30 rfl W.heap.size 42 iE _ 6 64 Try.underlying30 hiE hE0 hE1 hE2 rfl (by omega) (.slice (some ⟨EB, 0, none⟩) 0 0) 0 [] rfl (empty_ownE hE.out hgE.out) No (some ⟨g, 0, none⟩) i c ((LL.take i).flatMap kE.cells) rfl (HR1.out.extNo HE.out) (LOwn.one H.out.ents _ (fun p hp => List.mem_of_mem_take hp)) (by omega) (by omega) HE.out.size ?_); (intro v' w9 hown1 hg1 hv1))
  refine hK.out _ _ ?_ (fun hNew => ?_)
  · intro _; exact (Ext.trans2 HE.out (show Ext (fun bq => Value.ownBlock (.slice (some ⟨EB, 0, none⟩) 0 0) = some bq) _ _ from (Ext.refl _ _).grown hg1 (fun bq hk _ => hk)) (fun k hk e => by have h1 := hgE.out; have : EB = k := Option.some.inj e; omega))
  clear hK K hHeld
  have hHeld := hNew
  clear hNew
  simp only [Nat.zero_add, List.nil_append] at hown1
  have hE9 : Ext (fun bq => Value.ownBlock (.slice (some ⟨EB, 0, none⟩) 0 0) = some bq) v1 w9 := (Ext.refl _ _).grown hg1 (fun bq hk _ => hk)
  have hgv := hgE.out
  replace HE := Lib.hid (HE.out.trans2 hE9 (fun k hk e => by have : EB = k := Option.some.inj e; omega))
  have hO1 := Lib.hid hown1
  clear hown1 hg1 hv1 hE9 hE hgE hgv
  obtain ⟨a1, c1, hv1⟩ := (Row.ofOwns (M := No) hO1.out (fun _ _ x => x)).slice
  subst hv1
  generalize w9 = v2 at *
  try simp only [Act.put, List.setIfInBounds_toArray, List.set_cons_zero, List.set_cons_succ]
  refine heldL_next1 (i := 16) (by kernel_rfl) (NextL.mk rfl rfl (fun K hK => ?_))
  ((refine wp_app _ (.tmp 12) (.tmp 19) 30 rfl W.heap.size 42 iE _ 6 64 Try.underlying30 hiE hE0 hE1 hE2 rfl (by omega) (.slice a1 i c1) i ((LL.take i).flatMap kE.cells) rfl hO1.out No A (n - (i + 1)) (c - (i + 1)) ((LL.drop (i + 1)).flatMap kE.cells) rfl (HR2.out.extNo HE.out) (LOwn.one H.out.ents _ (fun p hp => List.mem_of_mem_drop hp)) (by omega) (by omega) HE.out.size ?_); (intro v' w9 hown1 hg1 hv1))
  refine hK.out _ _ ?_ (fun hNew => ?_)
  · intro _; exact (Ext.trans2 HE.out (show Ext (fun bq => Value.ownBlock (.slice a1 i c1) = some bq) _ _ from (Ext.refl _ _).grown hg1 (fun bq hk _ => hk)) (fun k hk e => by have := (World.ownsRow.lt hO1.out k e).1; omega))
  clear hK K hHeld
  have hHeld := hNew
  clear hNew
  have hE9 : Ext (fun bq => Value.ownBlock (.slice a1 i c1) = some bq) v2 w9 := (Ext.refl _ _).grown hg1 (fun bq hk _ => hk)
  replace HE := Lib.hid (HE.out.trans2 hE9 (fun k hk e => by have := (World.ownsRow.lt hO1.out k e).1; omega))
  have hO2 := Lib.hid hown1
  clear hown1 hg1 hv1 hE9 hO1
  obtain ⟨a2, c2, hv2⟩ := (Row.ofOwns (M := No) hO2.out (fun _ _ x => x)).slice
  subst hv2
  have HB3 := Lib.hid (HE.out.blk H.out.box no_no)
  generalize w9 = v3 at *
  try simp only [Act.put, List.setIfInBounds_toArray, List.set_cons_zero, List.set_cons_succ]
  refine heldL_free (i := 17) (v := ?_) rfl (by kernel_rfl) (by kernel_rfl) (by kernel_rfl) (by kernel_rfl) (by kernel_rfl) (fun _ _ _ h => h) rfl (fun w => ?_) hHeld ?_
  rotate_left
  · go_simp; (try with_reducible rfl)
  try simp only [Act.put, List.setIfInBounds_toArray, List.set_cons_zero, List.set_cons_succ]
  replace hHeld := (ST_set (T := [19]) (i := 17) (by kernel_rfl) _ _).2 hHeld
  refine heldL_free (i := 18) (v := ?_) rfl (by kernel_rfl) (by kernel_rfl) (by kernel_rfl) (by kernel_rfl) (by kernel_rfl) (fun _ _ _ h => h) rfl (fun w => ?_) hHeld ?_
  rotate_left
  · go_simp; (try with_reducible rfl)
  try simp only [Act.put, List.setIfInBounds_toArray, List.set_cons_zero, List.set_cons_succ]
  replace hHeld := (ST_set (T := [19]) (i := 18) (by kernel_rfl) _ _).2 hHeld
  refine heldL_next1 (i := 19) (by kernel_rfl) (NextL.mk rfl rfl (fun K hK => ?_))
  ((have cS := cellOf HB3.out); (have fS := freeOf HB3.out); go_simp; (clear cS fS))
  refine hK.out _ _ ?_ (fun hNew => ?_)
  · exact fun h => absurd h (by decide)
  clear hK K hHeld
  have hHeld := hNew
  clear hNew
  try simp only [Act.put, List.setIfInBounds_toArray, List.set_cons_zero, List.set_cons_succ]
  refine heldL_done (by kernel_rfl) ?_ _
  clear hHeld
  have hWB := HE.out.size
  have hB4 := (set_same (j := 1) (u := .slice a2 (i + (n - (i + 1))) c2) HB3.out).trans rfl
  have hP3 := H.out.stepNo HE.out
  have hLO : LOwn kE (fun b => M b ∨ b = D) v3 W.heap.size (.slice a2 (i + (n - (i + 1))) c2) (LL.eraseIdx i) := by
    have h9 := hO2.out
    rw [← List.flatMap_append] at h9
    have e1 : LL.take i ++ LL.drop (i + 1) = LL.eraseIdx i := (List.eraseIdx_eq_take_drop_succ ..).symm
    rw [e1] at h9
    have e2 : (LL.eraseIdx i).length = i + (n - (i + 1)) := by rw [List.length_eraseIdx, if_pos (by rw [← HN.out]; exact hi), ← HN.out]; omega
    refine ⟨by rw [e2]; exact h9, fun p hp => ?_⟩
    have hw := (H.out.ents.ok p (List.mem_of_mem_eraseIdx hp))
    have hw1 : kE.ok (fun b => (M b ∨ b = D) ∨ W.heap.size ≤ b) W p := kE.mono hw (fun j hj e => by
      rcases e with e | e
      · exact .inl e
      · omega)
    refine kE.mono (kE.ext hw1 HE.out (fun _ _ e => e.elim)) (fun j _ e => ?_)
    rcases e with e | e
    · exact .inl e
    · exact .inr (World.ownsRow.lt hO2.out j e).1
  have hS := hP3.setE (v' := .slice a2 (i + (n - (i + 1))) c2) ((Ext.refl (At D) v3).setAt 1 _) hB4 (⟨row_base hLO.own (Nat.zero_le _), hLO.ok⟩) (fun q hq e => by have h1 := (hLO.lt q hq).1; have h2 := HMM.out q e; omega)
  have hX := HE.out.ofNo.trans (((Ext.refl (At D) v3).setAt 1 (.slice a2 (i + (n - (i + 1))) c2)).mono (fun j _ e => show ROwnT D (.slice (some ⟨g, 0, none⟩) n c) j from .inl e))
  go_wp2_with fail
  refine bodyPost_end (results_none rfl _ _ _) rfl ?_
  refine ⟨_, _, rfl, Lib.hid hS, Lib.hid (by simp [List.eraseIdx_eq_take_drop_succ, List.map_take, List.map_drop]), hX, Lib.hid (fun b hb => ?_)⟩
  rcases hb with hb | hb
  · exact .inl (.inl hb)
  · exact .inr (hLO.lt b hb).1
end Go.Proofs.Ytfejidihocoboaa

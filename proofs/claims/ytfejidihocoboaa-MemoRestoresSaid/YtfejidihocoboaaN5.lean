/- Merged: N4 N5 -/
import Derived.Test.YtfejidihocoboaaN3
import Derived.Test.YtfejidihocoboaaCtr
import Derived.Test.YtfejidihocoboaaHeld
import Derived.Carry
set_option linter.unusedVariables false
set_option linter.unusedSimpArgs false
/- N4 -/
namespace Go.Proofs.Ytfejidihocoboaa
open Go Go.RowKit
open Go.Maps (Keyed)
theorem emptyTab {M : Nat → Prop} {w : World} {T bm : Nat} {cap : Int} (hb : w.heap[T]? = some (.cells #[.int .i64 cap, .int .i64 0, .map (some bm), .slice none 0 0] 65 (0, 0))) (hm : MapR Try.prog 68 w bm (fun _ _ => False)) (hT : ¬ M T) (hB : ¬ M bm) : PTab M w T cap 0 bm (.slice none 0 0) [] := by
  refine ⟨⟨hb, LOwn.nil _ _ _ _, fun e he => (by cases he), fun e he => (by cases he), fun e he => (by cases he), List.nodup_nil, List.nodup_nil, fun b hb => ?_⟩, hm.iff (fun x v => ?_)⟩
  · rcases hb with rfl | rfl | hb | ⟨e, he, _⟩
    · exact hT
    · exact hB
    · cases hb
    · cases he
  · unfold itemR
    simp
def NewPostM (z : Int) (W : World) (e : Ending) (w' : World) : Prop :=
  ((z < 0 ∨ 512 < z) → e = .returned (.tuple #[.pointer none, .int .i64 3])) ∧ (¬ (z < 0 ∨ 512 < z) → ∃ T bm, e = .returned (.tuple #[ptrV T, .int .i64 0]) ∧ Hid (PTab (Lo W.heap.size) w' T z 0 bm (.slice none 0 0) [])) ∧ Ext No W w'
set_option maxHeartbeats 1000000 in
theorem mnew_any (z : Int) (W : World) : Calls Try.prog 9 #[.int .i64 z] W (NewPostM z W) := by
  have hmm := @run_makeMap Try.prog
  by_cases h1 : z < 0
  · go_enter Try.func9, Try.ntmps9
    go_wp2_with fail
    refine ret_ex rfl ?_
    simp [results, Try.results9, go_sem]
    exact ⟨fun _ => rfl, fun h => absurd (.inl h1) h, Ext.refl _ _⟩
  · by_cases h2 : 512 < z
    · go_enter Try.func9, Try.ntmps9
      go_wp2_with fail
      refine ret_ex rfl ?_
      simp [results, Try.results9, go_sem]
      exact ⟨fun _ => rfl, fun h => absurd (.inr h2) h, Ext.refl _ _⟩
    · go_enter Try.func9, Try.ntmps9
      go_wp2_with fail
      refine ret_ex rfl ?_
      simp [results, Try.results9, go_sem]
      refine ⟨fun h => absurd h (by omega), fun _ => ⟨W.heap.size + 1, W.heap.size, rfl, Lib.hid (emptyTab (alloc_top (by simp)) ((MapR.made _ _ W).ext ((Ext.refl No _).alloc _) no_no) (by unfold Lo; omega) (by unfold Lo; omega))⟩, ((Ext.refl No W).alloc _).alloc _⟩
end Go.Proofs.Ytfejidihocoboaa

/- N5 -/
namespace Go.Proofs.Ytfejidihocoboaa
open Go Go.RowKit
open Go.Maps (Keyed)
def ClPostM (s : RawSet) (W : World) (e : Ending) (w' : World) : Prop :=
  ∃ (a : Option Addr) (c : Nat), e = .returned (.agg #[.int .i64 s.width, .slice a s.words.length c]) ∧ Hid (WordsAt (Lo W.heap.size) w' (.slice a s.words.length c) s.words) ∧ Ext No W w'
set_option maxRecDepth 100000 in
set_option maxHeartbeats 1000000 in
theorem mclone_any (s : RawSet) (sl : Value) (W : World) (h : WordsAt No W sl s.words) (hn : s.words.length ≤ 1048576) :
    Calls Try.prog 33 #[.agg #[.int .i64 s.width, sl]] W (ClPostM s W) := by
  obtain ⟨a, c, rfl⟩ := h.slice
  have h2 := h.mono (M' := From W.heap.size) (fun i hi e => absurd hi (Nat.not_lt.2 e))
  go_enter Try.func33, Try.ntmps33
  go_upto_region 1 with (fail)
  have hx0 : Ext No W ((W.alloc (.cells #[.int .i64 s.width, .slice a s.words.length c] 40)).alloc (.cells #[.int .i64 0, .slice none 0 0] 40)) := ((Ext.refl _ _).alloc _).alloc _
  have H := Lib.hid (h2.extNo hx0)
  have HX := Lib.hid hx0
  have HB := Lib.hid (show ((W.alloc (.cells #[.int .i64 s.width, .slice a s.words.length c] 40)).alloc (.cells #[.int .i64 0, .slice none 0 0] 40)).heap[W.heap.size]? = some (.cells #[.int .i64 s.width, .slice a s.words.length c] 40 (0, 0)) from alloc_under (alloc_top rfl))
  have HC := Lib.hid (show ((W.alloc (.cells #[.int .i64 s.width, .slice a s.words.length c] 40)).alloc (.cells #[.int .i64 0, .slice none 0 0] 40)).heap[W.heap.size + 1]? = some (.cells #[.int .i64 0, .slice none 0 0] 40 (0, 0)) from alloc_top (by simp))
  clear hx0 h h2
  generalize ((W.alloc (.cells #[.int .i64 s.width, .slice a s.words.length c] 40)).alloc (.cells #[.int .i64 0, .slice none 0 0] 40)) = V at *
  refine wp_region_held_drew (S := (fun w' => Ext (At (W.heap.size + 1)) V w' ∧ ∃ u0 u1, w'.heap[W.heap.size + 1]? = some (.cells #[u0, u1] 40 (0, 0)))) (by kernel_rfl) ?_ (fun hHeld => ?_)
  · exact ⟨(Ext.refl _ _).drew, _, _, HC.out⟩
  refine held_take (i := 0) (v := ?_) rfl (by kernel_rfl) (by kernel_rfl) (by kernel_rfl) (fun _ _ _ h => h) rfl (fun w hSw => ?_) hHeld ?_
  rotate_left
  · go_simp; (try with_reducible rfl)
  try simp only [Act.put, List.setIfInBounds_toArray, List.set_cons_zero, List.set_cons_succ]
  refine held_take (i := 1) (v := ?_) rfl (by kernel_rfl) (by kernel_rfl) (by kernel_rfl) (fun _ _ _ h => h) rfl (fun w hSw => ?_) hHeld ?_
  rotate_left
  · (have hEs : Ext (At (W.heap.size + 1)) V _ := hSw.1); (have x0 := cellOf (hEs.blk HB.out (by unfold At; omega))); go_simp; (try with_reducible rfl)
  try simp only [Act.put, List.setIfInBounds_toArray, List.set_cons_zero, List.set_cons_succ]
  refine held_take (i := 2) (v := ?_) rfl (by kernel_rfl) (by kernel_rfl) (by kernel_rfl) (fun _ _ _ h => h) rfl (fun w hSw => ?_) hHeld ?_
  rotate_left
  · go_simp; (try with_reducible rfl)
  try simp only [Act.put, List.setIfInBounds_toArray, List.set_cons_zero, List.set_cons_succ]
  refine held_take (i := 3) (v := ?_) rfl (by kernel_rfl) (by kernel_rfl) (by kernel_rfl) (fun _ _ _ h => h) rfl (fun w hSw => ?_) hHeld ?_
  rotate_left
  · (have hEs : Ext (At (W.heap.size + 1)) V _ := hSw.1); (have x0 := cellOf (hEs.blk HB.out (by unfold At; omega))); go_simp; (try with_reducible rfl)
  try simp only [Act.put, List.setIfInBounds_toArray, List.set_cons_zero, List.set_cons_succ]
  refine held_call (i := 4) rfl (by kernel_rfl) rfl (fun K hK => ?_)
  (go_simp; go_at_call 62; (refine (clone_any _ s.words _ ((H.out.ext (show Ext (At (W.heap.size + 1)) V _ from hHeld.1) (fun i _ e => by unfold At at e; unfold From; omega)).mono (fun _ _ x => x.elim)) hn).mono ?_); (rintro e1 w1 ⟨v1, rfl, hO, hyA⟩); go_simp)
  refine hK.out _ _ ?_ (fun hNew => ?_)
  · exact ⟨Ext.transNo (show Ext (At (W.heap.size + 1)) V _ from hHeld.1) hyA, hHeld.2.elim (fun u0 h => h.elim (fun u1 h => ⟨u0, u1, hyA.blk h no_no⟩))⟩
  clear hK K hHeld
  have hHeld := hNew
  clear hNew
  try simp only [Act.put, List.setIfInBounds_toArray, List.set_cons_zero, List.set_cons_succ]
  have HO := Lib.hid hO
  clear hO hyA
  obtain ⟨a1, c1, rfl⟩ := HO.out.slice
  refine held_take (i := 5) (v := ?_) rfl (by kernel_rfl) (by kernel_rfl) (by kernel_rfl) (fun _ _ _ h => h) rfl (fun w hSw => ?_) hHeld ?_
  rotate_left
  · go_simp; (try with_reducible rfl)
  try simp only [Act.put, List.setIfInBounds_toArray, List.set_cons_zero, List.set_cons_succ]
  refine held_call (i := 6) rfl (by kernel_rfl) rfl (fun K hK => ?_)
  ((have hHd := hHeld); (obtain ⟨hE6, u0, u1, h6⟩ := hHd); (have cS := cellOf h6); (have fS := freeOf h6); go_simp; (clear cS fS))
  refine hK.out _ _ ?_ (fun hNew => ?_)
  · exact ⟨hE6.trans (ext_two (Ext.refl _ _) _), _, _, (set_same (j := 1) (set_same (j := 0) h6)).trans rfl⟩
  clear hK K hHeld
  have hHeld := hNew
  clear hNew
  try simp only [Act.put, List.setIfInBounds_toArray, List.set_cons_zero, List.set_cons_succ]
  refine wpAnyH_done (by kernel_rfl) ?_ _
  go_wp2_with fail
  have hB6 := lt_of_block (h := HC.out)
  have hO2 : WordsAt (fun b => b < V.heap.size) w1 (.slice a1 s.words.length c1) s.words := ⟨Row.ofOwns HO.out.own (fun b hb e => absurd e (Nat.not_lt.2 hb)), HO.out.lt⟩
  have hX2 := ext_two (u0 := .int .i64 s.width) (u1 := .slice a1 s.words.length c1) (Ext.refl No w1) (W.heap.size + 1)
  have hF := (set_same (j := 1) (u := .slice a1 s.words.length c1) (set_same (j := 0) (u := .int .i64 s.width) h6)).trans rfl
  have hO3 := (hO2.ext hX2 (fun i _ e => by unfold At at e; omega)).mono (M' := Lo W.heap.size) (fun i _ e => by have := HX.out.size; unfold Lo at e; omega)
  have hEE : Ext No W ((w1.setCell ⟨W.heap.size + 1, 0, none⟩ (.int .i64 s.width)).setCell ⟨W.heap.size + 1, 1, none⟩ (.slice a1 s.words.length c1)) := HX.out.trans2 (hE6.trans hX2) (fun i hi e => by unfold At at e; omega)
  clear hX2 hO2 hHeld hE6
  generalize ((w1.setCell ⟨W.heap.size + 1, 0, none⟩ (.int .i64 s.width)).setCell ⟨W.heap.size + 1, 1, none⟩ (.slice a1 s.words.length c1)) = WF at *
  have cF := cellOf hF
  refine ret_ex rfl ?_
  simp [results, Try.results33, go_sem, cF]
  exact ⟨a1, c1, rfl, Lib.hid hO3, hEE⟩
theorem mlen_any {M : Nat → Prop} {W : World} {T bm : Nat} {cap clk : Int} {vk : Value} {L : List PE} (h : PTab M W T cap clk bm vk L) : Calls Try.prog 18 #[ptrV T] W (fun e w' => e = .returned (.int .i64 (L.length : Int)) ∧ w' = W) := by
  have hb := h.t.box
  obtain ⟨a, c, hv⟩ := h.t.keys.slice
  subst hv
  have hl : (keysOf L).length = L.length := by simp [keysOf]
  rw [hl] at hb
  have cB := cellOf hb
  unfold ptrV
  clear h hb
  go_enter Try.func18, Try.ntmps18
  go_wp2_with fail
  go_ret
  exact ⟨rfl, rfl⟩
theorem mclock_any {M : Nat → Prop} {W : World} {T bm : Nat} {cap clk : Int} {vk : Value} {L : List PE} (h : PTab M W T cap clk bm vk L) : Calls Try.prog 43 #[ptrV T] W (fun e w' => e = .returned (.int .i64 clk) ∧ w' = W) := by
  have cB := cellOf h.t.box
  unfold ptrV
  clear h
  go_enter Try.func43, Try.ntmps43
  go_wp2_with fail
  go_ret
  exact ⟨rfl, rfl⟩
def UsePost (M : Nat → Prop) (W : World) (T : Nat) (cap clk : Int) (bm : Nat) (vk : Value) (L : List PE) (e0 : PE) (e : Ending) (w' : World) : Prop :=
  e = .returned (.tuple #[]) ∧ Hid (PTab M w' T cap (addZ clk 1) bm vk (updL e0.1.key e0.1.s (addZ clk 1) e0.2.2 L)) ∧ Ext (fun b => b = T ∨ b = e0.2.1) W w' ∧ w'.heap.size = W.heap.size
set_option maxHeartbeats 1000000 in
theorem muse_any {M : Nat → Prop} {W : World} {T bm : Nat} {cap clk : Int} {vk : Value} {L : List PE} {e0 : PE} (h : PTab M W T cap clk bm vk L) (he0 : e0 ∈ L) : Calls Try.prog 48 #[ptrV T, ptrV e0.2.1] W (UsePost M W T cap clk bm vk L e0) := by
  have hne := h.t.neTI he0
  have hI := h.t.it e0 he0
  have hB := h.t.box
  have hI2 : (W.setCell ⟨T, 1, none⟩ (.int .i64 (addZ clk 1))).heap[e0.2.1]? = some (.cells (itemC e0) 71 (0, 0)) := set_other hI (fun e => hne e.symm)
  have hB2 := (set_same (j := 1) (u := .int .i64 (addZ clk 1)) hB).trans rfl
  have h1 := Lib.hid (h.setT ((Ext.refl (At T) W).setAt 1 _) hB2)
  have hI3 := (set_same (j := 2) (u := .int .i64 (addZ clk 1)) hI2).trans rfl
  have h2 := Lib.hid (h1.out.setI he0 ((Ext.refl (At e0.2.1) _).setAt 2 (.int .i64 (addZ clk 1))) hI3 (h1.out.t.wd e0 he0))
  have HX := Lib.hid (show Ext (fun b => b = T ∨ b = e0.2.1) W ((W.setCell ⟨T, 1, none⟩ (.int .i64 (addZ clk 1))).setCell ⟨e0.2.1, 2, none⟩ (.int .i64 (addZ clk 1))) from (((Ext.refl (At T) W).setAt 1 _).mono (fun _ _ e => .inl e)).trans (((Ext.refl (At e0.2.1) _).setAt 2 _).mono (fun _ _ e => .inr e)))
  have cB := cellOf hB
  have fB := freeOf hB
  have cB2 := cellOf hB2
  have fI2 := freeOf hI2
  have cI2 := (cellOf hI2 2).trans (show _ = some (.int .i64 e0.1.t) from rfl)
  clear h hB hB2 hI hI2 hI3 h1
  unfold ptrV
  unfold UsePost
  generalize e0.2.1 = a at *
  go_enter Try.func48, Try.ntmps48
  go_wp2_with fail
  refine (add_any clk 1 _).mono ?_
  rintro e1 w1 ⟨rfl, rfl⟩
  go_wp2_with fail
  refine bodyPost_end (results_none rfl _ _ _) rfl ?_
  exact ⟨rfl, h2, HX.out, by simp⟩
end Go.Proofs.Ytfejidihocoboaa

/- New, Len, Clock, clone, use of the memo table. -/
import Derived.Test.YtfejidihocoboaaN3
import Derived.Test.YtfejidihocoboaaCtr
import Derived.Test.YtfejidihocoboaaHeld
import Derived.Carry
set_option linter.unusedVariables false
set_option linter.unusedSimpArgs false
namespace Go.Proofs.Ytfejidihocoboaa
open Go Go.RowKit
open Go.Maps (Keyed)
theorem emptyTab {M : Nat → Prop} {w : World} {T bm : Nat} {cap : Int} (hb : w.heap[T]? = some (.cells #[.int .i64 cap, .int .i64 0, .map (some bm), .slice none 0 0] 65 (0, 0))) (hm : MapR Try.prog 68 w bm (fun _ _ => False)) (hT : ¬ M T) (hB : ¬ M bm) : PTab M w T cap 0 bm (.slice none 0 0) [] := by
  refine ⟨⟨hb, LOwn.nil _ _ _ _, fun e he => (by cases he), fun e he => (by cases he), fun e he => (by cases he), List.nodup_nil, List.nodup_nil, fun b hb => ?_⟩, hm.iff (fun x v => ?_)⟩
  · rcases hb with rfl | rfl | hb | ⟨e, he, _⟩
    · exact hT
    · exact hB
    · cases hb
    · cases he
  · unfold itemR
    simp
def NewPostM (z : Int) (W : World) (e : Ending) (w' : World) : Prop :=
  ((z < 0 ∨ 512 < z) → e = .returned (.tuple #[.pointer none, .int .i64 3])) ∧ (¬ (z < 0 ∨ 512 < z) → ∃ T bm, e = .returned (.tuple #[ptrV T, .int .i64 0]) ∧ Hid (PTab (Lo W.heap.size) w' T z 0 bm (.slice none 0 0) [])) ∧ Ext No W w'
set_option maxHeartbeats 1000000 in
theorem mnew_any (z : Int) (W : World) : Calls Try.prog 9 #[.int .i64 z] W (NewPostM z W) := by
  have hmm := @run_makeMap Try.prog
  by_cases h1 : z < 0
  · go_enter Try.func9, Try.ntmps9
    go_wp2_with fail
    refine ret_ex rfl ?_
    simp [results, Try.results9, go_sem]
    exact ⟨fun _ => rfl, fun h => absurd (.inl h1) h, Ext.refl _ _⟩
  · by_cases h2 : 512 < z
    · go_enter Try.func9, Try.ntmps9
      go_wp2_with fail
      refine ret_ex rfl ?_
      simp [results, Try.results9, go_sem]
      exact ⟨fun _ => rfl, fun h => absurd (.inr h2) h, Ext.refl _ _⟩
    · go_enter Try.func9, Try.ntmps9
      go_wp2_with fail
      refine ret_ex rfl ?_
      simp [results, Try.results9, go_sem]
      refine ⟨fun h => absurd h (by omega), fun _ => ⟨W.heap.size + 1, W.heap.size, rfl, Lib.hid (emptyTab (alloc_top (by simp)) ((MapR.made _ _ W).ext ((Ext.refl No _).alloc _) no_no) (by unfold Lo; omega) (by unfold Lo; omega))⟩, ((Ext.refl No W).alloc _).alloc _⟩
end Go.Proofs.Ytfejidihocoboaa

/- The walk of MemoDrops. -/
import Derived.Test.YtfejidihocoboaaN39
import Derived.Test.YtfejidihocoboaaN37
set_option linter.unusedVariables false
set_option linter.unusedSimpArgs false
namespace Go.Proofs.Ytfejidihocoboaa
open Go Go.RowKit
theorem two_start {M : Nat → Prop} {B T bm : Nat} {cap : Int} {w : World} (hP : PTab (Lo B) w T cap 0 bm (.slice none 0 0) []) (hB : ∀ b, M b → b < B) (hBw : B ≤ w.heap.size) :
    Two M (w.alloc (.cells #[.int .i64 cap, .slice none 0 0, .int .i64 0] 32)) T w.heap.size cap 0 0 bm (.slice none 0 0) (.slice none 0 0) [] [] := by
  have hx : Ext No w (w.alloc (.cells #[.int .i64 cap, .slice none 0 0, .int .i64 0] 32)) := (Ext.refl _ _).alloc _
  refine ⟨(hP.mono (fun i hi e => ?_)).stepNo hx, ⟨alloc_top rfl, LOwn.nil _ _ _ _, fun b hb e => ?_⟩⟩
  · rcases e with e | e | e
    · exact hB i e
    · omega
    · cases e
  · rcases hb with rfl | hb
    · rcases e with e | e
      · have := hB _ e; omega
      · have := hP.ownLt e; omega
    · cases hb
theorem ab_start {M : Nat → Prop} {B T bm tb : Nat} {cap : Int} {w : World} (hP : PTab (Lo B) w T cap 0 bm (.slice none 0 0) []) (hB : ∀ b, M b → b < B) (hBw : B ≤ w.heap.size) (ht : TapeOk w tb) (hc : 0 ≤ cap) (cs : Array Value) (Ty : TypeId) :
    AB M ((w.alloc (.cells #[.int .i64 cap, .slice none 0 0, .int .i64 0] 32)).alloc (.cells cs Ty)) (TOwn T w.heap.size bm (.slice none 0 0) (.slice none 0 0) []) T w.heap.size tb cap 0 True ((w.alloc (.cells #[.int .i64 cap, .slice none 0 0, .int .i64 0] 32)).alloc (.cells cs Ty)) 0 [] bm (.slice none 0 0) (.slice none 0 0) [] [] :=
  ⟨(two_start hP hB hBw).stepNo ((Ext.refl _ _).alloc _), rfl, rfl, Inv.nil cap hc, fun _ => TickD.nil, ht.ext (((Ext.refl _ _).alloc _).alloc _), Ext.refl _ _, fun b hb => .inl hb⟩
/-- where the pair stands in a box of its own: some pair in the world w -/
def ABx (M : Nat → Prop) (W0 : World) (OW : Nat → Prop) (T D tb : Nat) (cap K : Int) (td : Prop) (w : World) : Prop := ∃ (clk : Int) (es : List Ent) (bm : Nat) (vk v : Value) (L : List PE) (LL : List EV), AB M W0 OW T D tb cap K td w clk es bm vk v L LL
theorem EntPost.own {es : List Ent} {W : World} {e : Ending} {w' : World} (h : EntPost es W e w') : ∃ a c LL, e = .returned (.slice a es.length c) ∧ Hid (LOwn kE (Lo W.heap.size) w' W.heap.size (.slice a es.length c) LL) ∧ Hid (LL.map Prod.fst = es) ∧ Ext No W w' := by
  obtain ⟨v, LL, rfl, h1, h2, h3⟩ := h
  obtain ⟨a, c, rfl⟩ := h1.out.slice
  have hl : LL.length = es.length := by rw [← h2.out, List.length_map]
  rw [hl] at h1 ⊢
  exact ⟨a, c, LL, rfl, h1, h2, h3⟩
theorem mentriesE {M : Nat → Prop} {W : World} {T bm : Nat} {cap clk : Int} {vk : Value} {L : List PE} {es : List Ent} (h : PTab M W T cap clk bm vk L) (he : L.map Prod.fst = es) (hn : es.length ≤ 1000) (hv : ∀ e ∈ es, validB e.s = true) :
    Calls Try.prog 11 #[ptrV T] W (fun e w' => ∃ a c LL, e = .returned (.slice a es.length c) ∧ Hid (LOwn kE (Lo W.heap.size) w' W.heap.size (.slice a es.length c) LL) ∧ Hid (LL.map Prod.fst = es) ∧ Ext No W w') := by
  subst he
  exact (mentries_any h (by simpa using hn) (fun e h2 => hv _ (List.mem_map_of_mem h2))).mono (fun e w' h => h.own)
end Go.Proofs.Ytfejidihocoboaa

/- The model of a memo table; Touch, Get. -/
import Derived.Test.YtfejidihocoboaaN5
set_option linter.unusedVariables false
set_option linter.unusedSimpArgs false
namespace Go.Proofs.Ytfejidihocoboaa
open Go Go.RowKit
open Go.Maps (Keyed)
def keysE (es : List Ent) : List Key3 := es.map (·.key)
def setTk (x : Key3) (t : Int) (es : List Ent) : List Ent := es.map (fun e => if e.key = x then ⟨e.key, e.s, t⟩ else e)
def zS : RawSet := ⟨0, []⟩
theorem keysOf_fst (L : List PE) : keysE (L.map Prod.fst) = keysOf L := by simp [keysE, keysOf]
theorem valid_len {s : RawSet} (h : validB s = true) : s.words.length ≤ 4 := by
  unfold validB at h
  simp only [Bool.and_eq_true, decide_eq_true_eq] at h
  obtain ⟨⟨h1, h2, h3⟩, -⟩ := h
  rw [h3]
  unfold nw
  omega
theorem updL_setTk {L : List PE} (hn : (keysOf L).Nodup) {e0 : PE} (he0 : e0 ∈ L) (t : Int) : (updL e0.1.key e0.1.s t e0.2.2 L).map Prod.fst = setTk e0.1.key t (L.map Prod.fst) := by
  unfold updL setTk
  rw [List.map_map, List.map_map]
  refine List.map_congr_left (fun e he => ?_)
  simp only [Function.comp]
  by_cases h : e.1.key = e0.1.key
  · rw [if_pos h, if_pos h, nodup_inj hn he he0 h]
  · rw [if_neg h, if_neg h]
def TabPost (M : Nat → Prop) (T : Nat) (cap : Int) (O : Nat → Prop) (r : Value) (clk' : Int) (es' : List Ent) (W : World) (e : Ending) (w' : World) : Prop :=
  ∃ (bm : Nat) (vk : Value) (L : List PE), e = .returned r ∧ Hid (PTab M w' T cap clk' bm vk L) ∧ Hid (L.map Prod.fst = es') ∧ Ext O W w' ∧ Hid (∀ b, POwn T bm vk L b → O b ∨ W.heap.size ≤ b)
def touchC (x : Key3) (clk : Int) (es : List Ent) : Int := if x ∈ keysE es then addZ clk 1 else clk
def touchE (x : Key3) (clk : Int) (es : List Ent) : List Ent := if x ∈ keysE es then setTk x (addZ clk 1) es else es
section
variable {M : Nat → Prop} {W : World} {T bm : Nat} {cap clk : Int} {vk : Value} {L : List PE}
set_option maxRecDepth 100000 in
set_option maxHeartbeats 1000000 in
theorem mtouch_any (x : Key3) (hx : KeyOk x) (h : PTab M W T cap clk bm vk L) :
    Calls Try.prog 27 #[ptrV T, .int .i64 x.1, .int .i64 x.2.1, .int .i64 x.2.2] W (TabPost M T cap (POwn T bm vk L) (.bool (decide (x ∈ keysE (L.map Prod.fst)))) (touchC x clk (L.map Prod.fst)) (touchE x clk (L.map Prod.fst)) W) := by
  have cB := cellOf h.t.box
  by_cases hk : x ∈ keysOf L
  · obtain ⟨e0, he0, rfl⟩ := List.mem_map.1 hk
    have hlk := h.look he0
    have hd : (decide (e0.1.key ∈ keysE (L.map Prod.fst))) = true := decide_eq_true (by rw [keysOf_fst]; exact hk)
    have hp : ∀ (a b : Value), (if e0.1.key ∈ keysOf L then a else b) = a := fun a b => if_pos hk
    have H := Lib.hid h
    have HE := Lib.hid he0
    have HK := Lib.hid hk
    rw [hd]
    unfold keyV at hlk
    clear h hk hd hp
    simp only [ptrV] at hlk ⊢
    go_enter Try.func27, Try.ntmps27
    go_wp2_with (first | (at_lookup; refine wpList_mlook rfl _ _ _ rfl rfl rfl hlk ?_) | fail)
    refine (muse_any H.out HE.out).mono ?_
    rintro e1 w1 ⟨rfl, h2, hX, hS⟩
    go_wp2_with fail
    go_ret
    have ht : touchC e0.1.key clk (L.map Prod.fst) = addZ clk 1 := if_pos (by rw [keysOf_fst]; exact HK.out)
    rw [ht]
    refine ⟨bm, vk, _, rfl, h2, Lib.hid ?_, hX.mono (fun i _ e => ?_), Lib.hid (fun b hb => .inl ((updL_own _ _ _ _ b).1 hb))⟩
    · rw [updL_setTk H.out.t.uk HE.out]
      unfold touchE
      rw [if_pos (by rw [keysOf_fst]; exact HK.out)]
    · rcases e with rfl | rfl
      · exact .inl rfl
      · exact .inr (.inr (.inr ⟨e0, HE.out, rfl⟩))
  · have hlk := h.lookNo hx hk
    have hd : (decide (x ∈ keysE (L.map Prod.fst))) = false := decide_eq_false (by rw [keysOf_fst]; exact hk)
    have H := Lib.hid h
    have HK := Lib.hid hk
    rw [hd]
    unfold keyV at hlk
    clear h hk hd hx
    simp only [ptrV] at hlk ⊢
    go_enter Try.func27, Try.ntmps27
    go_wp2_with (first | (at_lookup; refine wpList_mlook rfl _ _ _ rfl rfl rfl hlk ?_) | fail)
    go_ret
    refine ⟨bm, vk, L, rfl, Lib.hid (by unfold touchC; rw [if_neg (by rw [keysOf_fst]; exact HK.out)]; exact H.out), Lib.hid (by unfold touchE; rw [if_neg (by rw [keysOf_fst]; exact HK.out)]), Ext.refl _ _, Lib.hid (fun b hb => .inl hb)⟩
end
end Go.Proofs.Ytfejidihocoboaa

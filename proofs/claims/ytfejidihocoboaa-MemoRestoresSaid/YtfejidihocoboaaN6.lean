/- The model of a memo table; Touch, Get. -/
import Derived.Test.YtfejidihocoboaaN5
set_option linter.unusedVariables false
set_option linter.unusedSimpArgs false
namespace Go.Proofs.Ytfejidihocoboaa
open Go Go.RowKit
open Go.Maps (Keyed)
def keysE (es : List Ent) : List Key3 := es.map (·.key)
def setTk (x : Key3) (t : Int) (es : List Ent) : List Ent := es.map (fun e => if e.key = x then ⟨e.key, e.s, t⟩ else e)
def zS : RawSet := ⟨0, []⟩
def getE (x : Key3) (es : List Ent) : RawSet × Bool := match es.find? (fun e => decide (e.key = x)) with | some e => (e.s, true) | none => (zS, false)
theorem keysOf_fst (L : List PE) : keysE (L.map Prod.fst) = keysOf L := by simp [keysE, keysOf]
theorem getE_some {x : Key3} {es : List Ent} (hn : (keysE es).Nodup) {e : Ent} (he : e ∈ es) (hx : e.key = x) : getE x es = (e.s, true) := by
  unfold getE
  cases h : es.find? (fun e => decide (e.key = x)) with
  | none => exact absurd (decide_eq_true hx) (by simpa using List.find?_eq_none.1 h e he)
  | some e' =>
    have h1 := List.find?_some h
    have h2 := List.mem_of_find?_eq_some h
    rw [nodup_inj hn h2 he ((of_decide_eq_true h1).trans hx.symm)]
theorem getE_none {x : Key3} {es : List Ent} (hx : x ∉ keysE es) : getE x es = (zS, false) := by
  unfold getE
  rw [List.find?_eq_none.2 (fun e he => by
    simp only [decide_eq_true_eq]
    exact fun h => hx (by rw [← h]; exact List.mem_map_of_mem he))]
theorem valid_len {s : RawSet} (h : validB s = true) : s.words.length ≤ 4 := by
  unfold validB at h
  simp only [Bool.and_eq_true, decide_eq_true_eq] at h
  obtain ⟨⟨h1, h2, h3⟩, -⟩ := h
  rw [h3]
  unfold nw
  omega
theorem updL_setTk {L : List PE} (hn : (keysOf L).Nodup) {e0 : PE} (he0 : e0 ∈ L) (t : Int) : (updL e0.1.key e0.1.s t e0.2.2 L).map Prod.fst = setTk e0.1.key t (L.map Prod.fst) := by
  unfold updL setTk
  rw [List.map_map, List.map_map]
  refine List.map_congr_left (fun e he => ?_)
  simp only [Function.comp]
  by_cases h : e.1.key = e0.1.key
  · rw [if_pos h, if_pos h, nodup_inj hn he he0 h]
  · rw [if_neg h, if_neg h]
def TabPost (M : Nat → Prop) (T : Nat) (cap : Int) (O : Nat → Prop) (r : Value) (clk' : Int) (es' : List Ent) (W : World) (e : Ending) (w' : World) : Prop :=
  ∃ (bm : Nat) (vk : Value) (L : List PE), e = .returned r ∧ Hid (PTab M w' T cap clk' bm vk L) ∧ Hid (L.map Prod.fst = es') ∧ Ext O W w' ∧ Hid (∀ b, POwn T bm vk L b → O b ∨ W.heap.size ≤ b)
def touchC (x : Key3) (clk : Int) (es : List Ent) : Int := if x ∈ keysE es then addZ clk 1 else clk
def touchE (x : Key3) (clk : Int) (es : List Ent) : List Ent := if x ∈ keysE es then setTk x (addZ clk 1) es else es
section
variable {M : Nat → Prop} {W : World} {T bm : Nat} {cap clk : Int} {vk : Value} {L : List PE}
set_option maxRecDepth 100000 in
set_option maxHeartbeats 1000000 in
theorem mtouch_any (x : Key3) (hx : KeyOk x) (h : PTab M W T cap clk bm vk L) :
    Calls Try.prog 27 #[ptrV T, .int .i64 x.1, .int .i64 x.2.1, .int .i64 x.2.2] W (TabPost M T cap (POwn T bm vk L) (.bool (decide (x ∈ keysE (L.map Prod.fst)))) (touchC x clk (L.map Prod.fst)) (touchE x clk (L.map Prod.fst)) W) := by
  have cB := cellOf h.t.box
  by_cases hk : x ∈ keysOf L
  · obtain ⟨e0, he0, rfl⟩ := List.mem_map.1 hk
    have hlk := h.look he0
    have hd : (decide (e0.1.key ∈ keysE (L.map Prod.fst))) = true := decide_eq_true (by rw [keysOf_fst]; exact hk)
    have hp : ∀ (a b : Value), (if e0.1.key ∈ keysOf L then a else b) = a := fun a b => if_pos hk
    have H := Lib.hid h
    have HE := Lib.hid he0
    have HK := Lib.hid hk
    rw [hd]
    unfold keyV at hlk
    clear h hk hd hp
    simp only [ptrV] at hlk ⊢
    go_enter Try.func27, Try.ntmps27
    go_wp2_with (first | (at_lookup; refine wpList_mlook rfl _ _ _ rfl rfl rfl hlk ?_) | fail)
    refine (muse_any H.out HE.out).mono ?_
    rintro e1 w1 ⟨rfl, h2, hX, hS⟩
    go_wp2_with fail
    go_ret
    have ht : touchC e0.1.key clk (L.map Prod.fst) = addZ clk 1 := if_pos (by rw [keysOf_fst]; exact HK.out)
    rw [ht]
    refine ⟨bm, vk, _, rfl, h2, Lib.hid ?_, hX.mono (fun i _ e => ?_), Lib.hid (fun b hb => .inl ((updL_own _ _ _ _ b).1 hb))⟩
    · rw [updL_setTk H.out.t.uk HE.out]
      unfold touchE
      rw [if_pos (by rw [keysOf_fst]; exact HK.out)]
    · rcases e with rfl | rfl
      · exact .inl rfl
      · exact .inr (.inr (.inr ⟨e0, HE.out, rfl⟩))
  · have hlk := h.lookNo hx hk
    have hd : (decide (x ∈ keysE (L.map Prod.fst))) = false := decide_eq_false (by rw [keysOf_fst]; exact hk)
    have H := Lib.hid h
    have HK := Lib.hid hk
    rw [hd]
    unfold keyV at hlk
    clear h hk hd hx
    simp only [ptrV] at hlk ⊢
    go_enter Try.func27, Try.ntmps27
    go_wp2_with (first | (at_lookup; refine wpList_mlook rfl _ _ _ rfl rfl rfl hlk ?_) | fail)
    go_ret
    refine ⟨bm, vk, L, rfl, Lib.hid (by unfold touchC; rw [if_neg (by rw [keysOf_fst]; exact HK.out)]; exact H.out), Lib.hid (by unfold touchE; rw [if_neg (by rw [keysOf_fst]; exact HK.out)]), Ext.refl _ _, Lib.hid (fun b hb => .inl hb)⟩
def GetPost (x : Key3) (es : List Ent) (W : World) (e : Ending) (w' : World) : Prop :=
  ∃ (a : Option Addr) (c : Nat), e = .returned (.tuple #[.agg #[.int .i64 (getE x es).1.width, .slice a (getE x es).1.words.length c], .bool (getE x es).2]) ∧ Hid (WordsAt (Lo W.heap.size) w' (.slice a (getE x es).1.words.length c) (getE x es).1.words) ∧ Ext No W w'
set_option maxRecDepth 100000 in
set_option maxHeartbeats 1000000 in
theorem mget_any (x : Key3) (hx : KeyOk x) (h : PTab M W T cap clk bm vk L) (hv : ∀ e ∈ L, validB e.1.s = true) :
    Calls Try.prog 19 #[ptrV T, .int .i64 x.1, .int .i64 x.2.1, .int .i64 x.2.2] W (GetPost x (L.map Prod.fst) W) := by
  have hx0 : Ext No W (W.alloc (.cells #[.int .i64 0, .slice none 0 0] 40)) := (Ext.refl _ _).alloc _
  have HX := Lib.hid hx0
  have HC := Lib.hid (show (W.alloc (.cells #[.int .i64 0, .slice none 0 0] 40)).heap[W.heap.size]? = some (.cells #[.int .i64 0, .slice none 0 0] 40 (0, 0)) from alloc_top rfl)
  have H := Lib.hid (h.stepNo hx0)
  unfold GetPost
  by_cases hk : x ∈ keysOf L
  · obtain ⟨e0, he0, rfl⟩ := List.mem_map.1 hk
    have hlk := H.out.look he0
    have hg : getE e0.1.key (L.map Prod.fst) = (e0.1.s, true) := getE_some (by rw [keysOf_fst]; exact h.t.uk) (List.mem_map_of_mem he0) rfl
    have hl4 := valid_len (hv e0 he0)
    have hI := H.out.t.it e0 he0
    have cB := cellOf H.out.t.box
    have HW := Lib.hid (H.out.t.wd e0 he0)
    rw [hg]
    unfold keyV at hlk
    unfold itemC at hI
    obtain ⟨wa, wc, hsl⟩ := HW.out.slice
    rw [hsl] at hI HW
    simp only [ptrV] at hlk ⊢
    have cI := cellOf hI
    clear h hk hg hv hx hx0 H hI hsl
    go_enter Try.func19, Try.ntmps19
    go_upto_region 1 with (fail)
    generalize (W.alloc (.cells #[.int .i64 0, .slice none 0 0] 40)) = V at *
    go_wp2_with (first | (at_lookup; refine wpList_mlook rfl _ _ _ rfl rfl rfl hlk ?_) | fail)
    refine (mclone_any e0.1.s _ _ (HW.out.mono (fun _ _ x => x.elim)) (by omega)).mono ?_
    rintro e1 w1 ⟨a1, c1, rfl, hw1, hx1⟩
    have hC1 := hx1.blk HC.out no_no
    have cC := cellOf hC1
    have fC := freeOf hC1
    have hE := ext_two (u0 := .int .i64 e0.1.s.width) (u1 := .slice a1 e0.1.s.words.length c1) (Ext.refl No w1) W.heap.size
    have hF := (set_same (j := 1) (u := .slice a1 e0.1.s.words.length c1) (set_same (j := 0) (u := .int .i64 e0.1.s.width) hC1)).trans rfl
    have hlt := lt_of_block HC.out
    clear hC1
    go_wp2_with fail
    generalize ((w1.setCell ⟨W.heap.size, 0, none⟩ (.int .i64 e0.1.s.width)).setCell ⟨W.heap.size, 1, none⟩ (.slice a1 e0.1.s.words.length c1)) = WF at *
    have cF := cellOf hF
    refine ret_ex rfl ?_
    simp [results, Try.results19, go_sem, cF]
    exact ⟨a1, c1, ⟨rfl, rfl⟩, Lib.hid ((hw1.out.ext hE (fun i _ e => by unfold At at e; unfold Lo; omega)).mono (fun i _ e => by have := HX.out.size; unfold Lo at e ⊢; omega)), (HX.out.transNo hx1).trans2 hE (fun i hi e => by unfold At at e; omega)⟩
  · have hlk := H.out.lookNo hx hk
    have hg : getE x (L.map Prod.fst) = (zS, false) := getE_none (by rw [keysOf_fst]; exact hk)
    have cB := cellOf H.out.t.box
    rw [hg]
    unfold keyV at hlk
    simp only [ptrV] at hlk ⊢
    clear h hk hg hv hx hx0 H
    go_enter Try.func19, Try.ntmps19
    go_upto_region 1 with (fail)
    generalize (W.alloc (.cells #[.int .i64 0, .slice none 0 0] 40)) = V at *
    have cC := cellOf HC.out
    have fC := freeOf HC.out
    have hE := ext_two (u0 := .int .i64 0) (u1 := .slice none 0 0) (Ext.refl No V) W.heap.size
    have hF := (set_same (j := 1) (u := .slice none 0 0) (set_same (j := 0) (u := .int .i64 0) HC.out)).trans rfl
    go_wp2_with (first | (at_lookup; refine wpList_mlook rfl _ _ _ rfl rfl rfl hlk ?_) | fail)
    generalize ((V.setCell ⟨W.heap.size, 0, none⟩ (.int .i64 0)).setCell ⟨W.heap.size, 1, none⟩ (.slice none 0 0)) = WF at *
    have cF := cellOf hF
    refine ret_ex rfl ?_
    simp [results, Try.results19, go_sem, cF]
    exact ⟨none, 0, ⟨rfl, rfl, rfl, rfl⟩, Lib.hid ⟨Row.nil _ _ _ _ _ (by omega), fun n hn => by cases hn⟩, HX.out.trans2 hE (fun i hi e => by unfold At at e; omega)⟩
end
end Go.Proofs.Ytfejidihocoboaa

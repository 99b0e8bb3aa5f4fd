/- Clone of keys; the closures of Drop and Evict; remove$1. -/
import Derived.Test.YtfejidihocoboaaN8
set_option linter.unusedVariables false
set_option linter.unusedSimpArgs false
namespace Go.Proofs.Ytfejidihocoboaa
open Go Go.RowKit
open Go.Maps (Keyed)
theorem infoKey : (Try.prog.info? 68).map (fun i => (i.zero, i.size, i.bytes)) = some (some (.agg #[.int .i64 0, .int .i64 0, .int .i64 0]), 3, 24) := by kernel_rfl
theorem keys_one (K : List Key3) : ∀ u ∈ K.flatMap keyC, u.oneCell' = true := fun u hu => by
  obtain ⟨x, _, hx⟩ := List.mem_flatMap.1 hu
  simp only [keyC, List.mem_cons, List.not_mem_nil, or_false] at hx
  rcases hx with rfl | rfl | rfl <;> rfl
def KClPost (K : List Key3) (W : World) (e : Ending) (w' : World) : Prop := ∃ v, e = .returned v ∧ Hid (LOwn kK No w' W.heap.size v K) ∧ Ext No W w'
set_option maxHeartbeats 1000000 in
theorem kclone_any (sl : Value) (K : List Key3) (W : World) (h : LAt kK No W sl K) (hn : K.length ≤ 1048576) : Calls Try.prog 37 #[sl] W (KClPost K W) := by
  obtain ⟨i0, hi, hz0, hz1, hz2⟩ := info_parts infoKey
  have H := Lib.hid h
  obtain ⟨a, cap, rfl⟩ := h.slice
  clear h
  have ke := fun (w : World) (a : Option Addr) (n c : Nat) => Lib.run_eql_slice_nil (P := Try.prog) w 63 68 a n c 0 0 Try.underlying63
  cases a with
  | none =>
    have h0 : K.length = 0 := by
      rcases H.out.row.2.2 with ⟨a, c, h1, _, h2 | ⟨b, off, h2, _⟩⟩
      · exact h2
      · simp only [Value.slice.injEq] at h1; rw [h2] at h1; exact absurd h1.1 (by simp)
    have HL := Lib.hid (List.eq_nil_of_length_eq_zero h0)
    clear h0
    go_enter Try.func37, Try.ntmps37
    go_wp2_with fail
    go_ret
    exact ⟨_, rfl, Lib.hid (by rw [HL.out]; exact LOwn.nil _ _ _ _), Ext.refl _ _⟩
  | some ad =>
    go_enter Try.func37, Try.ntmps37
    go_wp2_with (at_builtin; refine wpList_app _ rfl (.tmp 5) (.tmp 6) 63 rfl W.heap.size 68 i0 _ 3 24 Try.underlying63 hi hz0 hz1 hz2 rfl (by omega) _ 0 [] rfl (World.ownsRow_made W #[] 0 (Nat.le_refl _) (Nat.zero_le _) rfl) No (some ad) K.length cap (K.flatMap keyC) rfl (Row.extNo H.out.row ((Ext.refl _ _).alloc _)) (keys_one K) (by omega) (by omega) (by simp) ?_; intro v1 w1 hown hg hat)
    go_ret
    simp only [Nat.zero_add, List.nil_append] at hown
    exact ⟨_, rfl, Lib.hid ⟨hown, fun _ _ => trivial⟩, ((Ext.refl _ _).alloc _).grown hg (fun k hk hlt => by cases hk; exact absurd hlt (Nat.lt_irrefl _))⟩
theorem drop1_any (x : Key3) (pb : Nat) (p : Int) (W : World) (h : W.heap[pb]? = some (.cells #[.int .i64 p] 3 (0, 0))) : Calls Try.prog 36 #[keyV x, .pointer (some ⟨pb, 0, none⟩)] W (BoolPost (decide (x.1 = p)) W) := by
  have hx0 : Ext No W (W.alloc (.cells #[.int .i64 x.1, .int .i64 x.2.1, .int .i64 x.2.2] 68)) := (Ext.refl _ _).alloc _
  have cP := cellOf (hx0.blk h no_no)
  unfold keyV
  clear h
  go_enter Try.func36, Try.ntmps36
  go_wp2_with fail
  go_ret
  exact ⟨by first | rfl | simp [Int.beq_eq], hx0⟩
theorem evict2_any (x : Key3) (lb : Nat) (sl : Value) (K : List Key3) (W : World) (h : W.heap[lb]? = some (.cells #[sl] 63 (0, 0))) (hK : LAt kK No W sl K) : Calls Try.prog 41 #[keyV x, .pointer (some ⟨lb, 0, none⟩)] W (BoolPost (decide (x ∈ K)) W) := by
  have hx0 : Ext No W (W.alloc (.cells #[.int .i64 x.1, .int .i64 x.2.1, .int .i64 x.2.2] 68)) := (Ext.refl _ _).alloc _
  have cP := cellOf (hx0.blk h no_no)
  have HK := Lib.hid (hK.extNo hx0)
  obtain ⟨a, c, rfl⟩ := hK.slice
  have HX := Lib.hid hx0
  unfold keyV
  clear h hx0 hK
  go_enter Try.func41, Try.ntmps41
  go_wp2_with fail
  refine (kcontains_any x _ K _ HK.out).mono ?_
  rintro e1 w1 ⟨rfl, hx1⟩
  go_wp2_with fail
  go_ret
  exact ⟨rfl, HX.out.transNo hx1⟩
def Rem1Post (hB : Key3 → Bool) (x : Key3) (bm : Nat) (R : Value → Value → Prop) (W : World) (e : Ending) (w' : World) : Prop :=
  e = .returned (.bool (hB x)) ∧ Hid (MapR Try.prog 68 w' bm (fun y v => ¬ (hB x = true ∧ y = keyV x) ∧ R y v)) ∧ Ext (At bm) W w'
structure OkDrop (pb : Nat) (p : Int) (T tb hb bm : Nat) (w : World) : Prop where
  tbox : w.heap[tb]? = some (.cells #[ptrV T] 25 (0, 0))
  hbox : w.heap[hb]? = some (.cells #[.func (.func 36) #[] #[.pointer (some ⟨pb, 0, none⟩)]] 74 (0, 0))
  tab : ∃ c0 c1 c3 : Value, w.heap[T]? = some (.cells #[c0, c1, .map (some bm), c3] 65 (0, 0))
  pbox : w.heap[pb]? = some (.cells #[.int .i64 p] 3 (0, 0))
theorem OkDrop.ext {M : Nat → Prop} {pb T tb hb bm : Nat} {p : Int} {w w' : World} (h : OkDrop pb p T tb hb bm w) (hx : Ext M w w') (h1 : ¬ M tb) (h2 : ¬ M hb) (h3 : ¬ M T) (h4 : ¬ M pb) : OkDrop pb p T tb hb bm w' := by
  obtain ⟨a, b, c, ht⟩ := h.tab
  exact ⟨hx.blk h.tbox h1, hx.blk h.hbox h2, ⟨a, b, c, hx.blk ht h3⟩, hx.blk h.pbox h4⟩
theorem OkDrop.extNo {pb T tb hb bm : Nat} {p : Int} {w w' : World} (h : OkDrop pb p T tb hb bm w) (hx : Ext No w w') : OkDrop pb p T tb hb bm w' := h.ext hx no_no no_no no_no no_no
theorem rem1d_any (pb : Nat) (p : Int) (T tb hb bm : Nat) (x : Key3) (hx : KeyOk x) (W : World) (R : Value → Value → Prop) (hO : OkDrop pb p T tb hb bm W) (hR : MapR Try.prog 68 W bm R) :
    Calls Try.prog 64 #[keyV x, ptrV hb, ptrV tb] W (Rem1Post (fun x : Key3 => decide (x.1 = p)) x bm R W) := by
  obtain ⟨kl, hkl⟩ := keyOfK hx
  have hx0 : Ext No W (W.alloc (.cells #[.int .i64 x.1, .int .i64 x.2.1, .int .i64 x.2.2] 68)) := (Ext.refl _ _).alloc _
  have HX := Lib.hid hx0
  have HB := Lib.hid (alloc_top (w := W) (o := .cells #[.int .i64 x.1, .int .i64 x.2.1, .int .i64 x.2.2] 68) rfl)
  have HO := Lib.hid (hO.extNo hx0)
  have HR := Lib.hid (hR.ext hx0 no_no)
  clear hO hR hx hx0
  have hdel := fun (w : World) (R' : Value → Value → Prop) (h : MapR Try.prog 68 w bm R') => h.drop lawK undMap hkl 0
  unfold keyV ptrV at *
  go_enter Try.func64, Try.ntmps64
  go_upto_region 1 with (fail)
  generalize (W.alloc (.cells #[.int .i64 x.1, .int .i64 x.2.1, .int .i64 x.2.2] 68)) = V at *
  have cH := cellOf HO.out.hbox
  have cB := cellOf HB.out
  go_wp2_with fail
  go_at_call 36
  refine (drop1_any x pb p _ HO.out.pbox).mono ?_
  rintro e1 w1 ⟨rfl, hx1⟩
  have HX1 := Lib.hid hx1
  clear hx1 cH cB
  have hbmv : ∀ n (o : Array Value) (t : TypeId) (f : Nat × Nat), w1.heap[n]? = some (.cells o t f) → n ≠ bm := fun n o t f h => ne_map h (HR.out.ext HX1.out no_no)
  have HTB := Lib.hid (show w1.heap[tb]? = some (.cells #[.pointer (some ⟨T, 0, none⟩)] 25 (0, 0)) ∧ ¬ At bm tb from ⟨HX1.out.blk HO.out.tbox no_no, hbmv _ _ _ _ (HX1.out.blk HO.out.tbox no_no)⟩)
  have HB1 := Lib.hid (show w1.heap[W.heap.size]? = some (.cells #[.int .i64 x.1, .int .i64 x.2.1, .int .i64 x.2.2] 68 (0, 0)) ∧ ¬ At bm W.heap.size from ⟨HX1.out.blk HB.out no_no, hbmv _ _ _ _ (HX1.out.blk HB.out no_no)⟩)
  have HR1 := Lib.hid (HR.out.ext HX1.out no_no)
  obtain ⟨t0, t1, t3, ht⟩ := HO.out.tab
  have HT := Lib.hid (show w1.heap[T]? = some (.cells #[t0, t1, .map (some bm), t3] 65 (0, 0)) ∧ ¬ At bm T from ⟨HX1.out.blk ht no_no, hbmv _ _ _ _ (HX1.out.blk ht no_no)⟩)
  clear hbmv ht
  cases hb : (fun x : Key3 => decide (x.1 = p)) x with
  | true =>
    simp only at hb
    go_upto_region 3 with (fail)
    refine wp_region_held_drew (S := (fun w' => Ext (At bm) w1 w')) (by kernel_rfl) ?_ (fun hHeld => ?_)
    · exact (Ext.refl _ _).drew
    refine held_take (i := 0) (v := ?_) rfl (by kernel_rfl) (by kernel_rfl) (by kernel_rfl) (fun _ _ _ h => h) rfl (fun w hSw => ?_) hHeld ?_
    rotate_left
    · (have hEs : Ext (At bm) w1 _ := hSw); (have x0 := cellOf (hEs.blk HTB.out.1 HTB.out.2)); go_simp; (try with_reducible rfl)
    try simp only [Act.put, List.setIfInBounds_toArray, List.set_cons_zero, List.set_cons_succ]
    refine held_take (i := 1) (v := ?_) rfl (by kernel_rfl) (by kernel_rfl) (by kernel_rfl) (fun _ _ _ h => h) rfl (fun w hSw => ?_) hHeld ?_
    rotate_left
    · go_simp; (try with_reducible rfl)
    try simp only [Act.put, List.setIfInBounds_toArray, List.set_cons_zero, List.set_cons_succ]
    refine held_take (i := 2) (v := ?_) rfl (by kernel_rfl) (by kernel_rfl) (by kernel_rfl) (fun _ _ _ h => h) rfl (fun w hSw => ?_) hHeld ?_
    rotate_left
    · go_simp; (try with_reducible rfl)
    try simp only [Act.put, List.setIfInBounds_toArray, List.set_cons_zero, List.set_cons_succ]
    refine held_take (i := 3) (v := ?_) rfl (by kernel_rfl) (by kernel_rfl) (by kernel_rfl) (fun _ _ _ h => h) rfl (fun w hSw => ?_) hHeld ?_
    rotate_left
    · (have hEs : Ext (At bm) w1 _ := hSw); (have x0 := cellOf (hEs.blk HT.out.1 HT.out.2)); go_simp; (try with_reducible rfl)
    try simp only [Act.put, List.setIfInBounds_toArray, List.set_cons_zero, List.set_cons_succ]
    refine held_take (i := 4) (v := ?_) rfl (by kernel_rfl) (by kernel_rfl) (by kernel_rfl) (fun _ _ _ h => h) rfl (fun w hSw => ?_) hHeld ?_
    rotate_left
    · (have hEs : Ext (At bm) w1 _ := hSw); (have x0 := cellOf (hEs.blk HB1.out.1 HB1.out.2)); go_simp; (try with_reducible rfl)
    try simp only [Act.put, List.setIfInBounds_toArray, List.set_cons_zero, List.set_cons_succ]
    refine held_call (i := 5) rfl (by kernel_rfl) rfl (fun K hK => ?_)
    ((have hEs : Ext (At bm) w1 _ := hHeld); (obtain ⟨w5, hrun, hR5, hE5, hs5⟩ := hdel _ _ (HR1.out.ext (Ext.refl No w1).drew no_no)); go_simp)
    refine hK.out _ _ ?_ (fun hNew => ?_)
    · exact Ext.trans (show Ext (At bm) w1 _ from hHeld) hE5
    clear hK K hHeld
    have hHeld := hNew
    clear hNew
    try simp only [Act.put, List.setIfInBounds_toArray, List.set_cons_zero, List.set_cons_succ]
    have hE6 : Ext (At bm) w1 w5 := hHeld
    refine wpAnyH_done (by kernel_rfl) ?_ _
    go_wp2_with fail
    go_ret
    refine ⟨by first | rw [hb] | simp [hb], Lib.hid (hR5.iff (fun y v => ?_)), (HX.out.transNo HX1.out).ofNo.trans hE6⟩
    simp [hb, keyV]
  | false =>
    simp only at hb
    go_wp2_with fail
    go_ret
    refine ⟨by first | rw [hb] | simp [hb], Lib.hid (HR1.out.iff (fun y v => ?_)), (HX.out.transNo HX1.out).ofNo⟩
    simp [hb]
structure OkEv (A : Nat → Prop) (lb : Nat) (sl : Value) (D : List Key3) (T tb hb bm : Nat) (w : World) : Prop where
  tbox : w.heap[tb]? = some (.cells #[ptrV T] 25 (0, 0))
  hbox : w.heap[hb]? = some (.cells #[.func (.func 41) #[] #[.pointer (some ⟨lb, 0, none⟩)]] 74 (0, 0))
  tab : ∃ c0 c1 c3 : Value, w.heap[T]? = some (.cells #[c0, c1, .map (some bm), c3] 65 (0, 0))
  lbox : w.heap[lb]? = some (.cells #[sl] 63 (0, 0))
  row : LAt kK A w sl D
theorem OkEv.ext {M A : Nat → Prop} {lb T tb hb bm : Nat} {sl : Value} {D : List Key3} {w w' : World} (h : OkEv A lb sl D T tb hb bm w) (hx : Ext M w w') (h1 : ¬ M tb) (h2 : ¬ M hb) (h3 : ¬ M T) (h4 : ¬ M lb) (h5 : ∀ i, M i → A i) : OkEv A lb sl D T tb hb bm w' := by
  obtain ⟨a, b, c, ht⟩ := h.tab
  exact ⟨hx.blk h.tbox h1, hx.blk h.hbox h2, ⟨a, b, c, hx.blk ht h3⟩, hx.blk h.lbox h4, h.row.ext hx (fun i _ e => h5 i e)⟩
theorem OkEv.extNo {A : Nat → Prop} {lb T tb hb bm : Nat} {sl : Value} {D : List Key3} {w w' : World} (h : OkEv A lb sl D T tb hb bm w) (hx : Ext No w w') : OkEv A lb sl D T tb hb bm w' := h.ext hx no_no no_no no_no no_no (fun _ e => e.elim)
theorem rem1e_any (A : Nat → Prop) (lb : Nat) (sl : Value) (D : List Key3) (T tb hb bm : Nat) (x : Key3) (hx : KeyOk x) (W : World) (R : Value → Value → Prop) (hO : OkEv A lb sl D T tb hb bm W) (hR : MapR Try.prog 68 W bm R) :
    Calls Try.prog 64 #[keyV x, ptrV hb, ptrV tb] W (Rem1Post (fun x : Key3 => decide (x ∈ D)) x bm R W) := by
  obtain ⟨kl, hkl⟩ := keyOfK hx
  have hx0 : Ext No W (W.alloc (.cells #[.int .i64 x.1, .int .i64 x.2.1, .int .i64 x.2.2] 68)) := (Ext.refl _ _).alloc _
  have HX := Lib.hid hx0
  have HB := Lib.hid (alloc_top (w := W) (o := .cells #[.int .i64 x.1, .int .i64 x.2.1, .int .i64 x.2.2] 68) rfl)
  have HO := Lib.hid (hO.extNo hx0)
  have HR := Lib.hid (hR.ext hx0 no_no)
  clear hO hR hx hx0
  have hdel := fun (w : World) (R' : Value → Value → Prop) (h : MapR Try.prog 68 w bm R') => h.drop lawK undMap hkl 0
  unfold keyV ptrV at *
  go_enter Try.func64, Try.ntmps64
  go_upto_region 1 with (fail)
  generalize (W.alloc (.cells #[.int .i64 x.1, .int .i64 x.2.1, .int .i64 x.2.2] 68)) = V at *
  have cH := cellOf HO.out.hbox
  have cB := cellOf HB.out
  go_wp2_with fail
  go_at_call 41
  refine (evict2_any x lb sl D _ HO.out.lbox (HO.out.row.mono (fun _ _ x => x.elim))).mono ?_
  rintro e1 w1 ⟨rfl, hx1⟩
  have HX1 := Lib.hid hx1
  clear hx1 cH cB
  have hbmv : ∀ n (o : Array Value) (t : TypeId) (f : Nat × Nat), w1.heap[n]? = some (.cells o t f) → n ≠ bm := fun n o t f h => ne_map h (HR.out.ext HX1.out no_no)
  have HTB := Lib.hid (show w1.heap[tb]? = some (.cells #[.pointer (some ⟨T, 0, none⟩)] 25 (0, 0)) ∧ ¬ At bm tb from ⟨HX1.out.blk HO.out.tbox no_no, hbmv _ _ _ _ (HX1.out.blk HO.out.tbox no_no)⟩)
  have HB1 := Lib.hid (show w1.heap[W.heap.size]? = some (.cells #[.int .i64 x.1, .int .i64 x.2.1, .int .i64 x.2.2] 68 (0, 0)) ∧ ¬ At bm W.heap.size from ⟨HX1.out.blk HB.out no_no, hbmv _ _ _ _ (HX1.out.blk HB.out no_no)⟩)
  have HR1 := Lib.hid (HR.out.ext HX1.out no_no)
  obtain ⟨t0, t1, t3, ht⟩ := HO.out.tab
  have HT := Lib.hid (show w1.heap[T]? = some (.cells #[t0, t1, .map (some bm), t3] 65 (0, 0)) ∧ ¬ At bm T from ⟨HX1.out.blk ht no_no, hbmv _ _ _ _ (HX1.out.blk ht no_no)⟩)
  clear hbmv ht
  cases hb : (fun x : Key3 => decide (x ∈ D)) x with
  | true =>
    simp only at hb
    go_upto_region 3 with (fail)
    refine wp_region_held_drew (S := (fun w' => Ext (At bm) w1 w')) (by kernel_rfl) ?_ (fun hHeld => ?_)
    · exact (Ext.refl _ _).drew
    refine held_take (i := 0) (v := ?_) rfl (by kernel_rfl) (by kernel_rfl) (by kernel_rfl) (fun _ _ _ h => h) rfl (fun w hSw => ?_) hHeld ?_
    rotate_left
    · (have hEs : Ext (At bm) w1 _ := hSw); (have x0 := cellOf (hEs.blk HTB.out.1 HTB.out.2)); go_simp; (try with_reducible rfl)
    try simp only [Act.put, List.setIfInBounds_toArray, List.set_cons_zero, List.set_cons_succ]
    refine held_take (i := 1) (v := ?_) rfl (by kernel_rfl) (by kernel_rfl) (by kernel_rfl) (fun _ _ _ h => h) rfl (fun w hSw => ?_) hHeld ?_
    rotate_left
    · go_simp; (try with_reducible rfl)
    try simp only [Act.put, List.setIfInBounds_toArray, List.set_cons_zero, List.set_cons_succ]
    refine held_take (i := 2) (v := ?_) rfl (by kernel_rfl) (by kernel_rfl) (by kernel_rfl) (fun _ _ _ h => h) rfl (fun w hSw => ?_) hHeld ?_
    rotate_left
    · go_simp; (try with_reducible rfl)
    try simp only [Act.put, List.setIfInBounds_toArray, List.set_cons_zero, List.set_cons_succ]
    refine held_take (i := 3) (v := ?_) rfl (by kernel_rfl) (by kernel_rfl) (by kernel_rfl) (fun _ _ _ h => h) rfl (fun w hSw => ?_) hHeld ?_
    rotate_left
    · (have hEs : Ext (At bm) w1 _ := hSw); (have x0 := cellOf (hEs.blk HT.out.1 HT.out.2)); go_simp; (try with_reducible rfl)
    try simp only [Act.put, List.setIfInBounds_toArray, List.set_cons_zero, List.set_cons_succ]
    refine held_take (i := 4) (v := ?_) rfl (by kernel_rfl) (by kernel_rfl) (by kernel_rfl) (fun _ _ _ h => h) rfl (fun w hSw => ?_) hHeld ?_
    rotate_left
    · (have hEs : Ext (At bm) w1 _ := hSw); (have x0 := cellOf (hEs.blk HB1.out.1 HB1.out.2)); go_simp; (try with_reducible rfl)
    try simp only [Act.put, List.setIfInBounds_toArray, List.set_cons_zero, List.set_cons_succ]
    refine held_call (i := 5) rfl (by kernel_rfl) rfl (fun K hK => ?_)
    ((have hEs : Ext (At bm) w1 _ := hHeld); (obtain ⟨w5, hrun, hR5, hE5, hs5⟩ := hdel _ _ (HR1.out.ext (Ext.refl No w1).drew no_no)); go_simp)
    refine hK.out _ _ ?_ (fun hNew => ?_)
    · exact Ext.trans (show Ext (At bm) w1 _ from hHeld) hE5
    clear hK K hHeld
    have hHeld := hNew
    clear hNew
    try simp only [Act.put, List.setIfInBounds_toArray, List.set_cons_zero, List.set_cons_succ]
    have hE6 : Ext (At bm) w1 w5 := hHeld
    refine wpAnyH_done (by kernel_rfl) ?_ _
    go_wp2_with fail
    go_ret
    refine ⟨by first | rw [hb] | simp [hb], Lib.hid (hR5.iff (fun y v => ?_)), (HX.out.transNo HX1.out).ofNo.trans hE6⟩
    simp [hb, keyV]
  | false =>
    simp only at hb
    go_wp2_with fail
    go_ret
    refine ⟨by first | rw [hb] | simp [hb], Lib.hid (HR1.out.iff (fun y v => ?_)), (HX.out.transNo HX1.out).ofNo⟩
    simp [hb]
def DelFn (hB : Key3 → Bool) (bm : Nat) (c1 c2 : Value) (Ok : World → Prop) : Prop :=
  ∀ (x : Key3) (w : World) (R : Value → Value → Prop), KeyOk x → Ok w → MapR Try.prog 68 w bm R → Calls Try.prog 64 #[keyV x, c1, c2] w (Rem1Post hB x bm R w)
end Go.Proofs.Ytfejidihocoboaa

/- Merged: N41 N45 -/
import Derived.Test.YtfejidihocoboaaN39
import Derived.Test.YtfejidihocoboaaN37
import Derived.Test.YtfejidihocoboaaN44
set_option linter.unusedVariables false
set_option linter.unusedSimpArgs false
/- N41 -/
namespace Go.Proofs.Ytfejidihocoboaa
open Go Go.RowKit
theorem two_start {M : Nat → Prop} {B T bm : Nat} {cap : Int} {w : World} (hP : PTab (Lo B) w T cap 0 bm (.slice none 0 0) []) (hB : ∀ b, M b → b < B) (hBw : B ≤ w.heap.size) :
    Two M (w.alloc (.cells #[.int .i64 cap, .slice none 0 0, .int .i64 0] 32)) T w.heap.size cap 0 0 bm (.slice none 0 0) (.slice none 0 0) [] [] := by
  have hx : Ext No w (w.alloc (.cells #[.int .i64 cap, .slice none 0 0, .int .i64 0] 32)) := (Ext.refl _ _).alloc _
  refine ⟨(hP.mono (fun i hi e => ?_)).stepNo hx, ⟨alloc_top rfl, LOwn.nil _ _ _ _, fun b hb e => ?_⟩⟩
  · rcases e with e | e | e
    · exact hB i e
    · omega
    · cases e
  · rcases hb with rfl | hb
    · rcases e with e | e
      · have := hB _ e; omega
      · have := hP.ownLt e; omega
    · cases hb
theorem ab_start {M : Nat → Prop} {B T bm tb : Nat} {cap : Int} {w : World} (hP : PTab (Lo B) w T cap 0 bm (.slice none 0 0) []) (hB : ∀ b, M b → b < B) (hBw : B ≤ w.heap.size) (ht : TapeOk w tb) (hc : 0 ≤ cap) (cs : Array Value) (Ty : TypeId) :
    AB M ((w.alloc (.cells #[.int .i64 cap, .slice none 0 0, .int .i64 0] 32)).alloc (.cells cs Ty)) (TOwn T w.heap.size bm (.slice none 0 0) (.slice none 0 0) []) T w.heap.size tb cap 0 True ((w.alloc (.cells #[.int .i64 cap, .slice none 0 0, .int .i64 0] 32)).alloc (.cells cs Ty)) 0 [] bm (.slice none 0 0) (.slice none 0 0) [] [] :=
  ⟨(two_start hP hB hBw).stepNo ((Ext.refl _ _).alloc _), rfl, rfl, Inv.nil cap hc, fun _ => TickD.nil, ht.ext (((Ext.refl _ _).alloc _).alloc _), Ext.refl _ _, fun b hb => .inl hb⟩
/-- where the pair stands in a box of its own: some pair in the world w -/
def ABx (M : Nat → Prop) (W0 : World) (OW : Nat → Prop) (T D tb : Nat) (cap K : Int) (td : Prop) (w : World) : Prop := ∃ (clk : Int) (es : List Ent) (bm : Nat) (vk v : Value) (L : List PE) (LL : List EV), AB M W0 OW T D tb cap K td w clk es bm vk v L LL
theorem EntPost.own {es : List Ent} {W : World} {e : Ending} {w' : World} (h : EntPost es W e w') : ∃ a c LL, e = .returned (.slice a es.length c) ∧ Hid (LOwn kE (Lo W.heap.size) w' W.heap.size (.slice a es.length c) LL) ∧ Hid (LL.map Prod.fst = es) ∧ Ext No W w' := by
  obtain ⟨v, LL, rfl, h1, h2, h3⟩ := h
  obtain ⟨a, c, rfl⟩ := h1.out.slice
  have hl : LL.length = es.length := by rw [← h2.out, List.length_map]
  rw [hl] at h1 ⊢
  exact ⟨a, c, LL, rfl, h1, h2, h3⟩
theorem mentriesE {M : Nat → Prop} {W : World} {T bm : Nat} {cap clk : Int} {vk : Value} {L : List PE} {es : List Ent} (h : PTab M W T cap clk bm vk L) (he : L.map Prod.fst = es) (hn : es.length ≤ 1000) (hv : ∀ e ∈ es, validB e.s = true) :
    Calls Try.prog 11 #[ptrV T] W (fun e w' => ∃ a c LL, e = .returned (.slice a es.length c) ∧ Hid (LOwn kE (Lo W.heap.size) w' W.heap.size (.slice a es.length c) LL) ∧ Hid (LL.map Prod.fst = es) ∧ Ext No W w') := by
  subst he
  exact (mentries_any h (by simpa using hn) (fun e h2 => hv _ (List.mem_map_of_mem h2))).mono (fun e w' h => h.own)
end Go.Proofs.Ytfejidihocoboaa

/- N45 -/
namespace Go.Proofs.Ytfejidihocoboaa
open Go Go.RowKit
section
variable {M : Nat → Prop} {W : World} {T D bm : Nat} {cap clk : Int} {vk v : Value} {L : List PE} {LL : List EV} {es : List Ent}
theorem mlenE (h : PTab M W T cap clk bm vk L) (he : L.map Prod.fst = es) : Calls Try.prog 18 #[ptrV T] W (fun e w' => e = .returned (.int .i64 (es.length : Int)) ∧ Ext No W w') := by
  subst he
  refine (mlen_any h).mono ?_
  rintro e w' ⟨rfl, rfl⟩
  exact ⟨by rw [List.length_map], Ext.refl _ _⟩
theorem mclockE (h : PTab M W T cap clk bm vk L) : Calls Try.prog 43 #[ptrV T] W (fun e w' => e = .returned (.int .i64 clk) ∧ Ext No W w') := by
  refine (mclock_any h).mono ?_
  rintro e w' ⟨rfl, rfl⟩
  exact ⟨rfl, Ext.refl _ _⟩
theorem mknownE (p q : Int) (h : PTab M W T cap clk bm vk L) (he : L.map Prod.fst = es) (hn : es.length ≤ 1000) (hv : ∀ e ∈ es, validB e.s = true) :
    Calls Try.prog 52 #[ptrV T, .int .i64 p, .int .i64 q] W (KnPost p q es W) := by
  subst he
  exact mknown_any p q h (by simpa using hn) (fun e h2 => hv _ (List.mem_map_of_mem h2))
theorem rknownE (p q : Int) (h : RTab M W D cap clk v LL) (he : LL.map Prod.fst = es) (hn : es.length ≤ 1000) :
    Calls Try.prog 53 #[ptrV D, .int .i64 p, .int .i64 q] W (KnPost p q es W) := by
  subst he
  exact rknown_any p q h (by simpa using hn)
theorem mgetE (x : Key3) (hx : KeyOk x) (h : PTab M W T cap clk bm vk L) (he : L.map Prod.fst = es) (hv : ∀ e ∈ es, validB e.s = true) :
    Calls Try.prog 19 #[ptrV T, .int .i64 x.1, .int .i64 x.2.1, .int .i64 x.2.2] W (GetPost x es W) := by
  subst he
  exact mget_any x hx h (fun e h2 => hv _ (List.mem_map_of_mem h2))
theorem rgetE (x : Key3) (h : RTab M W D cap clk v LL) (he : LL.map Prod.fst = es) (hn : (keysE es).Nodup) :
    Calls Try.prog 54 #[ptrV D, .int .i64 x.1, .int .i64 x.2.1, .int .i64 x.2.2] W (fun e w' => ∃ a c, e = .returned (.tuple #[.agg #[.int .i64 (getE x es).1.width, .slice a (getE x es).1.words.length c], .bool (getE x es).2]) ∧ Hid (WordsAt No w' (.slice a (getE x es).1.words.length c) (getE x es).1.words) ∧ Ext No W w') := by
  subst he
  refine (rget_any x h hn).mono ?_
  rintro e w' ⟨sl, rfl, hw, hx⟩
  obtain ⟨a, c, rfl⟩ := hw.out.slice
  exact ⟨a, c, rfl, hw, hx⟩
theorem mgetR (x : Key3) {gs : RawSet} {gb : Bool} (hr : getE x es = (gs, gb)) (hx : KeyOk x) (h : PTab M W T cap clk bm vk L) (he : L.map Prod.fst = es) (hv : ∀ e ∈ es, validB e.s = true) :
    Calls Try.prog 19 #[ptrV T, .int .i64 x.1, .int .i64 x.2.1, .int .i64 x.2.2] W (fun e w' => ∃ a c, e = .returned (.tuple #[.agg #[.int .i64 gs.width, .slice a gs.words.length c], .bool gb]) ∧ Hid (WordsAt No w' (.slice a gs.words.length c) gs.words) ∧ Ext No W w') := by
  have h1 := mgetE x hx h he hv
  unfold GetPost at h1
  rw [hr] at h1
  refine h1.mono ?_
  rintro e w' ⟨a, c, rfl, hw, hx⟩
  exact ⟨a, c, rfl, Lib.hid (hw.out.mono (fun _ _ e => e.elim)), hx⟩
theorem rgetR (x : Key3) {gs : RawSet} {gb : Bool} (hr : getE x es = (gs, gb)) (h : RTab M W D cap clk v LL) (he : LL.map Prod.fst = es) (hn : (keysE es).Nodup) :
    Calls Try.prog 54 #[ptrV D, .int .i64 x.1, .int .i64 x.2.1, .int .i64 x.2.2] W (fun e w' => ∃ a c, e = .returned (.tuple #[.agg #[.int .i64 gs.width, .slice a gs.words.length c], .bool gb]) ∧ Hid (WordsAt No w' (.slice a gs.words.length c) gs.words) ∧ Ext No W w') := by
  have h1 := rgetE x h he hn
  rw [hr] at h1
  exact h1
set_option maxRecDepth 100000 in
set_option maxHeartbeats 8000000 in
theorem agrees_two {K : Int} (h : Two M W T D cap clk clk bm vk v L LL) (hpe : L.map Prod.fst = es) (hre : LL.map Prod.fst = es) (hI : Inv cap clk K es) (hcap : cap ≤ 19) :
    Calls Try.prog 21 #[.agg #[.pointer (some ⟨T, 0, none⟩), .pointer (some ⟨D, 0, none⟩)]] W (BoolPost true W) := by
  have hx0 : Ext No W (W.alloc (.cells #[.pointer (some ⟨T, 0, none⟩), .pointer (some ⟨D, 0, none⟩)] 34)) := (Ext.refl _ _).alloc _
  have HXV := Lib.hid hx0
  have HB := Lib.hid (alloc_top (w := W) (o := .cells #[.pointer (some ⟨T, 0, none⟩), .pointer (some ⟨D, 0, none⟩)] 34) rfl)
  have HP := Lib.hid (h.p.stepNo hx0)
  have HRT := Lib.hid (h.r.stepNo hx0)
  have HR := Lib.hid HRT.out.list
  have HPE := Lib.hid hpe
  have HRE := Lib.hid hre
  have HI := Lib.hid hI
  obtain ⟨N, hN⟩ : ∃ N, N = es.length := ⟨_, rfl⟩
  have hn19 : N ≤ 19 := by have := hI.len; omega
  have HN := Lib.hid hN
  have hll : LL.length = N := by rw [hN, ← hre, List.length_map]
  obtain ⟨a, c, hsl⟩ := HR.out.slice
  rw [hll] at hsl
  have HD := Lib.hid (show (W.alloc (.cells #[.pointer (some ⟨T, 0, none⟩), .pointer (some ⟨D, 0, none⟩)] 34)).heap[D]? = some (.cells #[.int .i64 cap, .slice a N c, .int .i64 clk] 32 (0, 0)) from by rw [← hsl]; exact HRT.out.box)
  rw [hsl] at HR
  clear h hpe hre hI hx0 hcap hN hll hsl
  go_enter Try.func21, Try.ntmps21
  go_upto_region 1 with (fail)
  generalize (W.alloc (.cells #[.pointer (some ⟨T, 0, none⟩), .pointer (some ⟨D, 0, none⟩)] 34)) = V at *
  generalize W.heap.size = bb at *
  refine wp_region_held_drew (S := (fun w' => Ext No V w')) (by kernel_rfl) ?_ (fun hHeld => ?_)
  · exact (Ext.refl _ _).drew
  have HX0 := Lib.hid (show Ext No V V.drew from (Ext.refl _ _).drew)
  generalize V.drew = v0 at *
  refine held_take (i := 0) (v := ?_) rfl (by kernel_rfl) (by kernel_rfl) (by kernel_rfl) (fun _ _ _ h => h) rfl (fun w hSw => ?_) hHeld ?_
  rotate_left
  · go_simp; (try with_reducible rfl)
  try simp only [Act.put, List.setIfInBounds_toArray, List.set_cons_zero, List.set_cons_succ]
  refine held_take (i := 1) (v := ?_) rfl (by kernel_rfl) (by kernel_rfl) (by kernel_rfl) (fun _ _ _ h => h) rfl (fun w hSw => ?_) hHeld ?_
  rotate_left
  · (have hEs : Ext No V _ := hSw); (have x0 := cellOf (hEs.blk HB.out no_no)); go_simp; (try with_reducible rfl)
  try simp only [Act.put, List.setIfInBounds_toArray, List.set_cons_zero, List.set_cons_succ]
  refine held_take (i := 3) (v := ?_) rfl (by kernel_rfl) (by kernel_rfl) (by kernel_rfl) (fun _ _ _ h => h) rfl (fun w hSw => ?_) hHeld ?_
  rotate_left
  · go_simp; (try with_reducible rfl)
  try simp only [Act.put, List.setIfInBounds_toArray, List.set_cons_zero, List.set_cons_succ]
  refine held_take (i := 4) (v := ?_) rfl (by kernel_rfl) (by kernel_rfl) (by kernel_rfl) (fun _ _ _ h => h) rfl (fun w hSw => ?_) hHeld ?_
  rotate_left
  · (have hEs : Ext No V _ := hSw); (have x0 := cellOf (hEs.blk HB.out no_no)); go_simp; (try with_reducible rfl)
  try simp only [Act.put, List.setIfInBounds_toArray, List.set_cons_zero, List.set_cons_succ]
  refine held_take (i := 5) (v := ?_) rfl (by kernel_rfl) (by kernel_rfl) (by kernel_rfl) (fun _ _ _ h => h) rfl (fun w hSw => ?_) hHeld ?_
  rotate_left
  · go_simp; (try with_reducible rfl)
  try simp only [Act.put, List.setIfInBounds_toArray, List.set_cons_zero, List.set_cons_succ]
  refine held_take (i := 6) (v := ?_) rfl (by kernel_rfl) (by kernel_rfl) (by kernel_rfl) (fun _ _ _ h => h) rfl (fun w hSw => ?_) hHeld ?_
  rotate_left
  · go_simp; (try with_reducible rfl)
  try simp only [Act.put, List.setIfInBounds_toArray, List.set_cons_zero, List.set_cons_succ]
  refine held_take (i := 7) (v := ?_) rfl (by kernel_rfl) (by kernel_rfl) (by kernel_rfl) (fun _ _ _ h => h) rfl (fun w hSw => ?_) hHeld ?_
  rotate_left
  · (have hEs : Ext No V _ := hSw); (have x0 := cellOf (hEs.blk HD.out no_no)); go_simp; (try with_reducible rfl)
  try simp only [Act.put, List.setIfInBounds_toArray, List.set_cons_zero, List.set_cons_succ]
  refine held_call (i := 2) rfl (by kernel_rfl) rfl (fun K hK => ?_)
  (go_simp; go_at_call 11; (refine (mentriesE (HP.out.stepNo HX0.out) HPE.out (by have := HN.out; omega) HI.out.val).mono ?_); (rintro q1 w1 ⟨a1, c1, LL1, rfl, ho1, hl1, hyA⟩); go_simp)
  refine hK.out _ _ ?_ (fun hNew => ?_)
  · exact HX0.out.transNo hyA
  clear hK K hHeld
  have hHeld := hNew
  clear hNew
  rw [← HN.out] at ho1 ⊢
  have HA1 := Lib.hid (ho1.out.list2 (M := No) (fun _ _ e => e) (fun _ e => e.elim))
  have HL1 := Lib.hid hl1.out
  clear ho1 hl1
  have HX1 := Lib.hid (HX0.out.transNo hyA)
  clear hyA
  try simp only [Act.put, List.setIfInBounds_toArray, List.set_cons_zero, List.set_cons_succ]
  refine held_call (i := 8) rfl (by kernel_rfl) rfl (fun K hK => ?_)
  (go_simp; go_at_call 50; (refine (rsameE_any _ HA1.out (HR.out.extNo HX1.out) (HL1.out.trans HRE.out.symm)).mono ?_); (rintro q2 w2 ⟨rfl, hyA⟩); go_simp)
  refine hK.out _ _ ?_ (fun hNew => ?_)
  · exact HX1.out.transNo hyA
  clear hK K hHeld
  have hHeld := hNew
  clear hNew
  have HX2 := Lib.hid (HX1.out.transNo hyA)
  clear hyA
  try simp only [Act.put, List.setIfInBounds_toArray, List.set_cons_zero, List.set_cons_succ]
  refine held_take (i := 9) (v := ?_) rfl (by kernel_rfl) (by kernel_rfl) (by kernel_rfl) (fun _ _ _ h => h) rfl (fun w hSw => ?_) hHeld ?_
  rotate_left
  · go_simp; (try with_reducible rfl)
  try simp only [Act.put, List.setIfInBounds_toArray, List.set_cons_zero, List.set_cons_succ]
  refine held_take (i := 10) (v := ?_) rfl (by kernel_rfl) (by kernel_rfl) (by kernel_rfl) (fun _ _ _ h => h) rfl (fun w hSw => ?_) hHeld ?_
  rotate_left
  · go_simp; (try with_reducible rfl)
  try simp only [Act.put, List.setIfInBounds_toArray, List.set_cons_zero, List.set_cons_succ]
  refine held_take (i := 11) (v := ?_) rfl (by kernel_rfl) (by kernel_rfl) (by kernel_rfl) (fun _ _ _ h => h) rfl (fun w hSw => ?_) hHeld ?_
  rotate_left
  · go_simp; (try with_reducible rfl)
  try simp only [Act.put, List.setIfInBounds_toArray, List.set_cons_zero, List.set_cons_succ]
  refine held_take (i := 12) (v := ?_) rfl (by kernel_rfl) (by kernel_rfl) (by kernel_rfl) (fun _ _ _ h => h) rfl (fun w hSw => ?_) hHeld ?_
  rotate_left
  · (have hEs : Ext No V _ := hSw); (have x0 := cellOf (hEs.blk HB.out no_no)); go_simp; (try with_reducible rfl)
  try simp only [Act.put, List.setIfInBounds_toArray, List.set_cons_zero, List.set_cons_succ]
  refine held_take (i := 14) (v := ?_) rfl (by kernel_rfl) (by kernel_rfl) (by kernel_rfl) (fun _ _ _ h => h) rfl (fun w hSw => ?_) hHeld ?_
  rotate_left
  · go_simp; (try with_reducible rfl)
  try simp only [Act.put, List.setIfInBounds_toArray, List.set_cons_zero, List.set_cons_succ]
  refine held_take (i := 15) (v := ?_) rfl (by kernel_rfl) (by kernel_rfl) (by kernel_rfl) (fun _ _ _ h => h) rfl (fun w hSw => ?_) hHeld ?_
  rotate_left
  · (have hEs : Ext No V _ := hSw); (have x0 := cellOf (hEs.blk HB.out no_no)); go_simp; (try with_reducible rfl)
  try simp only [Act.put, List.setIfInBounds_toArray, List.set_cons_zero, List.set_cons_succ]
  refine held_take (i := 16) (v := ?_) rfl (by kernel_rfl) (by kernel_rfl) (by kernel_rfl) (fun _ _ _ h => h) rfl (fun w hSw => ?_) hHeld ?_
  rotate_left
  · go_simp; (try with_reducible rfl)
  try simp only [Act.put, List.setIfInBounds_toArray, List.set_cons_zero, List.set_cons_succ]
  refine held_take (i := 17) (v := ?_) rfl (by kernel_rfl) (by kernel_rfl) (by kernel_rfl) (fun _ _ _ h => h) rfl (fun w hSw => ?_) hHeld ?_
  rotate_left
  · go_simp; (try with_reducible rfl)
  try simp only [Act.put, List.setIfInBounds_toArray, List.set_cons_zero, List.set_cons_succ]
  refine held_take (i := 18) (v := ?_) rfl (by kernel_rfl) (by kernel_rfl) (by kernel_rfl) (fun _ _ _ h => h) rfl (fun w hSw => ?_) hHeld ?_
  rotate_left
  · (have hEs : Ext No V _ := hSw); (have x0 := cellOf (hEs.blk HD.out no_no)); go_simp; (try with_reducible rfl)
  try simp only [Act.put, List.setIfInBounds_toArray, List.set_cons_zero, List.set_cons_succ]
  refine held_take (i := 19) (v := ?_) rfl (by kernel_rfl) (by kernel_rfl) (by kernel_rfl) (fun _ _ _ h => h) rfl (fun w hSw => ?_) hHeld ?_
  rotate_left
  · go_simp; (try with_reducible rfl)
  try simp only [Act.put, List.setIfInBounds_toArray, List.set_cons_zero, List.set_cons_succ]
  refine held_call (i := 13) rfl (by kernel_rfl) rfl (fun K hK => ?_)
  (go_simp; go_at_call 18; (refine (mlenE (HP.out.stepNo HX2.out) HPE.out).mono ?_); (rintro q3 w3 ⟨rfl, hyA⟩); go_simp)
  refine hK.out _ _ ?_ (fun hNew => ?_)
  · exact HX2.out.transNo hyA
  clear hK K hHeld
  have hHeld := hNew
  clear hNew
  rw [← HN.out]
  have HX3 := Lib.hid (HX2.out.transNo hyA)
  clear hyA
  try simp only [Act.put, List.setIfInBounds_toArray, List.set_cons_zero, List.set_cons_succ]
  refine held_take (i := 20) (v := ?_) rfl (by kernel_rfl) (by kernel_rfl) (by kernel_rfl) (fun _ _ _ h => h) rfl (fun w hSw => ?_) hHeld ?_
  rotate_left
  · go_simp; (try with_reducible rfl)
  try simp only [Act.put, List.setIfInBounds_toArray, List.set_cons_zero, List.set_cons_succ]
  refine held_take (i := 21) (v := ?_) rfl (by kernel_rfl) (by kernel_rfl) (by kernel_rfl) (fun _ _ _ h => h) rfl (fun w hSw => ?_) hHeld ?_
  rotate_left
  · go_simp; (try with_reducible rfl)
  try simp only [Act.put, List.setIfInBounds_toArray, List.set_cons_zero, List.set_cons_succ]
  refine held_take (i := 22) (v := ?_) rfl (by kernel_rfl) (by kernel_rfl) (by kernel_rfl) (fun _ _ _ h => h) rfl (fun w hSw => ?_) hHeld ?_
  rotate_left
  · go_simp; (try with_reducible rfl)
  try simp only [Act.put, List.setIfInBounds_toArray, List.set_cons_zero, List.set_cons_succ]
  refine held_take (i := 23) (v := ?_) rfl (by kernel_rfl) (by kernel_rfl) (by kernel_rfl) (fun _ _ _ h => h) rfl (fun w hSw => ?_) hHeld ?_
  rotate_left
  · go_simp; (try with_reducible rfl)
  try simp only [Act.put, List.setIfInBounds_toArray, List.set_cons_zero, List.set_cons_succ]
  refine held_take (i := 24) (v := ?_) rfl (by kernel_rfl) (by kernel_rfl) (by kernel_rfl) (fun _ _ _ h => h) rfl (fun w hSw => ?_) hHeld ?_
  rotate_left
  · (have hEs : Ext No V _ := hSw); (have x0 := cellOf (hEs.blk HB.out no_no)); go_simp; (try with_reducible rfl)
  try simp only [Act.put, List.setIfInBounds_toArray, List.set_cons_zero, List.set_cons_succ]
  refine held_take (i := 26) (v := ?_) rfl (by kernel_rfl) (by kernel_rfl) (by kernel_rfl) (fun _ _ _ h => h) rfl (fun w hSw => ?_) hHeld ?_
  rotate_left
  · go_simp; (try with_reducible rfl)
  try simp only [Act.put, List.setIfInBounds_toArray, List.set_cons_zero, List.set_cons_succ]
  refine held_take (i := 27) (v := ?_) rfl (by kernel_rfl) (by kernel_rfl) (by kernel_rfl) (fun _ _ _ h => h) rfl (fun w hSw => ?_) hHeld ?_
  rotate_left
  · (have hEs : Ext No V _ := hSw); (have x0 := cellOf (hEs.blk HB.out no_no)); go_simp; (try with_reducible rfl)
  try simp only [Act.put, List.setIfInBounds_toArray, List.set_cons_zero, List.set_cons_succ]
  refine held_take (i := 28) (v := ?_) rfl (by kernel_rfl) (by kernel_rfl) (by kernel_rfl) (fun _ _ _ h => h) rfl (fun w hSw => ?_) hHeld ?_
  rotate_left
  · go_simp; (try with_reducible rfl)
  try simp only [Act.put, List.setIfInBounds_toArray, List.set_cons_zero, List.set_cons_succ]
  refine held_take (i := 29) (v := ?_) rfl (by kernel_rfl) (by kernel_rfl) (by kernel_rfl) (fun _ _ _ h => h) rfl (fun w hSw => ?_) hHeld ?_
  rotate_left
  · go_simp; (try with_reducible rfl)
  try simp only [Act.put, List.setIfInBounds_toArray, List.set_cons_zero, List.set_cons_succ]
  refine held_take (i := 30) (v := ?_) rfl (by kernel_rfl) (by kernel_rfl) (by kernel_rfl) (fun _ _ _ h => h) rfl (fun w hSw => ?_) hHeld ?_
  rotate_left
  · (have hEs : Ext No V _ := hSw); (have x0 := cellOf (hEs.blk HD.out no_no)); go_simp; (try with_reducible rfl)
  try simp only [Act.put, List.setIfInBounds_toArray, List.set_cons_zero, List.set_cons_succ]
  refine held_call (i := 25) rfl (by kernel_rfl) rfl (fun K hK => ?_)
  (go_simp; go_at_call 43; (refine (mclockE (HP.out.stepNo HX3.out)).mono ?_); (rintro q4 w4 ⟨rfl, hyA⟩); go_simp)
  refine hK.out _ _ ?_ (fun hNew => ?_)
  · exact HX3.out.transNo hyA
  clear hK K hHeld
  have hHeld := hNew
  clear hNew
  have HX4 := Lib.hid (HX3.out.transNo hyA)
  clear hyA
  try simp only [Act.put, List.setIfInBounds_toArray, List.set_cons_zero, List.set_cons_succ]
  refine held_take (i := 31) (v := ?_) rfl (by kernel_rfl) (by kernel_rfl) (by kernel_rfl) (fun _ _ _ h => h) rfl (fun w hSw => ?_) hHeld ?_
  rotate_left
  · go_simp; (try with_reducible rfl)
  try simp only [Act.put, List.setIfInBounds_toArray, List.set_cons_zero, List.set_cons_succ]
  refine held_take (i := 32) (v := ?_) rfl (by kernel_rfl) (by kernel_rfl) (by kernel_rfl) (fun _ _ _ h => h) rfl (fun w hSw => ?_) hHeld ?_
  rotate_left
  · go_simp; (try with_reducible rfl)
  try simp only [Act.put, List.setIfInBounds_toArray, List.set_cons_zero, List.set_cons_succ]
  refine wpAnyH_done (by kernel_rfl) ?_ _
  clear hHeld
  have HXW := Lib.hid (HXV.out.transNo HX4.out)
  have HP4 := Lib.hid (HP.out.stepNo HX4.out)
  have HR4 := Lib.hid (HRT.out.stepNo HX4.out)
  have HB4 := Lib.hid (HX4.out.blk HB.out no_no)
  clear HA1 HL1 HX0 HX1 HX2 HX3 HX4 HP HRT HB HD HR HXV
  go_wp2_with fail
  go_loopw [3, 4, 5, 6, 7, 8] (fun s3 s4 s5 s6 s7 s8 wr => ∃ p : Nat, s3 = .int .i64 p ∧ p ≤ 2 ∧ Hid (Ext No w4 wr)) (fun s3 _ _ _ _ _ _ => 2 - (intOf s3).toNat)
  case atStart => exact ⟨0, rfl, by omega, Lib.hid (Ext.refl _ _)⟩
  case round =>
    obtain ⟨p, rfl, hp, hx⟩ := hrel
    rename World => wp
    by_cases hlt : p < 2
    · have hpz : (p : Int) < 2 := by omega
      have HPP : Hid (Value.int .i64 ((p : Int) + 1) = .int .i64 ((p + 1 : Nat) : Int)) := Lib.hid (by rw [show ((p + 1 : Nat) : Int) = (p : Int) + 1 from by omega])
      go_wp2_with fail
      go_loopw [4, 5, 6, 7, 8] (fun s4 s5 s6 s7 s8 wr => ∃ k : Nat, s4 = .int .i64 k ∧ k ≤ 3 ∧ Hid (Ext No w4 wr)) (fun s4 _ _ _ _ _ => 3 - (intOf s4).toNat)
      case atStart => exact ⟨0, rfl, by omega, hx⟩
      case round =>
        clear hx
        obtain ⟨k, rfl, hk, hx⟩ := hrel
        rename World => wi
        by_cases hlt2 : k < 3
        · have hkz : (k : Int) < 3 := by omega
          have HKK : Hid (Value.int .i64 ((k : Int) + 1) = .int .i64 ((k + 1 : Nat) : Int)) := Lib.hid (by rw [show ((k + 1 : Nat) : Int) = (k : Int) + 1 from by omega])
          have HPi := Lib.hid (HP4.out.stepNo hx.out)
          have HRi := Lib.hid (HR4.out.stepNo hx.out)
          have HBi := Lib.hid (hx.out.blk HB4.out no_no)
          go_upto_region 9 with (fail)
          refine wp_region_held_drew (S := (fun w' => Ext No wi w')) (by kernel_rfl) ?_ (fun hHeld => ?_)
          · exact (Ext.refl _ _).drew
          have HX0 := Lib.hid (show Ext No wi wi.drew from (Ext.refl _ _).drew)
          generalize wi.drew = v0 at *
          refine held_take (i := 0) (v := ?_) rfl (by kernel_rfl) (by kernel_rfl) (by kernel_rfl) (fun _ _ _ h => h) rfl (fun w hSw => ?_) hHeld ?_
          rotate_left
          · go_simp; (try with_reducible rfl)
          try simp only [Act.put, List.setIfInBounds_toArray, List.set_cons_zero, List.set_cons_succ]
          refine held_take (i := 1) (v := ?_) rfl (by kernel_rfl) (by kernel_rfl) (by kernel_rfl) (fun _ _ _ h => h) rfl (fun w hSw => ?_) hHeld ?_
          rotate_left
          · (have hEs : Ext No wi _ := hSw); (have x0 := cellOf (hEs.blk HBi.out no_no)); go_simp; (try with_reducible rfl)
          try simp only [Act.put, List.setIfInBounds_toArray, List.set_cons_zero, List.set_cons_succ]
          refine held_take (i := 2) (v := ?_) rfl (by kernel_rfl) (by kernel_rfl) (by kernel_rfl) (fun _ _ _ h => h) rfl (fun w hSw => ?_) hHeld ?_
          rotate_left
          · go_simp; (try with_reducible rfl)
          try simp only [Act.put, List.setIfInBounds_toArray, List.set_cons_zero, List.set_cons_succ]
          refine held_take (i := 3) (v := ?_) rfl (by kernel_rfl) (by kernel_rfl) (by kernel_rfl) (fun _ _ _ h => h) rfl (fun w hSw => ?_) hHeld ?_
          rotate_left
          · go_simp; (try with_reducible rfl)
          try simp only [Act.put, List.setIfInBounds_toArray, List.set_cons_zero, List.set_cons_succ]
          refine held_take (i := 5) (v := ?_) rfl (by kernel_rfl) (by kernel_rfl) (by kernel_rfl) (fun _ _ _ h => h) rfl (fun w hSw => ?_) hHeld ?_
          rotate_left
          · go_simp; (try with_reducible rfl)
          try simp only [Act.put, List.setIfInBounds_toArray, List.set_cons_zero, List.set_cons_succ]
          refine held_take (i := 6) (v := ?_) rfl (by kernel_rfl) (by kernel_rfl) (by kernel_rfl) (fun _ _ _ h => h) rfl (fun w hSw => ?_) hHeld ?_
          rotate_left
          · (have hEs : Ext No wi _ := hSw); (have x0 := cellOf (hEs.blk HBi.out no_no)); go_simp; (try with_reducible rfl)
          try simp only [Act.put, List.setIfInBounds_toArray, List.set_cons_zero, List.set_cons_succ]
          refine held_take (i := 7) (v := ?_) rfl (by kernel_rfl) (by kernel_rfl) (by kernel_rfl) (fun _ _ _ h => h) rfl (fun w hSw => ?_) hHeld ?_
          rotate_left
          · go_simp; (try with_reducible rfl)
          try simp only [Act.put, List.setIfInBounds_toArray, List.set_cons_zero, List.set_cons_succ]
          refine held_take (i := 8) (v := ?_) rfl (by kernel_rfl) (by kernel_rfl) (by kernel_rfl) (fun _ _ _ h => h) rfl (fun w hSw => ?_) hHeld ?_
          rotate_left
          · go_simp; (try with_reducible rfl)
          try simp only [Act.put, List.setIfInBounds_toArray, List.set_cons_zero, List.set_cons_succ]
          refine held_call (i := 4) rfl (by kernel_rfl) rfl (fun K hK => ?_)
          (go_simp; go_at_call 52; (refine (mknownE (p : Int) (k : Int) (HPi.out.stepNo HX0.out) HPE.out (by have := HN.out; omega) HI.out.val).mono ?_); (rintro q1 w1 ⟨v1, K1, rfl, hk1, hm1, hyA⟩); go_simp)
          refine hK.out _ _ ?_ (fun hNew => ?_)
          · exact HX0.out.transNo hyA
          clear hK K hHeld
          have hHeld := hNew
          clear hNew
          have HK1 := Lib.hid hk1.out
          have HM1 := Lib.hid hm1.out
          clear hk1 hm1
          have HX1 := Lib.hid (HX0.out.transNo hyA)
          clear hyA
          try simp only [Act.put, List.setIfInBounds_toArray, List.set_cons_zero, List.set_cons_succ]
          refine held_call (i := 9) rfl (by kernel_rfl) rfl (fun K hK => ?_)
          (go_simp; go_at_call 53; (refine (rknownE (p : Int) (k : Int) (HRi.out.stepNo HX1.out) HRE.out (by have := HN.out; omega)).mono ?_); (rintro q2 w2 ⟨v2, K2, rfl, hk2, hm2, hyA⟩); go_simp)
          refine hK.out _ _ ?_ (fun hNew => ?_)
          · exact HX1.out.transNo hyA
          clear hK K hHeld
          have hHeld := hNew
          clear hNew
          have HK2 := Lib.hid hk2.out
          have HM2 := Lib.hid hm2.out
          have HK1b := Lib.hid (HK1.out.extNo hyA)
          clear hk2 hm2
          have HX2 := Lib.hid (HX1.out.transNo hyA)
          clear hyA
          try simp only [Act.put, List.setIfInBounds_toArray, List.set_cons_zero, List.set_cons_succ]
          refine held_call (i := 10) rfl (by kernel_rfl) rfl (fun K hK => ?_)
          (go_simp; go_at_call 51; (refine (rsameK_any _ HK1b.out HK2.out (HM1.out.trans HM2.out.symm)).mono ?_); (rintro q3 w3 ⟨rfl, hyA⟩); go_simp)
          refine hK.out _ _ ?_ (fun hNew => ?_)
          · exact HX2.out.transNo hyA
          clear hK K hHeld
          have hHeld := hNew
          clear hNew
          have HX3 := Lib.hid (HX2.out.transNo hyA)
          clear hyA
          try simp only [Act.put, List.setIfInBounds_toArray, List.set_cons_zero, List.set_cons_succ]
          refine held_take (i := 11) (v := ?_) rfl (by kernel_rfl) (by kernel_rfl) (by kernel_rfl) (fun _ _ _ h => h) rfl (fun w hSw => ?_) hHeld ?_
          rotate_left
          · go_simp; (try with_reducible rfl)
          try simp only [Act.put, List.setIfInBounds_toArray, List.set_cons_zero, List.set_cons_succ]
          refine wpAnyH_done (by kernel_rfl) ?_ _
          clear hHeld
          have HXn := Lib.hid (hx.out.transNo HX3.out)
          have HPn := Lib.hid (HPi.out.stepNo HX3.out)
          have HRn := Lib.hid (HRi.out.stepNo HX3.out)
          have HBn := Lib.hid (HX3.out.blk HBi.out no_no)
          clear HK1 HM1 HK2 HM2 HK1b HX0 HX1 HX2 HX3 HPi HRi HBi hx
          obtain ⟨⟨gs, gb⟩, hgr⟩ : ∃ r, getE ((p : Int), (k : Int), 1) es = r := ⟨_, rfl⟩
          have HGR := Lib.hid hgr
          have HKO := Lib.hid (show KeyOk ((p : Int), (k : Int), 1) from by unfold KeyOk; simp only; omega)
          have eg : (gb != gb) = false := by simp
          have cBn := cellOf HBn.out
          clear hgr
          go_upto_region 12 with (go_at_call 19; (refine (mgetR ((p : Int), (k : Int), 1) HGR.out HKO.out HPn.out HPE.out HI.out.val).mono ?_); (rintro q5 w5 ⟨ga, gc, rfl, hg5, hx5⟩))
          have hya := (Ext.refl No w5).alloc (.cells #[.int .i64 gs.width, .slice ga gs.words.length gc] 40)
          have HS1 := Lib.hid (alloc_top (w := w5) (o := .cells #[.int .i64 gs.width, .slice ga gs.words.length gc] 40) rfl)
          have HG5 := Lib.hid (hg5.out.extNo hya)
          have HX5 := Lib.hid (hx5.transNo hya)
          have HR5 := Lib.hid (HRn.out.stepNo HX5.out)
          have cBn := cellOf (HX5.out.blk HBn.out no_no)
          clear hya hg5 hx5 HRn HPn
          generalize (w5.alloc (.cells #[.int .i64 gs.width, .slice ga gs.words.length gc] 40)) = w5b at *
          generalize w5.heap.size = sb1 at *
          go_upto_region 13 with (go_at_call 54; (refine (rgetR ((p : Int), (k : Int), 1) HGR.out HR5.out HRE.out HI.out.nodup).mono ?_); (rintro q6 w6 ⟨ra, rc, rfl, hg6, hx6⟩))
          have hya := (Ext.refl No w6).alloc (.cells #[.int .i64 gs.width, .slice ra gs.words.length rc] 40)
          have cS2 := cellOf (alloc_top (w := w6) (o := .cells #[.int .i64 gs.width, .slice ra gs.words.length rc] 40) rfl)
          have cS1 := cellOf (hya.blk (hx6.blk HS1.out no_no) no_no)
          have HG6 := Lib.hid (hg6.out.extNo hya)
          have HG5b := Lib.hid ((HG5.out.extNo hx6).extNo hya)
          have HX6 := Lib.hid ((HX5.out.transNo hx6).transNo hya)
          clear hya hg6 hx6 HR5 HG5 cBn
          generalize (w6.alloc (.cells #[.int .i64 gs.width, .slice ra gs.words.length rc] 40)) = w6b at *
          generalize w6.heap.size = sb2 at *
          go_wp2_with fail
          refine (rsame_any gs gs _ _ _ ⟨_, rfl, HG5b.out⟩ ⟨_, rfl, HG6.out⟩).mono ?_
          rintro q7 w7 ⟨rfl, hx7⟩
          rw [show sameB gs gs = true from decide_eq_true ⟨rfl, rfl⟩]
          go_wp2_with fail
          go_roundw
          case rel => exact ⟨k + 1, HKK.out, hlt2, Lib.hid ((HXn.out.transNo HX6.out).transNo hx7)⟩
          case measure => simp [intOf]; omega
        · have hge2 : ¬ (k : Int) < 3 := by omega
          go_wp2_with fail
          go_roundw
          case rel => exact ⟨p + 1, HPP.out, hlt, hx⟩
          case measure => simp [intOf]; omega
    · have hge : ¬ (p : Int) < 2 := by omega
      go_wp2_with fail
      go_ret
      exact ⟨rfl, HXW.out.transNo hx.out⟩
end
end Go.Proofs.Ytfejidihocoboaa

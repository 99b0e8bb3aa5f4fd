/- Copy of the memo table, and of the reference's. -/
import Derived.Test.YtfejidihocoboaaN48
import Derived.Test.YtfejidihocoboaaN31
set_option linter.unusedVariables false
set_option linter.unusedSimpArgs false
namespace Go.Proofs.Ytfejidihocoboaa
open Go Go.RowKit
def CopyPost (cap clk : Int) (es : List Ent) (W : World) (e : Ending) (w' : World) : Prop := ∃ T bm vk L, e = .returned (ptrV T) ∧ Hid (PTab (Lo W.heap.size) w' T cap clk bm vk L) ∧ Hid (L.map Prod.fst = es) ∧ Ext No W w'
theorem mentriesE2 {M : Nat → Prop} {W : World} {T bm : Nat} {cap clk : Int} {vk : Value} {L : List PE} {es : List Ent} (h : PTab M W T cap clk bm vk L) (he : L.map Prod.fst = es) (hn : L.length ≤ 1000) (hv : ∀ e ∈ es, validB e.s = true) :
    Calls Try.prog 11 #[ptrV T] W (EntPost es W) := by
  subst he
  exact mentries_any h hn (fun e he => hv _ (List.mem_map_of_mem he))
set_option maxRecDepth 100000 in
set_option maxHeartbeats 4000000 in
theorem mcopy_any {M : Nat → Prop} {W : World} {T bm : Nat} {cap clk K : Int} {vk : Value} {L : List PE} {es : List Ent} (h : PTab M W T cap clk bm vk L) (he : L.map Prod.fst = es) (hi : Inv cap clk K es) (hc : cap ≤ 512) (hK : K ≤ 1073741824) :
    Calls Try.prog 25 #[ptrV T] W (CopyPost cap clk es W) := by
  have H := Lib.hid h
  have HPE := Lib.hid he
  have HGOOD := Lib.hid (inv_good hi hc hK)
  have HV := Lib.hid hi.val
  have HKO := Lib.hid (fun e he => (hi.key e he).1)
  have HN := Lib.hid (show L.length ≤ 512 from by have h1 := hi.len; have h2 := congrArg List.length he; rw [List.length_map] at h2; omega)
  have HB := Lib.hid h.t.box
  obtain ⟨ka, kc, hks⟩ := h.t.keys.slice
  rw [hks] at HB
  have hpt : ptrV T = .pointer (some ⟨T, 0, none⟩) := rfl
  clear h he hi hks
  rw [hpt]
  clear hpt
  go_enter Try.func25, Try.ntmps25
  go_upto_region 1 with (fail)
  refine wp_region_held_drew (S := (fun w' => Ext No W w')) (by kernel_rfl) ?_ (fun hHeld => ?_)
  · exact (Ext.refl _ _).drew
  have HE := Lib.hid (show Ext No W W.drew from (Ext.refl _ _).drew)
  generalize W.drew = v0 at *
  refine held_take (i := 0) (v := ?_) rfl (by kernel_rfl) (by kernel_rfl) (by kernel_rfl) (fun _ _ _ h => h) rfl (fun w hSw => ?_) hHeld ?_
  rotate_left
  · go_simp; (try with_reducible rfl)
  try simp only [Act.put, List.setIfInBounds_toArray, List.set_cons_zero, List.set_cons_succ]
  refine held_take (i := 1) (v := ?_) rfl (by kernel_rfl) (by kernel_rfl) (by kernel_rfl) (fun _ _ _ h => h) rfl (fun w hSw => ?_) hHeld ?_
  rotate_left
  · go_simp; (try with_reducible rfl)
  try simp only [Act.put, List.setIfInBounds_toArray, List.set_cons_zero, List.set_cons_succ]
  refine held_take (i := 2) (v := ?_) rfl (by kernel_rfl) (by kernel_rfl) (by kernel_rfl) (fun _ _ _ h => h) rfl (fun w hSw => ?_) hHeld ?_
  rotate_left
  · go_simp; (try with_reducible rfl)
  try simp only [Act.put, List.setIfInBounds_toArray, List.set_cons_zero, List.set_cons_succ]
  refine held_take (i := 3) (v := ?_) rfl (by kernel_rfl) (by kernel_rfl) (by kernel_rfl) (fun _ _ _ h => h) rfl (fun w hSw => ?_) hHeld ?_
  rotate_left
  · (have hEs : Ext No W _ := hSw); (have x0 := cellOf (hEs.blk HB.out no_no)); go_simp; (try with_reducible rfl)
  try simp only [Act.put, List.setIfInBounds_toArray, List.set_cons_zero, List.set_cons_succ]
  refine held_take (i := 4) (v := ?_) rfl (by kernel_rfl) (by kernel_rfl) (by kernel_rfl) (fun _ _ _ h => h) rfl (fun w hSw => ?_) hHeld ?_
  rotate_left
  · go_simp; (try with_reducible rfl)
  try simp only [Act.put, List.setIfInBounds_toArray, List.set_cons_zero, List.set_cons_succ]
  refine held_take (i := 6) (v := ?_) rfl (by kernel_rfl) (by kernel_rfl) (by kernel_rfl) (fun _ _ _ h => h) rfl (fun w hSw => ?_) hHeld ?_
  rotate_left
  · go_simp; (try with_reducible rfl)
  try simp only [Act.put, List.setIfInBounds_toArray, List.set_cons_zero, List.set_cons_succ]
  refine held_take (i := 7) (v := ?_) rfl (by kernel_rfl) (by kernel_rfl) (by kernel_rfl) (fun _ _ _ h => h) rfl (fun w hSw => ?_) hHeld ?_
  rotate_left
  · go_simp; (try with_reducible rfl)
  try simp only [Act.put, List.setIfInBounds_toArray, List.set_cons_zero, List.set_cons_succ]
  refine held_take (i := 8) (v := ?_) rfl (by kernel_rfl) (by kernel_rfl) (by kernel_rfl) (fun _ _ _ h => h) rfl (fun w hSw => ?_) hHeld ?_
  rotate_left
  · go_simp; (try with_reducible rfl)
  try simp only [Act.put, List.setIfInBounds_toArray, List.set_cons_zero, List.set_cons_succ]
  refine held_take (i := 9) (v := ?_) rfl (by kernel_rfl) (by kernel_rfl) (by kernel_rfl) (fun _ _ _ h => h) rfl (fun w hSw => ?_) hHeld ?_
  rotate_left
  · (have hEs : Ext No W _ := hSw); (have x0 := cellOf (hEs.blk HB.out no_no)); go_simp; (try with_reducible rfl)
  try simp only [Act.put, List.setIfInBounds_toArray, List.set_cons_zero, List.set_cons_succ]
  refine held_call (i := 5) rfl (by kernel_rfl) rfl (fun K hK => ?_)
  (go_simp; go_at_call 11; (refine (mentriesE2 (H.out.stepNo HE.out) HPE.out (by have := HN.out; omega) HV.out).mono ?_); (rintro q1 w1 ⟨v1, LL, rfl, hO1, hm1, hyA⟩); go_simp)
  refine hK.out _ _ ?_ (fun hNew => ?_)
  · exact HE.out.transNo hyA
  clear hK K hHeld
  have hHeld := hNew
  clear hNew
  have HE1 := Lib.hid (HE.out.transNo hyA)
  have HL1 := Lib.hid (hO1.out.list2 (M := No) (fun _ _ e => e) (fun _ e => e.elim))
  have HM1 := Lib.hid hm1.out
  clear hyA hO1 hm1
  try simp only [Act.put, List.setIfInBounds_toArray, List.set_cons_zero, List.set_cons_succ]
  refine held_call (i := 10) rfl (by kernel_rfl) rfl (fun K hK => ?_)
  (go_simp; go_at_call 23; (refine (mrestore_any cap clk w1 HL1.out (fun p hp => (HKO.out p.1 (by rw [← HM1.out]; exact List.mem_map_of_mem hp)))).mono ?_); (rintro q2 w2 ⟨-, hok, hyA⟩); (obtain ⟨T2, bm2, vk2, L2, rfl, hP2, hL2⟩ := hok (by rw [HM1.out]; exact HGOOD.out)); (unfold ptrV); go_simp)
  refine hK.out _ _ ?_ (fun hNew => ?_)
  · exact HE1.out.transNo hyA
  clear hK K hHeld
  have hHeld := hNew
  clear hNew
  have HE2 := Lib.hid (HE1.out.transNo hyA)
  have HSZ := Lib.hid HE1.out.size
  have HP2 := Lib.hid hP2.out
  have HL2 := Lib.hid (hL2.out.trans HM1.out)
  clear hyA hP2 hL2 hok
  try simp only [Act.put, List.setIfInBounds_toArray, List.set_cons_zero, List.set_cons_succ]
  refine held_take (i := 11) (v := ?_) rfl (by kernel_rfl) (by kernel_rfl) (by kernel_rfl) (fun _ _ _ h => h) rfl (fun w hSw => ?_) hHeld ?_
  rotate_left
  · go_simp; (try with_reducible rfl)
  try simp only [Act.put, List.setIfInBounds_toArray, List.set_cons_zero, List.set_cons_succ]
  refine held_take (i := 12) (v := ?_) rfl (by kernel_rfl) (by kernel_rfl) (by kernel_rfl) (fun _ _ _ h => h) rfl (fun w hSw => ?_) hHeld ?_
  rotate_left
  · go_simp; (try with_reducible rfl)
  try simp only [Act.put, List.setIfInBounds_toArray, List.set_cons_zero, List.set_cons_succ]
  refine held_take (i := 13) (v := ?_) rfl (by kernel_rfl) (by kernel_rfl) (by kernel_rfl) (fun _ _ _ h => h) rfl (fun w hSw => ?_) hHeld ?_
  rotate_left
  · go_simp; (try with_reducible rfl)
  try simp only [Act.put, List.setIfInBounds_toArray, List.set_cons_zero, List.set_cons_succ]
  refine held_take (i := 14) (v := ?_) rfl (by kernel_rfl) (by kernel_rfl) (by kernel_rfl) (fun _ _ _ h => h) rfl (fun w hSw => ?_) hHeld ?_
  rotate_left
  · go_simp; (try with_reducible rfl)
  try simp only [Act.put, List.setIfInBounds_toArray, List.set_cons_zero, List.set_cons_succ]
  refine held_take (i := 15) (v := ?_) rfl (by kernel_rfl) (by kernel_rfl) (by kernel_rfl) (fun _ _ _ h => h) rfl (fun w hSw => ?_) hHeld ?_
  rotate_left
  · go_simp; (try with_reducible rfl)
  try simp only [Act.put, List.setIfInBounds_toArray, List.set_cons_zero, List.set_cons_succ]
  refine wpAnyH_done (by kernel_rfl) ?_ _
  clear hHeld
  go_wp2_with fail
  go_ret
  exact ⟨T2, bm2, vk2, L2, rfl, Lib.hid (HP2.out.mono (fun i _ e => by have h1 := HSZ.out; unfold Lo at e ⊢; omega)), HL2, HE2.out⟩
def RCopyPost (M : Nat → Prop) (cap clk : Int) (LL : List EV) (W : World) (e : Ending) (w' : World) : Prop := ∃ D v, e = .returned (ptrV D) ∧ Hid (RTab M w' D cap clk v LL) ∧ Hid (∀ b, ROwnT D v b → W.heap.size ≤ b) ∧ Ext No W w'
set_option maxRecDepth 100000 in
set_option maxHeartbeats 4000000 in
theorem rcopy_any {M : Nat → Prop} {W : World} {D : Nat} {cap clk : Int} {v : Value} {LL : List EV} (h : RTab M W D cap clk v LL) (hn : LL.length ≤ 1000) (hM : ∀ b, M b → b < W.heap.size) :
    Calls Try.prog 26 #[ptrV D] W (RCopyPost (fun b => M b ∨ ROwnT D v b) cap clk LL W) := by
  obtain ⟨iE, hiE, hE0, hE1, hE2⟩ := info_parts infoEnt
  obtain ⟨a, c, rfl⟩ := h.list.slice
  obtain ⟨n, hN⟩ : ∃ n, n = LL.length := ⟨_, rfl⟩
  rw [← hN] at h hn ⊢
  have H := Lib.hid h
  have HB := Lib.hid h.box
  have HMM := Lib.hid hM
  have HN := Lib.hid hN.symm
  have HR := Lib.hid (show Row No W 6 (.slice a n c) n (LL.flatMap kE.cells) from by have h9 := h.list.row; rw [← hN] at h9; exact h9)
  have hpt : ptrV D = .pointer (some ⟨D, 0, none⟩) := rfl
  clear h hM hN
  rw [hpt]
  clear hpt
  go_enter Try.func26, Try.ntmps26
  go_upto_region 1 with (fail)
  refine wp_region_held_drew (S := (fun w' => Ext No W w')) (by kernel_rfl) ?_ (fun hHeld => ?_)
  · exact (Ext.refl _ _).drew
  have HE := Lib.hid (show Ext No W W.drew from (Ext.refl _ _).drew)
  generalize W.drew = v0 at *
  refine held_take (i := 0) (v := ?_) rfl (by kernel_rfl) (by kernel_rfl) (by kernel_rfl) (fun _ _ _ h => h) rfl (fun w hSw => ?_) hHeld ?_
  rotate_left
  · go_simp; (try with_reducible rfl)
  try simp only [Act.put, List.setIfInBounds_toArray, List.set_cons_zero, List.set_cons_succ]
  refine held_take (i := 1) (v := ?_) rfl (by kernel_rfl) (by kernel_rfl) (by kernel_rfl) (fun _ _ _ h => h) rfl (fun w hSw => ?_) hHeld ?_
  rotate_left
  · go_simp; (try with_reducible rfl)
  try simp only [Act.put, List.setIfInBounds_toArray, List.set_cons_zero, List.set_cons_succ]
  refine held_take (i := 2) (v := ?_) rfl (by kernel_rfl) (by kernel_rfl) (by kernel_rfl) (fun _ _ _ h => h) rfl (fun w hSw => ?_) hHeld ?_
  rotate_left
  · go_simp; (try with_reducible rfl)
  try simp only [Act.put, List.setIfInBounds_toArray, List.set_cons_zero, List.set_cons_succ]
  refine held_take (i := 3) (v := ?_) rfl (by kernel_rfl) (by kernel_rfl) (by kernel_rfl) (fun _ _ _ h => h) rfl (fun w hSw => ?_) hHeld ?_
  rotate_left
  · (have hEs : Ext No W _ := hSw); (have x0 := cellOf (hEs.blk HB.out no_no)); go_simp; (try with_reducible rfl)
  try simp only [Act.put, List.setIfInBounds_toArray, List.set_cons_zero, List.set_cons_succ]
  refine held_take (i := 5) (v := ?_) rfl (by kernel_rfl) (by kernel_rfl) (by kernel_rfl) (fun _ _ _ h => h) rfl (fun w hSw => ?_) hHeld ?_
  rotate_left
  · go_simp; (try with_reducible rfl)
  try simp only [Act.put, List.setIfInBounds_toArray, List.set_cons_zero, List.set_cons_succ]
  refine held_take (i := 6) (v := ?_) rfl (by kernel_rfl) (by kernel_rfl) (by kernel_rfl) (fun _ _ _ h => h) rfl (fun w hSw => ?_) hHeld ?_
  rotate_left
  · go_simp; (try with_reducible rfl)
  try simp only [Act.put, List.setIfInBounds_toArray, List.set_cons_zero, List.set_cons_succ]
  refine held_take (i := 7) (v := ?_) rfl (by kernel_rfl) (by kernel_rfl) (by kernel_rfl) (fun _ _ _ h => h) rfl (fun w hSw => ?_) hHeld ?_
  rotate_left
  · go_simp; (try with_reducible rfl)
  try simp only [Act.put, List.setIfInBounds_toArray, List.set_cons_zero, List.set_cons_succ]
  refine held_take (i := 8) (v := ?_) rfl (by kernel_rfl) (by kernel_rfl) (by kernel_rfl) (fun _ _ _ h => h) rfl (fun w hSw => ?_) hHeld ?_
  rotate_left
  · (have hEs : Ext No W _ := hSw); (have x0 := cellOf (hEs.blk HB.out no_no)); go_simp; (try with_reducible rfl)
  try simp only [Act.put, List.setIfInBounds_toArray, List.set_cons_zero, List.set_cons_succ]
  refine held_take (i := 10) (v := ?_) rfl (by kernel_rfl) (by kernel_rfl) (by kernel_rfl) (fun _ _ _ h => h) rfl (fun w hSw => ?_) hHeld ?_
  rotate_left
  · go_simp; (try with_reducible rfl)
  try simp only [Act.put, List.setIfInBounds_toArray, List.set_cons_zero, List.set_cons_succ]
  refine held_take (i := 11) (v := ?_) rfl (by kernel_rfl) (by kernel_rfl) (by kernel_rfl) (fun _ _ _ h => h) rfl (fun w hSw => ?_) hHeld ?_
  rotate_left
  · go_simp; (try with_reducible rfl)
  try simp only [Act.put, List.setIfInBounds_toArray, List.set_cons_zero, List.set_cons_succ]
  refine held_take (i := 12) (v := ?_) rfl (by kernel_rfl) (by kernel_rfl) (by kernel_rfl) (fun _ _ _ h => h) rfl (fun w hSw => ?_) hHeld ?_
  rotate_left
  · go_simp; (try with_reducible rfl)
  try simp only [Act.put, List.setIfInBounds_toArray, List.set_cons_zero, List.set_cons_succ]
  refine held_take (i := 13) (v := ?_) rfl (by kernel_rfl) (by kernel_rfl) (by kernel_rfl) (fun _ _ _ h => h) rfl (fun w hSw => ?_) hHeld ?_
  rotate_left
  · (have hEs : Ext No W _ := hSw); (have x0 := cellOf (hEs.blk HB.out no_no)); go_simp; (try with_reducible rfl)
  try simp only [Act.put, List.setIfInBounds_toArray, List.set_cons_zero, List.set_cons_succ]
  refine held_call (i := 4) rfl (by kernel_rfl) rfl (fun K hK => ?_)
  go_simp
  refine hK.out _ _ ?_ (fun hNew => ?_)
  · exact HE.out.alloc _
  clear hK K hHeld
  have hHeld := hNew
  clear hNew
  have hyA := (Ext.refl No v0).alloc (.cells #[] 42)
  have hE := Lib.hid (alloc_top (w := v0) (o := (.cells #[] 42)) rfl)
  have hgE := Lib.hid (show W.heap.size ≤ v0.heap.size from HE.out.size)
  replace HE := Lib.hid (HE.out.transNo hyA)
  clear hyA
  generalize (v0.alloc (.cells #[] 42)) = v1 at *
  generalize v0.heap.size = EB at *
  try simp only [Act.put, List.setIfInBounds_toArray, List.set_cons_zero, List.set_cons_succ]
  refine held_call (i := 9) rfl (by kernel_rfl) rfl (fun K hK => ?_)
  ((refine wp_app _ (.tmp 7) (.tmp 11) 30 rfl W.heap.size 42 iE _ 6 64 Try.underlying30 hiE hE0 hE1 hE2 rfl (by omega) (.slice (some ⟨EB, 0, none⟩) 0 0) 0 [] rfl (empty_ownE hE.out hgE.out) No a n c (LL.flatMap kE.cells) rfl (HR.out.extNo HE.out) (LOwn.one H.out.ents _ (fun p hp => hp)) (by omega) (by omega) HE.out.size ?_); (intro v' w9 hown1 hg1 hv1))
  refine hK.out _ _ ?_ (fun hNew => ?_)
  · exact (Ext.trans2 HE.out (show Ext (fun bq => Value.ownBlock (.slice (some ⟨EB, 0, none⟩) 0 0) = some bq) _ _ from (Ext.refl _ _).grown hg1 (fun bq hk _ => hk)) (fun k hk e => by have h1 := hgE.out; have : EB = k := Option.some.inj e; omega))
  clear hK K hHeld
  have hHeld := hNew
  clear hNew
  simp only [Nat.zero_add, List.nil_append] at hown1
  have hE9 : Ext (fun bq => Value.ownBlock (.slice (some ⟨EB, 0, none⟩) 0 0) = some bq) v1 w9 := (Ext.refl _ _).grown hg1 (fun bq hk _ => hk)
  have hgv := hgE.out
  replace HE := Lib.hid (HE.out.trans2 hE9 (fun k hk e => by have : EB = k := Option.some.inj e; omega))
  have hO1 := Lib.hid hown1
  clear hown1 hg1 hv1 hE9 hE hgE hgv
  obtain ⟨a1, c1, hv1⟩ := (Row.ofOwns (M := No) hO1.out (fun _ _ x => x)).slice
  subst hv1
  generalize w9 = v2 at *
  try simp only [Act.put, List.setIfInBounds_toArray, List.set_cons_zero, List.set_cons_succ]
  refine held_take (i := 14) (v := ?_) rfl (by kernel_rfl) (by kernel_rfl) (by kernel_rfl) (fun _ _ _ h => h) rfl (fun w hSw => ?_) hHeld ?_
  rotate_left
  · go_simp; (try with_reducible rfl)
  try simp only [Act.put, List.setIfInBounds_toArray, List.set_cons_zero, List.set_cons_succ]
  refine held_call (i := 15) rfl (by kernel_rfl) rfl (fun K hK => ?_)
  go_simp
  refine hK.out _ _ ?_ (fun hNew => ?_)
  · exact HE.out.alloc _
  clear hK K hHeld
  have hHeld := hNew
  clear hNew
  have HD := Lib.hid (alloc_top (w := v2) (o := .cells #[.int .i64 cap, .slice a1 n c1, .int .i64 clk] 32) rfl)
  have hya := (Ext.refl No v2).alloc (.cells #[.int .i64 cap, .slice a1 n c1, .int .i64 clk] 32)
  have HLF := Lib.hid (LOwn.fresh (A := fun b => (M b ∨ b = D) ∨ (Value.slice a n c).ownBlock = some b) (v := .slice a1 n c1) (LL := LL) (by rw [HN.out]; exact hO1.out) HE.out (fun p hp => H.out.ents.ok p hp))
  have HL2 := Lib.hid ((HLF.out.mono (A' := fun b => ((M b ∨ b = D) ∨ (Value.slice a n c).ownBlock = some b) ∨ v2.heap.size ≤ b) (fun i hi e => e.elim id (fun e => by omega))).extNo hya)
  have HOL := Lib.hid (fun b hb => HLF.out.lt b hb)
  have HE2 := Lib.hid (HE.out.transNo hya)
  have HSZ := Lib.hid HE.out.size
  clear hya HE hO1 HLF
  generalize (v2.alloc (.cells #[.int .i64 cap, .slice a1 n c1, .int .i64 clk] 32)) = v3 at *
  generalize v2.heap.size = D2 at *
  try simp only [Act.put, List.setIfInBounds_toArray, List.set_cons_zero, List.set_cons_succ]
  refine held_take (i := 16) (v := ?_) rfl (by kernel_rfl) (by kernel_rfl) (by kernel_rfl) (fun _ _ _ h => h) rfl (fun w hSw => ?_) hHeld ?_
  rotate_left
  · go_simp; (try with_reducible rfl)
  try simp only [Act.put, List.setIfInBounds_toArray, List.set_cons_zero, List.set_cons_succ]
  refine wpAnyH_done (by kernel_rfl) ?_ _
  clear hHeld
  go_wp2_with fail
  go_ret
  refine ⟨D2, _, rfl, Lib.hid ⟨HD.out, ⟨row_base HL2.out.own (Nat.zero_le _), ?_⟩, fun b hb e => ?_⟩, Lib.hid (fun b hb => ?_), HE2.out⟩
  · refine (HL2.out.mono (fun i _ e => ?_)).ok
    rcases e with (e | e | e) | e
    · exact .inl (.inl (.inl e))
    · exact .inl (.inl (.inr e))
    · exact .inl (.inr e)
    · exact .inr (Nat.le_of_eq e.symm)
  · have h1 : b < W.heap.size := by
      rcases e with e | e
      · exact HMM.out b e
      · exact H.out.ownLt e
    have h2 := HSZ.out
    rcases hb with hb | hb
    · omega
    · have h3 := (HOL.out b hb).1; omega
  · rcases hb with hb | hb
    · have h2 := HSZ.out; omega
    · exact (HOL.out b hb).1
end Go.Proofs.Ytfejidihocoboaa

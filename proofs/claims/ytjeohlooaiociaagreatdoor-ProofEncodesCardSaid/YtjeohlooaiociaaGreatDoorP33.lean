
import Derived.Test.YtjeohlooaiociaaGreatDoorP31
set_option linter.unusedVariables false
set_option linter.unusedSimpArgs false
namespace Go.Proofs.YtjeohlooaiociaaGreatDoor
open Go Go.RowKit
theorem crcF_lt {l : List Nat} (hb : ∀ b ∈ l, b < 256) : crcF l < 4294967296 := xor_lt32 (by omega) (crcTo_lt l _ (by omega) hb)
def ckB (l : List Nat) : List Nat := [crcF l / 16777216, crcF l / 65536 % 256, crcF l / 256 % 256, crcF l % 256]
theorem ckB_len (l : List Nat) : (ckB l).length = 4 := rfl
theorem ckB_byte {l : List Nat} (hb : ∀ b ∈ l, b < 256) : ∀ b ∈ ckB l, b < 256 := fun b h => by
 have := crcF_lt hb
 unfold ckB at h
 simp only [List.mem_cons, List.not_mem_nil, or_false] at h
 omega
set_option maxRecDepth 100000 in
set_option maxHeartbeats 4000000 in
theorem useal_any (base : Nat) (sl : Value) (l : List Nat) (W : World) (h : OwnB W base sl l) (hbs : base ≤ W.heap.size) (hl : l.length ≤ 1099511627776) (hb : ∀ b ∈ l, b < 256) :
  Calls Tryz.prog 68 #[sl] W (AppB base sl l (ckB l) W) := by
 obtain ⟨iB, hiB, hB0, hB1, hB2⟩ := info_parts infoB31
 have H := Lib.hid h
 have HB := Lib.hid hb
 obtain ⟨a0, c0, rfl⟩ := h.slice
 clear h hb
 go_enter Tryz.func68, Tryz.ntmps68
 go_wp2_with fail
 refine (checksum_any l _ _ (H.out.ints (fun _ _ x => x)) HB.out).mono ?_
 rintro e1 w1 ⟨rfl, hx1⟩
 have hO := H.out.extNo hx1
 have HX := Lib.hid hx1
 have hw1 := hx1.size
 clear hx1
 obtain ⟨x, hxe⟩ : ∃ x, x = crcF l := ⟨_, rfl⟩
 have hxl : x < 4294967296 := by rw [hxe]; exact crcF_lt HB.out
 rw [← hxe]
 have HXE := Lib.hid hxe
 clear hxe
 obtain ⟨q1, hq1⟩ : ∃ q : Nat, q = x / 16777216 := ⟨_, rfl⟩
 obtain ⟨q2, hq2⟩ : ∃ q : Nat, q = x / 65536 % 256 := ⟨_, rfl⟩
 obtain ⟨q3, hq3⟩ : ∃ q : Nat, q = x / 256 % 256 := ⟨_, rfl⟩
 obtain ⟨q4, hq4⟩ : ∃ q : Nat, q = x % 256 := ⟨_, rfl⟩
 have z1 : (x : Int) / 16777216 = (q1 : Int) := by omega
 have z2 : (x : Int) / 65536 % 256 = (q2 : Int) := by omega
 have z3 : (x : Int) / 256 % 256 = (q3 : Int) := by omega
 have z4 : (x : Int) % 256 = (q4 : Int) := by omega
 have z5 : (q1 : Int) % 256 = (q1 : Int) := by omega
 have HCK := Lib.hid (show [q1, q2, q3, q4] = ckB l from by unfold ckB; rw [← HXE.out, hq1, hq2, hq3, hq4])
 clear hq1 hq2 hq3 hq4 hxl
 go_wp2_with (at_builtin; (refine wpList_app _ rfl (.tmp 6) (.tmp 18) 53 rfl base 5 iB _ 1 1 Tryz.underlying53 hiB hB0 hB1 hB2 rfl (by omega) (.slice a0 l.length c0) l.length (bytesV l) rfl (row_keep hO ((Ext.refl No _).alloc _) (fun _ _ x => x)) No (some ⟨w1.heap.size, 0, none⟩) 4 4 [.int .u8 (q1 : Int), .int .u8 (q2 : Int), .int .u8 (q3 : Int), .int .u8 (q4 : Int)] rfl (Row.block (alloc_top rfl) rfl no_no (by omega)) (by simp [Value.oneCell']) (by omega) (by omega) (by simp; omega) ?_); (intro v1 w9 hown1 hg1 hv1); (obtain ⟨a9, c9, hs9⟩ := (Row.ofOwns (M := No) hown1 (fun _ _ x => x)).slice); (subst hs9))
 go_ret
 refine ⟨_, rfl, Lib.hid ?_, HX.out.ofNo.trans (((Ext.refl _ w1).alloc _).grown hg1 (fun k hk _ => hk)), ?_⟩
 ·rw [← HCK.out]
  unfold OwnB
  rw [List.length_append, bytesV_app]
  exact hown1
 rcases hv1 with hv1 | hv1
 ·exact .inl hv1
 refine .inr (fun b hb => ?_)
 have hb2 : some (w1.alloc (.cells #[.int .u8 (q1 : Int), .int .u8 (q2 : Int), .int .u8 (q3 : Int), .int .u8 (q4 : Int)] 5)).heap.size = some b := hv1.symm.trans hb
 have hsz : (w1.alloc (.cells #[.int .u8 (q1 : Int), .int .u8 (q2 : Int), .int .u8 (q3 : Int), .int .u8 (q4 : Int)] 5)).heap.size = w1.heap.size + 1 := by simp
 simp only [Option.some.injEq] at hb2
 omega
def MadeB (l : List Nat) (W : World) (e : Ending) (w' : World) : Prop := ∃ sl', e = .returned sl' ∧ Hid (OwnB w' W.heap.size sl' l) ∧ Ext No W w'
set_option maxRecDepth 100000 in
set_option maxHeartbeats 4000000 in
theorem rsealed_any (sl : Value) (l : List Nat) (W : World) (h : Ints No W .u8 sl (natsZ l)) (hl : l.length ≤ 1099511627776) (hb : ∀ b ∈ l, b < 256) :
  Calls Tryz.prog 27 #[sl] W (MadeB (l ++ ckB l) W) := by
 obtain ⟨iB, hiB, hB0, hB1, hB2⟩ := info_parts infoB31
 have H := Lib.hid h
 have HB := Lib.hid hb
 obtain ⟨a0, c0, rfl⟩ := Row.slice h
 have hz : (natsZ l).length = l.length := by simp [natsZ]
 rw [hz] at H ⊢
 clear h hb
 go_enter Tryz.func27, Tryz.ntmps27
 go_wp2_with fail
 refine (rchecksum_any l _ _ H.out HB.out).mono ?_
 rintro e1 w1 ⟨rfl, hx1⟩
 have HI := Lib.hid (show Row No w1 1 (.slice a0 l.length c0) l.length (bytesV l) from by
  have h := Row.extNo H.out hx1
  rw [hz] at h
  exact h)
 have HX := Lib.hid hx1
 have hw1 := hx1.size
 clear hx1 hz
 obtain ⟨x, hxe⟩ : ∃ x, x = crcF l := ⟨_, rfl⟩
 have hxl : x < 4294967296 := by rw [hxe]; exact crcF_lt HB.out
 rw [← hxe]
 have HXE := Lib.hid hxe
 clear hxe
 obtain ⟨q1, hq1⟩ : ∃ q : Nat, q = x / 16777216 := ⟨_, rfl⟩
 obtain ⟨q2, hq2⟩ : ∃ q : Nat, q = x / 65536 % 256 := ⟨_, rfl⟩
 obtain ⟨q3, hq3⟩ : ∃ q : Nat, q = x / 256 % 256 := ⟨_, rfl⟩
 obtain ⟨q4, hq4⟩ : ∃ q : Nat, q = x % 256 := ⟨_, rfl⟩
 have z1 : (x : Int) / 16777216 = (q1 : Int) := by omega
 have z2 : (x : Int) / 65536 % 256 = (q2 : Int) := by omega
 have z3 : (x : Int) / 256 % 256 = (q3 : Int) := by omega
 have z4 : (x : Int) % 256 = (q4 : Int) := by omega
 have z5 : (q1 : Int) % 256 = (q1 : Int) := by omega
 have HCK := Lib.hid (show [q1, q2, q3, q4] = ckB l from by unfold ckB; rw [← HXE.out, hq1, hq2, hq3, hq4])
 clear hq1 hq2 hq3 hq4 hxl
 go_wp2_with (at_builtin; (first | (refine wpList_app _ rfl (.tmp 6) (.tmp 7) 53 rfl w1.heap.size 5 iB _ 1 1 Tryz.underlying53 hiB hB0 hB1 hB2 rfl (by omega) (.slice (some ⟨w1.heap.size, 0, none⟩) 0 0) 0 [] rfl (World.ownsRow_made w1 #[] 0 (Nat.le_refl _) (Nat.zero_le _) rfl) No a0 l.length c0 (bytesV l) rfl (Row.extNo HI.out ((Ext.refl No w1).alloc _)) (bytes_one l) (by omega) (by omega) (by simp) ?_; (intro v1 w2 hown1 hg1 hv1); (simp only [Nat.zero_add, List.nil_append] at hown1); (obtain ⟨a2, c2, hs2⟩ := (Row.ofOwns (M := No) hown1 (fun _ _ x => x)).slice); (subst hs2); (have HO2 := Lib.hid hown1); (have HE2 := Lib.hid (show Ext No w1 w2 from ((Ext.refl No w1).alloc _).trans2 ((Ext.refl (fun k => Value.ownBlock (.slice (some ⟨w1.heap.size, 0, none⟩) 0 0) = some k) _).grown hg1 (fun k hk _ => hk)) (fun i hi e => by simp only [Value.ownBlock, Option.some.injEq] at e; omega))); (have hw2 := HE2.out.size); (clear hown1 hg1 hv1)) | (refine wpList_app _ rfl (.tmp 8) (.tmp 20) 53 rfl w1.heap.size 5 iB _ 1 1 Tryz.underlying53 hiB hB0 hB1 hB2 rfl (by omega) (.slice a2 l.length c2) l.length (bytesV l) rfl (row_keep HO2.out ((Ext.refl No _).alloc _) (fun _ _ x => x)) No (some ⟨w2.heap.size, 0, none⟩) 4 4 [.int .u8 (q1 : Int), .int .u8 (q2 : Int), .int .u8 (q3 : Int), .int .u8 (q4 : Int)] rfl (Row.block (alloc_top rfl) rfl no_no (by omega)) (by simp [Value.oneCell']) (by omega) (by omega) (by simp; omega) ?_; (intro v1 w9 hown1 hg1 hv1); (obtain ⟨a9, c9, hs9⟩ := (Row.ofOwns (M := No) hown1 (fun _ _ x => x)).slice); (subst hs9); (have HO9 := Lib.hid hown1); (have HE9 := Lib.hid (show Ext No w1 w9 from HE2.out.trans2 (((Ext.refl _ w2).alloc _).grown hg1 (fun k hk _ => hk)) (fun i hi e => by have := (World.ownsRow.lt HO2.out i e).1; omega))); (clear hown1 hg1 hv1))))
 go_ret
 refine ⟨_, rfl, Lib.hid ?_, HX.out.transNo HE9.out⟩
 rw [← HCK.out]
 unfold OwnB
 rw [List.length_append, bytesV_app]
 exact row_base HO9.out hw1
end Go.Proofs.YtjeohlooaiociaaGreatDoor

namespace Go.Proofs.YtjeohlooaiociaaGreatDoor
open Go Go.RowKit
def gaps : Nat → List Nat → List Nat
 | _, [] => []
 | p, m :: l => uv (m - p) ++ gaps (m + 1) l
def endP : Nat → List Nat → Nat
 | p, [] => p
 | _, m :: l => endP (m + 1) l
theorem gaps_snoc : ∀ (l : List Nat) (p m : Nat), gaps p (l ++ [m]) = gaps p l ++ uv (m - endP p l)
 | [], p, m => by simp [gaps, endP]
 | x :: l, p, m => by
  rw [List.cons_append, gaps, gaps, gaps_snoc l, endP, List.append_assoc]
theorem endP_snoc : ∀ (l : List Nat) (p m : Nat), endP p (l ++ [m]) = m + 1
 | [], p, m => rfl
 | x :: l, p, m => by rw [List.cons_append, endP, endP_snoc l]
def memN (w m : Nat) : List Nat := (List.range w).filter fun b => m.testBit b
theorem memN_cast (w m : Nat) : membersN w m = natsZ (memN w m) := rfl
theorem memN_asc (w m : Nat) : (memN w m).Pairwise (· < ·) := List.Pairwise.filter _ (List.pairwise_lt_range)
theorem memN_lt {w m b : Nat} (h : b ∈ memN w m) : b < w := List.mem_range.1 (List.mem_filter.1 h).1
theorem memN_len (w m : Nat) : (memN w m).length ≤ w := Nat.le_trans (List.length_filter_le _ _) (by simp)
def setB (w : Nat) (ms : List Nat) : List Nat := uv w ++ (uv ms.length ++ gaps 0 ms)
theorem endP_le : ∀ (l : List Nat) (p m : Nat), (∀ x ∈ l, x < m) → p ≤ m → endP p l ≤ m
 | [], _, _, _, h => h
 | x :: l, _, m, h, _ => endP_le l (x + 1) m (fun y hy => h y (List.mem_cons_of_mem _ hy)) (h x (List.mem_cons_self ..))
theorem gaps_len : ∀ (l : List Nat) (p : Nat), (∀ x ∈ l, x < 256) → (gaps p l).length ≤ 5 * l.length
 | [], _, _ => Nat.zero_le _
 | x :: l, p, h => by
  have h1 := gaps_len l (x + 1) (fun y hy => h y (List.mem_cons_of_mem _ hy))
  have h2 := uv_len 4 (x - p) (by have := h x (List.mem_cons_self ..); omega)
  rw [gaps, List.length_append, List.length_cons]; omega
theorem setB_len {w m : Nat} (hw : w ≤ 256) : (setB w (memN w m)).length ≤ 1300 := by
 have h1 := uv_len 4 w (by omega)
 have h2 := memN_len w m
 have h3 := uv_len 4 (memN w m).length (by omega)
 have h4 := gaps_len (memN w m) 0 (fun x hx => by have := memN_lt hx; omega)
 unfold setB
 rw [List.length_append, List.length_append]; omega
theorem gaps_byte : ∀ (l : List Nat) (p : Nat), ∀ b ∈ gaps p l, b < 256
 | [], _, _, h => by cases h
 | x :: l, p, b, h => by
  rw [gaps] at h
  rcases List.mem_append.1 h with h | h
  ·exact uv_byte _ b h
  exact gaps_byte l _ b h
theorem setB_byte (w : Nat) (ms : List Nat) : ∀ b ∈ setB w ms, b < 256 := fun b h => by
 unfold setB at h
 rcases List.mem_append.1 h with h | h
 ·exact uv_byte _ b h
 rcases List.mem_append.1 h with h | h
 ·exact uv_byte _ b h
 exact gaps_byte _ _ b h
theorem take_asc {l : List Nat} (h : l.Pairwise (· < ·)) {k : Nat} (hk : k < l.length) : ∀ x ∈ l.take k, x < l[k] := fun x hx => by
 obtain ⟨i, hi, rfl⟩ := List.getElem_of_mem hx
 simp only [List.length_take] at hi
 rw [List.getElem_take]
 exact List.pairwise_iff_getElem.1 h i k (by omega) hk (by omega)
structure AppS (base : Nat) (sl : Value) (W w' : World) (sl' : Value) (l' : List Nat) : Prop where
 own : OwnB w' base sl' l'
 ext : Ext (fun b => sl.ownBlock = some b) W w'
 v : sl'.ownBlock = sl.ownBlock ∨ ∀ b, sl'.ownBlock = some b → W.heap.size ≤ b
section
variable {base : Nat} {sl s1 s2 : Value} {W w1 w2 : World} {l l1 k : List Nat}
theorem AppS.refl (h : OwnB W base sl l) : AppS base sl W W sl l := ⟨h, Ext.refl _ _, .inl rfl⟩
theorem AppS.extNo (h : AppS base sl W w1 s1 l1) (hx : Ext No w1 w2) : AppS base sl W w2 s1 l1 := ⟨h.own.extNo hx, h.ext.transNo hx, h.v⟩
theorem AppS.step (h : AppS base sl W w1 s1 l1) (h1 : OwnB w2 base s2 (l1 ++ k)) (h2 : Ext (fun b => s1.ownBlock = some b) w1 w2) (h3 : s2.ownBlock = s1.ownBlock ∨ ∀ b, s2.ownBlock = some b → w1.heap.size ≤ b) : AppS base sl W w2 s2 (l1 ++ k) := by
 have hs := h.ext.size
 refine ⟨h1, h.ext.trans2 h2 (fun i hi e => ?_), ?_⟩
 ·rcases h.v with h4 | h4
  ·rw [← h4]; exact e
  have := h4 i e; omega
 rcases h3 with h3 | h3
 ·rw [h3]; exact h.v
 exact .inr (fun b hb => by have := h3 b hb; omega)
theorem AppS.trans (h : AppS base sl W w1 s1 l1) (k : AppS base s1 w1 w2 s2 l) : AppS base sl W w2 s2 l := by
 have hs := h.ext.size
 refine ⟨k.own, h.ext.trans2 k.ext (fun i hi e => ?_), ?_⟩
 ·rcases h.v with h4 | h4
  ·rw [← h4]; exact e
  have := h4 i e; omega
 rcases k.v with h3 | h3
 ·rw [h3]; exact h.v
 exact .inr (fun b hb => by have := h3 b hb; omega)
theorem AppS.fromNo (h : AppS base sl w1 w2 s2 l) (hx : Ext No W w1) : AppS base sl W w2 s2 l := by
 have hs := hx.size
 exact ⟨h.own, hx.ofNo.trans h.ext, h.v.imp id (fun h b hb => by have := h b hb; omega)⟩
theorem AppS.post (h : AppS base sl W w2 s2 (l ++ k)) : AppB base sl l k W (.returned s2) w2 := ⟨s2, rfl, Lib.hid h.own, h.ext, h.v⟩
end
set_option maxRecDepth 100000 in
set_option maxHeartbeats 4000000 in
theorem uset_any (base w m : Nat) (sb sl : Value) (l : List Nat) (W : World) (hT : TabW W) (hG : 0 < base) (h : OwnB W base sb l) (hb : base ≤ W.heap.size) (hl : l.length ≤ 549755813888) (hs : SetAt (fun b => sb.ownBlock = some b) W sl w m) :
  Calls Tryz.prog 67 #[sb, .agg #[.int .i64 (w : Int), sl]] W (AppB base sb l (setB w (memN w m)) W) := by
 have H := Lib.hid h
 have HS := Lib.hid hs
 have HT := Lib.hid hT
 have hw := hs.hw
 have HM := Lib.hid hs.hm
 obtain ⟨a0, c0, rfl⟩ := h.slice
 obtain ⟨a1, c1, rfl⟩ := hs.slice
 clear h hs hT
 go_enter Tryz.func67, Tryz.ntmps67
 go_upto_region 1 with (fail)
 have hx0 : Ext No W (W.alloc (.cells #[.int .i64 (w : Int), .slice a1 (nw w) c1] 50)) := (Ext.refl _ _).alloc _
 have HB := Lib.hid (alloc_top (w := W) (o := (.cells #[.int .i64 (w : Int), .slice a1 (nw w) c1] 50)) rfl)
 have HA0 := Lib.hid (AppS.refl (base := base) (H.out.extNo hx0))
 have HS0 := Lib.hid (HS.out.extNo hx0)
 have HX := Lib.hid hx0
 have hbV : base ≤ (W.alloc (.cells #[.int .i64 (w : Int), .slice a1 (nw w) c1] 50)).heap.size := by have := hx0.size; omega
 have HNB := Lib.hid (show ¬ Value.ownBlock (.slice a0 l.length c0) = some W.heap.size from fun e => by have := (H.out.lt _ e).2; omega)
 clear hx0
 generalize (W.alloc (.cells #[.int .i64 (w : Int), .slice a1 (nw w) c1] 50)) = V at *
 generalize hDe : W.heap.size = D at *
 obtain ⟨ms, hms⟩ : ∃ ms, ms = memN w m := ⟨_, rfl⟩
 have HMS := Lib.hid hms
 have hml : ms.length ≤ 256 := by rw [hms]; exact Nat.le_trans (memN_len w m) hw
 have HCN := Lib.hid (show cntN m (nw w) = ms.length from by rw [hms, count_members HM.out, memN_cast]; simp [natsZ])
 have HL1 := Lib.hid (uv_len 4 w (by omega))
 have HL2 := Lib.hid (uv_len 4 ms.length (by omega))
 clear hms
 refine wp_region_held_drew (S := (fun w' => Ext (fun b => Value.ownBlock (.slice a0 l.length c0) = some b) V w')) (by kernel_rfl) ?_ (fun hHeld => ?_)
 ·exact (Ext.refl _ _).drew
 have HLL := Lib.hid (show l.length ≤ l.length + 0 from Nat.le_refl _)
 have HE := Lib.hid (HA0.out.extNo (show Ext No V V.drew from (Ext.refl No _).drew))
 generalize V.drew = v0 at *
 refine hHs [0, 1, 2, 4] ?_
 iterate 4
  refine hTn ?_ hHeld (fun w hSw => ?_) ?_
  rotate_left
  ·(have q0 := cellOf ((show Ext (fun b => Value.ownBlock (.slice a0 l.length c0) = some b) V _ from hSw).blk HB.out HNB.out)); go_simp; (try with_reducible rfl)
  simp only [Act.put, nzA, nzB, nzC]
 refine hHe ?_
 refine hHc 3 fun K hK => ?_
 ((have hln := HE.out.own); (have hsz := HE.out.ext.size); go_simp; (go_at_call 66); (refine (uappend_any base w _ (l) _ HE.out.own (by omega) (by have h1 := HL1.out; have h2 := HLL.out; omega) (by omega)).mono ?_); (rintro e7 v1 ⟨s7, rfl, hO7, hx7, hv7⟩); (have hN7 := HE.out.step hO7.out hx7 hv7); (have hO8 := hO7.out); (obtain ⟨l1, hl1⟩ : ∃ x, x = l ++ uv w := ⟨_, rfl⟩); (rw [← hl1] at hN7 hO8); (obtain ⟨a7, c7, hs7⟩ := hO8.slice); (subst hs7); (have HN7 := Lib.hid hN7); (have Hl1 := Lib.hid hl1); (replace HLL := Lib.hid (show l1.length ≤ l.length + 5 from by rw [hl1, List.length_append]; have h1 := HL1.out; have h2 := HL2.out; have h3 := HLL.out; omega)); (clear hN7 hO7 hO8 hx7 hv7 hln hsz hl1); go_simp)
 refine hK.out _ _ ?_ ?_
 ·exact HN7.out.ext
 clear hK K hHeld
 intro hHeld
 replace HE := HN7
 clear HN7
 try simp only [Act.put, nzA, nzB, nzC]
 refine hHc 5 fun K hK => ?_
 (go_simp; (go_at_call 35); (refine (count_any w m _ _ (HS0.out.ext HE.out.ext (fun _ _ e => e)).no).mono ?_); (rintro e8 v2 ⟨rfl, hyA⟩); (rw [HCN.out]); go_simp)
 refine hK.out _ _ ?_ ?_
 ·exact HE.out.ext.transNo hyA
 clear hK K hHeld
 intro hHeld
 replace HE := Lib.hid (HE.out.extNo hyA)
 clear hyA
 try simp only [Act.put, nzA, nzB, nzC]
 refine hHc 6 fun K hK => ?_
 ((have hln := HE.out.own); (have hsz := HE.out.ext.size); go_simp; (go_at_call 66); (refine (uappend_any base ms.length _ (l1) _ HE.out.own (by omega) (by have h1 := HL1.out; have h2 := HLL.out; omega) (by omega)).mono ?_); (rintro e7 v3 ⟨s7, rfl, hO7, hx7, hv7⟩); (have hN7 := HE.out.step hO7.out hx7 hv7); (have hO8 := hO7.out); (obtain ⟨l2, hl2⟩ : ∃ x, x = l1 ++ uv ms.length := ⟨_, rfl⟩); (rw [← hl2] at hN7 hO8); (obtain ⟨a7, c7, hs7⟩ := hO8.slice); (subst hs7); (have HN7 := Lib.hid hN7); (have Hl2 := Lib.hid hl2); (replace HLL := Lib.hid (show l2.length ≤ l.length + 10 from by rw [hl2, List.length_append]; have h1 := HL1.out; have h2 := HL2.out; have h3 := HLL.out; omega)); (clear hN7 hO7 hO8 hx7 hv7 hln hsz hl2); go_simp)
 refine hK.out _ _ ?_ ?_
 ·exact HN7.out.ext
 clear hK K hHeld
 intro hHeld
 replace HE := HN7
 clear HN7
 try simp only [Act.put, nzA, nzB, nzC]
 refine hTk 7 ?_ hHeld (fun w hSw => ?_) ?_
 rotate_left
 ·go_simp; (try with_reducible rfl)
 simp only [Act.put, nzA, nzB, nzC]
 refine wpAnyH_done (by kernel_rfl) ?_ _
 have HE1 := HE
 clear HE
 have hbx := HE1.out.ext.blk HB.out HNB.out
 have cX := cellOf hbx
 go_wp2_with fail
 clear cX
 have hwz := HE1.out.ext.size
 have hSM := HS0.out.ext HE1.out.ext (fun _ _ e => e)
 have hTX : Ext (fun b => Value.ownBlock (.slice a0 l.length c0) = some b) W _ := HX.out.ofNo.trans HE1.out.ext
 refine (members_any (fun b => Value.ownBlock (.slice a7 l2.length c7) = some b) w m _ _ (fun b hb => (HE1.out.own.lt b hb).2) (HT.out.extM hTX (fun e => by have := (H.out.lt _ e).1; omega)) hSM.no).mono ?_
 rintro e8 w4 ⟨a8, rfl, hrow, hx4⟩
 have hrow2 := hrow.out
 have hlm : (membersN w m).length = ms.length := by rw [memN_cast, ← HMS.out]; simp [natsZ]
 rw [hlm] at hrow2 ⊢
 have HI4 := Lib.hid (show Ints (fun b => Value.ownBlock (.slice a7 l2.length c7) = some b) w4 .i64 (.slice a8 ms.length ms.length) (natsZ ms) from by
  unfold Ints
  rw [show (natsZ ms).length = ms.length by simp [natsZ], HMS.out, ← memN_cast, ← HMS.out]
  exact hrow2)
 have HE4 := Lib.hid ((HE1.out.extNo hx4).fromNo HX.out)
 clear hrow hrow2 hlm hx4 hbx hSM hTX HE1
 obtain ⟨n2, hn2⟩ : ∃ n2, n2 = l2.length := ⟨_, rfl⟩
 have hO2 := HE4.out.own
 rw [← hn2] at HI4 HE4 hO2 ⊢
 have HA4 := Lib.hid (AppS.refl hO2)
 have HN2 := Lib.hid hn2
 have hn2b : n2 ≤ l.length + 10 := by rw [hn2]; exact HLL.out
 have hb4 : base ≤ w4.heap.size := by have := HE4.out.ext.size; omega
 clear hn2 hO2
 go_wp2_with fail
 go_loopw [0, 5, 7, 18] (fun s0 s5 _ i wr => ∃ (k : Nat) (lk : List Nat) (kk e : Nat) (a : Option Addr) (c : Nat), k ≤ ms.length ∧ i = .int .i64 k ∧ s0 = .slice a kk c ∧ Hid (kk = lk.length) ∧ e = endP 0 (ms.take k) ∧ s5 = .int .i64 ((e : Int) - 1) ∧ Hid (AppS base (.slice a7 n2 c7) w4 wr (.slice a kk c) lk) ∧ Hid (lk = l2 ++ gaps 0 (ms.take k))) (fun _ _ _ i _ => ms.length - (intOf i).toNat)
 case atStart => exact ⟨0, l2, n2, 0, a7, c7, Nat.zero_le _, rfl, rfl, HN2, by simp [endP], rfl, HA4, Lib.hid (by simp [gaps])⟩
 obtain ⟨k, lk, kk, e, a, c, hk, rfl, rfl, hkk, he, rfl, hA, hlk⟩ := hrel
 rename World => wr
 have HEE := Lib.hid he
 have HKL := Lib.hid (show kk ≤ l.length + 1300 from by
  rw [hkk.out, hlk.out, List.length_append, ← HN2.out]
  have h5 := gaps_len (ms.take k) 0 (fun x hx => by
   have h6 := List.mem_of_mem_take hx
   rw [HMS.out] at h6
   have := memN_lt h6
   omega)
  have h7 : (ms.take k).length ≤ 256 := by rw [List.length_take]; omega
  omega)
 by_cases hlt : k < ms.length
 ·have hlz : (k : Int) < (ms.length : Int) := by omega
  have HKK : Hid (Value.int .i64 ((k : Int) + 1) = .int .i64 ((k + 1 : Nat) : Int)) := Lib.hid (by rw [show ((k + 1 : Nat) : Int) = (k : Int) + 1 from by omega])
  obtain ⟨bi, oi, ki, hie, -, -, hci⟩ := IntsP.at (show Ints (fun b => Value.ownBlock (.slice a7 n2 c7) = some b) wr .i64 (.slice a8 ms.length ms.length) (natsZ ms) from Row.ext HI4.out hA.out.ext (fun _ _ e => e)) hlt
  simp only [Value.slice.injEq] at hie
  obtain ⟨rfl, -, -⟩ := hie
  have q0 := hci k hlt
  have hasc : ∀ x ∈ ms.take k, x < ms[k] := take_asc (by rw [HMS.out]; exact memN_asc w m) hlt
  have hle : e ≤ ms[k] := by rw [he]; exact endP_le _ _ _ hasc (Nat.zero_le _)
  have hmw : ms[k] < w := memN_lt (by rw [← HMS.out]; exact List.getElem_mem hlt)
  have htk : ms.take (k + 1) = ms.take k ++ [ms[k]] := by rw [List.take_add_one]; simp [hlt]
  obtain ⟨x, hx⟩ : ∃ x, x = ms[k] := ⟨_, rfl⟩
  rw [← hx] at q0 hle hmw htk
  have HTK := Lib.hid htk
  have HLE := Lib.hid hle
  clear hci hasc hx he htk
  have hsb : IntKind.i64.wrap ((x : Int) - ((e : Int) - 1)) = (x : Int) - ((e : Int) - 1) := IntWalk.i64_in _ (by omega)
  have hsb2 : IntKind.i64.wrap ((x : Int) - ((e : Int) - 1) - 1) = ((x - e : Nat) : Int) := by rw [IntWalk.i64_in _ (by omega)]; omega
  go_wp2_with fail
  clear q0 hsb hsb2
  have hsz := hA.out.ext.size
  refine (uappend_any base (x - e) _ lk _ hA.out.own (by omega) (by rw [← hkk.out]; have := HKL.out; omega) (by omega)).mono ?_
  rintro e9 w9 ⟨s9, rfl, hO9, hx9, hv9⟩
  have hA9 := hA.out.step hO9.out hx9 hv9
  obtain ⟨l9, hl9⟩ : ∃ z, z = lk ++ uv (x - e) := ⟨_, rfl⟩
  have hO8 := hO9.out
  rw [← hl9] at hA9 hO8
  obtain ⟨a9, c9, hs9⟩ := hO8.slice
  subst hs9
  obtain ⟨k9, hk9⟩ : ∃ z, z = l9.length := ⟨_, rfl⟩
  rw [← hk9] at hA9 ⊢
  have HA9 := Lib.hid hA9
  have HK9 := Lib.hid hk9
  have HL9 := Lib.hid (show l9 = l2 ++ gaps 0 (ms.take (k + 1)) from by rw [hl9, hlk.out, HTK.out, gaps_snoc, HEE.out, List.append_assoc])
  have HE9 := Lib.hid (show x + 1 = endP 0 (ms.take (k + 1)) from by rw [HTK.out, endP_snoc])
  clear hA hkk hlk hO9 hx9 hv9 hA9 hl9 hO8 hk9 hsz
  go_wp2_with fail
  go_roundw
  case rel => exact ⟨k + 1, l9, k9, x + 1, a9, c9, by omega, HKK.out, rfl, HK9, HE9.out, by rw [show ((x + 1 : Nat) : Int) - 1 = (x : Int) from by omega], HA9, HL9⟩
  case measure => simp [intOf]; omega
 have hge : ¬ (k : Int) < (ms.length : Int) := by omega
 go_wp2_with fail
 go_ret
 have hA9 := (HE4.out.trans hA.out)
 have e9 : lk = l ++ setB w (memN w m) := by
  rw [hlk.out, List.take_of_length_le (by omega), Hl2.out, Hl1.out, ← HMS.out]
  unfold setB
  simp only [List.append_assoc]
 rw [e9] at hA9
 exact hA9.post
set_option maxRecDepth 100000 in
set_option maxHeartbeats 4000000 in
theorem rset_any (base w m : Nat) (sb sl : Value) (l : List Nat) (W : World) (h : OwnB W base sb l) (hb : base ≤ W.heap.size) (hl : l.length ≤ 549755813888) (hs : SetAt (fun b => sb.ownBlock = some b) W sl w m) :
  Calls Tryz.prog 64 #[sb, .agg #[.int .i64 (w : Int), sl]] W (AppB base sb l (setB w (memN w m)) W) := by
 have H := Lib.hid h
 have HS := Lib.hid hs
 have hw := hs.hw
 have HM := Lib.hid hs.hm
 obtain ⟨a0, c0, rfl⟩ := h.slice
 obtain ⟨a1, c1, rfl⟩ := hs.slice
 clear h hs
 go_enter Tryz.func64, Tryz.ntmps64
 go_upto_region 1 with (fail)
 have hx0 : Ext No W (W.alloc (.cells #[.int .i64 (w : Int), .slice a1 (nw w) c1] 50)) := (Ext.refl _ _).alloc _
 have HB := Lib.hid (alloc_top (w := W) (o := (.cells #[.int .i64 (w : Int), .slice a1 (nw w) c1] 50)) rfl)
 have HS0 := Lib.hid (HS.out.extNo hx0)
 have HX := Lib.hid hx0
 have hbV : base ≤ (W.alloc (.cells #[.int .i64 (w : Int), .slice a1 (nw w) c1] 50)).heap.size := by have := hx0.size; omega
 have HNB := Lib.hid (show ¬ Value.ownBlock (.slice a0 l.length c0) = some W.heap.size from fun e => by have := (H.out.lt _ e).2; omega)
 have HO0 := Lib.hid (H.out.extNo hx0)
 have HLT := Lib.hid (show ∀ b, Value.ownBlock (.slice a0 l.length c0) = some b → b < (W.alloc (.cells #[.int .i64 (w : Int), .slice a1 (nw w) c1] 50)).heap.size from fun b hb => (HO0.out.lt b hb).2)
 clear hx0
 generalize (W.alloc (.cells #[.int .i64 (w : Int), .slice a1 (nw w) c1] 50)) = V at *
 generalize hDe : W.heap.size = D at *
 obtain ⟨ms, hms⟩ : ∃ ms, ms = memN w m := ⟨_, rfl⟩
 have HMS := Lib.hid hms
 have hml : ms.length ≤ 256 := by rw [hms]; exact Nat.le_trans (memN_len w m) hw
 have HL1 := Lib.hid (uv_len 4 w (by omega))
 have HL2 := Lib.hid (uv_len 4 ms.length (by omega))
 clear hms
 have cX := cellOf HB.out
 go_wp2_with fail
 clear cX
 refine (rmemL_any (fun b => Value.ownBlock (.slice a0 l.length c0) = some b) w m _ V HLT.out HS0.out.no).mono ?_
 rintro e1 w1 ⟨a8, c8, rfl, hrow, hx1⟩
 have hlm : (rmT m w).length = ms.length := by
  have : rmT m w = natsZ ms := by rw [HMS.out]; rfl
  rw [this]; simp [natsZ]
 have hrow2 := hrow.out
 rw [show rmT m w = natsZ ms from by rw [HMS.out]; rfl] at hrow2
 rw [show (natsZ ms).length = ms.length by simp [natsZ]] at hrow2
 rw [hlm]
 have HI1 := Lib.hid hrow2
 have HB1 := Lib.hid (hx1.blk HB.out no_no)
 have HO1 := Lib.hid (HO0.out.extNo hx1)
 have HX1 := Lib.hid (HX.out.transNo hx1)
 have HA0 := Lib.hid (AppS.refl (base := base) HO1.out)
 have hb1 : base ≤ w1.heap.size := by have := hx1.size; omega
 clear hrow hrow2 hlm hx1 HX HO0
 have cX := cellOf HB1.out
 go_wp2_with fail
 clear cX
 refine (ruvarint_any base w _ l _ HO1.out hb1 (by omega) (by omega)).mono ?_
 rintro e2 w2 ⟨s2, rfl, hO2, hx2, hv2⟩
 have hA2 := HA0.out.step hO2.out hx2 hv2
 obtain ⟨l1, hl1⟩ : ∃ x, x = l ++ uv w := ⟨_, rfl⟩
 have hO3 := hO2.out
 rw [← hl1] at hA2 hO3
 obtain ⟨a2, c2, hs2⟩ := hO3.slice
 subst hs2
 obtain ⟨n1, hn1⟩ : ∃ z, z = l1.length := ⟨_, rfl⟩
 rw [← hn1] at hA2 ⊢
 have Hl1 := Lib.hid hl1
 have HA2 := Lib.hid hA2
 have hn1b : l1.length ≤ l.length + 5 := by rw [hl1, List.length_append]; have := HL1.out; omega
 have hb2 : base ≤ w2.heap.size := by have := hx2.size; omega
 clear hO2 hx2 hv2 hA2 hl1 hO3 HA0 HO1 hn1
 go_wp2_with fail
 refine (ruvarint_any base ms.length _ l1 _ HA2.out.own hb2 (by omega) (by omega)).mono ?_
 rintro e3 w3 ⟨s3, rfl, hO3, hx3, hv3⟩
 have hA3 := HA2.out.step hO3.out hx3 hv3
 obtain ⟨l2, hl2⟩ : ∃ x, x = l1 ++ uv ms.length := ⟨_, rfl⟩
 have hO4 := hO3.out
 rw [← hl2] at hA3 hO4
 obtain ⟨a7, c7, hs3⟩ := hO4.slice
 subst hs3
 obtain ⟨n2, hn2⟩ : ∃ z, z = l2.length := ⟨_, rfl⟩
 rw [← hn2] at hA3 ⊢
 have Hl2 := Lib.hid hl2
 have HA3 := Lib.hid hA3
 have HN2 := Lib.hid hn2
 have hn2b : n2 ≤ l.length + 10 := by rw [hn2, hl2, List.length_append]; have := HL2.out; omega
 have hb3 : base ≤ w3.heap.size := by have := hx3.size; omega
 clear hO3 hx3 hv3 hA3 hl2 hO4 HA2 hn2 hn1b
 go_wp2_with fail
 go_loopw [0, 6, 7] (fun s0 s6 i wr => ∃ (k : Nat) (lk : List Nat) (kk e : Nat) (a : Option Addr) (c : Nat), k ≤ ms.length ∧ i = .int .i64 k ∧ s0 = .slice a kk c ∧ Hid (kk = lk.length) ∧ e = endP 0 (ms.take k) ∧ s6 = .int .i64 ((e : Int) - 1) ∧ Hid (AppS base (.slice a0 l.length c0) w1 wr (.slice a kk c) lk) ∧ Hid (lk = l2 ++ gaps 0 (ms.take k))) (fun _ _ i _ => ms.length - (intOf i).toNat)
 case atStart => exact ⟨0, l2, n2, 0, a7, c7, Nat.zero_le _, rfl, rfl, HN2, by simp [endP], rfl, HA3, Lib.hid (by simp [gaps])⟩
 obtain ⟨k, lk, kk, e, a, c, hk, rfl, rfl, hkk, he, rfl, hA, hlk⟩ := hrel
 rename World => wr
 have HEE := Lib.hid he
 have HKL := Lib.hid (show kk ≤ l.length + 1300 from by
  rw [hkk.out, hlk.out, List.length_append, ← HN2.out]
  have h5 := gaps_len (ms.take k) 0 (fun x hx => by
   have h6 := List.mem_of_mem_take hx
   rw [HMS.out] at h6
   have := memN_lt h6
   omega)
  have h7 : (ms.take k).length ≤ 256 := by rw [List.length_take]; omega
  omega)
 by_cases hlt : k < ms.length
 ·have hlz : (k : Int) < (ms.length : Int) := by omega
  have HKK : Hid (Value.int .i64 ((k : Int) + 1) = .int .i64 ((k + 1 : Nat) : Int)) := Lib.hid (by rw [show ((k + 1 : Nat) : Int) = (k : Int) + 1 from by omega])
  obtain ⟨bi, oi, ki, hie, -, -, hci⟩ := IntsP.at (show Ints (fun b => Value.ownBlock (.slice a0 l.length c0) = some b) wr .i64 (.slice a8 ms.length c8) (natsZ ms) from Row.ext HI1.out hA.out.ext (fun _ _ e => e)) hlt
  simp only [Value.slice.injEq] at hie
  obtain ⟨rfl, -, rfl⟩ := hie
  have q0 := hci k hlt
  have hasc : ∀ x ∈ ms.take k, x < ms[k] := take_asc (by rw [HMS.out]; exact memN_asc w m) hlt
  have hle : e ≤ ms[k] := by rw [he]; exact endP_le _ _ _ hasc (Nat.zero_le _)
  have hmw : ms[k] < w := memN_lt (by rw [← HMS.out]; exact List.getElem_mem hlt)
  have htk : ms.take (k + 1) = ms.take k ++ [ms[k]] := by rw [List.take_add_one]; simp [hlt]
  obtain ⟨x, hx⟩ : ∃ x, x = ms[k] := ⟨_, rfl⟩
  rw [← hx] at q0 hle hmw htk
  have HXE := Lib.hid hx
  have HTK := Lib.hid htk
  have HLE := Lib.hid hle
  clear hci hasc hx he htk
  have hsb : IntKind.i64.wrap ((x : Int) - ((e : Int) - 1)) = (x : Int) - ((e : Int) - 1) := IntWalk.i64_in _ (by omega)
  have hsb2 : IntKind.i64.wrap ((x : Int) - ((e : Int) - 1) - 1) = ((x - e : Nat) : Int) := by rw [IntWalk.i64_in _ (by omega)]; omega
  go_wp2_with fail
  clear q0 hsb hsb2
  have hsz := hA.out.ext.size
  refine (ruvarint_any base (x - e) _ lk _ hA.out.own (by omega) (by rw [← hkk.out]; have := HKL.out; omega) (by omega)).mono ?_
  rintro e9 w9 ⟨s9, rfl, hO9, hx9, hv9⟩
  have hA9 := hA.out.step hO9.out hx9 hv9
  obtain ⟨l9, hl9⟩ : ∃ z, z = lk ++ uv (x - e) := ⟨_, rfl⟩
  have hO8 := hO9.out
  rw [← hl9] at hA9 hO8
  obtain ⟨a9, c9, hs9⟩ := hO8.slice
  subst hs9
  obtain ⟨k9, hk9⟩ : ∃ z, z = l9.length := ⟨_, rfl⟩
  rw [← hk9] at hA9 ⊢
  have HA9 := Lib.hid hA9
  have HK9 := Lib.hid hk9
  have HL9 := Lib.hid (show l9 = l2 ++ gaps 0 (ms.take (k + 1)) from by rw [hl9, hlk.out, HTK.out, gaps_snoc, HEE.out, List.append_assoc])
  have HE9 := Lib.hid (show x + 1 = endP 0 (ms.take (k + 1)) from by rw [HTK.out, endP_snoc])
  obtain ⟨bj, oj, kj, hje, -, -, hcj⟩ := IntsP.at (show Ints (fun b => Value.ownBlock (.slice a0 l.length c0) = some b) w9 .i64 (.slice (some ⟨bi, oi, none⟩) ms.length c8) (natsZ ms) from Row.ext HI1.out HA9.out.ext (fun _ _ e => e)) hlt
  simp only [Value.slice.injEq, Option.some.injEq, Addr.mk.injEq] at hje
  obtain ⟨⟨rfl, rfl, -⟩, -, -⟩ := hje
  have q9 := hcj k hlt
  rw [← HXE.out] at q9
  clear hA hkk hlk hO9 hx9 hv9 hA9 hl9 hO8 hk9 hsz hcj
  go_wp2_with fail
  clear q9
  go_roundw
  case rel => exact ⟨k + 1, l9, k9, x + 1, a9, c9, by omega, HKK.out, rfl, HK9, HE9.out, by rw [show ((x + 1 : Nat) : Int) - 1 = (x : Int) from by omega], HA9, HL9⟩
  case measure => simp [intOf]; omega
 have hge : ¬ (k : Int) < (ms.length : Int) := by omega
 go_wp2_with fail
 go_ret
 have hA9 := hA.out.fromNo HX1.out
 have e9 : lk = l ++ setB w (memN w m) := by
  rw [hlk.out, List.take_of_length_le (by omega), Hl2.out, Hl1.out, ← HMS.out]
  unfold setB
  simp only [List.append_assoc]
 rw [e9] at hA9
 exact hA9.post

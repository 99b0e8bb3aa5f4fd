
import Derived.Test.YtmddchceacmopaaGreatDoorFS
set_option linter.unusedVariables false
set_option linter.unusedSimpArgs false
namespace Go.Proofs.YtmddchceacmopaaGreatDoor
open Go Go.RowKit
theorem infoI2 : (Tryz.prog.info? 3).map (fun i => (i.zero, i.size, i.bytes)) = some (some (.int .i64 0), 1, 8) := by kernel_rfl
def InsOf (l : List Int) (n : Int) (l' : List Int) : Prop :=
 ∃ i, i ≤ l.length ∧ (∀ j (h : j < l.length), j < i → l[j] < n) ∧ (∀ h : i < l.length, n ≤ l[i]) ∧ ((∃ h : i < l.length, l[i] = n ∧ l' = l) ∨ ((∀ h : i < l.length, l[i] ≠ n) ∧ l' = l.take i ++ n :: l.drop i))
theorem InsOf.asc {l l' : List Int} {n N : Int} (h : InsOf l n l') (ha : AscL l N) (h0 : 0 ≤ n) (h1 : n < N) : AscL l' N := by
 obtain ⟨i, hi, h2, h3, h4 | ⟨h4, rfl⟩⟩ := h
 ·obtain ⟨_, _, rfl⟩ := h4
  exact ha
 have hlt : (l.take i).length = i := by simp; omega
 have key : ∀ k (hk : k < (l.take i ++ n :: l.drop i).length), (l.take i ++ n :: l.drop i)[k] = if hk1 : k < i then l[k]'(by omega) else if hk2 : k = i then n else l[k - 1]'(by simp at hk; omega) := fun k hk => by
  by_cases hk1 : k < i
  ·rw [dif_pos hk1, List.getElem_append_left (by omega)]
   simp
  rw [dif_neg hk1, List.getElem_append_right (by omega)]
  by_cases hk2 : k = i
  ·subst hk2
   simp [hlt]
  rw [dif_neg hk2]
  obtain ⟨m, rfl⟩ : ∃ m, k = i + 1 + m := ⟨k - i - 1, by omega⟩
  simp only [hlt, show i + 1 + m - i = m + 1 from by omega, List.getElem_cons_succ, List.getElem_drop]
  congr 1
  omega
 intro k hk
 have hk' : k < l.length + 1 := by simp at hk; omega
 rw [key k hk]
 by_cases hk1 : k < i
 ·rw [dif_pos hk1]
  refine ⟨(ha k (by omega)).1, (ha k (by omega)).2.1, fun hp => ?_⟩
  rw [key (k - 1) (by omega), dif_pos (by omega)]
  exact (ha k (by omega)).2.2 hp
 rw [dif_neg hk1]
 by_cases hk2 : k = i
 ·rw [dif_pos hk2]
  refine ⟨h0, h1, fun hp => ?_⟩
  rw [key (k - 1) (by omega), dif_pos (by omega)]
  exact h2 _ _ (by omega)
 rw [dif_neg hk2]
 refine ⟨(ha (k - 1) (by omega)).1, (ha (k - 1) (by omega)).2.1, fun hp => ?_⟩
 rw [key (k - 1) (by omega), dif_neg (by omega)]
 by_cases hk3 : k - 1 = i
 ·rw [dif_pos hk3]
  have h5 := h3 (by omega)
  have h6 := h4 (by omega)
  have h7 : l[k - 1]'(by omega) = l[i]'(by omega) := by congr 1
  rw [h7]
  omega
 rw [dif_neg hk3]
 exact (ha (k - 1) (by omega)).2.2 (by omega)
theorem InsOf.len {l l' : List Int} {n : Int} (h : InsOf l n l') : l'.length ≤ l.length + 1 ∧ 0 < l'.length := by
 obtain ⟨i, hi, _, _, h4 | ⟨_, rfl⟩⟩ := h
 ·obtain ⟨_, _, rfl⟩ := h4
  omega
 simp; omega
theorem natmap_take (l : List Int) (k : Nat) : (l.map (Value.int .i64)).take k = (l.take k).map (Value.int .i64) := (List.map_take ..).symm
theorem Row.cutK {M : Nat → Prop} {w : World} {s n cap k : Nat} {a : Option Addr} {vs : List Value} (h : Row M w s (.slice a n cap) n vs) (hc : cap ≤ 9223372036854775807) (hcn : n ≤ cap) (hk : k ≤ n) : Row M w s (.slice a k cap) k (vs.take (k * s)) := by
 obtain ⟨h1, h2, a', cap', h3, h4, h5⟩ := h.take hk
 simp only [Value.slice.injEq] at h3
 obtain ⟨rfl, _, rfl⟩ := h3
 exact ⟨h1, h2, _, cap, rfl, ⟨by omega, hc⟩, h5⟩
theorem own_ext {W wr w' : World} {o : Obj} {v : Value} {base : Nat} (hx : Ext No W wr) (hg : (wr.alloc o).grownBy w' v.ownBlock) (hl : ∀ b, v.ownBlock = some b → base ≤ b) (hb : W.heap.size ≤ base) : Ext No W w' :=
 (hx.trans2 (((Ext.refl (fun k => v.ownBlock = some k) wr).alloc o).grown hg (fun k hk _ => hk)) (fun i hi e => by have := hl i e; omega))
def InsPost (M : Nat → Prop) (l : List Int) (n : Int) (W : World) (e : Ending) (w' : World) : Prop :=
 ∃ (v : Value) (l' : List Int), e = .returned v ∧ InsOf l n l' ∧ Hid (Ints M w' .i64 v l') ∧ Ext No W w'
theorem int_one (l : List Int) : ∀ u ∈ l.map (Value.int .i64), u.oneCell' = true := fun u hu => by
 obtain ⟨z, _, rfl⟩ := List.mem_map.1 hu; rfl
set_option maxRecDepth 100000 in
set_option maxHeartbeats 8000000 in
theorem insert_any (M : Nat → Prop) (sl : Value) (l : List Int) (n : Int) (W : World) (hM : ∀ b, M b → b < W.heap.size) (h : Ints M W .i64 sl l) (hz : l = [] → sl = .slice none 0 0) (hll : l.length ≤ 1000000) :
  Calls Tryz.prog 55 #[sl, .int .i64 n] W (InsPost M l n W) := by
 obtain ⟨i0, hi0, hz0, hz1, hz2⟩ := info_parts infoI2
 have H := Lib.hid h
 have HM := Lib.hid hM
 by_cases h0 : l = []
 ·subst h0
  obtain rfl := hz rfl
  clear h hM hz
  go_enter Tryz.func55, Tryz.ntmps55
  go_wp2_with fail
  go_loopw [5] (fun i wr => i = .int .i64 0 ∧ Hid (Ext No W wr)) (fun _ _ => 0)
  case atStart => exact ⟨rfl, Lib.hid (Ext.refl _ _)⟩
  obtain ⟨rfl, hx⟩ := hrel
  rename World => wr
  have HT1 : Hid (Row No wr 1 (.slice none 0 0) 0 (([] : List Int).map (.int .i64))) := Lib.hid ⟨by simp, by omega, none, 0, rfl, by simp, .inl rfl⟩
  obtain ⟨B, hB⟩ : ∃ B, B = wr.heap.size := ⟨_, rfl⟩
  have hBB : B ≤ (wr.alloc (.cells #[] 3)).heap.size := by subst hB; simp
  have hmd : (wr.alloc (.cells #[] 3)).ownsRow B 3 1 (.slice (some ⟨wr.heap.size, 0, none⟩) 0 0) 0 [] := World.ownsRow_made wr #[] 0 (e := 3) (size := 1) (by rw [hB]; exact Nat.le_refl _) (Nat.zero_le _) rfl
  have HMD := Lib.hid hmd
  have HB := Lib.hid hB
  clear hmd hB
  go_upto_region 7 with (at_builtin; (refine wpList_app _ rfl (.tmp 34) (.tmp 37) 22 rfl B 3 i0 _ 1 8 Tryz.underlying22 hi0 hz0 hz1 hz2 rfl (by omega) (.slice (some ⟨wr.heap.size, 0, none⟩) 0 0) 0 [] rfl HMD.out No none 0 0 (([] : List Int).map (.int .i64)) rfl (HT1.out.extNo ((Ext.refl No _).alloc _)) (int_one _) (by omega) (by omega) ?_ ?_); (first | exact hBB | (simp; omega)); (intro v1 w1 hown1 hg1 hv1); (have hE1 : Ext No wr w1 := (((Ext.refl _ _).alloc _).trans2 (((Ext.refl (fun bq => (Value.slice (some ⟨wr.heap.size, 0, none⟩) 0 0).ownBlock = some bq) _).grown hg1 (fun k hk _ => hk))) (fun i hi e => by simp only [Value.ownBlock, Option.some.injEq] at e; omega))); (simp only [Nat.zero_add, List.nil_append] at hown1); (have hl1 := World.ownsRow.lt hown1); (have HO1 := Lib.hid hown1); (have HE1 := Lib.hid hE1); (have HL1 := Lib.hid hl1); (obtain ⟨s1, t1, hs1⟩ := (Row.ofOwns (M := No) hown1 (fun _ _ x => x)).slice); (subst hs1); (clear hown1 hg1 hv1 hE1 hl1 hBB))
  have hBB : B ≤ w1.heap.size := by rw [HB.out]; exact HE1.out.size
  go_upto_region 8 with (at_builtin; (refine wpList_app _ rfl (.tmp 39) (.tmp 41) 22 rfl B 3 i0 _ 1 8 Tryz.underlying22 hi0 hz0 hz1 hz2 rfl (by omega) (.slice s1 (0) t1) (0) (([] : List Int).map (.int .i64)) rfl (row_keep HO1.out ((Ext.refl No _).alloc _) (fun _ _ x => x)) No (some ⟨w1.heap.size, 0, none⟩) 1 1 [.int .i64 n] rfl (Row.block (alloc_top rfl) rfl no_no (by omega)) (by simp [Value.oneCell']) (by omega) (by omega) ?_ ?_); (first | exact hBB | (simp; omega)); (intro v2 w2 hown2 hg2 hv2); (have hE2 : Ext No wr w2 := own_ext HE1.out hg2 (fun b hb => (HL1.out b hb).1) (by rw [HB.out]; exact Nat.le_refl _)); (have hl2 := World.ownsRow.lt hown2); (have HO2 := Lib.hid hown2); (have HE2 := Lib.hid hE2); (have HL2 := Lib.hid hl2); (obtain ⟨s2, t2, hs2⟩ := (Row.ofOwns (M := No) hown2 (fun _ _ x => x)).slice); (subst hs2); (clear hown2 hg2 hv2 hE2 hl2 hBB))
  have hBB : B ≤ w2.heap.size := by rw [HB.out]; exact HE2.out.size
  go_wp2_with (at_builtin; (refine wpList_app _ rfl (.tmp 43) (.tmp 46) 22 rfl B 3 i0 _ 1 8 Tryz.underlying22 hi0 hz0 hz1 hz2 rfl (by omega) (.slice s2 (0 + 1) t2) (0 + 1) ((([] : List Int).map (.int .i64)) ++ [.int .i64 n]) rfl HO2.out No none 0 0 (([] : List Int).map (.int .i64)) rfl (HT1.out.extNo HE2.out) (int_one _) (by omega) (by omega) ?_ ?_); (first | exact hBB | (simp; omega)); (intro v3 w3 hown3 hg3 hv3); (have hE3 : Ext No wr w3 := (HE2.out.trans2 ((Ext.refl (fun bq => (Value.slice s2 (0 + 1) t2).ownBlock = some bq) w2).grown hg3 (fun k hk _ => hk)) (fun i hi e => by have := (HL2.out i e).1; rw [HB.out] at this; omega))); (have HO3 := Lib.hid hown3); (have HE3 := Lib.hid hE3); (clear hown3 hg3 hv3 hE3 hBB))
  go_ret
  have hfin : Ints M w3 .i64 v3 [n] := by
   have h1 := Row.ofOwns HO3.out (M := M) (fun b hb e => by have h2 := HM.out b e; rw [HB.out] at hb; have h3 := hx.out.size; omega)
   exact h1
  exact ⟨_, [n], rfl, ⟨0, Nat.le_refl _, fun j _ hj => absurd hj (Nat.not_lt_zero _), fun h => absurd h (Nat.lt_irrefl _), .inr ⟨fun h => absurd h (Nat.lt_irrefl _), rfl⟩⟩, Lib.hid hfin, hx.out.transNo HE3.out⟩
 have hpos : 0 < l.length := (by rcases l with _ | ⟨a, l⟩; exact absurd rfl h0; simp)
 obtain ⟨b, off, cap, rfl, hb, hMb, hcell⟩ := Ints.at h hpos
 have hcp : l.length ≤ cap ∧ cap ≤ 9223372036854775807 := by
  obtain ⟨_, _, a', cap', h3, h4, _⟩ := h
  simp only [Value.slice.injEq] at h3
  obtain ⟨_, _, rfl⟩ := h3
  exact h4
 have HC := Lib.hid hcell
 have hcap := hcp.1
 have hcap2 := hcp.2
 clear h hM hz hcell h0 hb hMb hcp
 go_enter Tryz.func55, Tryz.ntmps55
 go_wp2_with fail
 go_loopw [5] (fun i wr => ∃ k : Nat, k ≤ l.length ∧ i = .int .i64 k ∧ Hid (Ext No W wr) ∧ Hid (∀ j (h : j < l.length), j < k → l[j] < n)) (fun i _ => l.length - (intOf i).toNat)
 case atStart => exact ⟨0, Nat.zero_le _, rfl, Lib.hid (Ext.refl _ _), Lib.hid (fun j _ hj => absurd hj (Nat.not_lt_zero _))⟩
 obtain ⟨k, hk, rfl, hx, hm⟩ := hrel
 rename World => wr
 have hk0 : (0 : Int) ≤ (k : Int) := by omega
 have hkl : (k : Int) ≤ (l.length : Int) := by omega
 have hkc : (k : Int) ≤ (cap : Int) := by omega
 have hT1 : Row No W 1 (.slice (some ⟨b, off, none⟩) k cap) k ((l.take k).map (.int .i64)) := by
  have h1 := (Row.cutK H.out hcap2 hcap hk).mono (M' := No) (fun _ _ e => e.elim)
  rw [Nat.mul_one, natmap_take] at h1
  exact h1
 have HT1 := Lib.hid (hT1.extNo hx.out)
 clear hT1
 by_cases hlt : k < l.length
 ·have hlz : (k : Int) < (l.length : Int) := by omega
  have hT2 : Row No W 1 (.slice (some ⟨b, off + k, none⟩) (l.length - k) (cap - k)) (l.length - k) ((l.drop k).map (.int .i64)) := by
   have h1 := (Row.drop H.out hk).mono (M' := No) (fun _ _ e => e.elim)
   rw [Nat.mul_one, ← List.map_drop] at h1
   exact h1
  have HT2 := Lib.hid (hT2.extNo hx.out)
  clear hT2
  have q0 := hx.out.keep (HC.out k hlt)
  obtain ⟨y, hy⟩ : ∃ y, y = l[k] := ⟨_, rfl⟩
  rw [← hy] at q0
  have HY := Lib.hid hy
  clear hy
  by_cases h1 : y < n
  ·clear HT1 HT2
   go_wp2_with fail
   go_roundw
   case rel => exact ⟨k + 1, by omega, by go_num, hx, Lib.hid (fun j hj hjk => by
    by_cases e : j = k
    ·subst e; rw [← HY.out]; exact h1
    exact hm.out j hj (by omega))⟩
   case measure => simp [intOf]; omega
  by_cases h2 : y = n
  ·have hyn : (y == n) = true := by simp [h2]
   have H2 := Lib.hid h2
   clear h2 HT1 HT2
   go_wp2_with fail
   go_ret
   exact ⟨_, l, rfl, ⟨k, hk, hm.out, fun _ => by rw [← HY.out, H2.out]; exact Int.le_refl _, .inl ⟨hlt, by rw [← HY.out, H2.out], rfl⟩⟩, Lib.hid (Row.extNo H.out hx.out), hx.out⟩
  have hyn : (y == n) = false := by simp [h2]
  have H2 := Lib.hid h2
  have h1z : ¬ y < n := h1
  have hck : ¬ cap = k := by omega
  clear h2
  obtain ⟨B, hB⟩ : ∃ B, B = wr.heap.size := ⟨_, rfl⟩
  have hBB : B ≤ (wr.alloc (.cells #[] 3)).heap.size := by subst hB; simp
  have hmd : (wr.alloc (.cells #[] 3)).ownsRow B 3 1 (.slice (some ⟨wr.heap.size, 0, none⟩) 0 0) 0 [] := World.ownsRow_made wr #[] 0 (e := 3) (size := 1) (by rw [hB]; exact Nat.le_refl _) (Nat.zero_le _) rfl
  have HMD := Lib.hid hmd
  have HB := Lib.hid hB
  clear hmd hB
  go_upto_region 7 with (at_builtin; (refine wpList_app _ rfl (.tmp 34) (.tmp 37) 22 rfl B 3 i0 _ 1 8 Tryz.underlying22 hi0 hz0 hz1 hz2 rfl (by omega) (.slice (some ⟨wr.heap.size, 0, none⟩) 0 0) 0 [] rfl HMD.out No (some ⟨b, off, none⟩) k cap ((l.take k).map (.int .i64)) rfl (HT1.out.extNo ((Ext.refl No _).alloc _)) (int_one _) (by omega) (by omega) ?_ ?_); (first | exact hBB | (simp; omega)); (intro v1 w1 hown1 hg1 hv1); (have hE1 : Ext No wr w1 := (((Ext.refl _ _).alloc _).trans2 (((Ext.refl (fun bq => (Value.slice (some ⟨wr.heap.size, 0, none⟩) 0 0).ownBlock = some bq) _).grown hg1 (fun k hk _ => hk))) (fun i hi e => by simp only [Value.ownBlock, Option.some.injEq] at e; omega))); (simp only [Nat.zero_add, List.nil_append] at hown1); (have hl1 := World.ownsRow.lt hown1); (have HO1 := Lib.hid hown1); (have HE1 := Lib.hid hE1); (have HL1 := Lib.hid hl1); (obtain ⟨s1, t1, hs1⟩ := (Row.ofOwns (M := No) hown1 (fun _ _ x => x)).slice); (subst hs1); (clear hown1 hg1 hv1 hE1 hl1 hBB))
  have hBB : B ≤ w1.heap.size := by rw [HB.out]; exact HE1.out.size
  go_upto_region 8 with (at_builtin; (refine wpList_app _ rfl (.tmp 39) (.tmp 41) 22 rfl B 3 i0 _ 1 8 Tryz.underlying22 hi0 hz0 hz1 hz2 rfl (by omega) (.slice s1 (k) t1) (k) ((l.take k).map (.int .i64)) rfl (row_keep HO1.out ((Ext.refl No _).alloc _) (fun _ _ x => x)) No (some ⟨w1.heap.size, 0, none⟩) 1 1 [.int .i64 n] rfl (Row.block (alloc_top rfl) rfl no_no (by omega)) (by simp [Value.oneCell']) (by omega) (by omega) ?_ ?_); (first | exact hBB | (simp; omega)); (intro v2 w2 hown2 hg2 hv2); (have hE2 : Ext No wr w2 := own_ext HE1.out hg2 (fun b hb => (HL1.out b hb).1) (by rw [HB.out]; exact Nat.le_refl _)); (have hl2 := World.ownsRow.lt hown2); (have HO2 := Lib.hid hown2); (have HE2 := Lib.hid hE2); (have HL2 := Lib.hid hl2); (obtain ⟨s2, t2, hs2⟩ := (Row.ofOwns (M := No) hown2 (fun _ _ x => x)).slice); (subst hs2); (clear hown2 hg2 hv2 hE2 hl2 hBB))
  have hBB : B ≤ w2.heap.size := by rw [HB.out]; exact HE2.out.size
  go_wp2_with (at_builtin; (refine wpList_app _ rfl (.tmp 43) (.tmp 46) 22 rfl B 3 i0 _ 1 8 Tryz.underlying22 hi0 hz0 hz1 hz2 rfl (by omega) (.slice s2 (k + 1) t2) (k + 1) (((l.take k).map (.int .i64)) ++ [.int .i64 n]) rfl HO2.out No (some ⟨b, off + k, none⟩) (l.length - k) (cap - k) ((l.drop k).map (.int .i64)) rfl (HT2.out.extNo HE2.out) (int_one _) (by omega) (by omega) ?_ ?_); (first | exact hBB | (simp; omega)); (intro v3 w3 hown3 hg3 hv3); (have hE3 : Ext No wr w3 := (HE2.out.trans2 ((Ext.refl (fun bq => (Value.slice s2 (k + 1) t2).ownBlock = some bq) w2).grown hg3 (fun k hk _ => hk)) (fun i hi e => by have := (HL2.out i e).1; rw [HB.out] at this; omega))); (have HO3 := Lib.hid hown3); (have HE3 := Lib.hid hE3); (clear hown3 hg3 hv3 hE3 hBB))
  go_ret
  have hfin : Ints M w3 .i64 v3 (l.take k ++ n :: l.drop k) := by
   have h1 := Row.ofOwns HO3.out (M := M) (fun b hb e => by have h2 := HM.out b e; rw [HB.out] at hb; have h3 := hx.out.size; omega)
   unfold Ints
   have e1 : (l.take k ++ n :: l.drop k).length = (k + 1 + (l.length - k)) := by simp; omega
   rw [e1, show (l.take k ++ n :: l.drop k).map (Value.int .i64) = ((l.take k).map (Value.int .i64) ++ [.int .i64 n] ++ (l.drop k).map (.int .i64)) from by simp]
   exact h1
  exact ⟨_, _, rfl, ⟨k, by omega, hm.out, (fun _ => by rw [← HY.out]; omega), .inr ⟨fun _ => by rw [← HY.out]; exact H2.out, rfl⟩⟩, Lib.hid hfin, hx.out.transNo HE3.out⟩
 have hge : ¬ (k : Int) < (l.length : Int) := by omega
 have hkk : k = l.length := by omega
 subst hkk
 have HT2 : Hid (Row No wr 1 (.slice (if cap = l.length then some ⟨b, off, none⟩ else some ⟨b, off + l.length, none⟩) 0 (cap - l.length)) 0 (([] : List Int).map (.int .i64))) := Lib.hid ⟨by simp, by omega, _, _, rfl, ⟨by omega, by omega⟩, .inl rfl⟩
 obtain ⟨AA, hAA⟩ : ∃ AA, (if cap = l.length then some (⟨b, off, none⟩ : Addr) else some ⟨b, off + l.length, none⟩) = AA := ⟨_, rfl⟩
 rw [hAA] at HT2
 obtain ⟨B, hB⟩ : ∃ B, B = wr.heap.size := ⟨_, rfl⟩
 have hBB : B ≤ (wr.alloc (.cells #[] 3)).heap.size := by subst hB; simp
 have hmd : (wr.alloc (.cells #[] 3)).ownsRow B 3 1 (.slice (some ⟨wr.heap.size, 0, none⟩) 0 0) 0 [] := World.ownsRow_made wr #[] 0 (e := 3) (size := 1) (by rw [hB]; exact Nat.le_refl _) (Nat.zero_le _) rfl
 have HMD := Lib.hid hmd
 have HB := Lib.hid hB
 clear hmd hB
 go_upto_region 7 with (at_builtin; (refine wpList_app _ rfl (.tmp 34) (.tmp 37) 22 rfl B 3 i0 _ 1 8 Tryz.underlying22 hi0 hz0 hz1 hz2 rfl (by omega) (.slice (some ⟨wr.heap.size, 0, none⟩) 0 0) 0 [] rfl HMD.out No (some ⟨b, off, none⟩) l.length cap ((l.take l.length).map (.int .i64)) rfl (HT1.out.extNo ((Ext.refl No _).alloc _)) (int_one _) (by omega) (by omega) ?_ ?_); (first | exact hBB | (simp; omega)); (intro v1 w1 hown1 hg1 hv1); (have hE1 : Ext No wr w1 := (((Ext.refl _ _).alloc _).trans2 (((Ext.refl (fun bq => (Value.slice (some ⟨wr.heap.size, 0, none⟩) 0 0).ownBlock = some bq) _).grown hg1 (fun k hk _ => hk))) (fun i hi e => by simp only [Value.ownBlock, Option.some.injEq] at e; omega))); (simp only [Nat.zero_add, List.nil_append] at hown1); (have hl1 := World.ownsRow.lt hown1); (have HO1 := Lib.hid hown1); (have HE1 := Lib.hid hE1); (have HL1 := Lib.hid hl1); (obtain ⟨s1, t1, hs1⟩ := (Row.ofOwns (M := No) hown1 (fun _ _ x => x)).slice); (subst hs1); (clear hown1 hg1 hv1 hE1 hl1 hBB))
 have hBB : B ≤ w1.heap.size := by rw [HB.out]; exact HE1.out.size
 go_upto_region 8 with (at_builtin; (refine wpList_app _ rfl (.tmp 39) (.tmp 41) 22 rfl B 3 i0 _ 1 8 Tryz.underlying22 hi0 hz0 hz1 hz2 rfl (by omega) (.slice s1 (l.length) t1) (l.length) ((l.take l.length).map (.int .i64)) rfl (row_keep HO1.out ((Ext.refl No _).alloc _) (fun _ _ x => x)) No (some ⟨w1.heap.size, 0, none⟩) 1 1 [.int .i64 n] rfl (Row.block (alloc_top rfl) rfl no_no (by omega)) (by simp [Value.oneCell']) (by omega) (by omega) ?_ ?_); (first | exact hBB | (simp; omega)); (intro v2 w2 hown2 hg2 hv2); (have hE2 : Ext No wr w2 := own_ext HE1.out hg2 (fun b hb => (HL1.out b hb).1) (by rw [HB.out]; exact Nat.le_refl _)); (have hl2 := World.ownsRow.lt hown2); (have HO2 := Lib.hid hown2); (have HE2 := Lib.hid hE2); (have HL2 := Lib.hid hl2); (obtain ⟨s2, t2, hs2⟩ := (Row.ofOwns (M := No) hown2 (fun _ _ x => x)).slice); (subst hs2); (clear hown2 hg2 hv2 hE2 hl2 hBB))
 have hBB : B ≤ w2.heap.size := by rw [HB.out]; exact HE2.out.size
 go_wp2_with (at_builtin; (refine wpList_app _ rfl (.tmp 43) (.tmp 46) 22 rfl B 3 i0 _ 1 8 Tryz.underlying22 hi0 hz0 hz1 hz2 rfl (by omega) (.slice s2 (l.length + 1) t2) (l.length + 1) (((l.take l.length).map (.int .i64)) ++ [.int .i64 n]) rfl HO2.out No AA 0 (cap - l.length) (([] : List Int).map (.int .i64)) rfl (HT2.out.extNo HE2.out) (int_one _) (by omega) (by omega) ?_ ?_); (first | exact hBB | (simp; omega)); (intro v3 w3 hown3 hg3 hv3); (have hE3 : Ext No wr w3 := (HE2.out.trans2 ((Ext.refl (fun bq => (Value.slice s2 (l.length + 1) t2).ownBlock = some bq) w2).grown hg3 (fun k hk _ => hk)) (fun i hi e => by have := (HL2.out i e).1; rw [HB.out] at this; omega))); (have HO3 := Lib.hid hown3); (have HE3 := Lib.hid hE3); (clear hown3 hg3 hv3 hE3 hBB))
 go_ret
 have hfin : Ints M w3 .i64 v3 (l.take l.length ++ n :: l.drop l.length) := by
  have h1 := Row.ofOwns HO3.out (M := M) (fun b hb e => by have h2 := HM.out b e; rw [HB.out] at hb; have h3 := hx.out.size; omega)
  unfold Ints
  have e1 : (l.take l.length ++ n :: l.drop l.length).length = (l.length + 1 + 0) := by simp
  rw [e1, show (l.take l.length ++ n :: l.drop l.length).map (Value.int .i64) = ((l.take l.length).map (Value.int .i64) ++ [.int .i64 n] ++ ([] : List Int).map (.int .i64)) from by simp]
  exact h1
 exact ⟨_, _, rfl, ⟨l.length, by omega, hm.out, (fun h => absurd h (Nat.lt_irrefl _)), .inr ⟨(fun h => absurd h (Nat.lt_irrefl _)), rfl⟩⟩, Lib.hid hfin, hx.out.transNo HE3.out⟩

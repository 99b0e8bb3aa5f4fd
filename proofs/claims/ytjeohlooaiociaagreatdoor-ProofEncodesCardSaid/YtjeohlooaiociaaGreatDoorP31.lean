
import Derived.Test.YtjeohlooaiociaaGreatDoorP24
set_option linter.unusedVariables false
set_option linter.unusedSimpArgs false
namespace Go.Proofs.YtjeohlooaiociaaGreatDoor
open Go Go.RowKit
theorem infoB31 : (Tryz.prog.info? 5).map (fun i => (i.zero, i.size, i.bytes)) = some (some (.int .u8 0), 1, 1) := by kernel_rfl
def uv (n : Nat) : List Nat := if h : n < 128 then [n] else (n % 128 + 128) :: uv (n / 128)
 termination_by n
 decreasing_by omega
theorem uv_lt {n : Nat} (h : n < 128) : uv n = [n] := by rw [uv, dif_pos h]
theorem uv_ge {n : Nat} (h : 128 ≤ n) : uv n = (n % 128 + 128) :: uv (n / 128) := by rw [uv, dif_neg (by omega)]
theorem uv_len : ∀ (k n : Nat), n < 128 ^ (k + 1) → (uv n).length ≤ k + 1
 | 0, n, h => by rw [uv_lt (by simpa using h)]; simp
 | k + 1, n, h => by
  by_cases h1 : n < 128
  ·rw [uv_lt h1]; simp
  rw [uv_ge (by omega)]
  have h2 := uv_len k (n / 128) (Nat.div_lt_of_lt_mul (by rw [Nat.pow_succ] at h; omega))
  simp only [List.length_cons]; omega
theorem uv_byte (n : Nat) : ∀ b ∈ uv n, b < 256 := by
 induction n using Nat.strongRecOn with
 | _ n ih =>
  by_cases h1 : n < 128
  ·rw [uv_lt h1]
   intro b hb
   rw [List.mem_singleton.1 hb]; omega
  rw [uv_ge (by omega)]
  intro b hb
  rcases List.mem_cons.1 hb with rfl | hb
  ·omega
  exact ih (n / 128) (by omega) b hb
def bytesV (l : List Nat) : List Value := (natsZ l).map (.int .u8)
theorem bytesV_app (l k : List Nat) : bytesV (l ++ k) = bytesV l ++ bytesV k := by simp [bytesV, natsZ]
def OwnB (w : World) (base : Nat) (sl : Value) (l : List Nat) : Prop := w.ownsRow base 5 1 sl l.length (bytesV l)
theorem OwnB.slice {w : World} {base : Nat} {sl : Value} {l : List Nat} (h : OwnB w base sl l) : ∃ a c, sl = .slice a l.length c := (Row.ofOwns (M := No) h (fun _ _ x => x)).slice
theorem OwnB.nil (w : World) (base : Nat) : OwnB w base (.slice none 0 0) [] := ⟨by simp [bytesV, natsZ], .inl ⟨rfl, rfl⟩⟩
theorem OwnB.lt {w : World} {base : Nat} {sl : Value} {l : List Nat} (h : OwnB w base sl l) (k : Nat) (hk : sl.ownBlock = some k) : base ≤ k ∧ k < w.heap.size := World.ownsRow.lt h k hk
theorem OwnB.ext {M : Nat → Prop} {w w' : World} {base : Nat} {sl : Value} {l : List Nat} (h : OwnB w base sl l) (hx : Ext M w w') (hm : ∀ k, sl.ownBlock = some k → ¬ M k) : OwnB w' base sl l := row_keep2 h hx hm
theorem OwnB.extNo {w w' : World} {base : Nat} {sl : Value} {l : List Nat} (h : OwnB w base sl l) (hx : Ext No w w') : OwnB w' base sl l := h.ext hx (fun _ _ x => x)
theorem OwnB.ints {M : Nat → Prop} {w : World} {base : Nat} {sl : Value} {l : List Nat} (h : OwnB w base sl l) (hm : ∀ k, sl.ownBlock = some k → ¬ M k) : Ints M w .u8 sl (natsZ l) := by
 have h0 : Row No w 1 sl l.length (bytesV l) := Row.ofOwns h (fun _ _ x => x)
 obtain ⟨h1, h2, a, c, rfl, hcp, h4⟩ := h0
 have hz : (natsZ l).length = l.length := by simp [natsZ]
 unfold Ints
 rw [hz]
 refine ⟨h1, h2, a, c, rfl, hcp, ?_⟩
 rcases h4 with h4 | ⟨b, off, h5, h6, _, h8⟩
 ·exact .inl h4
 refine .inr ⟨b, off, h5, h6, hm b ?_, h8⟩
 rw [h5]; rfl
theorem bytes_one (l : List Nat) : ∀ u ∈ bytesV l, u.oneCell' = true := fun u hu => by
 obtain ⟨y, _, rfl⟩ := List.mem_map.1 hu; rfl
def AppB (base : Nat) (sl : Value) (l k : List Nat) (W : World) (e : Ending) (w' : World) : Prop :=
 ∃ sl', e = .returned sl' ∧ Hid (OwnB w' base sl' (l ++ k)) ∧ Ext (fun b => sl.ownBlock = some b) W w' ∧ (sl'.ownBlock = sl.ownBlock ∨ ∀ b, sl'.ownBlock = some b → W.heap.size ≤ b)
theorem or_bytes : ((List.range 256).all fun a => bits .or .u8 ((a : Nat) : Int) 128 == ((a % 128 + 128 : Nat) : Int)) = true := by kernel_rfl
theorem or_byte (m : Nat) : bits .or .u8 ((m : Int) % 256) 128 = ((m % 128 + 128 : Nat) : Int) := by
 have h := eq_of_beq (List.all_eq_true.1 or_bytes (m % 256) (List.mem_range.2 (by omega)))
 rw [show ((m : Int) % 256) = ((m % 256 : Nat) : Int) from by omega, show m % 128 = m % 256 % 128 by omega]
 exact h
set_option maxRecDepth 100000 in
set_option maxHeartbeats 4000000 in
theorem uappend_any (base n : Nat) (sl : Value) (l : List Nat) (W : World) (h : OwnB W base sl l) (hb : base ≤ W.heap.size) (hl : l.length ≤ 1099511627776) (hn : n < 128 ^ 5) :
  Calls Tryz.prog 66 #[sl, .int .i64 (n : Int)] W (AppB base sl l (uv n) W) := by
 obtain ⟨iB, hiB, hB0, hB1, hB2⟩ := info_parts infoB31
 have H := Lib.hid h
 have HLN := Lib.hid (uv_len 4 n hn)
 obtain ⟨a0, c0, rfl⟩ := h.slice
 clear h
 have hn2 : n < 34359738368 := hn
 clear hn
 go_enter Tryz.func66, Tryz.ntmps66
 go_wp2_with fail
 go_loopw [0, 1] (fun s0 s1 wr => ∃ (l' : List Nat) (m k : Nat) (a : Option Addr) (c : Nat), s1 = .int .i64 (m : Int) ∧ m ≤ n ∧ s0 = .slice a k c ∧ Hid (l'.length = k) ∧ Hid (OwnB wr base (.slice a k c) l') ∧ Hid (l' ++ uv m = l ++ uv n) ∧ Hid (Ext (fun b => Value.ownBlock (.slice a0 l.length c0) = some b) W wr) ∧ Hid (Value.ownBlock (.slice a k c) = Value.ownBlock (.slice a0 l.length c0) ∨ ∀ b, Value.ownBlock (.slice a k c) = some b → W.heap.size ≤ b)) (fun _ s1 _ => (intOf s1).toNat)
 case atStart => exact ⟨l, n, l.length, a0, c0, rfl, Nat.le_refl _, rfl, Lib.hid rfl, H, Lib.hid rfl, Lib.hid (Ext.refl _ _), Lib.hid (.inl rfl)⟩
 obtain ⟨l', m, k, a, c, rfl, hm, rfl, hk, hown, heq, hx, hv⟩ := hrel
 rename World => wr
 have hkl : k + (uv m).length = l.length + (uv n).length := by
  have := congrArg List.length heq.out
  simp only [List.length_append, hk.out] at this
  exact this
 have hln := HLN.out
 have hsz := hx.out.size
 have hO := hown.out
 unfold OwnB at hO
 rw [hk.out] at hO
 have HO := Lib.hid hO
 clear hO
 have hstep : ∀ (x : Nat) (v1 : Value) (w9 : World), w9.ownsRow base 5 1 v1 (k + 1) (bytesV l' ++ [.int .u8 (x : Int)]) → (wr.alloc (.cells #[.int .u8 (x : Int)] 5)).grownBy w9 (Value.ownBlock (.slice a k c)) → (v1.ownBlock = Value.ownBlock (.slice a k c) ∨ v1.ownBlock = some (wr.alloc (.cells #[.int .u8 (x : Int)] 5)).heap.size) →
   OwnB w9 base v1 (l' ++ [x]) ∧ Ext (fun b => Value.ownBlock (.slice a0 l.length c0) = some b) W w9 ∧ (v1.ownBlock = Value.ownBlock (.slice a0 l.length c0) ∨ ∀ b, v1.ownBlock = some b → W.heap.size ≤ b) := fun x v1 w9 h1 h2 h3 => by
  refine ⟨?_, hx.out.trans2 (((Ext.refl (fun k' => Value.ownBlock (.slice a k c) = some k') wr).alloc _).grown h2 (fun k' hk' _ => hk')) (fun i hi e => ?_), ?_⟩
  ·unfold OwnB
   rw [List.length_append, bytesV_app, hk.out]
   exact h1
  ·rcases hv.out with h | h
   ·rw [← h]; exact e
   have := h i e; omega
  rcases h3 with h3 | h3
  ·rw [h3]; exact hv.out
  refine .inr (fun b hb => ?_)
  rw [h3] at hb
  simp only [Option.some.injEq] at hb
  have : (wr.alloc (.cells #[.int .u8 (x : Int)] 5)).heap.size = wr.heap.size + 1 := by simp
  omega
 have HST := Lib.hid hstep
 clear hstep
 by_cases h128 : 128 ≤ m
 ·have hz : (128 : Int) ≤ (m : Int) := by omega
  obtain ⟨q, hq⟩ : ∃ q : Nat, q = m % 128 + 128 := ⟨_, rfl⟩
  have hob := or_byte m
  rw [← hq] at hob
  have HEQ2 := Lib.hid (show (l' ++ [q]) ++ uv (m / 128) = l ++ uv n from by rw [← heq.out, uv_ge h128, hq]; simp)
  clear heq hx hv hq
  go_wp2_with (at_builtin; (refine wpList_app _ rfl (.tmp 9) (.tmp 13) 53 rfl base 5 iB _ 1 1 Tryz.underlying53 hiB hB0 hB1 hB2 rfl (by omega) (.slice a k c) k (bytesV l') rfl (row_keep HO.out ((Ext.refl No _).alloc _) (fun _ _ x => x)) No (some ⟨wr.heap.size, 0, none⟩) 1 1 [.int .u8 (q : Int)] rfl (Row.block (alloc_top rfl) rfl no_no (by omega)) (by simp [Value.oneCell']) (by omega) (by omega) (by simp; omega) ?_); (intro v1 w9 hown1 hg1 hv1); (have hs := HST.out _ v1 w9 hown1 hg1 hv1); (obtain ⟨a9, c9, hs9⟩ := (Row.ofOwns (M := No) hown1 (fun _ _ x => x)).slice); (subst hs9); (have HS9 := Lib.hid hs); (clear hown1 hg1 hv1 hs hob))
  go_roundw
  case rel => exact ⟨l' ++ [q], m / 128, k + 1, a9, c9, by simp, by omega, rfl, Lib.hid (by rw [List.length_append, hk.out]; rfl), Lib.hid HS9.out.1, HEQ2, Lib.hid HS9.out.2.1, Lib.hid HS9.out.2.2⟩
  case measure => simp [intOf]; omega
 have hz : ¬ (128 : Int) ≤ (m : Int) := by omega
 have hmm : (m : Int) % 256 = (m : Int) := by omega
 have HEQ2 := Lib.hid (show l' ++ [m] = l ++ uv n from by rw [← heq.out, uv_lt (by omega)])
 clear heq hx hv
 go_wp2_with (at_builtin; (try rw [hmm]); (refine wpList_app _ rfl (.tmp 15) (.tmp 18) 53 rfl base 5 iB _ 1 1 Tryz.underlying53 hiB hB0 hB1 hB2 rfl (by omega) (.slice a k c) k (bytesV l') rfl (row_keep HO.out ((Ext.refl No _).alloc _) (fun _ _ x => x)) No (some ⟨wr.heap.size, 0, none⟩) 1 1 [.int .u8 (m : Int)] rfl (Row.block (alloc_top rfl) rfl no_no (by omega)) (by simp [Value.oneCell']) (by omega) (by omega) (by simp; omega) ?_); (intro v1 w9 hown1 hg1 hv1); (have hs := HST.out _ v1 w9 hown1 hg1 hv1); (obtain ⟨a9, c9, hs9⟩ := (Row.ofOwns (M := No) hown1 (fun _ _ x => x)).slice); (subst hs9); (have HS9 := Lib.hid hs); (clear hown1 hg1 hv1 hs hmm))
 go_ret
 exact ⟨_, rfl, Lib.hid (by rw [← HEQ2.out]; exact HS9.out.1), HS9.out.2.1, HS9.out.2.2⟩
theorem ofInt64n (a : Nat) : BitVec.ofInt 64 (a : Int) = BitVec.ofNat 64 a := by
 apply BitVec.eq_of_toNat_eq
 simp
theorem and_i64 (a : Nat) (ha : a < 34359738368) : bits .and .i64 (a : Int) 127 = ((a % 128 : Nat) : Int) := by
 unfold bits
 show IntKind.i64.wrap (((BitVec.ofInt 64 (a : Int) &&& BitVec.ofInt 64 ((127 : Nat) : Int)).toNat : Nat) : Int) = _
 rw [ofInt64n, ofInt64n, BitVec.toNat_and, BitVec.toNat_ofNat, BitVec.toNat_ofNat, Nat.mod_eq_of_lt (by omega), Nat.mod_eq_of_lt (by omega), show (127 : Nat) = 2 ^ 7 - 1 from rfl, Nat.and_two_pow_sub_one_eq_mod]
 exact IntWalk.i64_in _ (by omega)
theorem ror_bytes : ((List.range 128).all fun a => bits .or .i64 ((a : Nat) : Int) 128 == ((a + 128 : Nat) : Int)) = true := by kernel_rfl
theorem ror_byte (m : Nat) (hm : m < 34359738368) : bits .or .i64 (bits .and .i64 (m : Int) 127) 128 = ((m % 128 + 128 : Nat) : Int) := by
 rw [and_i64 m hm]
 exact eq_of_beq (List.all_eq_true.1 ror_bytes (m % 128) (List.mem_range.2 (by omega)))
set_option maxRecDepth 100000 in
set_option maxHeartbeats 4000000 in
theorem ruvarint_any (base n : Nat) (sl : Value) (l : List Nat) (W : World) (h : OwnB W base sl l) (hb : base ≤ W.heap.size) (hl : l.length ≤ 1099511627776) (hn : n < 128 ^ 5) :
  Calls Tryz.prog 63 #[sl, .int .i64 (n : Int)] W (AppB base sl l (uv n) W) := by
 obtain ⟨iB, hiB, hB0, hB1, hB2⟩ := info_parts infoB31
 have H := Lib.hid h
 have HLN := Lib.hid (uv_len 4 n hn)
 obtain ⟨a0, c0, rfl⟩ := h.slice
 clear h
 have hn2 : n < 34359738368 := hn
 clear hn
 go_enter Tryz.func63, Tryz.ntmps63
 go_wp2_with fail
 go_loopw [0, 1] (fun s0 s1 wr => ∃ (l' : List Nat) (m k : Nat) (a : Option Addr) (c : Nat), s1 = .int .i64 (m : Int) ∧ m ≤ n ∧ s0 = .slice a k c ∧ Hid (l'.length = k) ∧ Hid (OwnB wr base (.slice a k c) l') ∧ Hid (l' ++ uv m = l ++ uv n) ∧ Hid (Ext (fun b => Value.ownBlock (.slice a0 l.length c0) = some b) W wr) ∧ Hid (Value.ownBlock (.slice a k c) = Value.ownBlock (.slice a0 l.length c0) ∨ ∀ b, Value.ownBlock (.slice a k c) = some b → W.heap.size ≤ b)) (fun _ s1 _ => (intOf s1).toNat)
 case atStart => exact ⟨l, n, l.length, a0, c0, rfl, Nat.le_refl _, rfl, Lib.hid rfl, H, Lib.hid rfl, Lib.hid (Ext.refl _ _), Lib.hid (.inl rfl)⟩
 obtain ⟨l', m, k, a, c, rfl, hm, rfl, hk, hown, heq, hx, hv⟩ := hrel
 rename World => wr
 have hkl : k + (uv m).length = l.length + (uv n).length := by
  have := congrArg List.length heq.out
  simp only [List.length_append, hk.out] at this
  exact this
 have hln := HLN.out
 have hsz := hx.out.size
 have hO := hown.out
 unfold OwnB at hO
 rw [hk.out] at hO
 have HO := Lib.hid hO
 clear hO
 have hstep : ∀ (x : Nat) (v1 : Value) (w9 : World), w9.ownsRow base 5 1 v1 (k + 1) (bytesV l' ++ [.int .u8 (x : Int)]) → (wr.alloc (.cells #[.int .u8 (x : Int)] 5)).grownBy w9 (Value.ownBlock (.slice a k c)) → (v1.ownBlock = Value.ownBlock (.slice a k c) ∨ v1.ownBlock = some (wr.alloc (.cells #[.int .u8 (x : Int)] 5)).heap.size) →
   OwnB w9 base v1 (l' ++ [x]) ∧ Ext (fun b => Value.ownBlock (.slice a0 l.length c0) = some b) W w9 ∧ (v1.ownBlock = Value.ownBlock (.slice a0 l.length c0) ∨ ∀ b, v1.ownBlock = some b → W.heap.size ≤ b) := fun x v1 w9 h1 h2 h3 => by
  refine ⟨?_, hx.out.trans2 (((Ext.refl (fun k' => Value.ownBlock (.slice a k c) = some k') wr).alloc _).grown h2 (fun k' hk' _ => hk')) (fun i hi e => ?_), ?_⟩
  ·unfold OwnB
   rw [List.length_append, bytesV_app, hk.out]
   exact h1
  ·rcases hv.out with h | h
   ·rw [← h]; exact e
   have := h i e; omega
  rcases h3 with h3 | h3
  ·rw [h3]; exact hv.out
  refine .inr (fun b hb => ?_)
  rw [h3] at hb
  simp only [Option.some.injEq] at hb
  have : (wr.alloc (.cells #[.int .u8 (x : Int)] 5)).heap.size = wr.heap.size + 1 := by simp
  omega
 have HST := Lib.hid hstep
 clear hstep
 by_cases h128 : 127 < m
 ·have hz : (127 : Int) < (m : Int) := by omega
  obtain ⟨q, hq⟩ : ∃ q : Nat, q = m % 128 + 128 := ⟨_, rfl⟩
  have hob := ror_byte m (by omega)
  rw [← hq] at hob
  have hqz : (q : Int) % 256 = (q : Int) := by omega
  have HEQ2 := Lib.hid (show (l' ++ [q]) ++ uv (m / 128) = l ++ uv n from by rw [← heq.out, uv_ge (n := m) (by omega), hq]; simp)
  clear heq hx hv hq
  go_wp2_with (at_builtin; (refine wpList_app _ rfl (.tmp 7) (.tmp 12) 53 rfl base 5 iB _ 1 1 Tryz.underlying53 hiB hB0 hB1 hB2 rfl (by omega) (.slice a k c) k (bytesV l') rfl (row_keep HO.out ((Ext.refl No _).alloc _) (fun _ _ x => x)) No (some ⟨wr.heap.size, 0, none⟩) 1 1 [.int .u8 (q : Int)] rfl (Row.block (alloc_top rfl) rfl no_no (by omega)) (by simp [Value.oneCell']) (by omega) (by omega) (by simp; omega) ?_); (intro v1 w9 hown1 hg1 hv1); (have hs := HST.out _ v1 w9 hown1 hg1 hv1); (obtain ⟨a9, c9, hs9⟩ := (Row.ofOwns (M := No) hown1 (fun _ _ x => x)).slice); (subst hs9); (have HS9 := Lib.hid hs); (clear hown1 hg1 hv1 hs hob))
  go_roundw
  case rel => exact ⟨l' ++ [q], m / 128, k + 1, a9, c9, by simp, by omega, rfl, Lib.hid (by rw [List.length_append, hk.out]; rfl), Lib.hid HS9.out.1, HEQ2, Lib.hid HS9.out.2.1, Lib.hid HS9.out.2.2⟩
  case measure => simp [intOf]; omega
 have hz : ¬ (127 : Int) < (m : Int) := by omega
 have hmm : (m : Int) % 256 = (m : Int) := by omega
 have HEQ2 := Lib.hid (show l' ++ [m] = l ++ uv n from by rw [← heq.out, uv_lt (by omega)])
 clear heq hx hv
 go_wp2_with (at_builtin; (try rw [hmm]); (refine wpList_app _ rfl (.tmp 16) (.tmp 19) 53 rfl base 5 iB _ 1 1 Tryz.underlying53 hiB hB0 hB1 hB2 rfl (by omega) (.slice a k c) k (bytesV l') rfl (row_keep HO.out ((Ext.refl No _).alloc _) (fun _ _ x => x)) No (some ⟨wr.heap.size, 0, none⟩) 1 1 [.int .u8 (m : Int)] rfl (Row.block (alloc_top rfl) rfl no_no (by omega)) (by simp [Value.oneCell']) (by omega) (by omega) (by simp; omega) ?_); (intro v1 w9 hown1 hg1 hv1); (have hs := HST.out _ v1 w9 hown1 hg1 hv1); (obtain ⟨a9, c9, hs9⟩ := (Row.ofOwns (M := No) hown1 (fun _ _ x => x)).slice); (subst hs9); (have HS9 := Lib.hid hs); (clear hown1 hg1 hv1 hs hmm))
 go_ret
 exact ⟨_, rfl, Lib.hid (by rw [← HEQ2.out]; exact HS9.out.1), HS9.out.2.1, HS9.out.2.2⟩

/- slices.Index and slices.Min of ints. -/
import Derived.Test.YtkdjdhflhlbelaaK0
set_option linter.unusedVariables false
set_option linter.unusedSimpArgs false
namespace Go.Proofs.Ytkdjdhflhlbelaa
open Go Go.RowKit Tj
theorem nats_get {l : List Nat} {i : Nat} (hi : i < l.length) : (natsZ l)[i]'(by simpa [natsZ] using hi) = ((l[i] : Nat) : Int) := by simp [natsZ]
theorem nats_len (l : List Nat) : (natsZ l).length = l.length := by simp [natsZ]
theorem IntsN.at {M : Nat → Prop} {w : World} {sl : Value} {l : List Nat} (h : Ints M w .i64 sl (natsZ l)) {i : Nat} (hi : i < l.length) : ∃ b off cap, sl = .slice (some ⟨b, off, none⟩) l.length cap ∧ b < w.heap.size ∧ ¬ M b ∧
  ∀ k (hk : k < l.length), w.cell? ⟨b, off + k, none⟩ = some (.int .i64 ((l[k] : Nat) : Int)) := by
 obtain ⟨b, off, cap, h1, h2, h3, h4⟩ := Ints.at h (i := i) (by rw [nats_len]; exact hi)
 rw [nats_len] at h1
 exact ⟨b, off, cap, h1, h2, h3, fun k hk => by rw [h4 k (by rw [nats_len]; exact hk), nats_get hk]⟩
theorem IntsN.slice {M : Nat → Prop} {w : World} {sl : Value} {l : List Nat} (h : Ints M w .i64 sl (natsZ l)) : ∃ a c, sl = .slice a l.length c := by
 obtain ⟨a, c, e⟩ := Row.slice h
 exact ⟨a, c, by rw [e, nats_len]⟩
theorem IntsN.len {M : Nat → Prop} {w : World} {sl : Value} {l : List Nat} (h : Ints M w .i64 sl (natsZ l)) : l.length ≤ 9223372036854775807 := by
 have := h.2.1
 rw [nats_len] at this
 exact this
theorem IntsN.drop {M : Nat → Prop} {w : World} {b off n cap k : Nat} {p l : List Nat} (h : Ints M w .i64 (.slice (some ⟨b, off, none⟩) n cap) (natsZ (p ++ l))) (hk : k = p.length) (hn : n = k + l.length) :
  Ints M w .i64 (.slice (some ⟨b, off + k, none⟩) l.length (cap - k)) (natsZ l) := by
 subst hn
 subst hk
 have h1 : Row M w 1 (.slice (some ⟨b, off, none⟩) (p.length + l.length) cap) (p.length + l.length) ((natsZ (p ++ l)).map (.int .i64)) := by
  have h := h
  unfold Ints at h
  rw [nats_len, List.length_append] at h
  exact h
 have h2 := h1.drop (k := p.length) (by omega)
 unfold Ints
 rw [nats_len]
 have e : ((natsZ (p ++ l)).map (Value.int .i64)).drop (p.length * 1) = (natsZ l).map (.int .i64) := by simp [natsZ, List.drop_append]
 rw [e, Nat.mul_one, show p.length + l.length - p.length = l.length from by omega] at h2
 exact h2
set_option maxRecDepth 100000 in
set_option maxHeartbeats 2000000 in
theorem indexI_any (sl : Value) (p l : List Nat) (n : Nat) (W : World) (h : Ints No W .i64 sl (natsZ (p ++ n :: l))) (hn : n ∉ p) :
  Calls Try.prog 121 #[sl, .int .i64 (n : Int)] W fun e w' => e = .returned (.int .i64 (p.length : Int)) ∧ Ext No W w' := by
 obtain ⟨L, hL⟩ : ∃ L, L = p ++ n :: l := ⟨_, rfl⟩
 rw [← hL] at h
 have H := Lib.hid h
 obtain ⟨a, cap, rfl⟩ := IntsN.slice h
 have hlen := IntsN.len h
 have hpl : p.length < L.length := by rw [hL]; simp
 have HN : Hid (L[p.length] = n) := Lib.hid (by simp [hL])
 have HP : Hid (∀ k (hk : k < p.length), L[k]'(by omega) ≠ n) := Lib.hid (fun k hk e => hn (by
  have e2 : L[k]'(by omega) = p[k] := by simp [hL, List.getElem_append_left hk]
  rw [e2] at e
  rw [← e]
  exact List.getElem_mem hk))
 clear h hL hn
 go_enter Try.func121, Try.ntmps121
 go_wp2_with fail
 go_loopw [5, 8] (fun _ i wr => ∃ k : Nat, i = .int .i64 k ∧ k ≤ p.length ∧ Hid (Ext No W wr)) (fun _ i _ => p.length + 1 - (intOf i).toNat)
 case atStart => exact ⟨0, rfl, Nat.zero_le _, Lib.hid (Ext.refl _ _)⟩
 case round =>
  obtain ⟨k, rfl, hk, hx⟩ := hrel
  rename World => wr
  have hkl : k < L.length := by omega
  have hlz : (k : Int) < (L.length : Int) := by omega
  have HKK : Hid (Value.int .i64 ((k : Int) + 1) = .int .i64 ((k + 1 : Nat) : Int)) := Lib.hid (by rw [show ((k + 1 : Nat) : Int) = (k : Int) + 1 from by omega])
  obtain ⟨b, off, cap', hsl, hb1, _, hcell⟩ := IntsN.at H.out hkl
  simp only [Value.slice.injEq] at hsl
  obtain ⟨rfl, _, rfl⟩ := hsl
  have q0 := hx.out.keep (hcell k hkl)
  obtain ⟨y, hy⟩ : ∃ y, y = L[k] := ⟨_, rfl⟩
  rw [← hy] at q0
  clear hcell hb1
  by_cases hkp : k < p.length
  ·have hne : ¬ ((n : Int) = (y : Int)) := by
    have := HP.out k hkp
    rw [← hy] at this
    omega
   have hne2 : ((n : Int) == (y : Int)) = false := by simpa using hne
   clear hy
   go_wp2_with fail
   go_roundw
   case rel => exact ⟨k + 1, HKK.out, by omega, hx⟩
   case measure => simp [intOf]; omega
  ·obtain rfl : k = p.length := by omega
   have hyn : y = n := by rw [hy]; exact HN.out
   subst hyn
   clear hy
   go_wp2_with fail
   go_ret
   exact ⟨rfl, hx.out⟩
def MinPost (l : List Nat) (W : World) (e : Ending) (w' : World) : Prop := ∃ c : Nat, e = .returned (.int .i64 (c : Int)) ∧ Hid (c ∈ l ∧ ∀ x ∈ l, c ≤ x) ∧ Ext No W w'
set_option maxRecDepth 100000 in
set_option maxHeartbeats 2000000 in
theorem minI_any (sl : Value) (l : List Nat) (W : World) (h : Ints No W .i64 sl (natsZ l)) (hl : 0 < l.length) :
  Calls Try.prog 136 #[sl] W (MinPost l W) := by
 have H := Lib.hid h
 obtain ⟨a, cap, rfl⟩ := IntsN.slice h
 have hlen := IntsN.len h
 have hl1 : ¬ ((l.length : Int) < 1) := by omega
 have hlz0 : (0 : Int) < (l.length : Int) := by omega
 obtain ⟨b, off, cap', hsl, hb1, _, hcell⟩ := IntsN.at h hl
 simp only [Value.slice.injEq] at hsl
 obtain ⟨rfl, _, rfl⟩ := hsl
 have HC := Lib.hid hcell
 have q0 := hcell 0 hl
 rw [Nat.add_zero] at q0
 obtain ⟨y, hy⟩ : ∃ y, y = l[0] := ⟨_, rfl⟩
 rw [← hy] at q0
 have HY := Lib.hid hy
 clear h hcell hb1 hy
 go_enter Try.func136, Try.ntmps136
 go_wp2_with fail
 clear q0
 go_loopw [3, 4] (fun s3 i wr => ∃ (k c : Nat), i = .int .i64 k ∧ s3 = .int .i64 c ∧ 1 ≤ k ∧ k ≤ l.length ∧ Hid ((∃ (j : Nat) (hj : j < l.length), c = l[j]) ∧ ∀ j (hj : j < l.length), j < k → c ≤ l[j]) ∧ Hid (Ext No W wr)) (fun _ i _ => l.length - (intOf i).toNat)
 case atStart => exact ⟨1, y, rfl, rfl, Nat.le_refl _, hl, Lib.hid ⟨⟨0, hl, HY.out⟩, fun j hj hj1 => by
  obtain rfl : j = 0 := by omega
  rw [HY.out]; exact Nat.le_refl _⟩, Lib.hid (Ext.refl _ _)⟩
 case round =>
  obtain ⟨k, c, rfl, rfl, hk1, hk, hm, hx⟩ := hrel
  rename World => wr
  by_cases hlt : k < l.length
  ·have hlz : (k : Int) < (l.length : Int) := by omega
   have HKK : Hid (Value.int .i64 ((k : Int) + 1) = .int .i64 ((k + 1 : Nat) : Int)) := Lib.hid (by rw [show ((k + 1 : Nat) : Int) = (k : Int) + 1 from by omega])
   have q0 := hx.out.keep (HC.out k hlt)
   obtain ⟨z, hz⟩ : ∃ z, z = l[k] := ⟨_, rfl⟩
   rw [← hz] at q0
   have HZ := Lib.hid hz
   clear hz
   obtain ⟨q, hq⟩ : ∃ q, q = min c z := ⟨_, rfl⟩
   have HMV := Lib.hid (show Value.int .i64 (if z < c then (z : Int) else (c : Int)) = .int .i64 (q : Int) from by
    split
    ·rw [show z = q from by omega]
    ·rw [show c = q from by omega])
   have HQ := Lib.hid hq
   clear hq
   go_wp2_with fail
   go_roundw
   case rel => exact ⟨k + 1, q, HKK.out, HMV.out, by omega, by omega, Lib.hid ⟨by
    obtain ⟨⟨j, hj, e⟩, -⟩ := hm.out
    rcases Nat.le_total c z with h1 | h1
    ·exact ⟨j, hj, by rw [HQ.out, ← e]; omega⟩
    ·exact ⟨k, hlt, by rw [HQ.out, ← HZ.out]; omega⟩, fun j hj hjk => by
    by_cases e : j = k
    ·subst e; rw [← HZ.out, HQ.out]; omega
    ·have := hm.out.2 j hj (by omega)
     rw [HQ.out]; omega⟩, hx⟩
   case measure => simp [intOf]; omega
  ·have hge : ¬ (k : Int) < (l.length : Int) := by omega
   go_wp2_with fail
   go_ret
   obtain ⟨⟨j, hj, e⟩, h2⟩ := hm.out
   refine ⟨c, rfl, Lib.hid ⟨by rw [e]; exact List.getElem_mem hj, fun x hx2 => ?_⟩, hx.out⟩
   obtain ⟨i, hi, rfl⟩ := List.getElem_of_mem hx2
   exact h2 i hi (by omega)
end Go.Proofs.Ytkdjdhflhlbelaa

/- Merged: K12 K20 -/
import Derived.Test.YtkdjdhflhlbelaaK9
import Derived.Test.YtkdjdhflhlbelaaH10
import Derived.Test.YtkdjdhflhlbelaaK11
set_option linter.unusedVariables false
set_option linter.unusedSimpArgs false
/- K12 -/
namespace Go.Proofs.Ytkdjdhflhlbelaa
open Go Go.RowKit Tj
theorem find_congr {α : Type} {p q : α → Bool} : ∀ {l : List α}, (∀ x ∈ l, p x = q x) → l.find? p = l.find? q
 | [], _ => rfl
 | a :: l, h => by
  rw [List.find?_cons, List.find?_cons, h a (List.mem_cons_self ..), find_congr (l := l) (fun x hx => h x (List.mem_cons_of_mem _ hx))]
theorem all_congr {α : Type} {p q : α → Bool} : ∀ {l : List α}, (∀ x ∈ l, p x = q x) → l.all p = l.all q
 | [], _ => rfl
 | a :: l, h => by
  rw [List.all_cons, List.all_cons, h a (List.mem_cons_self ..), all_congr (l := l) (fun x hx => h x (List.mem_cons_of_mem _ hx))]
theorem any_congr {α : Type} {p q : α → Bool} : ∀ {l : List α}, (∀ x ∈ l, p x = q x) → l.any p = l.any q
 | [], _ => rfl
 | a :: l, h => by
  rw [List.any_cons, List.any_cons, h a (List.mem_cons_self ..), any_congr (l := l) (fun x hx => h x (List.mem_cons_of_mem _ hx))]
section
variable {S : SysD} {g g' : Nat → Nat}
theorem ready_congr (hS : SysOk S) (h : ∀ x, x < S.deps.length → g x = g' x) (D : Nat → Bool) (c : Nat) : readyB S g D c = readyB S g' D c := by
 unfold readyB
 refine all_congr (fun n hn => ?_)
 rw [h n (List.mem_range.1 hn)]
 congr 2
 refine any_congr (fun m hm => ?_)
 unfold badE
 rw [h m (hS.dep hm)]
theorem first_congr (hS : SysOk S) (h : ∀ x, x < S.deps.length → g x = g' x) (D : Nat → Bool) : firstI S g D = firstI S g' D := by
 unfold firstI
 refine find_congr (fun i hi => ?_)
 rw [h i (List.mem_range.1 hi)]
 unfold goodB
 rw [ready_congr hS h]
theorem members_congr (h : ∀ x, x < S.deps.length → g x = g' x) (c : Nat) : membersL S g c = membersL S g' c := by
 unfold membersL
 exact List.filter_congr (fun n hn => by rw [h n (List.mem_range.1 hn)])
theorem ordS_congr (hS : SysOk S) (h : ∀ x, x < S.deps.length → g x = g' x) : ∀ r, ordS S g r = ordS S g' r
 | 0 => rfl
 | r + 1 => by
  rw [ordS, ordS, ordS_congr hS h r, first_congr hS h]
  cases hf : firstI S g' (ordS S g' r).1 with
  | none => rfl
  | some i =>
   have hi := List.mem_range.1 (List.mem_of_find?_eq_some hf)
   simp only [h i hi, members_congr h]
theorem OrdAt.congr (hS : SysOk S) (h : ∀ x, x < S.deps.length → g x = g' x) {R : Nat} (k : OrdAt S g R) : OrdAt S g' R :=
 ⟨by rw [← ordS_congr hS h, ← first_congr hS h]; exact k.stop, fun r hr => by rw [← ordS_congr hS h, ← first_congr hS h]; exact k.go r hr⟩
theorem GOk.eq (h : GOk S g) (k : GOk S g') : ∀ x, x < S.deps.length → g x = g' x := fun x hx => by
 have := (h x hx).uniq (k x hx)
 omega
/-- there is one order alone -/
theorem ord_uniq (hS : SysOk S) (h : GOk S g) (k : GOk S g') {R R' : Nat} (o : OrdAt S g R) (o' : OrdAt S g' R') : (ordS S g R).2 = (ordS S g' R').2 := by
 have e := h.eq k
 have := (o.congr hS e).uniq o'
 rw [ordS_congr hS e, this]
end
def oneS : SysD := ⟨1, [[0]], [⟨1, 0, 0, []⟩], [0]⟩
def twoS : SysD := ⟨0, [[1], []], [⟨0, 0, 0, []⟩, ⟨0, 0, 0, []⟩], [0, 0]⟩
theorem idOk1 : TrOk ⟨1, 0, 0, []⟩ := ⟨by decide, by decide, by decide, by decide, fun i h => by simp at h, fun i h => by simp at h⟩
theorem idOk0 : TrOk ⟨0, 0, 0, []⟩ := ⟨by decide, by decide, by decide, by decide, fun i h => by simp at h, fun i h => by simp at h⟩
theorem one_ok : SysOk oneS := ⟨by decide, by decide, by decide, by decide, by decide, fun l hl => by
 simp only [oneS, List.mem_singleton] at hl
 subst hl
 intro i hi
 obtain rfl : i = 0 := by simp [natsZ] at hi; omega
 exact ⟨by simp [natsZ], by simp [natsZ, oneS], fun h => absurd h (Nat.lt_irrefl _)⟩, by decide, fun t ht => by
 simp only [oneS, List.mem_singleton] at ht
 subst ht
 exact ⟨idOk1, rfl⟩, fun m hm => by
 simp only [oneS, List.mem_singleton] at hm
 subst hm
 decide⟩
theorem two_ok : SysOk twoS := ⟨by decide, by decide, by decide, by decide, by decide, fun l hl => by
 simp only [twoS, List.mem_cons, List.not_mem_nil, or_false] at hl
 rcases hl with rfl | rfl
 ·intro i hi
  obtain rfl : i = 0 := by simp [natsZ] at hi; omega
  exact ⟨by simp [natsZ], by simp [natsZ, twoS], fun h => absurd h (Nat.lt_irrefl _)⟩
 ·intro i hi
  simp [natsZ] at hi, by decide, fun t ht => by
 simp only [twoS, List.mem_cons, List.not_mem_nil, or_false] at ht
 rcases ht with rfl | rfl <;> exact ⟨idOk0, rfl⟩, fun m hm => by
 simp only [twoS, List.mem_cons, List.not_mem_nil, or_false] at hm
 rcases hm with rfl | rfl <;> decide⟩
theorem one_g {g : Nat → Nat} (h : GOk oneS g) : ∀ x, x < oneS.deps.length → g x = (fun _ => 0 : Nat → Nat) x := fun x hx => by
 have := h.lt one_ok hx
 have e : oneS.deps.length = 1 := rfl
 show g x = 0
 omega
theorem one_ord : OrdAt oneS (fun _ => 0) 1 := ⟨by decide, fun r hr => by
 obtain rfl : r = 0 := by omega
 decide⟩
theorem one_list_ord {g : Nat → Nat} {R : Nat} (h : GOk oneS g) (o : OrdAt oneS g R) : (ordS oneS g R).2 = [[0]] := by
 have e := (o.congr one_ok (one_g h)).uniq one_ord
 rw [ordS_congr one_ok (one_g h), e]
 decide
theorem one_run {vs : List Nat} {n : Nat} (h : SRun oneS [[0]] 1 vs n) : n = 1 := by
 have hp : passD oneS [0] (zerosD oneS) = zerosD oneS := by decide
 have h2 : SRun oneS [[0]] (0 + 1) (zerosD oneS) (0 + 1 * [0].length) := SRun.succ .zero (by decide) ⟨hp.symm, Nat.le_refl _, fun e => absurd e (by decide), fun _ => hp, fun _ r hr => absurd hr (Nat.not_lt_zero _)⟩
 exact (h.uniq h2).2
theorem two_r1 {y : Nat} (h : Rch (depD twoS) 1 y) : y = 1 := by
 cases h with
 | refl _ => rfl
 | step e _ => exact absurd (show _ ∈ ([] : List Nat) from e) List.not_mem_nil
theorem two_g {g : Nat → Nat} (h : GOk twoS g) : ∀ x, x < twoS.deps.length → g x = (fun x => x : Nat → Nat) x := fun x hx => by
 obtain ⟨k, e, h1, h2, -⟩ := h x hx
 have hk : k < twoS.deps.length := rch_lt two_ok h1 hx
 have e2 : twoS.deps.length = 2 := rfl
 rw [e2] at hx hk
 show g x = x
 have e3 : g x = k := by omega
 rw [e3]
 have h3 : x = 0 ∨ x = 1 := by omega
 have h4 : k = 0 ∨ k = 1 := by omega
 rcases h3 with rfl | rfl
 ·rcases h4 with rfl | rfl
  ·rfl
  ·exact absurd (two_r1 h2) (by decide)
 ·exact two_r1 h1
theorem two_ord : OrdAt twoS (fun x => x) 2 := ⟨by decide, fun r hr => by
 have : r = 0 ∨ r = 1 := by omega
 rcases this with rfl | rfl <;> decide⟩
theorem two_list_ord {g : Nat → Nat} {R : Nat} (h : GOk twoS g) (o : OrdAt twoS g R) : (ordS twoS g R).2 = [[1], [0]] := by
 have e := (o.congr two_ok (two_g h)).uniq two_ord
 rw [ordS_congr two_ok (two_g h), e]
 decide
theorem two_list {β : Type} {K : EK β} {W : World} {g : Nat} {cs : Array Value} {T : TypeId} {p q : β} (h : W.heap[g]? = some (.cells cs T (0, 0))) (hc : cs.toList = K.cells p ++ K.cells q) (hs : cs.size = 2 * K.s) (hp : K.ok No W p) (hq : K.ok No W q) : LAt K No W (.slice (some ⟨g, 0, none⟩) 2 2) [p, q] := by
 refine ⟨?_, fun r hr => ?_⟩
 ·have h1 := Row.block (M := No) (n := 2) (s := K.s) h hs no_no (by decide)
  rw [hc] at h1
  simpa using h1
 ·rcases List.mem_cons.1 hr with rfl | hr
  ·exact hp
  ·rw [List.mem_singleton.1 hr]; exact hq
end Go.Proofs.Ytkdjdhflhlbelaa

/- K20 -/
namespace Go.Proofs.Ytkdjdhflhlbelaa
open Go Go.RowKit Tj
theorem len_sub2 : ∀ (l k : List Nat), l.Pairwise (· ≠ ·) → (∀ x ∈ l, x ∈ k) → l.length ≤ k.length
 | [], k, _, _ => Nat.zero_le _
 | a :: l, k, hl, h => by
  rw [List.pairwise_cons] at hl
  have ha := h a (List.mem_cons_self ..)
  have h1 := len_sub2 l (k.erase a) hl.2 (fun x hx => (List.mem_erase_of_ne (fun e => hl.1 x hx e.symm)).2 (h x (List.mem_cons_of_mem _ hx)))
  rw [List.length_erase_of_mem ha] at h1
  have := List.length_pos_of_mem ha
  simp only [List.length_cons]
  omega
end Go.Proofs.Ytkdjdhflhlbelaa

/- K19 -/
namespace Go.Proofs.Ytkdjdhflhlbelaa
open Go Go.RowKit Tj
/-- out under way: the first i have all theirs in out -/
structure AbvI (S : SysD) (n i : Nat) (out : List Nat) : Prop where
 le : i ≤ out.length
 hd : n ∈ out
 nd : out.Pairwise (· ≠ ·)
 rch : ∀ x ∈ out, Rch (depD S) n x
 cl : ∀ j (h : j < out.length), j < i → ∀ d ∈ depD S out[j], d ∈ out
section
variable {S : SysD} {n i : Nat} {out : List Nat}
theorem AbvI.start (S : SysD) (n : Nat) : AbvI S n 0 [n] :=
 ⟨Nat.zero_le _, List.mem_singleton_self _, List.pairwise_singleton _ _, fun x hx => by rw [List.mem_singleton.1 hx]; exact .refl _, fun j _ h => absurd h (Nat.not_lt_zero _)⟩
theorem AbvI.add (h : AbvI S n i out) {o d : Nat} (ho : o ∈ out) (hd : d ∈ depD S o) (hn : d ∉ out) : AbvI S n i (out ++ [d]) := by
 refine ⟨by rw [List.length_append]; exact Nat.le_trans h.le (Nat.le_add_right _ _), List.mem_append_left _ h.hd, List.pairwise_append.2 ⟨h.nd, List.pairwise_singleton _ _, fun a ha b hb e => hn (by rw [← List.mem_singleton.1 hb, ← e]; exact ha)⟩, fun x hx => ?_, fun j hj hji e he => ?_⟩
 ·rcases List.mem_append.1 hx with hx | hx
  ·exact h.rch x hx
  ·rw [List.mem_singleton.1 hx]; exact (h.rch o ho).trans (.one hd)
 ·have hjl : j < out.length := Nat.lt_of_lt_of_le hji h.le
  rw [List.getElem_append_left hjl] at he
  exact List.mem_append_left _ (h.cl j hjl hji e he)
theorem AbvI.next (h : AbvI S n i out) (hi : i < out.length) (hd : ∀ d ∈ depD S out[i], d ∈ out) : AbvI S n (i + 1) out :=
 ⟨hi, h.hd, h.nd, h.rch, fun j hj hji d hdd => by
  rcases Nat.lt_or_ge j i with h2 | h2
  ·exact h.cl j hj h2 d hdd
  ·obtain rfl : j = i := by omega
   exact hd d hdd⟩
theorem closed_rch {d : Nat → List Nat} {l : List Nat} (h : ∀ x ∈ l, ∀ y ∈ d x, y ∈ l) {x y : Nat} (hr : Rch d x y) : x ∈ l → y ∈ l := by
 induction hr with
 | refl _ => exact id
 | step e _ ih => exact fun hx => ih (h _ hx _ e)
theorem AbvI.done (h : AbvI S n i out) (hi : ¬ i < out.length) : ∀ x, x ∈ out ↔ Rch (depD S) n x := fun x =>
 ⟨h.rch x, fun hr => closed_rch (fun y hy z hz => by
  obtain ⟨j, hj, rfl⟩ := List.getElem_of_mem hy
  exact h.cl j hj (by have := h.le; omega) z hz) hr h.hd⟩
theorem AbvI.len (hS : SysOk S) (h : AbvI S n i out) (hn : n < S.deps.length) : out.length ≤ S.deps.length := by
 have h1 := len_sub2 out (List.range S.deps.length) h.nd (fun x hx => List.mem_range.2 (rch_lt hS (h.rch x hx) hn))
 rwa [List.length_range] at h1
theorem AbvI.lt (hS : SysOk S) (h : AbvI S n i out) (hn : n < S.deps.length) : ∀ x ∈ out, x < S.deps.length := fun x hx => rch_lt hS (h.rch x hx) hn
end
/-- a list tells what n reaches -/
def RchL (S : SysD) (n : Nat) (l : List Nat) : Prop := ∀ x, x ∈ l ↔ Rch (depD S) n x
/-- the least c that n reaches and that reaches n -/
theorem comp_of {S : SysD} {n c : Nat} (h1 : Rch (depD S) n c) (h2 : Rch (depD S) c n) (h : ∀ k, k < c → ¬ (Rch (depD S) n k ∧ Rch (depD S) k n)) : Comp (depD S) n (c : Int) :=
 ⟨c, rfl, h1, h2, fun y h3 h4 => Nat.not_lt.1 (fun hlt => h y hlt ⟨h3, h4⟩)⟩
end Go.Proofs.Ytkdjdhflhlbelaa

/- K20 -/
namespace Go.Proofs.Ytkdjdhflhlbelaa
open Go Go.RowKit Tj
def AbvPost (M : Nat → Prop) (S : SysD) (n : Nat) (W : World) (e : Ending) (w' : World) : Prop :=
 ∃ (l : List Nat) (a : Option Addr) (c : Nat), e = .returned (.slice a l.length c) ∧ l.length ≤ S.deps.length ∧ Hid (RchL S n l) ∧ Hid (Ints M w' .i64 (.slice a l.length c) (natsZ l)) ∧ Ext No W w'
theorem own_ints {w : World} {base n : Nat} {a : Option Addr} {c : Nat} {l : List Nat} (h : w.ownsRow base 3 1 (.slice a n c) n ((natsZ l).map (.int .i64))) (hn : n = l.length) : Ints No w .i64 (.slice a n c) (natsZ l) := by
 have h := Row.ofOwns (M := No) h (fun _ _ x => x)
 unfold Ints
 rw [nats_len, ← hn]
 exact h
set_option maxRecDepth 100000 in
set_option maxHeartbeats 16000000 in
theorem rabove_any (M : Nat → Prop) (S : SysD) (vd vt vb : Value) (n : Nat) (W : World) (hM : ∀ b, M b → b < W.heap.size) (h : SysAt No W vd vt vb S) (hn : n < S.deps.length) :
  Calls Try.prog 120 #[.agg #[.int .i64 (S.w : Int), vd, vt, vb], .int .i64 (n : Int)] W (AbvPost M S n W) := by
 obtain ⟨i0, hi0, hz0, hz1, hz2⟩ := info_parts infoInt2
 have H := Lib.hid h
 have hok := h.ok
 have HOK := Lib.hid hok
 have HN := Lib.hid hn
 have HM := Lib.hid hM
 have hnn := hok.n2
 obtain ⟨ad, cd, at1, ct, ab, cb, rfl, rfl, rfl⟩ := h.slices
 clear h hok hn hM
 go_enter Try.func120, Try.ntmps120
 go_upto_region 1 with (fail)
 have hx0 : Ext No W (W.alloc (.cells #[.int .i64 (S.w : Int), .slice ad S.deps.length cd, .slice at1 S.deps.length ct, .slice ab S.deps.length cb] 29)) := (Ext.refl _ _).alloc _
 have HA := Lib.hid (alloc_top (w := W) (o := (.cells #[.int .i64 (S.w : Int), .slice ad S.deps.length cd, .slice at1 S.deps.length ct, .slice ab S.deps.length cb] 29)) rfl)
 have hAw : W.heap.size < (W.alloc (.cells #[.int .i64 (S.w : Int), .slice ad S.deps.length cd, .slice at1 S.deps.length ct, .slice ab S.deps.length cb] 29)).heap.size := lt_of_block HA.out
 generalize (W.alloc (.cells #[.int .i64 (S.w : Int), .slice ad S.deps.length cd, .slice at1 S.deps.length ct, .slice ab S.deps.length cb] 29)) = w1 at *
 generalize W.heap.size = A at *
 go_wp2_with fail
 have hlit := World.ownsRow_lit (base := w1.heap.size) (e := 3) (size := 1) w1 #[.int .i64 (n : Int)] 1 (Nat.le_refl _) (by simp [maxLen]) (by simp)
 have hxl : Ext No w1 (w1.alloc (.cells #[.int .i64 (n : Int)] 3)) := (Ext.refl _ _).alloc _
 have HLIT := Lib.hid hlit
 clear hlit
 go_loopw [5, 6, 7, 8] (fun o i _ _ wr => ∃ (k : Nat) (l : List Nat), i = .int .i64 k ∧ Hid (AbvI S n k l) ∧ Hid (wr.ownsRow w1.heap.size 3 1 o l.length ((natsZ l).map (.int .i64))) ∧ Hid (Ext No w1 wr)) (fun _ i _ _ _ => S.deps.length + 1 - (intOf i).toNat)
 case atStart => exact ⟨0, [n], rfl, Lib.hid (.start S n), HLIT, Lib.hid hxl⟩
 case round =>
  clear hxl HLIT
  obtain ⟨k, l, rfl, hI, hown, hx⟩ := hrel
  rename World => wr
  obtain ⟨aS, cs, hs6⟩ := (Row.ofOwns (M := No) hown.out (fun _ _ x => x)).slice
  have hlN := hI.out.len HOK.out HN.out
  have hkl := hI.out.le
  obtain ⟨ln, hln⟩ : ∃ ln, ln = l.length := ⟨_, rfl⟩
  rw [← hln] at hown hs6 hlN hkl
  subst hs6
  have HLN := Lib.hid hln
  clear hln
  have HSEEN := Lib.hid (own_ints hown.out HLN.out)
  by_cases hlt : k < ln
  ·have hlz : (k : Int) < (ln : Int) := by omega
   have HKK : Hid (Value.int .i64 ((k : Int) + 1) = .int .i64 ((k + 1 : Nat) : Int)) := Lib.hid (by rw [show ((k + 1 : Nat) : Int) = (k : Int) + 1 from by omega])
   have hkL : k < l.length := by rw [← HLN.out]; exact hlt
   obtain ⟨b, off, cap', hsl, hb1, _, hcell⟩ := IntsN.at HSEEN.out hkL
   rw [← HLN.out] at hsl
   simp only [Value.slice.injEq] at hsl
   obtain ⟨rfl, _, rfl⟩ := hsl
   have q0 := hcell k hkL
   obtain ⟨o, ho⟩ : ∃ o, o = l[k] := ⟨_, rfl⟩
   rw [← ho] at q0
   have hol : o ∈ l := by rw [ho]; exact List.getElem_mem hkL
   have hoN := hI.out.lt HOK.out HN.out o hol
   have hkN : k < S.deps.length := by omega
   have HO := Lib.hid (show l[k]? = some o from by rw [ho, List.getElem?_eq_getElem hkL])
   have ho0 : (0 : Int) ≤ (o : Int) := by omega
   have ho1 : (o : Int) < (S.deps.length : Int) := by omega
   clear ho hcell hb1 hol
   obtain ⟨bd, od, kd, aq, cq, hve, gd, hid⟩ := ((H.out.extNo hx0).extNo hx.out).dep hoN
   simp only [Value.slice.injEq] at hve
   obtain ⟨rfl, -, rfl⟩ := hve
   obtain ⟨d, hd⟩ : ∃ d, d = depD S o := ⟨_, rfl⟩
   rw [← hd] at gd hid
   have HD := Lib.hid hd
   obtain ⟨dn, hdn⟩ : ∃ dn, dn = d.length := ⟨_, rfl⟩
   rw [← hdn] at gd hid
   have HDN := Lib.hid hdn
   have hdb : dn ≤ 9223372036854775807 := by rw [hdn]; exact IntsN.len hid.out
   have HIDW := Lib.hid (show Ints No w1 .i64 (.slice aq dn cq) (natsZ d) from by
    obtain ⟨bd2, od2, kd2, aq2, cq2, hve2, gd2, hid2⟩ := (H.out.extNo hx0).dep hoN
    simp only [Value.slice.injEq] at hve2
    obtain ⟨hve3, -, -⟩ := hve2
    simp only [Option.some.injEq, Addr.mk.injEq] at hve3
    obtain ⟨rfl, rfl, -⟩ := hve3
    have h1 := hx.out.keep gd2
    rw [gd] at h1
    rw [← hd] at h1 hid2
    simp only [Option.some.injEq, Value.slice.injEq] at h1
    obtain ⟨rfl, -, rfl⟩ := h1
    rw [hdn]; exact hid2.out)
   clear hd hdn
   have cA := cellOf (hx.out.blk HA.out no_no)
   go_wp2_with fail
   go_quiet (fail)
   go_wp2_with fail
   clear q0 cA gd
   go_loopw [5, 8] (fun o5 j wx => ∃ (q : Nat) (l' : List Nat), j = .int .i64 q ∧ q ≤ dn ∧ Hid (AbvI S n k l') ∧ Hid (l'[k]? = some o) ∧ Hid (∀ y ∈ d.take q, y ∈ l') ∧ Hid (wx.ownsRow w1.heap.size 3 1 o5 l'.length ((natsZ l').map (.int .i64))) ∧ Hid (Ext No w1 wx)) (fun _ j _ => dn - (intOf j).toNat)
   case atStart => exact ⟨0, l, rfl, Nat.zero_le _, hI, HO, Lib.hid (fun y hy => by simp at hy), Lib.hid (by rw [← HLN.out]; exact row_keep hown.out ((Ext.refl No wr).drewN _) (fun _ _ x => x)), Lib.hid (hx.out.drewN _)⟩
   case round =>
    clear hown HSEEN hI hlN HLN HO
    obtain ⟨q, l', rfl, hq, hI, hO, hT, hown, hx2⟩ := hrel
    rename World => wx
    obtain ⟨aS', cs', hs6⟩ := (Row.ofOwns (M := No) hown.out (fun _ _ x => x)).slice
    have hlN := hI.out.len HOK.out HN.out
    obtain ⟨ln', hln⟩ : ∃ ln', ln' = l'.length := ⟨_, rfl⟩
    rw [← hln] at hown hs6 hlN
    subst hs6
    have HLN := Lib.hid hln
    clear hln
    have HSEEN := Lib.hid (own_ints hown.out HLN.out)
    by_cases hlt2 : q < dn
    ·have hqz : (q : Int) < (dn : Int) := by omega
     have HQQ : Hid (Value.int .i64 ((q : Int) + 1) = .int .i64 ((q + 1 : Nat) : Int)) := Lib.hid (by rw [show ((q + 1 : Nat) : Int) = (q : Int) + 1 from by omega])
     have hqd : q < d.length := by rw [← HDN.out]; exact hlt2
     obtain ⟨b2, off2, cap2, hsl, hb2, _, hcell⟩ := IntsN.at (Row.extNo HIDW.out hx2.out) hqd
     rw [← HDN.out] at hsl
     simp only [Value.slice.injEq] at hsl
     obtain ⟨rfl, _, rfl⟩ := hsl
     have q1 := hcell q hqd
     obtain ⟨m, hm⟩ : ∃ m, m = d[q] := ⟨_, rfl⟩
     rw [← hm] at q1
     have HMD := Lib.hid (show m ∈ depD S o from by rw [← HD.out, hm]; exact List.getElem_mem hqd)
     have HTK := Lib.hid (show d.take (q + 1) = d.take q ++ [m] from by rw [List.take_succ_eq_append_getElem hqd, hm])
     have HQ1 := Lib.hid q1
     clear hm hcell hb2
     go_wp2_with fail
     clear q1
     refine (rhasI_any _ l' m _ HSEEN.out).mono ?_
     rintro e3 w3 ⟨rfl, hx3⟩
     by_cases hml : m ∈ l'
     ·rw [decide_eq_true hml]
      have HML := Lib.hid hml
      clear hml
      go_wp2_with fail
      go_roundw
      case rel => exact ⟨q + 1, l', HQQ.out, by omega, hI, hO, Lib.hid (fun y hy => by
       rw [HTK.out] at hy
       rcases List.mem_append.1 hy with hy | hy
       ·exact hT.out y hy
       ·rw [List.mem_singleton.1 hy]; exact HML.out), Lib.hid (by
       rw [← HLN.out]; exact row_keep hown.out hx3 (fun _ _ x => x)), Lib.hid (hx2.out.transNo hx3)⟩
      case measure => simp [intOf]; omega
     ·rw [decide_eq_false hml]
      have HML := Lib.hid hml
      clear hml
      have q1 := hx3.keep HQ1.out
      have HOW := Lib.hid (row_keep hown.out hx3 (fun _ _ x => x))
      have hsz := hx.out.size
      have hsz2 := hx2.out.size
      have hsz3 := hx3.size
      go_wp2_with (at_builtin; (refine wpList_app _ rfl (.tmp 38) (.tmp 43) 22 rfl w1.heap.size 3 i0 _ 1 8 Try.underlying22 hi0 hz0 hz1 hz2 rfl (by omega) (.slice aS' ln' cs') ln' ((natsZ l').map (.int .i64)) rfl (row_keep HOW.out ((Ext.refl No _).alloc _) (fun _ _ x => x)) No (some ⟨w3.heap.size, 0, none⟩) 1 1 [.int .i64 (m : Int)] rfl (Row.block (alloc_top rfl) rfl no_no (by omega)) (by simp [Value.oneCell']) (by omega) (by omega) (by simp; omega) ?_); (intro v1 w9 hown1 hg9 hv9); (have hx9 := Lib.hid (((Ext.refl (fun b => (Value.slice aS' ln' cs').ownBlock = some b) w3).alloc _).grown hg9 (fun b hb _ => hb))); (have ho9 := Lib.hid hown1); (clear hown1 hg9 hv9))
      clear q1
      go_roundw
      case rel => exact ⟨q + 1, l' ++ [m], HQQ.out, by omega, Lib.hid (hI.out.add (List.mem_of_getElem? hO.out) HMD.out HML.out), Lib.hid (by
       rw [List.getElem?_append_left (by have := hO.out; exact (List.getElem?_eq_some_iff.1 this).1)]; exact hO.out), Lib.hid (fun y hy => by
       rw [HTK.out] at hy
       rcases List.mem_append.1 hy with hy | hy
       ·exact List.mem_append_left _ (hT.out y hy)
       ·exact List.mem_append_right _ hy), Lib.hid (by
       have h := ho9.out
       rw [List.length_append, ← HLN.out, show natsZ (l' ++ [m]) = natsZ l' ++ natsZ [m] from by simp [natsZ], List.map_append]
       exact h), Lib.hid ((hx2.out.transNo hx3).trans2 hx9.out (fun i hi e => by have := (World.ownsRow.lt HOW.out i e).1; omega))⟩
      case measure => simp [intOf]; omega
    ·have hge : ¬ (q : Int) < (dn : Int) := by omega
     go_wp2_with fail
     go_roundw
     case rel => exact ⟨k + 1, l', HKK.out, Lib.hid (by
      have h1 := List.getElem?_eq_some_iff.1 hO.out
      obtain ⟨h2, h3⟩ := h1
      refine hI.out.next h2 (fun y hy => ?_)
      rw [h3, ← HD.out] at hy
      refine hT.out y ?_
      rw [show q = d.length from by rw [← HDN.out]; omega, List.take_length]
      exact hy), Lib.hid (by rw [← HLN.out]; exact hown.out), hx2⟩
     case measure => simp [intOf]; omega
  ·have hge : ¬ (k : Int) < (ln : Int) := by omega
   go_wp2_with fail
   go_ret
   exact ⟨l, aS, cs, by rw [← HLN.out]; rfl, by rw [← HLN.out]; exact hlN, Lib.hid (hI.out.done (by rw [← HLN.out]; exact hlt)), Lib.hid (by
    have h := Row.ofOwns (M := M) hown.out (fun b hb e => by have := HM.out b e; omega)
    unfold Ints
    rw [nats_len, ← HLN.out]
    exact h), hx0.transNo hx.out⟩
end Go.Proofs.Ytkdjdhflhlbelaa

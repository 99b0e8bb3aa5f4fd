/- components.Solve. -/
import Derived.Test.YtkdjdhflhlbelaaK8
import Derived.Test.YtkdjdhflhlbelaaI12
set_option linter.unusedVariables false
set_option linter.unusedSimpArgs false
namespace Go.Proofs.Ytkdjdhflhlbelaa
open Go Go.RowKit Tj
set_option maxRecDepth 100000 in
set_option maxHeartbeats 2000000 in
theorem indexI_no (sl : Value) (l : List Nat) (n : Nat) (W : World) (h : Ints No W .i64 sl (natsZ l)) (hn : n ∉ l) :
  Calls Try.prog 121 #[sl, .int .i64 (n : Int)] W fun e w' => e = .returned (.int .i64 (-1)) ∧ Ext No W w' := by
 have H := Lib.hid h
 obtain ⟨a, cap, rfl⟩ := IntsN.slice h
 have hlen := IntsN.len h
 have HN := Lib.hid hn
 clear h hn
 go_enter Try.func121, Try.ntmps121
 go_wp2_with fail
 go_loopw [5, 8] (fun _ i wr => ∃ k : Nat, i = .int .i64 k ∧ k ≤ l.length ∧ Hid (Ext No W wr)) (fun _ i _ => l.length + 1 - (intOf i).toNat)
 case atStart => exact ⟨0, rfl, Nat.zero_le _, Lib.hid (Ext.refl _ _)⟩
 case round =>
  obtain ⟨k, rfl, hk, hx⟩ := hrel
  rename World => wr
  by_cases hkl : k < l.length
  ·have hlz : (k : Int) < (l.length : Int) := by omega
   have HKK : Hid (Value.int .i64 ((k : Int) + 1) = .int .i64 ((k + 1 : Nat) : Int)) := Lib.hid (by rw [show ((k + 1 : Nat) : Int) = (k : Int) + 1 from by omega])
   obtain ⟨b, off, cap', hsl, hb1, _, hcell⟩ := IntsN.at H.out hkl
   simp only [Value.slice.injEq] at hsl
   obtain ⟨rfl, _, rfl⟩ := hsl
   have q0 := hx.out.keep (hcell k hkl)
   have hne0 : l[k] ≠ n := fun e => HN.out (by rw [← e]; exact List.getElem_mem hkl)
   generalize l[k] = y at *
   have hne : ¬ ((n : Int) = (y : Int)) := by omega
   have hne2 : ((n : Int) == (y : Int)) = false := by simpa using hne
   clear hcell hb1
   go_wp2_with fail
   go_roundw
   case rel => exact ⟨k + 1, HKK.out, by omega, hx⟩
   case measure => simp [intOf]; omega
  ·have hge : ¬ (k : Int) < (l.length : Int) := by omega
   go_wp2_with fail
   go_ret
   exact ⟨rfl, hx.out⟩
theorem first_split {n : Nat} : ∀ {l : List Nat}, n ∈ l → ∃ p q, l = p ++ n :: q ∧ n ∉ p
 | [], h => by cases h
 | a :: l, h => by
  by_cases e : a = n
  ·subst e; exact ⟨[], l, rfl, List.not_mem_nil⟩
  ·obtain ⟨p, q, h1, h2⟩ := first_split (n := n) (l := l) ((List.mem_cons.1 h).resolve_left (fun e2 => e e2.symm))
   exact ⟨a :: p, q, by rw [h1]; rfl, fun h3 => (List.mem_cons.1 h3).elim (fun e2 => e e2.symm) h2⟩
theorem containsI_any (sl : Value) (l : List Nat) (n : Nat) (W : World) (h : Ints No W .i64 sl (natsZ l)) :
  Calls Try.prog 87 #[sl, .int .i64 (n : Int)] W (BoolPost (l.contains n) W) := by
 by_cases hn : n ∈ l
 ·obtain ⟨p, q, hl, hp⟩ := first_split hn
  have hI := Lib.hid (indexI_any sl p q n W (by rw [← hl]; exact h) hp)
  have HC := Lib.hid (show l.contains n = true from by simpa using hn)
  obtain ⟨a, cap, rfl⟩ := IntsN.slice h
  clear h hl hp hn
  go_enter Try.func87, Try.ntmps87
  go_wp2_with fail
  refine hI.out.mono ?_
  rintro e w1 ⟨rfl, hx⟩
  go_wp2_with fail
  go_ret
  exact ⟨by rw [HC.out]; simp, hx⟩
 ·have hI := Lib.hid (indexI_no sl l n W h hn)
  have HC := Lib.hid (show l.contains n = false from by simpa using hn)
  obtain ⟨a, cap, rfl⟩ := IntsN.slice h
  clear h hn
  go_enter Try.func87, Try.ntmps87
  go_wp2_with fail
  refine hI.out.mono ?_
  rintro e w1 ⟨rfl, hx⟩
  go_wp2_with fail
  go_ret
  exact ⟨by rw [HC.out]; simp, hx⟩
/-- a row out of a list of rows -/
theorem ld_at {w : World} {so : Value} {Ld : LD} {L : List (List Nat)} (h : LAt kD No w so Ld) (he : Ld.map Prod.fst = L.map natsZ) {i : Nat} (hi : i < L.length) :
  ∃ b off cap a c, so = .slice (some ⟨b, off, none⟩) L.length cap ∧ w.cell? ⟨b, off + i, none⟩ = some (.slice a L[i].length c) ∧ Hid (Ints No w .i64 (.slice a L[i].length c) (natsZ L[i])) := by
 have hl : Ld.length = L.length := by have := congrArg List.length he; simpa using this
 have hi2 : i < Ld.length := by omega
 obtain ⟨b, off, cap, h1, -, -, h4⟩ := h.at hi2
 have h5 := h4 i hi2 0 Ld[i].2 (by decide) rfl
 have h6 : Ints No w .i64 Ld[i].2 Ld[i].1 := h.ok Ld[i] (List.getElem_mem hi2)
 have e : Ld[i].1 = natsZ L[i] := by
  have := congrArg (fun l => l[i]?) he
  simp only [List.getElem?_map, List.getElem?_eq_getElem hi2, List.getElem?_eq_getElem hi, Option.map_some, Option.some.injEq] at this
  exact this
 rw [e] at h6
 obtain ⟨a, c, e2⟩ := IntsN.slice h6
 rw [e2] at h5 h6
 refine ⟨b, off, cap, a, c, by rw [h1, hl], ?_, Lib.hid h6⟩
 rw [show i * kD.s + 0 = i from by show i * 1 + 0 = i; omega] at h5
 exact h5
/-- the values under way, in the row gv -/
structure SoM (S : SysD) (V wr : World) (sB gv : Nat) (sx : Array Value) (vs : List Nat) : Prop where
 ext : Ext No V wr
 box : wr.heap[sB]? = some (.cells sx 29 (0, 0))
 own : ∃ L : LS, LOwn kS No wr gv (.slice (some ⟨gv, 0, none⟩) L.length S.deps.length) L ∧ L.map Prod.fst = vs.map (setN S.w)
 good : GoodV S vs
 hw : S.w ≤ 256
 lo : sB < gv ∧ V.heap.size ≤ gv
section
variable {S : SysD} {V wr w' : World} {sB gv : Nat} {sx : Array Value} {vs : List Nat}
theorem SoM.stepNo (h : SoM S V wr sB gv sx vs) (hx : Ext No wr w') : SoM S V w' sB gv sx vs := by
 obtain ⟨L, h1, h2⟩ := h.own
 exact ⟨h.ext.transNo hx, hx.blk h.box no_no, ⟨L, h1.extNo hx, h2⟩, h.good, h.hw, h.lo⟩
theorem SoM.len {L : LS} (h : SoM S V wr sB gv sx vs) (he : L.map Prod.fst = vs.map (setN S.w)) : L.length = S.deps.length := by
 have := congrArg List.length he
 simp only [List.length_map] at this
 rw [this, h.good.len]
theorem SoM.sets (h : SoM S V wr sB gv sx vs) : SetsV No wr (.slice (some ⟨gv, 0, none⟩) S.deps.length S.deps.length) S.w vs := by
 obtain ⟨L, h1, h2⟩ := h.own
 have h3 := h1.list2 (M := No) (fun _ _ x => x) (fun _ x => x.elim)
 rw [h.len h2] at h3
 exact h3.setsV h2 h.hw h.good.lt
theorem SoM.lt (h : SoM S V wr sB gv sx vs) (hn : 1 ≤ S.deps.length) : gv < wr.heap.size := by
 obtain ⟨L, h1, h2⟩ := h.own
 exact (h1.lt gv rfl).2
theorem SoM.cell (h : SoM S V wr sB gv sx vs) {n : Nat} (hn : n < S.deps.length) : (∃ a c, wr.cell? ⟨gv, n * 2, none⟩ = some (.int .i64 (S.w : Int)) ∧ wr.cell? ⟨gv, n * 2 + 1, none⟩ = some (.slice a (nw S.w) c) ∧ Hid (SetAt No wr (.slice a (nw S.w) c) S.w (rowD vs n))) := by
 obtain ⟨b, off, cap, a, c, h1, ⟨h2, h3⟩, h4⟩ := h.sets.cells (i := n) (by rw [h.good.len]; exact hn)
 simp only [Value.slice.injEq, Option.some.injEq, Addr.mk.injEq] at h1
 obtain ⟨⟨rfl, rfl, -⟩, -, -⟩ := h1
 rw [Nat.zero_add] at h2 h3
 exact ⟨a, c, h2, h3, h4⟩
theorem SoM.free (h : SoM S V wr sB gv sx vs) (j : Nat) : wr.frozen? ⟨gv, j, none⟩ = false := by
 obtain ⟨L, h1, h2⟩ := h.own
 exact World.ownsRow.frozenAt h1.own j
theorem SoM.put (h : SoM S V wr sB gv sx vs) {n m : Nat} {a : Option Addr} {c : Nat} (hn : n < S.deps.length) (hs : SetAt (At gv) wr (.slice a (nw S.w) c) S.w m) :
  SoM S V ((wr.setCell ⟨gv, n * 2, none⟩ (.int .i64 (S.w : Int))).setCell ⟨gv, n * 2 + 1, none⟩ (.slice a (nw S.w) c)) sB gv sx (vs.set n m) := by
 obtain ⟨L, h1, h2⟩ := h.own
 have hl := h.len h2
 have hE : Ext (At gv) wr ((wr.setCell ⟨gv, n * 2, none⟩ (.int .i64 (S.w : Int))).setCell ⟨gv, n * 2 + 1, none⟩ (.slice a (nw S.w) c)) := ((Ext.refl (At gv) _).setAt _ _).setAt _ _
 have hlo := h.lo
 have hP : LOwn kS No ((wr.setCell ⟨gv, n * 2, none⟩ (.int .i64 (S.w : Int))).setCell ⟨gv, n * 2 + 1, none⟩ (.slice a (nw S.w) c)) gv (.slice (some ⟨gv, 0, none⟩) L.length S.deps.length) (L.set n (setN S.w m, .slice a (nw S.w) c)) := h1.putAll (i := n) (p := (setN S.w m, .slice a (nw S.w) c)) (by rw [hl]; exact hn) (hs.words.mono (fun i _ e => e.elim (fun x => x.elim) id))
 refine ⟨h.ext.trans2 hE (fun i hi e => by unfold At at e; omega), hE.blk h.box (by unfold At; omega), ⟨L.set n (setN S.w m, .slice a (nw S.w) c), by rw [List.length_set]; exact hP, by rw [List.map_set, h2, List.map_set]⟩, ⟨by rw [List.length_set]; exact h.good.len, fun k hk => ?_⟩, h.hw, hlo⟩
 rcases List.mem_or_eq_of_mem_set hk with h3 | h3
 ·exact h.good.lt k h3
 ·rw [h3]; exact hs.hm
end
theorem ordS_mem (S : SysD) (g : Nat → Nat) : ∀ r, ∀ c ∈ (ordS S g r).2, ∃ i, i < S.deps.length ∧ c = membersL S g (g i)
 | 0 => fun c hc => by cases hc
 | r + 1 => fun c hc => by
  rw [ordS] at hc
  cases hf : firstI S g (ordS S g r).1 with
  | none => rw [hf] at hc; exact ordS_mem S g r c hc
  | some i =>
   rw [hf] at hc
   rcases List.mem_append.1 hc with h | h
   ·exact ordS_mem S g r c h
   ·have hi := List.mem_of_find?_eq_some hf
    exact ⟨i, List.mem_range.1 hi, List.mem_singleton.1 h⟩
theorem ordS_lt (S : SysD) (g : Nat → Nat) (r : Nat) : ∀ c ∈ (ordS S g r).2, ∀ n ∈ c, n < S.deps.length := fun c hc n hn => by
 obtain ⟨i, hi, rfl⟩ := ordS_mem S g r c hc
 exact List.mem_range.1 (List.mem_filter.1 hn).1
theorem ordS_len (S : SysD) (g : Nat → Nat) (r : Nat) : ∀ c ∈ (ordS S g r).2, c.length ≤ S.deps.length ∧ 1 ≤ c.length := fun c hc => by
 obtain ⟨i, hi, rfl⟩ := ordS_mem S g r c hc
 refine ⟨Nat.le_trans (List.length_filter_le _ _) (by simp), List.length_pos_of_mem (List.mem_filter.2 ⟨List.mem_range.2 hi, by simp⟩)⟩
def remV (S : SysD) (vs : List Nat) : Nat := S.deps.length * S.w - cntV vs S.w S.deps.length
theorem rem_le {S : SysD} {vs us : List Nat} (h : LeV S vs us) : remV S us ≤ remV S vs := by
 have := cntV_mono (w := S.w) S.deps.length h
 unfold remV
 omega
theorem rem_lt {S : SysD} {vs us : List Nat} (hv : GoodV S vs) (hu : GoodV S us) (h : LeV S vs us) (hne : vs ≠ us) : remV S us < remV S vs := by
 have h1 := lt_cnt hv hu h hne
 have h2 := cntV_le us S.w S.deps.length
 unfold remV
 omega
def CSolvePost (M : Nat → Prop) (S : SysD) (W : World) (e : Ending) (w' : World) : Prop :=
 ∃ (g : Nat → Nat) (R : Nat) (vs : List Nat) (n : Nat) (a : Option Addr) (c : Nat), GOk S g ∧ OrdAt S g R ∧ Hid (SRun S (ordS S g R).2 (ordS S g R).2.length vs n) ∧ e = .returned (.tuple #[.slice a S.deps.length c, .int .i64 (n : Int), .int .i64 0]) ∧ Hid (SetsV M w' (.slice a S.deps.length c) S.w vs) ∧ Ext No W w'
end Go.Proofs.Ytkdjdhflhlbelaa

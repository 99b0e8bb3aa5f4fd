/- The tape of choices: what flqgen.New and Next leave. -/
import Derived.Test.YtfejidihocoboaaHeap
import Derived.Test.YtfejidihocoboaaProg
import Derived.Deep.QuietTactic
import Derived.BigQuiet
import Derived.WalkSpells
import Derived.IntWalk
set_option linter.unusedVariables false
set_option linter.unusedSimpArgs false
namespace Go.Proofs.Ytfejidihocoboaa
open Go Go.RowKit
def modZ (v n : Int) : Int := wrap64 ((IntKind.u64.wrap v).tmod n)
theorem modZ_bd (v n : Int) (h : 1 ≤ n) (h2 : n ≤ 9223372036854775807) : 0 ≤ modZ v n ∧ modZ v n < n := by
  have h0 : 0 ≤ IntKind.u64.wrap v := by simp only [IntKind.wrap, IntKind.bits, IntKind.signed]; simp; omega
  have h3 : 0 ≤ (IntKind.u64.wrap v).tmod n := Int.tmod_nonneg _ h0
  have h4 : (IntKind.u64.wrap v).tmod n < n := Int.tmod_lt_of_pos _ (by omega)
  unfold modZ
  rw [IntWalk.wrap64_in _ (by omega)]
  exact ⟨h3, h4⟩
theorem mod_any (v n : Int) (hn : 1 ≤ n) (hn2 : n ≤ 9223372036854775807) (w : World) : Calls Try.prog 34 #[.int .i64 v, .int .i64 n] w fun e w' => e = .returned (.int .i64 (modZ v n)) ∧ w = w' := by
  have hb := modZ_bd v n hn hn2
  go_enter Try.func34, Try.ntmps34
  go_wp2
  go_ret
  exact ⟨rfl, rfl⟩
/-- a tape in block tb -/
def TapeOk (w : World) (tb : Nat) : Prop := ∃ (sl : Value) (n i : Nat) (zs : List Int), w.heap[tb]? = some (.cells #[sl, .int .i64 i] 61 (0, 0)) ∧ i ≤ n ∧ n = zs.length ∧ Row (From tb) w 1 sl n (zs.map (.int .i64))
theorem TapeOk.ext {w w' : World} {tb : Nat} (h : TapeOk w tb) (hx : Ext No w w') : TapeOk w' tb := by
  obtain ⟨sl, n, i, zs, h1, h2, h3, h4⟩ := h
  exact ⟨sl, n, i, zs, (hx.block tb (lt_of_block h1) (fun x => x.elim)).trans h1, h2, h3, h4.extNo hx⟩
theorem TapeOk.extAbove {M : Nat → Prop} {w w' : World} {tb : Nat} (h : TapeOk w tb) (hx : Ext M w w') (hb : ∀ i, i ≤ tb → ¬ M i) : TapeOk w' tb := by
  obtain ⟨sl, n, i, zs, h1, h2, h3, h4⟩ := h
  refine ⟨sl, n, i, zs, (hx.block tb (lt_of_block h1) (hb tb (Nat.le_refl _))).trans h1, h2, h3, h4.ext hx (fun i _ x => ?_)⟩
  rcases Nat.lt_or_ge i tb with h | h
  · exact absurd x (hb i (by omega))
  · exact h
theorem TapeOk.lt {w : World} {tb : Nat} (h : TapeOk w tb) : tb < w.heap.size := by
  obtain ⟨sl, n, i, zs, h1, _⟩ := h; exact lt_of_block h1
theorem ret_ofNat {k : IntKind} {a : Int} (h : 0 ≤ a) : Ending.returned (.int k a) = .returned (.int k (a.toNat : Nat)) := by rw [Int.toNat_of_nonneg h]
def NextPost (tb : Nat) (n : Int) (w : World) (e : Ending) (w' : World) : Prop :=
  ∃ r : Nat, e = .returned (.int .i64 r) ∧ ((r : Int) < n ∨ r = 0) ∧ TapeOk w' tb ∧ Ext (At tb) w w' ∧ w'.heap.size = w.heap.size
theorem cells2 {w : World} {b T : Nat} {v0 v1 : Value} (h : w.heap[b]? = some (.cells #[v0, v1] T (0, 0))) :
    w.cell? ⟨b, 0, none⟩ = some v0 ∧ w.cell? ⟨b, 1, none⟩ = some v1 ∧ w.frozen? ⟨b, 0, none⟩ = false ∧ w.frozen? ⟨b, 1, none⟩ = false := by
  simp [World.cell?, World.frozen?, h]
theorem set2 {w : World} {b T : Nat} {v0 v1 u : Value} (h : w.heap[b]? = some (.cells #[v0, v1] T (0, 0))) :
    (w.setCell ⟨b, 1, none⟩ u).heap[b]? = some (.cells #[v0, u] T (0, 0)) := by
  have hlt := lt_of_block h
  have h' : w.heap[b] = .cells #[v0, v1] T (0, 0) := by simpa [Array.getElem?_eq_getElem hlt] using h
  show (w.heap.modify b _)[b]? = _
  rw [Array.getElem?_eq_getElem (by simpa using hlt), Array.getElem_modify_self, h']
  rfl
theorem cell_set_same {w : World} {a : Addr} {u : Value} (v : Value) (h : w.cell? a = some u) : (w.setCell a v).cell? a = some v := World.cell?_setCell_same (h := h) ..
theorem TapeOk.step {w : World} {tb n i T : Nat} {sl : Value} {zs : List Int} (hT : T = 61) (h1 : w.heap[tb]? = some (.cells #[sl, .int .i64 i] T (0, 0))) (h2 : i < n) (h3 : n = zs.length) (h4 : Row (From tb) w 1 sl n (zs.map (.int .i64))) :
    TapeOk (w.setCell ⟨tb, 1, none⟩ (.int .i64 (i + 1))) tb := by
  subst hT
  exact ⟨sl, n, i + 1, zs, by rw [set2 h1]; rfl, by omega, h3, h4.ext ((Ext.refl (At tb) w).setCell (p := ⟨tb, 1, none⟩) (fun _ => rfl) _) (fun i _ x => by cases x; exact Nat.le_refl _)⟩
set_option maxHeartbeats 400000 in
theorem next_any (tb : Nat) (n : Int) (hn2 : n ≤ 9223372036854775807) (w : World) (ht : TapeOk w tb) :
    Calls Try.prog 12 #[.pointer (some ⟨tb, 0, none⟩), .int .i64 n] w (NextPost tb n w) := by
  obtain ⟨sl, len, i, zs, h1, h2, h3, h4⟩ := ht
  have HT := Lib.hid (show TapeOk w tb from ⟨sl, len, i, zs, h1, h2, h3, h4⟩)
  have H4 := Lib.hid h4
  have H1 := Lib.hid h1
  have H3 := Lib.hid h3
  obtain ⟨c0, c1, f0, f1⟩ := cells2 h1
  obtain ⟨a, cap, rfl⟩ := h4.slice
  have hlen := h4.2.1
  clear h4 h1 h3
  by_cases hn : n ≤ 1
  · have hd : decide (n ≤ 1) = true := by simpa using hn
    go_enter Try.func12, Try.ntmps12
    go_wp2_with fail
    go_quiet (fail)
    go_wp2
    go_ret
    exact ⟨0, rfl, .inr rfl, HT.out.ext ((Ext.refl _ _).drewN _), (Ext.refl _ _).drewN _, rfl⟩
  · have hd : decide (n ≤ 1) = false := by simpa using hn
    by_cases hi : i < len
    · obtain ⟨b, off, cap', hsl, hb1, hb2, hcell⟩ := H4.out.shape (by omega)
      simp only [Value.slice.injEq] at hsl
      obtain ⟨rfl, _, rfl⟩ := hsl
      have hz := H3.out
      have hi' : i < zs.length := by omega
      have hel := hcell i (.int .i64 zs[i]) (by simp [hi'])
      have hbt : b ≠ tb := fun h => hb2 (by subst h; exact Nat.le_refl _)
      have hlt : (i : Int) < (len : Int) := by omega
      have hne : ((b : Nat) = tb) = False := by simp [hbt]
      have HC := Lib.hid hcell
      have HZ := Lib.hid hz
      clear hcell hz hne
      have g0 : ∀ (q : Nat) v, ((w.drewN q).setCell ⟨tb, 1, none⟩ v).cell? ⟨b, off + i, none⟩ = some (.int .i64 zs[i]) := fun q v => by
        rw [World.cell?_setCell_other (h := by simp)]; exact hel
      have g1 : ∀ (q : Nat) v, ((w.drewN q).setCell ⟨tb, 1, none⟩ v).cell? ⟨tb, 1, none⟩ = some v := fun q v => cell_set_same (w := w.drewN q) v c1
      have g2 : ∀ (q : Nat) v, ((w.drewN q).setCell ⟨tb, 1, none⟩ v).cell? ⟨tb, 0, none⟩ = some (.slice (some ⟨b, off, none⟩) len cap) := fun q v => by
        rw [World.cell?_setCell_other (h := by simp)]; exact c0
      have hm := modZ_bd zs[i] n (by omega) hn2
      go_enter Try.func12, Try.ntmps12
      go_wp2_with fail
      go_quiet (fail)
      go_wp2_with fail
      go_quiet ((go_at_call 34; exact Calls.quiet_of_same ((mod_any _ _ (by omega) hn2 _).mono fun e w' ⟨he, hw⟩ => ⟨he, hw.symm⟩)))
      go_wp2
      go_ret
      refine ⟨(modZ zs[i] n).toNat, ret_ofNat hm.1, .inl (by omega), ?_, ?_, by simp⟩
      · exact (TapeOk.step rfl H1.out hi HZ.out H4.out).ext (((Ext.refl _ _).drewN _).drewN _)
      · exact (((Ext.refl (At tb) w).drewN _).setCell (p := ⟨tb, 1, none⟩) (fun _ => rfl) _).drewN _
    · have hge : (len : Int) ≤ (i : Int) := by omega
      go_enter Try.func12, Try.ntmps12
      go_wp2_with fail
      go_quiet (fail)
      go_wp2
      go_ret
      exact ⟨0, rfl, .inr rfl, HT.out.ext ((Ext.refl _ _).drewN _), (Ext.refl _ _).drewN _, rfl⟩
def NextLt (tb : Nat) (n : Int) (w : World) (e : Ending) (w' : World) : Prop :=
  ∃ r : Nat, e = .returned (.int .i64 r) ∧ (r : Int) < n ∧ TapeOk w' tb ∧ Ext (At tb) w w' ∧ w'.heap.size = w.heap.size
theorem next_lt (tb : Nat) (n : Int) (h1 : 1 ≤ n) (hn2 : n ≤ 9223372036854775807) (w : World) (ht : TapeOk w tb) :
    Calls Try.prog 12 #[.pointer (some ⟨tb, 0, none⟩), .int .i64 n] w (NextLt tb n w) :=
  (next_any tb n hn2 w ht).mono fun _ _ ⟨r, he, hr, h⟩ => ⟨r, he, by omega, h⟩
/-- a slice of integers that came in -/
def Ints (M : Nat → Prop) (w : World) (k : IntKind) (sl : Value) (zs : List Int) : Prop := Row M w 1 sl zs.length (zs.map (.int k))
def NewPost (w : World) (e : Ending) (w' : World) : Prop :=
  e = .returned (.pointer (some ⟨w.heap.size, 0, none⟩)) ∧ TapeOk w' w.heap.size ∧ Ext No w w' ∧ w'.heap.size = w.heap.size + 1
theorem new_any (sl : Value) (zs : List Int) (w : World) (h : Ints No w .i64 sl zs) : Calls Try.prog 8 #[sl] w (NewPost w) := by
  have H := Lib.hid h
  obtain ⟨a, cap, rfl⟩ := h.slice
  clear h
  go_enter Try.func8, Try.ntmps8
  go_wp2
  go_ret
  refine ⟨rfl, ⟨_, _, 0, zs, heap_alloc_new w _, Nat.zero_le _, rfl, ?_⟩, (Ext.refl _ _).alloc _, by simp⟩
  exact H.out.newAt ((Ext.refl _ _).alloc _) _ (fun i hi x => absurd x (by unfold From; omega))
end Go.Proofs.Ytfejidihocoboaa

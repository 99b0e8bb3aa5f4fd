/- Drop of the reference's memo table. -/
import Derived.Test.YtfejidihocoboaaN30
set_option linter.unusedVariables false
set_option linter.unusedSimpArgs false
namespace Go.Proofs.Ytfejidihocoboaa
open Go Go.RowKit
/-- a list that the call made itself, of entries that were there before it -/
theorem LOwn.fresh {A : Nat → Prop} {W w : World} {v : Value} {LL : List EV} (hown : w.ownsRow W.heap.size kE.T kE.s v LL.length (LL.flatMap kE.cells)) (hE : Ext No W w) (hok : ∀ p ∈ LL, kE.ok A W p) : LOwn kE A w W.heap.size v LL := by
  refine ⟨hown, fun p hp => ?_⟩
  have hw1 : kE.ok (fun b => A b ∨ W.heap.size ≤ b) W p := kE.mono (hok p hp) (fun j hj e => by
    rcases e with e | e
    · exact e
    · omega)
  refine kE.mono (kE.ext hw1 hE (fun _ _ e => e.elim)) (fun j _ e => ?_)
  rcases e with e | e
  · exact .inl e
  · exact .inr (World.ownsRow.lt hown j e).1
theorem RTab.okAll {M : Nat → Prop} {w : World} {D : Nat} {cap clk : Int} {v : Value} {LL : List EV} (h : RTab M w D cap clk v LL) : ∀ p ∈ LL, kE.ok (fun b => M b ∨ b = D) w p := fun p hp => kE.mono (h.ents.ok p hp) (fun _ _ e => .inl e)
/-- new entries, made by the call -/
theorem RTab.setF {M : Nat → Prop} {W w w' : World} {D : Nat} {cap clk : Int} {v v' : Value} {LL LL' : List EV} (h : RTab M W D cap clk v LL) (hM : ∀ b, M b → b < W.heap.size) (hown : w.ownsRow W.heap.size kE.T kE.s v' LL'.length (LL'.flatMap kE.cells)) (hE : Ext No W w) (hs : ∀ p ∈ LL', p ∈ LL)
    (hx : Ext (At D) w w') (hb : w'.heap[D]? = some (.cells #[.int .i64 cap, v', .int .i64 clk] 32 (0, 0))) : RTab M w' D cap clk v' LL' ∧ Ext (ROwnT D v) W w' ∧ (∀ b, ROwnT D v' b → ROwnT D v b ∨ W.heap.size ≤ b) := by
  have hl := LOwn.fresh hown hE (fun p hp => h.okAll p (hs p hp))
  refine ⟨(h.stepNo hE).setE hx hb ⟨row_base hl.own (Nat.zero_le _), hl.ok⟩ (fun g hg e => by have h1 := (hl.lt g hg).1; have h2 := hM g e; omega), hE.ofNo.trans (hx.mono (fun i _ e => .inl e)), fun b hb2 => ?_⟩
  rcases hb2 with e | e
  · exact .inl (.inl e)
  · exact .inr (hl.lt b e).1
theorem filter_stepE {q : EV → Bool} {LL : List EV} {k : Nat} (hk : k < LL.length) : (LL.take (k + 1)).filter q = (LL.take k).filter q ++ (if q LL[k] = true then [LL[k]] else []) := by
  rw [List.take_succ_eq_append_getElem hk, List.filter_append]
  cases h : q LL[k] <;> simp [h]
set_option maxRecDepth 100000 in
set_option maxHeartbeats 4000000 in
theorem rdrop_any (p : Int) {M : Nat → Prop} {W : World} {D : Nat} {cap clk : Int} {v : Value} {LL : List EV} (h : RTab M W D cap clk v LL) (hl : LL.length ≤ 1000) (hM : ∀ b, M b → b < W.heap.size) :
    Calls Try.prog 29 #[ptrV D, .int .i64 p] W (RPost M D cap (ROwnT D v) (.returned (.int .i64 ((LL.length : Int) - ((LL.filter (fun e => !decide (e.1.key.1 = p))).length : Int)))) clk ((LL.map Prod.fst).filter (fun e => !decide (e.key.1 = p))) W) := by
  obtain ⟨iE, hiE, hE0, hE1, hE2⟩ := info_parts infoEnt
  have HP := Lib.hid h
  have HMM := Lib.hid hM
  have H := Lib.hid h.list
  have HB := Lib.hid h.box
  obtain ⟨a, c, hsl0⟩ := h.list.slice
  rw [hsl0] at H HB
  have HSL := Lib.hid hsl0
  obtain ⟨N, hN⟩ : ∃ N, N = LL.length := ⟨_, rfl⟩
  rw [← hN] at H HB hl HSL
  have HN := Lib.hid hN
  clear h hN hsl0 hM
  unfold ptrV
  have c0 := cellOf HB.out
  go_enter Try.func29, Try.ntmps29
  go_wp2_with fail
  clear c0
  go_loopw [5, 6] (fun s5 s6 wr => ∃ (k : Nat) (L1 : List EV), s6 = .int .i64 k ∧ k ≤ N ∧ Hid (L1 = (LL.take k).filter (fun e => !decide (e.1.key.1 = p))) ∧ Hid (wr.ownsRow W.heap.size 42 6 s5 L1.length (L1.flatMap kE.cells)) ∧ Hid (Ext No W wr)) (fun _ s6 _ => N - (intOf s6).toNat)
  case atStart => exact ⟨0, [], rfl, Nat.zero_le _, Lib.hid rfl, Lib.hid (LOwn.nil kE No W W.heap.size).own, Lib.hid (Ext.refl _ _)⟩
  case round =>
    obtain ⟨k, L1, rfl, hk, hL1, hO, hx⟩ := hrel
    rename World => wr
    obtain ⟨a1, c1, hs5⟩ := (Row.ofOwns (M := No) hO.out (fun _ _ x => x)).slice
    have HLL : Hid (L1.length ≤ N) := Lib.hid (by rw [hL1.out]; exact Nat.le_trans (List.length_filter_le _ _) (by rw [List.length_take]; have := HN.out; omega))
    have hl1 := HLL.out
    obtain ⟨m, hm⟩ : ∃ m, m = L1.length := ⟨_, rfl⟩
    rw [← hm] at hs5 hl1 hO
    subst hs5
    have HMN := Lib.hid hm
    clear hm
    have cD := cellOf (hx.out.blk HB.out no_no)
    have fD := freeOf (hx.out.blk HB.out no_no)
    by_cases hlt : k < N
    · have hlz : (k : Int) < (N : Int) := by omega
      have hlz0 : (0 : Int) ≤ (k : Int) := by omega
      have HKK : Hid (Value.int .i64 ((k : Int) + 1) = .int .i64 ((k + 1 : Nat) : Int)) := Lib.hid (by rw [show ((k + 1 : Nat) : Int) = (k : Int) + 1 from by omega])
      have hkl : k < LL.length := by have := HN.out; omega
      have HKL := Lib.hid hkl
      obtain ⟨wa, wc, hwa⟩ := (H.out.ok _ (List.getElem_mem hkl)).slice
      obtain ⟨b, off, cap', hsl, -, -, hc⟩ := (H.out.extNo hx.out).atE hkl
      rw [← HN.out] at hsl
      simp only [Value.slice.injEq] at hsl
      obtain ⟨rfl, -, rfl⟩ := hsl
      obtain ⟨d0, d1, d2, d3, d4, d5⟩ := hc k hkl
      rw [hwa] at d4
      obtain ⟨y, hy⟩ : ∃ y, y = (LL[k]'HKL.out).1 := ⟨_, rfl⟩
      rw [← hy] at d0 d1 d2 d3 d4 d5 hwa
      have HY := Lib.hid hy
      have HPE := Lib.hid (show LL[k]'HKL.out = (y, .slice wa y.s.words.length wc) from Prod.ext hy.symm hwa)
      clear hy hkl hc hwa
      by_cases hp : y.key.1 = p
      · have e0 : (y.key.1 != p) = false := by simp [hp]
        have HQ := Lib.hid hp
        clear hp
        go_wp2_with fail
        go_roundw
        case rel => exact ⟨k + 1, L1, HKK.out, by omega, Lib.hid (by rw [filter_stepE HKL.out, HPE.out, ← hL1.out]; simp [HQ.out]), Lib.hid (by rw [← HMN.out]; exact hO.out), hx⟩
        case measure => simp [intOf]; omega
      · have e0 : (y.key.1 != p) = true := by simp [hp]
        have HQ := Lib.hid hp
        clear hp
        go_wp2_with (at_builtin; (refine wpList_app _ rfl (.tmp 27) (.tmp 35) 30 rfl W.heap.size 42 iE _ 6 64 Try.underlying30 hiE hE0 hE1 hE2 rfl (by omega) (.slice a1 m c1) m (L1.flatMap kE.cells) rfl (row_keep hO.out ((Ext.refl No _).alloc _) (fun _ _ x => x)) No (some ⟨wr.heap.size, 0, none⟩) 1 1 [.int .i64 y.key.1, .int .i64 y.key.2.1, .int .i64 y.key.2.2, .int .i64 y.s.width, .slice wa y.s.words.length wc, .int .i64 y.t] rfl (Row.block (alloc_top rfl) rfl no_no (by omega)) (by simp [Value.oneCell']) (by omega) (by omega) (by have := hx.out.size; simp; omega) ?_); (intro v9 w9 hown1 hg1 hv1); (have HX9 := Lib.hid (show Ext No W w9 from (hx.out.transNo ((Ext.refl No _).alloc _)).trans2 ((Ext.refl (fun bq => (Value.slice a1 m c1).ownBlock = some bq) _).grown hg1 (fun k hk _ => hk)) (fun i hi e => by have := (World.ownsRow.lt hO.out i e).1; omega))); (have HO9 := Lib.hid hown1); (clear hown1 hg1 hv1); (obtain ⟨a9, c9, rfl⟩ := (Row.ofOwns (M := No) HO9.out (fun _ _ x => x)).slice))
        go_roundw
        case rel => exact ⟨k + 1, L1 ++ [(y, .slice wa y.s.words.length wc)], HKK.out, by omega, Lib.hid (by rw [filter_stepE HKL.out, HPE.out, ← hL1.out]; simp [HQ.out]), Lib.hid (by rw [List.length_append, List.flatMap_append, ← HMN.out]; exact HO9.out), HX9⟩
        case measure => simp [intOf]; omega
    · have hge : ¬ (k : Int) < (N : Int) := by omega
      have hkN : k = N := by omega
      have hwr : IntKind.i64.wrap ((N : Int) - (m : Int)) = (N : Int) - (m : Int) := by rw [IntKind.wrap_i64]; omega
      have HL9 := Lib.hid (show L1 = LL.filter (fun e => !decide (e.1.key.1 = p)) from by rw [hL1.out, hkN, List.take_of_length_le (by have := HN.out; omega)])
      go_wp2_with fail
      go_ret
      obtain ⟨h1, h2, h3⟩ := HP.out.setF HMM.out (v' := .slice a1 m c1) (LL' := L1) (by rw [← HMN.out]; exact hO.out) hx.out (fun q hq => (List.mem_filter.1 (by rw [← HL9.out]; exact hq)).1) ((Ext.refl (At D) wr).setAt 1 (.slice a1 m c1)) ((set_same (j := 1) (u := .slice a1 m c1) (hx.out.blk HP.out.box no_no)).trans rfl)
      refine ⟨.slice a1 m c1, L1, by rw [← HL9.out, ← HN.out, ← HMN.out]; rfl, Lib.hid h1, Lib.hid ?_, h2, Lib.hid h3⟩
      rw [HL9.out, List.filter_map]
      rfl
end Go.Proofs.Ytfejidihocoboaa

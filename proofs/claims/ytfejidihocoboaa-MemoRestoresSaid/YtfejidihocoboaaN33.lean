/- Merged: N32 N33 -/
import Derived.Test.YtfejidihocoboaaN24
import Derived.Test.YtfejidihocoboaaN31
set_option linter.unusedVariables false
set_option linter.unusedSimpArgs false
/- N32 -/
namespace Go.Proofs.Ytfejidihocoboaa
open Go Go.RowKit
open Go.Maps (Keyed)
theorem sorted_nodup {K : List Key3} (h : K.Pairwise ltK) : K.Nodup := h.imp (fun {a b} h e => by subst e; exact ltK_irrefl _ h)
theorem insE_perm (es : List Ent) (e : Ent) : (insE es e).Perm (es ++ [e]) := by
  unfold insE
  refine List.perm_middle.trans ?_
  rw [List.take_append_drop]
  exact (List.perm_append_singleton _ _).symm
theorem insE_sorted {es : List Ent} {e : Ent} (h : (keysE es).Pairwise ltK) (hn : e.key ∉ keysE es) : (keysE (insE es e)).Pairwise ltK := by
  have h1 : keysE (insE es e) = (keysE es).take (posK (keysE es) e.key) ++ e.key :: (keysE es).drop (posK (keysE es) e.key) := by
    unfold insE keysE
    rw [List.map_append, List.map_cons, List.map_take, List.map_drop]
  rw [h1]
  have hs := h
  rw [← List.take_append_drop (posK (keysE es) e.key) (keysE es)] at hs
  obtain ⟨a1, a2, a3⟩ := List.pairwise_append.1 hs
  refine List.pairwise_append.2 ⟨a1, List.pairwise_cons.2 ⟨fun y hy => ?_, a2⟩, fun y hy z hz => ?_⟩
  · obtain ⟨j, hj, rfl⟩ := List.getElem_of_mem hy
    rw [List.length_drop] at hj
    rw [List.getElem_drop]
    have h3 := (posK_iff (x := e.key) h (k := posK (keysE es) e.key + j) (by omega))
    have h4 : ¬ ltK (keysE es)[posK (keysE es) e.key + j] e.key := fun h5 => by have := h3.1 h5; omega
    rcases ltK_total (x := (keysE es)[posK (keysE es) e.key + j]'(by omega)) (y := e.key) (fun h6 => hn (by rw [← h6]; exact List.getElem_mem _)) with h7 | h7
    · exact absurd h7 h4
    · exact h7
  · obtain ⟨j, hj, rfl⟩ := List.getElem_of_mem hy
    rw [List.length_take] at hj
    have h3 : ltK ((keysE es).take (posK (keysE es) e.key))[j] e.key := by
      rw [List.getElem_take]
      exact (posK_iff h (by omega)).2 (by omega)
    rcases List.mem_cons.1 hz with rfl | hz
    · exact h3
    · exact a3 _ hy _ hz
theorem putL_keys (x : Key3) (s : RawSet) (t : Int) (es : List Ent) : keysE (putL x s t es) = keysE es := by
  unfold keysE putL
  rw [List.map_map]
  refine List.map_congr_left (fun e _ => ?_)
  simp only [Function.comp]
  by_cases h : e.key = x
  · rw [if_pos h]; exact h.symm
  · rw [if_neg h]
theorem evE_sorted {es : List Ent} (n : Nat) (h : (keysE es).Pairwise ltK) : (keysE (evE n es)).Pairwise ltK := h.sublist (List.filter_sublist.map _)
end Go.Proofs.Ytfejidihocoboaa

/- N32 -/
namespace Go.Proofs.Ytfejidihocoboaa
open Go Go.RowKit
def MinAt (es : List Ent) (i : Nat) : Prop := ∃ h : i < es.length, (∀ j (hj : j < es.length), es[i].t ≤ es[j].t) ∧ ∀ j (hj : j < es.length), j < i → es[i].t < es[j].t
theorem evE_zero (es : List Ent) : evE 0 es = es := by
  unfold evE
  exact List.filter_eq_self.2 (fun e _ => by simp)
theorem evE_nil (n : Nat) : evE n [] = [] := rfl
theorem rank_split (A B : List Ent) (m e : Ent) : rankE (A ++ m :: B) e = rankE (A ++ B) e + (if m.t < e.t ∨ (m.t = e.t ∧ ltK m.key e.key) then 1 else 0) := by
  unfold rankE
  rw [List.filter_append, List.filter_append, List.filter_cons]
  by_cases h : m.t < e.t ∨ (m.t = e.t ∧ ltK m.key e.key)
  · rw [if_pos h, if_pos (by simpa using h)]
    simp only [List.length_append, List.length_cons]
    omega
  · rw [if_neg h, if_neg (by simpa using h)]
    simp
theorem evE_split {A B : List Ent} {m : Ent} (n : Nat) (h0 : rankE (A ++ m :: B) m = 0) (h1 : ∀ e ∈ A ++ B, m.t < e.t ∨ (m.t = e.t ∧ ltK m.key e.key)) : evE (n + 1) (A ++ m :: B) = evE n (A ++ B) := by
  have hc : ∀ e ∈ A ++ B, decide (n + 1 ≤ rankE (A ++ m :: B) e) = decide (n ≤ rankE (A ++ B) e) := fun e he => by
    rw [rank_split, if_pos (h1 e he)]
    exact decide_eq_decide.2 (by omega)
  unfold evE
  rw [List.filter_append, List.filter_cons, if_neg (by rw [h0]; simp), List.filter_append]
  rw [List.filter_congr (fun e he => hc e (List.mem_append_left _ he)), List.filter_congr (fun e he => hc e (List.mem_append_right _ he))]
theorem evE_min {es : List Ent} (hs : (keysE es).Pairwise ltK) {i : Nat} (h : MinAt es i) (n : Nat) : evE (n + 1) es = evE n (es.eraseIdx i) := by
  obtain ⟨hi, h1, h2⟩ := h
  have hsp : es = es.take i ++ es[i] :: es.drop (i + 1) := by rw [List.getElem_cons_drop, List.take_append_drop]
  have her : es.eraseIdx i = es.take i ++ es.drop (i + 1) := List.eraseIdx_eq_take_drop_succ ..
  obtain ⟨m, hm⟩ : ∃ m, m = es[i] := ⟨_, rfl⟩
  rw [← hm] at hsp
  have hA : ∀ e ∈ es.take i, m.t < e.t := fun e he => by
    obtain ⟨j, hj, rfl⟩ := List.getElem_of_mem he
    rw [List.getElem_take, hm]
    rw [List.length_take] at hj
    exact h2 j (by omega) (by omega)
  have hB : ∀ e ∈ es.drop (i + 1), m.t ≤ e.t := fun e he => by
    obtain ⟨j, hj, rfl⟩ := List.getElem_of_mem he
    rw [List.getElem_drop, hm]
    rw [List.length_drop] at hj
    exact h1 _ (by omega)
  have hK : ∀ e ∈ es.drop (i + 1), ltK m.key e.key := fun e he => by
    have h3 := hs
    unfold keysE at h3
    rw [hsp, List.map_append, List.map_cons, List.pairwise_append] at h3
    exact (List.pairwise_cons.1 h3.2.1).1 _ (List.mem_map_of_mem he)
  have h0 : rankE (es.take i ++ m :: es.drop (i + 1)) m = 0 := by
    unfold rankE
    rw [List.length_eq_zero_iff, List.filter_eq_nil_iff]
    intro e he
    simp only [decide_eq_true_eq]
    rintro (h4 | ⟨h4, h5⟩)
    · rcases List.mem_append.1 he with he | he
      · have := hA e he; omega
      · rcases List.mem_cons.1 he with rfl | he
        · omega
        · have := hB e he; omega
    · rcases List.mem_append.1 he with he | he
      · have := hA e he; omega
      · rcases List.mem_cons.1 he with rfl | he
        · exact ltK_irrefl _ h5
        · exact ltK_irrefl _ (ltK_trans h5 (hK e he))
  rw [her]
  conv => lhs; rw [hsp]
  refine evE_split n h0 (fun e he => ?_)
  rcases List.mem_append.1 he with he | he
  · exact .inl (hA e he)
  · have h6 := hB e he
    by_cases h7 : m.t = e.t
    · exact .inr ⟨h7, hK e he⟩
    · exact .inl (by omega)
theorem erase_sorted {es : List Ent} (hs : (keysE es).Pairwise ltK) (i : Nat) : (keysE (es.eraseIdx i)).Pairwise ltK := hs.sublist ((List.eraseIdx_sublist ..).map _)
end Go.Proofs.Ytfejidihocoboaa

/- N33 -/
namespace Go.Proofs.Ytfejidihocoboaa
open Go Go.RowKit
def OldI (L1 : List EV) (q i : Nat) : Prop := ∃ hq : q < L1.length, (∀ j (hj : j < L1.length), j < i → L1[q].1.t ≤ L1[j].1.t) ∧ ∀ j (hj : j < L1.length), j < q → L1[q].1.t < L1[j].1.t
theorem OldI.start {L1 : List EV} (h : 0 < L1.length) : OldI L1 0 1 := by
  refine ⟨h, fun j hj h1 => ?_, fun j hj h1 => absurd h1 (Nat.not_lt_zero _)⟩
  obtain rfl : j = 0 := by omega
  exact Int.le_refl _
theorem OldI.keep {L1 : List EV} {q i : Nat} (h : OldI L1 q i) (hi : i < L1.length) (hc : ¬ L1[i].1.t < (L1[q]'h.1).1.t) : OldI L1 q (i + 1) :=
  ⟨h.1, fun j hj h1 => by
    by_cases e : j = i
    · subst e; omega
    · exact h.2.1 j hj (by omega), h.2.2⟩
theorem OldI.next {L1 : List EV} {q i : Nat} (h : OldI L1 q i) (hi : i < L1.length) (hqi : q < i) (hc : L1[i].1.t < (L1[q]'h.1).1.t) : OldI L1 i (i + 1) :=
  ⟨hi, fun j hj h1 => by
    by_cases e : j = i
    · subst e; omega
    · have := h.2.1 j hj (by omega); omega, fun j hj h1 => by have := h.2.1 j hj (by omega); omega⟩
theorem OldI.min {L1 : List EV} {q : Nat} (h : OldI L1 q L1.length) : MinAt (L1.map Prod.fst) q := by
  obtain ⟨hq, h1, h2⟩ := h
  refine ⟨by simpa using hq, fun j hj => ?_, fun j hj hjq => ?_⟩
  · have := h1 j (by simpa using hj) (by simpa using hj); simpa using this
  · have := h2 j (by simpa using hj) hjq; simpa using this
set_option maxRecDepth 100000 in
set_option maxHeartbeats 4000000 in
theorem revict_any (z : Int) {M : Nat → Prop} {W : World} {D : Nat} {cap clk : Int} {v : Value} {LL : List EV} (h : RTab M W D cap clk v LL) (hs : (keysE (LL.map Prod.fst)).Pairwise ltK) (hl : LL.length ≤ 1000) (hM : ∀ b, M b → b < W.heap.size) :
    Calls Try.prog 30 #[ptrV D, .int .i64 z] W (RPost M D cap (ROwnT D v) (.returned (.int .i64 ((LL.length : Int) - ((evE z.toNat (LL.map Prod.fst)).length : Int)))) clk (evE z.toNat (LL.map Prod.fst)) W) := by
  have HMM := Lib.hid hM
  obtain ⟨ES, hES⟩ : ∃ ES, ES = evE z.toNat (LL.map Prod.fst) := ⟨_, rfl⟩
  rw [← hES]
  have H0 := Lib.hid h
  have HS0 := Lib.hid hs
  have HES := Lib.hid hES
  obtain ⟨N, hN⟩ : ∃ N, N = LL.length := ⟨_, rfl⟩
  rw [← hN] at hl ⊢
  have HN := Lib.hid hN
  clear h hs hES hN hM
  have hptr : ptrV D = .pointer (some ⟨D, 0, none⟩) := rfl
  rw [hptr]
  go_enter Try.func30, Try.ntmps30
  go_wp2_with fail
  go_loopw [5, 6, 7] (fun s5 s6 s7 wr => ∃ (k : Nat) (v1 : Value) (L1 : List EV), s5 = .int .i64 k ∧ k + L1.length = N ∧ k ≤ z.toNat ∧ Hid (evE (z.toNat - k) (L1.map Prod.fst) = ES) ∧ Hid ((keysE (L1.map Prod.fst)).Pairwise ltK) ∧ Hid (RTab M wr D cap clk v1 L1) ∧ Hid (Ext (ROwnT D v) W wr) ∧ Hid (∀ b, ROwnT D v1 b → ROwnT D v b ∨ W.heap.size ≤ b)) (fun s5 _ _ _ => N - (intOf s5).toNat)
  case atStart => exact ⟨0, v, LL, rfl, by have := HN.out; omega, Nat.zero_le _, Lib.hid (by rw [HES.out]; rfl), HS0, H0, Lib.hid (Ext.refl _ _), Lib.hid (fun b hb => .inl hb)⟩
  case round =>
    obtain ⟨k, v1, L1, rfl, hkN, hkz, hEv, hSo, hP, hX, hO⟩ := hrel
    rename World => wr
    have HB := Lib.hid hP.out.box
    obtain ⟨a1, c1, hv1⟩ := hP.out.list.slice
    obtain ⟨m, hm⟩ : ∃ m, m = L1.length := ⟨_, rfl⟩
    rw [← hm] at hv1 hkN
    subst hv1
    have HMN := Lib.hid hm
    clear hm
    have cD := cellOf HB.out
    by_cases hlt : (k : Int) < z
    · have hlz : (decide ((k : Int) < z)) = true := decide_eq_true hlt
      have HKK : Hid (Value.int .i64 ((k : Int) + 1) = .int .i64 ((k + 1 : Nat) : Int)) := Lib.hid (by rw [show ((k + 1 : Nat) : Int) = (k : Int) + 1 from by omega])
      by_cases hm0 : 0 < m
      · have hm1 : 0 < (m : Int) := by omega
        obtain ⟨g, c, hsl, -, -⟩ := hP.out.ents.shape (by have := HMN.out; omega)
        rw [← HMN.out] at hsl
        simp only [Value.slice.injEq, true_and] at hsl
        obtain ⟨rfl, rfl⟩ := hsl
        have HST := Lib.hid (OldI.start (show 0 < L1.length from by have := HMN.out; omega))
        go_wp2_with fail
        clear cD
        go_loopw [6, 7] (fun s6 s7 wx => ∃ (q i : Nat), s6 = .int .i64 q ∧ s7 = .int .i64 i ∧ q < i ∧ i ≤ m ∧ Hid (OldI L1 q i) ∧ Hid (Ext No wr wx)) (fun _ s7 _ => m - (intOf s7).toNat)
        case atStart => exact ⟨0, 1, rfl, rfl, by omega, hm0, HST, Lib.hid (Ext.refl _ _)⟩
        case round =>
          obtain ⟨q, i, rfl, rfl, hqi, him, hOI, hx⟩ := hrel
          rename World => wx
          have cD := cellOf (hx.out.blk HB.out no_no)
          by_cases hil : i < m
          · have hiz : (i : Int) < (m : Int) := by omega
            have hiz0 : 0 ≤ (i : Int) := by omega
            have hqz : (q : Int) < (m : Int) := by omega
            have hqz0 : 0 ≤ (q : Int) := by omega
            have HII : Hid (Value.int .i64 ((i : Int) + 1) = .int .i64 ((i + 1 : Nat) : Int)) := Lib.hid (by rw [show ((i + 1 : Nat) : Int) = (i : Int) + 1 from by omega])
            have HIL := Lib.hid (show i < L1.length from by have := HMN.out; omega)
            have HQL := Lib.hid (show q < L1.length from by have := HMN.out; omega)
            have d1 := hx.out.keep (KOwnE.tick (by have h9 := hP.out.ents; rw [HMN.out] at h9; exact h9) HIL.out)
            have d2 := hx.out.keep (KOwnE.tick (by have h9 := hP.out.ents; rw [HMN.out] at h9; exact h9) HQL.out)
            obtain ⟨t1, ht1⟩ : ∃ t1, t1 = (L1[i]'HIL.out).1.t := ⟨_, rfl⟩
            obtain ⟨t2, ht2⟩ : ∃ t2, t2 = (L1[q]'HQL.out).1.t := ⟨_, rfl⟩
            rw [← ht1] at d1
            rw [← ht2] at d2
            have HT1 := Lib.hid ht1
            have HT2 := Lib.hid ht2
            clear ht1 ht2
            by_cases hc : t1 < t2
            · go_wp2_with fail
              go_quiet (fail)
              go_wp2_with fail
              go_roundw
              case rel => exact ⟨i, i + 1, rfl, HII.out, by omega, hil, Lib.hid (hOI.out.next HIL.out hqi (by rw [← HT1.out, ← HT2.out]; exact hc)), Lib.hid (hx.out.drewN _)⟩
              case measure => simp [intOf]; omega
            · go_wp2_with fail
              go_quiet (fail)
              go_wp2_with fail
              go_roundw
              case rel => exact ⟨q, i + 1, rfl, HII.out, by omega, hil, Lib.hid (hOI.out.keep HIL.out (by rw [← HT1.out, ← HT2.out]; omega)), Lib.hid (hx.out.drewN _)⟩
              case measure => simp [intOf]; omega
          · have hge : ¬ (i : Int) < (m : Int) := by omega
            obtain rfl : i = m := by omega
            have HMI := Lib.hid (show MinAt (L1.map Prod.fst) q from OldI.min (by rw [← HMN.out]; exact hOI.out))
            go_wp2_with fail
            refine (rremove_any q (hP.out.stepNo hx.out) (by have := HMN.out; omega) (by have := HMN.out; omega) (fun b hb => Nat.lt_of_lt_of_le (HMM.out b hb) (Nat.le_trans hX.out.size hx.out.size))).mono ?_
            rintro e2 w2 ⟨v2, L2, rfl, hP2, hL2, hX2, hO2⟩
            have HE2 := Lib.hid (evE_min hSo.out HMI.out (z.toNat - (k + 1)))
            have HLN := Lib.hid (show L2.length + 1 = i from by
              have h1 := congrArg List.length hL2.out
              have h2 := HMI.out.1
              rw [List.length_eraseIdx, if_pos h2] at h1
              simp only [List.length_map] at h1 h2
              have := HMN.out
              omega)
            go_wp2_with fail
            go_roundw
            case rel => exact ⟨k + 1, v2, L2, HKK.out, by have := HLN.out; omega, by omega, Lib.hid (by rw [hL2.out, ← HE2.out, show z.toNat - (k + 1) + 1 = z.toNat - k from by omega]; exact hEv.out), Lib.hid (by rw [hL2.out]; exact erase_sorted hSo.out q), hP2, Lib.hid ((hX.out.trans2 hx.out (fun _ _ e => e.elim)).trans2 hX2 (fun b hb e => (hO.out b e).elim id (fun e => by omega))), Lib.hid (fun b hb => (hO2.out b hb).elim (fun e => hO.out b e) (fun e => .inr (Nat.le_trans (Nat.le_trans hX.out.size hx.out.size) e)))⟩
            case measure => simp [intOf]; omega
      · obtain rfl : m = 0 := by omega
        have HL1 := Lib.hid (show L1 = [] from List.length_eq_zero_iff.1 HMN.out.symm)
        go_wp2_with fail
        go_ret
        have he : ES = [] := by rw [← hEv.out, HL1.out]; rfl
        have eR : (N : Int) - ((ES.length : Nat) : Int) = (k : Int) := by rw [he]; simp; omega
        refine ⟨_, L1, by rw [eR]; rfl, hP, Lib.hid (by rw [he, HL1.out]; rfl), hX.out, hO⟩
    · have hlz : (decide ((k : Int) < z)) = false := decide_eq_false hlt
      go_wp2_with fail
      go_ret
      have he : L1.map Prod.fst = ES := by rw [← hEv.out, show z.toNat - k = 0 from by omega, evE_zero]
      have eR : (N : Int) - ((ES.length : Nat) : Int) = (k : Int) := by rw [← he, List.length_map, ← HMN.out]; omega
      refine ⟨_, L1, by rw [eR]; rfl, hP, Lib.hid he, hX.out, hO⟩
end Go.Proofs.Ytfejidihocoboaa

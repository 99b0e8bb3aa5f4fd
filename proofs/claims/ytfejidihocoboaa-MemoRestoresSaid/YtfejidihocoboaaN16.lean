/- Merged: N15 N16 -/
import Derived.Test.YtfejidihocoboaaN14
set_option linter.unusedVariables false
set_option linter.unusedSimpArgs false
/- N15 -/
namespace Go.Proofs.Ytfejidihocoboaa
open Go Go.RowKit
open Go.Maps (Keyed)
instance decLtK (x y : Key3) : Decidable (ltK x y) := by unfold ltK; infer_instance
instance decOrdF (f : Key3 → Int) (x y : Key3) : Decidable (ordF f x y) := by unfold ordF; infer_instance
theorem ordF_irrefl (f : Key3 → Int) (x : Key3) : ¬ ordF f x x := by
  unfold ordF
  rintro (h | ⟨_, h⟩)
  · omega
  · exact ltK_irrefl x h
theorem ordF_asymm {f : Key3 → Int} {x y : Key3} (h : ordF f x y) : ¬ ordF f y x := fun h' => ordF_irrefl f x (ordF_trans h h')
def rankK (f : Key3 → Int) (K : List Key3) (x : Key3) : Nat := (K.filter (fun y => decide (ordF f y x))).length
theorem filter_take {f : Key3 → Int} : ∀ {R : List Key3} {i : Nat} (h : i < R.length), R.Pairwise (ordF f) → R.filter (fun y => decide (ordF f y R[i])) = R.take i
  | a :: R, 0, h, hp => by
    rw [List.take_zero, List.filter_eq_nil_iff]
    intro b hb
    simp only [List.getElem_cons_zero, decide_eq_true_eq]
    rcases List.mem_cons.1 hb with rfl | hb
    · exact ordF_irrefl f _
    · exact ordF_asymm ((List.pairwise_cons.1 hp).1 b hb)
  | a :: R, i + 1, h, hp => by
    have hi : i < R.length := by simpa using h
    have h1 := (List.pairwise_cons.1 hp).1 _ (List.getElem_mem hi)
    rw [List.take_succ_cons, List.filter_cons]
    simp only [List.getElem_cons_succ, h1, decide_true, if_true]
    rw [filter_take hi (List.pairwise_cons.1 hp).2]
theorem rank_at {f : Key3 → Int} {K R : List Key3} (hp : R.Perm K) (ho : R.Pairwise (ordF f)) {i : Nat} (hi : i < R.length) : rankK f K R[i] = i := by
  unfold rankK
  rw [← (hp.filter _).length_eq, filter_take hi ho, List.length_take]
  omega
theorem take_rank {f : Key3 → Int} {K R : List Key3} (hp : R.Perm K) (ho : R.Pairwise (ordF f)) {x : Key3} (hx : x ∈ K) (q : Nat) : x ∈ R.take q ↔ rankK f K x < q := by
  obtain ⟨i, hi, rfl⟩ := List.getElem_of_mem (hp.mem_iff.2 hx)
  rw [rank_at hp ho hi]
  constructor
  · intro h
    obtain ⟨j, hj, e⟩ := List.getElem_of_mem h
    rw [List.getElem_take] at e
    rw [List.length_take] at hj
    have h1 := rank_at hp ho (i := j) (by omega)
    have h2 := rank_at hp ho hi
    rw [e] at h1
    omega
  · intro h
    exact List.mem_iff_getElem.2 ⟨i, by rw [List.length_take]; omega, by rw [List.getElem_take]⟩
def rankE (es : List Ent) (e : Ent) : Nat := (es.filter (fun q => decide (q.t < e.t ∨ (q.t = e.t ∧ ltK q.key e.key)))).length
/-- the n oldest are gone -/
def evE (n : Nat) (es : List Ent) : List Ent := es.filter (fun e => decide (n ≤ rankE es e))
def tickE (es : List Ent) (x : Key3) : Int := match es.find? (fun e => decide (e.key = x)) with | some e => e.t | none => 0
theorem tickE_of {es : List Ent} (hn : (keysE es).Nodup) {e : Ent} (he : e ∈ es) : tickE es e.key = e.t := by
  unfold tickE
  cases h : es.find? (fun q => decide (q.key = e.key)) with
  | none => exact absurd (List.find?_eq_none.1 h e he) (by simp)
  | some e' =>
    have h1 := List.find?_some h
    have h2 := List.mem_of_find?_eq_some h
    rw [nodup_inj hn h2 he (of_decide_eq_true h1)]
theorem rankE_key {es : List Ent} (hn : (keysE es).Nodup) {e : Ent} (he : e ∈ es) : rankK (tickE es) (keysE es) e.key = rankE es e := by
  unfold rankK rankE keysE
  rw [List.filter_map, List.length_map]
  congr 1
  refine List.filter_congr (fun q hq => ?_)
  have e1 : ordF (tickE es) q.key e.key ↔ (q.t < e.t ∨ (q.t = e.t ∧ ltK q.key e.key)) := by
    unfold ordF
    rw [tickE_of hn hq, tickE_of hn he]
  simp only [Function.comp]
  exact decide_eq_decide.2 e1
end Go.Proofs.Ytfejidihocoboaa

/- N16 -/
namespace Go.Proofs.Ytfejidihocoboaa
open Go Go.RowKit
open Go.Maps (Keyed)
theorem isort_zero (sl c1 : Value) (W : World) : Calls Try.prog 77 #[sl, .int .i64 0, .int .i64 0, .func (.func 39) #[] #[c1]] W (fun e w' => e = .returned (.tuple #[]) ∧ w' = W) := by
  go_enter Try.func77, Try.ntmps77
  go_wp2_with fail
  go_loopw [8] (fun s8 wr => s8 = .int .i64 1 ∧ Hid (wr = W)) (fun _ _ => 0)
  case atStart => exact ⟨rfl, Lib.hid rfl⟩
  case round =>
    obtain ⟨rfl, hw⟩ := hrel
    rename World => wr
    go_wp2_with fail
    refine bodyPost_end (results_none rfl _ _ _) rfl ?_
    exact ⟨rfl, hw.out⟩
def StabPost (f : Key3 → Int) (v : Value) (K : List Key3) (W : World) (e : Ending) (w' : World) : Prop :=
  e = .returned (.tuple #[]) ∧ ∃ R, Hid (LOwn kK No w' 0 v R) ∧ Hid (R.Perm K) ∧ Hid (R.Pairwise (ordF f)) ∧ Ext (fun b => v.ownBlock = some b) W w'
theorem isort_all (f : Key3 → Int) (K : List Key3) (c1 v : Value) (Ok : World → Prop) (W : World) (hC : CmpFn f K c1 Ok) (hOk : ∀ w w', Ok w → Ext (fun b => v.ownBlock = some b) w w' → Ok w') (hO : Ok W) (h : LOwn kK No W 0 v K) (hK : K.Pairwise ltK) (hn : K.length ≤ 19) :
    Calls Try.prog 77 #[v, .int .i64 0, .int .i64 (K.length : Int), .func (.func 39) #[] #[c1]] W (StabPost f v K W) := by
  by_cases h0 : K.length = 0
  · rw [h0]
    refine (isort_zero v c1 W).mono ?_
    rintro e w' ⟨rfl, rfl⟩
    have hK0 := List.eq_nil_of_length_eq_zero h0
    exact ⟨rfl, K, Lib.hid h, Lib.hid (List.Perm.refl _), Lib.hid (by rw [hK0]; exact List.Pairwise.nil), Ext.refl _ _⟩
  · obtain ⟨g, c, rfl, -, -⟩ := h.shape h0
    refine (isort_any f K c1 Ok g c W hC (fun w w' ho hx => hOk w w' ho (hx.mono (fun i _ e => by rw [show i = g from e]; rfl))) hO h hK (by omega) (by omega)).mono ?_
    rintro e w' ⟨rfl, R, h1, h2, h3, h4⟩
    exact ⟨rfl, R, h1, h2, h3, h4.mono (fun i _ e => by rw [show i = g from e]; rfl)⟩
set_option maxRecDepth 100000 in
set_option maxHeartbeats 2000000 in
theorem stable_any (f : Key3 → Int) (K : List Key3) (c1 v : Value) (Ok : World → Prop) (W : World) (hC : CmpFn f K c1 Ok) (hOk : ∀ w w', Ok w → Ext (fun b => v.ownBlock = some b) w w' → Ok w') (hO : Ok W) (h : LOwn kK No W 0 v K) (hK : K.Pairwise ltK) (hn : K.length ≤ 19) :
    Calls Try.prog 65 #[v, .int .i64 (K.length : Int), .func (.func 39) #[] #[c1]] W (StabPost f v K W) := by
  have HA := fun W' (hw : W' = W) => isort_all f K c1 v Ok W' hC hOk (hw ▸ hO) (hw ▸ h) hK hn
  have HAA := Lib.hid HA
  obtain ⟨a, c, hv⟩ := h.slice
  obtain ⟨N, hN⟩ : ∃ N, N = K.length := ⟨_, rfl⟩
  rw [← hN] at HAA hn ⊢
  have hnz : ¬ (20 : Int) ≤ (N : Int) := by omega
  have hnz2 : ¬ (20 : Int) < (N : Int) := by omega
  clear HA hC hOk hO h hK hN hv
  go_enter Try.func65, Try.ntmps65
  go_wp2_with fail
  go_loopw [7, 8] (fun s7 s8 wr => s7 = .int .i64 0 ∧ s8 = .int .i64 20 ∧ Hid (wr = W)) (fun _ _ _ => 0)
  case atStart => exact ⟨rfl, rfl, Lib.hid rfl⟩
  case round =>
    obtain ⟨rfl, rfl, hw⟩ := hrel
    rename World => wr
    go_wp2_with fail
    refine (HAA.out wr hw.out).mono ?_
    rintro e1 w1 ⟨rfl, R, h1, h2, h3, h4⟩
    go_wp2_with fail
    go_loopw [6, 7, 8, 9] (fun s6 s7 s8 s9 wz => s6 = .int .i64 20 ∧ Hid (wz = w1)) (fun _ _ _ _ _ => 0)
    case atStart => exact ⟨rfl, Lib.hid rfl⟩
    case round =>
      obtain ⟨rfl, hz⟩ := hrel
      rename World => wz
      go_wp2_with fail
      refine bodyPost_end (results_none rfl _ _ _) rfl ?_
      rw [hz.out]
      exact ⟨rfl, R, h1, h2, h3, hw.out ▸ h4⟩
theorem sortS_any (f : Key3 → Int) (K : List Key3) (c1 v : Value) (Ok : World → Prop) (W : World) (hC : CmpFn f K c1 Ok) (hOk : ∀ w w', Ok w → Ext (fun b => v.ownBlock = some b) w w' → Ok w') (hO : Ok W) (h : LOwn kK No W 0 v K) (hK : K.Pairwise ltK) (hn : K.length ≤ 19) :
    Calls Try.prog 38 #[v, .func (.func 39) #[] #[c1]] W (StabPost f v K W) := by
  have HA := Lib.hid (stable_any f K c1 v Ok W hC hOk hO h hK hn)
  obtain ⟨a, c, rfl⟩ := h.slice
  clear hC hOk hO h hK hn
  go_enter Try.func38, Try.ntmps38
  go_wp2_with fail
  refine HA.out.mono ?_
  rintro e1 w1 ⟨rfl, h1⟩
  go_wp2_with fail
  refine bodyPost_end (results_none rfl _ _ _) rfl ?_
  exact ⟨rfl, h1⟩
end Go.Proofs.Ytfejidihocoboaa

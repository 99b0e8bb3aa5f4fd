/- SortStableFunc of keys. -/
import Derived.Test.YtfejidihocoboaaN15
set_option linter.unusedVariables false
set_option linter.unusedSimpArgs false
namespace Go.Proofs.Ytfejidihocoboaa
open Go Go.RowKit
open Go.Maps (Keyed)
theorem isort_zero (sl c1 : Value) (W : World) : Calls Try.prog 77 #[sl, .int .i64 0, .int .i64 0, .func (.func 39) #[] #[c1]] W (fun e w' => e = .returned (.tuple #[]) ∧ w' = W) := by
  go_enter Try.func77, Try.ntmps77
  go_wp2_with fail
  go_loopw [8] (fun s8 wr => s8 = .int .i64 1 ∧ Hid (wr = W)) (fun _ _ => 0)
  case atStart => exact ⟨rfl, Lib.hid rfl⟩
  case round =>
    obtain ⟨rfl, hw⟩ := hrel
    rename World => wr
    go_wp2_with fail
    refine bodyPost_end (results_none rfl _ _ _) rfl ?_
    exact ⟨rfl, hw.out⟩
def StabPost (f : Key3 → Int) (v : Value) (K : List Key3) (W : World) (e : Ending) (w' : World) : Prop :=
  e = .returned (.tuple #[]) ∧ ∃ R, Hid (LOwn kK No w' 0 v R) ∧ Hid (R.Perm K) ∧ Hid (R.Pairwise (ordF f)) ∧ Ext (fun b => v.ownBlock = some b) W w'
theorem isort_all (f : Key3 → Int) (K : List Key3) (c1 v : Value) (Ok : World → Prop) (W : World) (hC : CmpFn f K c1 Ok) (hOk : ∀ w w', Ok w → Ext (fun b => v.ownBlock = some b) w w' → Ok w') (hO : Ok W) (h : LOwn kK No W 0 v K) (hK : K.Pairwise ltK) (hn : K.length ≤ 19) :
    Calls Try.prog 77 #[v, .int .i64 0, .int .i64 (K.length : Int), .func (.func 39) #[] #[c1]] W (StabPost f v K W) := by
  by_cases h0 : K.length = 0
  · rw [h0]
    refine (isort_zero v c1 W).mono ?_
    rintro e w' ⟨rfl, rfl⟩
    have hK0 := List.eq_nil_of_length_eq_zero h0
    exact ⟨rfl, K, Lib.hid h, Lib.hid (List.Perm.refl _), Lib.hid (by rw [hK0]; exact List.Pairwise.nil), Ext.refl _ _⟩
  · obtain ⟨g, c, rfl, -, -⟩ := h.shape h0
    refine (isort_any f K c1 Ok g c W hC (fun w w' ho hx => hOk w w' ho (hx.mono (fun i _ e => by rw [show i = g from e]; rfl))) hO h hK (by omega) (by omega)).mono ?_
    rintro e w' ⟨rfl, R, h1, h2, h3, h4⟩
    exact ⟨rfl, R, h1, h2, h3, h4.mono (fun i _ e => by rw [show i = g from e]; rfl)⟩
set_option maxRecDepth 100000 in
set_option maxHeartbeats 2000000 in
theorem stable_any (f : Key3 → Int) (K : List Key3) (c1 v : Value) (Ok : World → Prop) (W : World) (hC : CmpFn f K c1 Ok) (hOk : ∀ w w', Ok w → Ext (fun b => v.ownBlock = some b) w w' → Ok w') (hO : Ok W) (h : LOwn kK No W 0 v K) (hK : K.Pairwise ltK) (hn : K.length ≤ 19) :
    Calls Try.prog 65 #[v, .int .i64 (K.length : Int), .func (.func 39) #[] #[c1]] W (StabPost f v K W) := by
  have HA := fun W' (hw : W' = W) => isort_all f K c1 v Ok W' hC hOk (hw ▸ hO) (hw ▸ h) hK hn
  have HAA := Lib.hid HA
  obtain ⟨a, c, hv⟩ := h.slice
  obtain ⟨N, hN⟩ : ∃ N, N = K.length := ⟨_, rfl⟩
  rw [← hN] at HAA hn ⊢
  have hnz : ¬ (20 : Int) ≤ (N : Int) := by omega
  have hnz2 : ¬ (20 : Int) < (N : Int) := by omega
  clear HA hC hOk hO h hK hN hv
  go_enter Try.func65, Try.ntmps65
  go_wp2_with fail
  go_loopw [7, 8] (fun s7 s8 wr => s7 = .int .i64 0 ∧ s8 = .int .i64 20 ∧ Hid (wr = W)) (fun _ _ _ => 0)
  case atStart => exact ⟨rfl, rfl, Lib.hid rfl⟩
  case round =>
    obtain ⟨rfl, rfl, hw⟩ := hrel
    rename World => wr
    go_wp2_with fail
    refine (HAA.out wr hw.out).mono ?_
    rintro e1 w1 ⟨rfl, R, h1, h2, h3, h4⟩
    go_wp2_with fail
    go_loopw [6, 7, 8, 9] (fun s6 s7 s8 s9 wz => s6 = .int .i64 20 ∧ Hid (wz = w1)) (fun _ _ _ _ _ => 0)
    case atStart => exact ⟨rfl, Lib.hid rfl⟩
    case round =>
      obtain ⟨rfl, hz⟩ := hrel
      rename World => wz
      go_wp2_with fail
      refine bodyPost_end (results_none rfl _ _ _) rfl ?_
      rw [hz.out]
      exact ⟨rfl, R, h1, h2, h3, hw.out ▸ h4⟩
theorem sortS_any (f : Key3 → Int) (K : List Key3) (c1 v : Value) (Ok : World → Prop) (W : World) (hC : CmpFn f K c1 Ok) (hOk : ∀ w w', Ok w → Ext (fun b => v.ownBlock = some b) w w' → Ok w') (hO : Ok W) (h : LOwn kK No W 0 v K) (hK : K.Pairwise ltK) (hn : K.length ≤ 19) :
    Calls Try.prog 38 #[v, .func (.func 39) #[] #[c1]] W (StabPost f v K W) := by
  have HA := Lib.hid (stable_any f K c1 v Ok W hC hOk hO h hK hn)
  obtain ⟨a, c, rfl⟩ := h.slice
  clear hC hOk hO h hK hn
  go_enter Try.func38, Try.ntmps38
  go_wp2_with fail
  refine HA.out.mono ?_
  rintro e1 w1 ⟨rfl, h1⟩
  go_wp2_with fail
  refine bodyPost_end (results_none rfl _ _ _) rfl ?_
  exact ⟨rfl, h1⟩
end Go.Proofs.Ytfejidihocoboaa

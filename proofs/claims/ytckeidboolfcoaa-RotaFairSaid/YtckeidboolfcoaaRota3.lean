/- rota: Add. -/
import Derived.Test.YtckeidboolfcoaaRota1b
import Derived.Test.YtckeidboolfcoaaRota2
import Derived.Deep.QuietTactic
import Derived.BigQuiet
namespace Go.Proofs.Ytckeidboolfcoaa
open Go Go.RowKit

def ring0 : Ring := ⟨0, 0, [], 0, false⟩
def addAt (r : Ring) : Nat := if 0 < r.cur ∨ r.opn = true then r.cur.toNat else r.seats.length
def added (r : Ring) (id p : Int) : Ring :=
  { r with seats := r.seats.take (addAt r) ++ [⟨id, p, 0, 0⟩] ++ r.seats.drop (addAt r), cur := if 0 < r.cur ∨ r.opn = true then r.cur + 1 else r.cur }
def ringAdd (r : Ring) (id p : Int) : Ring × Int :=
  if ringOk r = false then (ring0, 1) else if (betB id 0 1073741824 && betB p 0 3) = false then (ring0, 3)
  else if 0 ≤ findZ r.seats id then (ring0, 6) else if r.seats.length = 16 then (ring0, 7) else (added r id p, 0)
def AddPost (M : Nat → Prop) (r : Ring) (id p : Int) (w : World) (e : Ending) (w' : World) : Prop :=
  ∃ v, e = .returned (.tuple #[v, .int .i64 (ringAdd r id p).2]) ∧ RingV M w' v (ringAdd r id p).1 ∧ Ext No w w'

theorem RingV.toNo {M : Nat → Prop} {w : World} {v : Value} {r : Ring} (h : RingV M w v r) : RingV No w v r := by
  obtain ⟨sl, h1, h2⟩ := h; exact ⟨sl, h1, Row.mono h2 (fun _ _ x => x.elim)⟩
theorem ring0_v (M : Nat → Prop) (w : World) : RingV M w (.agg #[.int .i64 0, .int .i64 0, .slice none 0 0, .int .i64 0, .bool false]) ring0 := ⟨_, rfl, Row.nil _ _ _ _ _ (by omega)⟩
theorem ok_len {r : Ring} (h : ringOk r = true) : r.seats.length ≤ 16 ∧ 0 ≤ r.cur ∧ (r.cur < r.seats.length ∨ (r.cur = 0 ∧ r.seats.length = 0 ∧ r.opn = false)) := by
  simp only [ringOk, Bool.and_eq_true] at h
  obtain ⟨_, _, h3, h4, h5⟩ := head_true h.1
  refine ⟨h3, h4, ?_⟩
  rcases h5 with ⟨_, _, h⟩ | ⟨h6, h7, h8⟩ | ⟨_, _, h⟩
  · exact .inl h
  · exact .inr ⟨by omega, h7, h6⟩
  · exact .inl h

theorem AddPost.mk {M : Nat → Prop} {r r' : Ring} {id p c : Int} {w w' : World} {e : Ending} {v : Value} (h : ringAdd r id p = (r', c)) (he : e = .returned (.tuple #[v, .int .i64 c])) (hv : RingV M w' v r') (hx : Ext No w w') : AddPost M r id p w e w' :=
  ⟨v, by rw [h]; exact he, by rw [h]; exact hv, hx⟩
theorem addE1 {r : Ring} {id p : Int} (h : ringOk r = false) : ringAdd r id p = (ring0, 1) := by unfold ringAdd; rw [if_pos h]
theorem addE3 {r : Ring} {id p : Int} (h : ringOk r = true) (h2 : (betB id 0 1073741824 && betB p 0 3) = false) : ringAdd r id p = (ring0, 3) := by unfold ringAdd; rw [if_neg (by simp [h]), if_pos h2]
theorem addE6 {r : Ring} {id p : Int} (h : ringOk r = true) (h2 : (betB id 0 1073741824 && betB p 0 3) = true) (h3 : 0 ≤ findZ r.seats id) : ringAdd r id p = (ring0, 6) := by unfold ringAdd; rw [if_neg (by simp [h]), if_neg (by simp [h2]), if_pos h3]
theorem addE7 {r : Ring} {id p : Int} (h : ringOk r = true) (h2 : (betB id 0 1073741824 && betB p 0 3) = true) (h3 : ¬ 0 ≤ findZ r.seats id) (h4 : r.seats.length = 16) : ringAdd r id p = (ring0, 7) := by unfold ringAdd; rw [if_neg (by simp [h]), if_neg (by simp [h2]), if_neg h3, if_pos h4]
theorem addE3a {r : Ring} {id p : Int} (h : ringOk r = true) (g1 : betB id 0 1073741824 = false) : ringAdd r id p = (ring0, 3) := addE3 h (by rw [g1]; rfl)
theorem addE3b {r : Ring} {id p : Int} (h : ringOk r = true) (g1 : betB id 0 1073741824 = true) (g2 : betB p 0 3 = false) : ringAdd r id p = (ring0, 3) := addE3 h (by rw [g1, g2]; rfl)
theorem addE6b {r : Ring} {id p : Int} (h : ringOk r = true) (g1 : betB id 0 1073741824 = true) (g2 : betB p 0 3 = true) (g3 : 0 ≤ findZ r.seats id) : ringAdd r id p = (ring0, 6) := addE6 h (by rw [g1, g2]; rfl) g3
theorem addE7b {r : Ring} {id p : Int} (h : ringOk r = true) (g1 : betB id 0 1073741824 = true) (g2 : betB p 0 3 = true) (g3 : findZ r.seats id < 0) (g4 : r.seats.length = 16) : ringAdd r id p = (ring0, 7) := addE7 h (by rw [g1, g2]; rfl) (by omega) g4
theorem addE0 {r : Ring} {id p : Int} (h : ringOk r = true) (h2 : (betB id 0 1073741824 && betB p 0 3) = true) (h3 : ¬ 0 ≤ findZ r.seats id) (h4 : r.seats.length ≠ 16) : ringAdd r id p = (added r id p, 0) := by unfold ringAdd; rw [if_neg (by simp [h]), if_neg (by simp [h2]), if_neg h3, if_neg h4]

set_option maxRecDepth 100000 in
set_option maxHeartbeats 2000000 in
theorem add_no (M : Nat → Prop) (v : Value) (r : Ring) (id p : Int) (w : World) (h : RingV M w v r)
    (hf : ringOk r = false ∨ (betB id 0 1073741824 && betB p 0 3) = false ∨ 0 ≤ findZ r.seats id ∨ r.seats.length = 16) :
    Calls Try.prog 19 #[v, .int .i64 id, .int .i64 p] w (AddPost M r id p w) := by
  have HV := Lib.hid h.toNo
  obtain ⟨sl, rfl, hs⟩ := h
  obtain ⟨a, cap, rfl⟩ := hs.slice
  have hlen := hs.2.1
  clear hs
  have H0 := Lib.hid (ring0_v M)
  obtain ⟨f1, k, hp⟩ : ∃ f1 : Bool, f1 = ringOk r ∧ (f1 = false ∨ (f1 = true ∧ (betB id 0 1073741824 = false ∨ (betB id 0 1073741824 = true ∧ betB p 0 3 = false) ∨ (betB id 0 1073741824 = true ∧ betB p 0 3 = true ∧ (0 ≤ findZ r.seats id ∨ (findZ r.seats id < 0 ∧ r.seats.length = 16)))))) := by
    refine ⟨_, rfl, ?_⟩
    cases h1 : ringOk r with
    | false => exact .inl rfl
    | true =>
      refine .inr ⟨rfl, ?_⟩
      cases h2 : betB id 0 1073741824 with
      | false => exact .inl rfl
      | true =>
        cases h3 : betB p 0 3 with
        | false => exact .inr (.inl ⟨rfl, rfl⟩)
        | true =>
          refine .inr (.inr ⟨rfl, rfl, ?_⟩)
          rw [h1, h2, h3] at hf
          rcases hf with h | h | h | h
          · exact absurd h (by simp)
          · exact absurd h (by simp)
          · exact .inl h
          · by_cases h4 : 0 ≤ findZ r.seats id
            · exact .inl h4
            · exact .inr ⟨by omega, h⟩
  clear hf
  rcases hp with hp | ⟨hp, g1 | ⟨g1, g2⟩ | ⟨g1, g2, g3 | ⟨g3, z4⟩⟩⟩
  all_goals
    have HK := Lib.hid (show ringOk r = _ from k.symm.trans hp)
    clear k hp
    first
    | have HA := Lib.hid (addE1 (id := id) (p := p) HK.out)
    | have HA := Lib.hid (addE3a (p := p) HK.out g1)
    | have HA := Lib.hid (addE3b HK.out g1 g2)
    | have HA := Lib.hid (addE6b HK.out g1 g2 g3)
    | have HA := Lib.hid (addE7b HK.out g1 g2 g3 z4)
    try (have g4 : ((r.seats.length : Int) == 16) = true := by simp [z4])
    try (have Z4 := Lib.hid z4; clear z4)
    go_enter Try.func19, Try.ntmps19
    go_wp2_with fail
    have hx0 : Ext No w ((w.alloc (.cells #[.int .i64 r.base, .int .i64 r.per, .slice a r.seats.length cap, .int .i64 r.cur, .bool r.opn] 25)).alloc (.cells #[.int .i64 0, .int .i64 0, .slice none 0 0, .int .i64 0, .bool false] 25)) := ((Ext.refl _ _).alloc _).alloc _
    refine (valid_any _ r _ (HV.out.extNo hx0)).mono ?_
    rintro e1 w1 ⟨rfl, hx1⟩
    rw [HK.out]
    have hB := hx1.blk (alloc_under (alloc_top (w := w) rfl)) (fun x => x.elim)
    have hC := hx1.blk (n := w.heap.size + 1) (alloc_top (by simp)) (fun x => x.elim)
    have hx := hx0.transNo hx1
    have cB := cellOf hB
    have cC := cellOf hC
    have fC := freeOf hC
    clear hx0 hx1
    go_wp2_with (first | (go_at_call 31; refine (between_any _ _ _ _).mono ?_; rintro e' w1 ⟨rfl, rfl⟩) | (go_at_call 32; refine (find_any _ r _ _ (HV.out.extNo hx)).mono ?_; rintro e2 w2 ⟨rfl, hx2⟩; replace hB := hx2.blk hB (fun x => x.elim); replace hC := hx2.blk hC (fun x => x.elim); replace hx := hx.transNo hx2; have cB := cellOf hB; have cC := cellOf hC; have fC := freeOf hC; clear hx2))
    refine ret_ex rfl ?_
    simp [results, Try.results19, go_sem, cC]
    refine AddPost.mk HA.out rfl (ring0_v M _) ?_
    repeat (first | (with_reducible assumption) | ((with_reducible refine Ext.own ?_ ?_ _); rotate_left; first | exact Nat.le_refl _ | exact Nat.le_succ _))

theorem added_hi {r : Ring} {id p : Int} (h : 0 < r.cur ∨ r.opn = true) : added r id p = ⟨r.base, r.per, r.seats.take r.cur.toNat ++ [⟨id, p, 0, 0⟩] ++ r.seats.drop r.cur.toNat, r.cur + 1, r.opn⟩ := by
  simp only [added, addAt, if_pos h]
theorem added_lo {r : Ring} {id p : Int} (h : ¬ (0 < r.cur ∨ r.opn = true)) : added r id p = ⟨r.base, r.per, r.seats ++ [⟨id, p, 0, 0⟩], r.cur, r.opn⟩ := by
  simp only [added, addAt, if_neg h]
  simp
theorem flatS_take (l : List Seat) (k : Nat) : flatS (l.take k) = (flatS l).take (k * 4) := by
  induction l generalizing k with
  | nil => simp [flatS]
  | cons a l ih =>
    cases k with
    | zero => simp [flatS]
    | succ k =>
      have : (k + 1) * 4 = 4 + k * 4 := by omega
      simp only [flatS, List.take_succ_cons, List.flatMap_cons] at ih ⊢
      have hl : (Seat.cells a).length = 4 := rfl
      rw [ih, this, List.take_append, hl, List.take_of_length_le (l := Seat.cells a) (by rw [hl]; omega), show 4 + k * 4 - 4 = k * 4 by omega]
theorem flatS_drop (l : List Seat) (k : Nat) : flatS (l.drop k) = (flatS l).drop (k * 4) := by
  induction l generalizing k with
  | nil => simp [flatS]
  | cons a l ih =>
    cases k with
    | zero => simp [flatS]
    | succ k =>
      have : (k + 1) * 4 = 4 + k * 4 := by omega
      simp only [flatS, List.drop_succ_cons, List.flatMap_cons] at ih ⊢
      have hl : (Seat.cells a).length = 4 := rfl
      rw [ih, this, List.drop_append, hl, (List.drop_eq_nil_of_le (by rw [hl]; omega) : List.drop (4 + k * 4) (Seat.cells a) = []), show 4 + k * 4 - 4 = k * 4 by omega, List.nil_append]
theorem flatS_app (a b : List Seat) : flatS (a ++ b) = flatS a ++ flatS b := by simp [flatS]
end Go.Proofs.Ytckeidboolfcoaa

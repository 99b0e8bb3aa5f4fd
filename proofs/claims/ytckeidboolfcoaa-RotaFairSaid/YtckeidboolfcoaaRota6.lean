/- The reference's comparisons of equal rings and of equal logs. -/
import Derived.Test.YtckeidboolfcoaaRota3
import Derived.Laws.StructEq
namespace Go.Proofs.Ytckeidboolfcoaa
open Go Go.RowKit

structure Turn where
  q : Int
  quant : Int
def Turn.cells (t : Turn) : List Value := [.int .i64 t.q, .int .i64 t.quant, .int .i64 0, .int .i64 0, .bool false]
def flatT (l : List Turn) : List Value := l.flatMap Turn.cells
/-- a log: what Pick hands back (steps, cost and finished are not set) -/
def Turns (M : Nat → Prop) (w : World) (sl : Value) (l : List Turn) : Prop := Row M w 5 sl l.length (flatT l)
theorem flatT_len (l : List Turn) : (flatT l).length = l.length * 5 := flat_len _ 5 (fun _ => rfl) l
theorem flatT_get (l : List Turn) (i j : Nat) (hi : i < l.length) (hj : j < 5) : (flatT l)[i * 5 + j]? = l[i].cells[j]? := by
  rw [Nat.mul_comm i 5]; exact flat_get _ 5 (fun _ => rfl) l i j hi hj
theorem Turns.lt {M : Nat → Prop} {w : World} {sl : Value} {l : List Turn} (h : Turns M w sl l) {i : Nat} (hi : i < l.length) : ∃ b off cap, sl = .slice (some ⟨b, off, none⟩) l.length cap ∧ b < w.heap.size ∧ ¬ M b ∧
    w.cell? ⟨b, off + i * 5, none⟩ = some (.int .i64 l[i].q) ∧ w.cell? ⟨b, off + i * 5 + 1, none⟩ = some (.int .i64 l[i].quant) ∧
    w.cell? ⟨b, off + i * 5 + 2, none⟩ = some (.int .i64 0) ∧ w.cell? ⟨b, off + i * 5 + 3, none⟩ = some (.int .i64 0) ∧ w.cell? ⟨b, off + i * 5 + 4, none⟩ = some (.bool false) := by
  obtain ⟨b, off, cap, h1, h2, h3, h4⟩ := Row.shape h (by omega)
  exact ⟨b, off, cap, h1, h2, h3, h4 (i * 5) _ (flatT_get l i 0 hi (by omega)), h4 (i * 5 + 1) _ (flatT_get l i 1 hi (by omega)), h4 (i * 5 + 2) _ (flatT_get l i 2 hi (by omega)), h4 (i * 5 + 3) _ (flatT_get l i 3 hi (by omega)), h4 (i * 5 + 4) _ (flatT_get l i 4 hi (by omega))⟩

set_option maxHeartbeats 1000000 in
theorem sameT_any (v1 v2 : Value) (l : List Turn) (w : World) (h1 : Turns No w v1 l) (h2 : Turns No w v2 l) :
    Calls Try.prog 30 #[v1, v2] w fun e w' => e = .returned (.bool true) ∧ Ext No w w' := by
  have H1 := Lib.hid h1
  have H2 := Lib.hid h2
  obtain ⟨a1, cap1, rfl⟩ := h1.slice
  obtain ⟨a2, cap2, rfl⟩ := h2.slice
  have hlen := h1.2.1
  clear h1 h2
  go_enter Try.func30, Try.ntmps30
  go_wp2
  go_loopw [5] (fun i wr => ∃ k : Nat, k ≤ l.length ∧ i = .int .i64 k ∧ Ext No w wr) (fun i _ => l.length - (intOf i).toNat)
  case atStart => exact ⟨0, Nat.zero_le _, rfl, Ext.refl _ _⟩
  case round =>
    obtain ⟨k, hk, rfl, hx⟩ := hrel
    by_cases hlt : k < l.length
    · obtain ⟨b, off, cap', hsl, hb1, _, q0, q1, q2, q3, q4⟩ := Turns.lt H1.out hlt
      simp only [Value.slice.injEq] at hsl
      obtain ⟨rfl, _, rfl⟩ := hsl
      obtain ⟨b', off', cap', hsl, hb1', _, p0, p1, p2, p3, p4⟩ := Turns.lt H2.out hlt
      simp only [Value.slice.injEq] at hsl
      obtain ⟨rfl, _, rfl⟩ := hsl
      replace q0 := hx.keep q0
      replace q1 := hx.keep q1
      replace q2 := hx.keep q2
      replace q3 := hx.keep q3
      replace q4 := hx.keep q4
      replace p0 := hx.keep p0
      replace p1 := hx.keep p1
      replace p2 := hx.keep p2
      replace p3 := hx.keep p3
      replace p4 := hx.keep p4
      have hlt' : (k : Int) < (l.length : Int) := by omega
      have hk0 : (0 : Int) ≤ (k : Int) := by omega
      go_wp2_with fail
      go_quiet (fail)
      go_wp2
      go_roundw
      case rel => exact ⟨k + 1, by omega, by go_num, hx.drewN _⟩
      case measure => simp [intOf]; omega
    · go_wp2
      go_ret
      exact ⟨rfl, hx⟩

set_option maxHeartbeats 1000000 in
theorem sameR_any (v1 v2 : Value) (r : Ring) (w : World) (h1 : RingV No w v1 r) (h2 : RingV No w v2 r) :
    Calls Try.prog 17 #[v1, v2] w fun e w' => e = .returned (.bool true) ∧ Ext No w w' := by
  obtain ⟨sl1, rfl, hs1⟩ := h1
  obtain ⟨sl2, rfl, hs2⟩ := h2
  have H1 := Lib.hid hs1
  have H2 := Lib.hid hs2
  obtain ⟨a1, cap1, rfl⟩ := hs1.slice
  obtain ⟨a2, cap2, rfl⟩ := hs2.slice
  have hlen := hs1.2.1
  clear hs1 hs2
  go_enter Try.func17, Try.ntmps17
  go_wp2
  go_loopw [5] (fun i wr => ∃ k : Nat, k ≤ r.seats.length ∧ i = .int .i64 k ∧ Ext No w wr ∧ wr.heap[w.heap.size]? = some (.cells #[.int .i64 r.base, .int .i64 r.per, .slice a1 r.seats.length cap1, .int .i64 r.cur, .bool r.opn] 25 (0, 0)) ∧ wr.heap[w.heap.size + 1]? = some (.cells #[.int .i64 r.base, .int .i64 r.per, .slice a2 r.seats.length cap2, .int .i64 r.cur, .bool r.opn] 25 (0, 0))) (fun i _ => r.seats.length - (intOf i).toNat)
  case atStart => exact ⟨0, Nat.zero_le _, rfl, ((Ext.refl _ _).alloc _).alloc _, alloc_under (alloc_top rfl), alloc_top (by simp)⟩
  case round =>
    obtain ⟨k, hk, rfl, hx, hB, hC⟩ := hrel
    have cB := cellOf hB
    have cC := cellOf hC
    by_cases hlt : k < r.seats.length
    · obtain ⟨b, off, cap', hsl, hb1, _, q0, q1, q2, q3⟩ := Seats.lt H1.out hlt
      simp only [Value.slice.injEq] at hsl
      obtain ⟨rfl, _, rfl⟩ := hsl
      obtain ⟨b', off', cap', hsl, hb1', _, p0, p1, p2, p3⟩ := Seats.lt H2.out hlt
      simp only [Value.slice.injEq] at hsl
      obtain ⟨rfl, _, rfl⟩ := hsl
      replace q0 := hx.keep q0
      replace q1 := hx.keep q1
      replace q2 := hx.keep q2
      replace q3 := hx.keep q3
      replace p0 := hx.keep p0
      replace p1 := hx.keep p1
      replace p2 := hx.keep p2
      replace p3 := hx.keep p3
      have hlt' : (k : Int) < (r.seats.length : Int) := by omega
      have hk0 : (0 : Int) ≤ (k : Int) := by omega
      go_wp2_with fail
      go_quiet (fail)
      go_wp2
      go_roundw
      case rel => exact ⟨k + 1, by omega, by go_num, hx.drewN _, hB, hC⟩
      case measure => simp [intOf]; omega
    · go_wp2
      go_ret
      exact ⟨rfl, hx⟩
end Go.Proofs.Ytckeidboolfcoaa

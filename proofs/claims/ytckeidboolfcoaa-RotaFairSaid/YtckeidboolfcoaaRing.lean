/- Rings: the plain words. No program is named here. -/
import Derived.Test.YtckeidboolfcoaaHeap
import Derived.Test.YtckeidboolfcoaaCtr
namespace Go.Proofs.Ytckeidboolfcoaa
open Go Go.RowKit

structure Seat where
  id : Int
  pri : Int
  age : Int
  dfc : Int
structure Ring where
  base : Int
  per : Int
  seats : List Seat
  cur : Int
  opn : Bool
def Seat.cells (s : Seat) : List Value := [.int .i64 s.id, .int .i64 s.pri, .int .i64 s.age, .int .i64 s.dfc]
def Seat.val (s : Seat) : Value := .agg #[.int .i64 s.id, .int .i64 s.pri, .int .i64 s.age, .int .i64 s.dfc]
def flatS (l : List Seat) : List Value := l.flatMap Seat.cells
/-- the seats that a slice value leads to -/
def Seats (M : Nat → Prop) (w : World) (sl : Value) (l : List Seat) : Prop := Row M w 4 sl l.length (flatS l)
def RingV (M : Nat → Prop) (w : World) (v : Value) (r : Ring) : Prop :=
  ∃ sl, v = .agg #[.int .i64 r.base, .int .i64 r.per, sl, .int .i64 r.cur, .bool r.opn] ∧ Seats M w sl r.seats

theorem flat_get {α : Type} (f : α → List Value) (n : Nat) (hf : ∀ a, (f a).length = n) : ∀ (l : List α) (i j : Nat) (hi : i < l.length), j < n → (l.flatMap f)[n * i + j]? = (f l[i])[j]? := by
  intro l
  induction l with
  | nil => intro i j hi; simp at hi
  | cons a l ih =>
    intro i j hi hj
    rw [List.flatMap_cons]
    cases i with
    | zero => simp only [Nat.mul_zero, Nat.zero_add, List.getElem_cons_zero]; rw [List.getElem?_append_left (by rw [hf]; exact hj)]
    | succ i =>
      rw [List.getElem?_append_right (by rw [hf, Nat.mul_add]; omega), hf]
      rw [show n * (i + 1) + j - n = n * i + j by rw [Nat.mul_add]; omega]
      rw [ih i j (by simpa using hi) hj]; rfl
theorem flat_len {α : Type} (f : α → List Value) (n : Nat) (hf : ∀ a, (f a).length = n) (l : List α) : (l.flatMap f).length = l.length * n := by
  induction l with
  | nil => simp
  | cons a l ih => rw [List.flatMap_cons, List.length_append, hf, ih, List.length_cons, Nat.add_mul]; omega
theorem flatS_len (l : List Seat) : (flatS l).length = l.length * 4 := flat_len _ 4 (fun _ => rfl) l
theorem flatS_get (l : List Seat) (i j : Nat) (hi : i < l.length) (hj : j < 4) : (flatS l)[i * 4 + j]? = l[i].cells[j]? := by
  rw [Nat.mul_comm i 4]; exact flat_get _ 4 (fun _ => rfl) l i j hi hj

/-- the cells of seat i, in the walk's spelling -/
theorem Seats.at {w : World} {b off : Nat} {l : List Seat} {i : Nat} (h : ∀ j u, (flatS l)[j]? = some u → w.cell? ⟨b, off + j, none⟩ = some u) (hi : i < l.length) :
    w.cell? ⟨b, off + i * 4, none⟩ = some (.int .i64 l[i].id) ∧ w.cell? ⟨b, off + i * 4 + 1, none⟩ = some (.int .i64 l[i].pri) ∧
    w.cell? ⟨b, off + i * 4 + 2, none⟩ = some (.int .i64 l[i].age) ∧ w.cell? ⟨b, off + i * 4 + 3, none⟩ = some (.int .i64 l[i].dfc) :=
  ⟨h (i * 4) _ (flatS_get l i 0 hi (by omega)), h (i * 4 + 1) _ (flatS_get l i 1 hi (by omega)), h (i * 4 + 2) _ (flatS_get l i 2 hi (by omega)), h (i * 4 + 3) _ (flatS_get l i 3 hi (by omega))⟩

/-- the first index of a seat, or -1 -/
def findZ (l : List Seat) (id : Int) : Int := if l.findIdx (fun s => s.id == id) < l.length then l.findIdx (fun s => s.id == id) else -1
theorem findZ_hit {l : List Seat} {id : Int} {k : Nat} (hk : k < l.length) (h : ∀ j (hj : j < l.length), j < k → l[j].id ≠ id) (he : l[k].id = id) : findZ l id = k := by
  have h1 : l.findIdx (fun s => s.id == id) = k := by
    rw [List.findIdx_eq hk]
    exact ⟨by simp [he], fun j hj => by have := h j (by omega) hj; simp [this]⟩
  unfold findZ
  rw [h1, if_pos hk]
theorem findZ_miss {l : List Seat} {id : Int} (h : ∀ j (hj : j < l.length), l[j].id ≠ id) : findZ l id = -1 := by
  unfold findZ
  rw [if_neg]
  rw [List.findIdx_lt_length]
  intro ⟨x, hx, hp⟩
  obtain ⟨j, hj, rfl⟩ := List.getElem_of_mem hx
  exact h j hj (by simpa using hp)
theorem findZ_lt (l : List Seat) (id : Int) : findZ l id < l.length ∧ -1 ≤ findZ l id := by unfold findZ; split <;> omega

def betB (n l m : Int) : Bool := decide (l ≤ n ∧ n ≤ m)
def seatOk (r : Ring) (i : Nat) (s : Seat) : Bool :=
  betB s.id 0 1073741824 && ((findZ r.seats s.id == i) && (betB s.pri 0 3 && (betB s.age 0 1073741824 && (if r.opn = true ∧ (i : Int) = r.cur then betB s.dfc 1 64 else betB s.dfc (-7) 0))))
def headOk (r : Ring) : Bool :=
  betB r.base 1 64 && (betB r.per 1 1024 && (decide (r.seats.length ≤ 16) && (decide (0 ≤ r.cur) && (decide (r.cur < if (r.seats.length : Int) < 1 then 1 else r.seats.length) && !(r.opn && decide (r.seats.length = 0))))))
def ringOk (r : Ring) : Bool := headOk r && decide (∀ i (h : i < r.seats.length), seatOk r i r.seats[i] = true)
end Go.Proofs.Ytckeidboolfcoaa

/- transfer: compare, copied. -/
import Derived.Test.YtgakojgkkdmabaaTr1
import Derived.Laws.StructEq
namespace Go.Proofs.Ytgakojgkkdmabaa
open Go Go.RowKit

def CopyC (c : Int × Int) : List Value := [.int .i64 c.1, .int .i64 c.2]
def flatC (l : List (Int × Int)) : List Value := l.flatMap CopyC
def CopiesAt (M : Nat → Prop) (W : World) (sl : Value) (l : List (Int × Int)) : Prop := Row M W 2 sl l.length (flatC l)
theorem flat_get {α : Type} (f : α → List Value) (n : Nat) (hf : ∀ a, (f a).length = n) : ∀ (l : List α) (i j : Nat) (hi : i < l.length), j < n → (l.flatMap f)[n * i + j]? = (f l[i])[j]? := by
  intro l
  induction l with
  | nil => intro i j hi; simp at hi
  | cons a l ih =>
    intro i j hi hj
    rw [List.flatMap_cons]
    cases i with
    | zero => simp only [Nat.mul_zero, Nat.zero_add, List.getElem_cons_zero]; rw [List.getElem?_append_left (by rw [hf]; exact hj)]
    | succ i =>
      rw [List.getElem?_append_right (by rw [hf, Nat.mul_add]; omega), hf]
      rw [show n * (i + 1) + j - n = n * i + j by rw [Nat.mul_add]; omega]
      rw [ih i j (by simpa using hi) hj]; rfl
theorem flat_len {α : Type} (f : α → List Value) (n : Nat) (hf : ∀ a, (f a).length = n) (l : List α) : (l.flatMap f).length = l.length * n := by
  induction l with
  | nil => simp
  | cons a l ih => rw [List.flatMap_cons, List.length_append, hf, ih, List.length_cons, Nat.add_mul]; omega
theorem flatC_len (l : List (Int × Int)) : (flatC l).length = l.length * 2 := flat_len _ 2 (fun _ => rfl) l
theorem flatC_get (l : List (Int × Int)) (i j : Nat) (hi : i < l.length) (hj : j < 2) : (flatC l)[i * 2 + j]? = (CopyC l[i])[j]? := by
  rw [Nat.mul_comm i 2]; exact flat_get _ 2 (fun _ => rfl) l i j hi hj
theorem CopiesAt.at {M : Nat → Prop} {W : World} {sl : Value} {l : List (Int × Int)} (h : CopiesAt M W sl l) {i : Nat} (hi : i < l.length) : ∃ b off cap, sl = .slice (some ⟨b, off, none⟩) l.length cap ∧ b < W.heap.size ∧ ¬ M b ∧
    ∀ j (hj : j < l.length), W.cell? ⟨b, off + j * 2, none⟩ = some (.int .i64 l[j].1) ∧ W.cell? ⟨b, off + j * 2 + 1, none⟩ = some (.int .i64 l[j].2) := by
  obtain ⟨b, off, cap, h1, h2, h3, h4⟩ := Row.shape h (by omega)
  exact ⟨b, off, cap, h1, h2, h3, fun j hj => ⟨h4 (j * 2) _ (flatC_get l j 0 hj (by omega)), h4 (j * 2 + 1) _ (flatC_get l j 1 hj (by omega))⟩⟩

def compareZ (a b : Int × Int) : Int := orZ (cmpZ a.1 b.1) (cmpZ a.2 b.2)
def IntPost (z : Int) (W : World) (e : Ending) (w' : World) : Prop := e = .returned (.int .i64 z) ∧ Ext No W w'
set_option maxRecDepth 100000 in
set_option maxHeartbeats 1000000 in
theorem compare_any (a b : Int × Int) (W : World) : Calls Try.prog 24 #[.agg #[.int .i64 a.1, .int .i64 a.2], .agg #[.int .i64 b.1, .int .i64 b.2]] W (IntPost (compareZ a b) W) := by
  obtain ⟨a1, a2⟩ := a
  obtain ⟨b1, b2⟩ := b
  simp only
  go_enter Try.func24, Try.ntmps24
  go_wp2_with fail
  have hA := alloc_under (o := .cells #[.int .i64 b1, .int .i64 b2] 46) (alloc_top (w := W) (o := .cells #[.int .i64 a1, .int .i64 a2] 46) rfl)
  have hB := alloc_top (n := W.heap.size + 1) (w := W.alloc (.cells #[.int .i64 a1, .int .i64 a2] 46)) (o := .cells #[.int .i64 b1, .int .i64 b2] 46) (by simp)
  have hx : Ext No W ((W.alloc (.cells #[.int .i64 a1, .int .i64 a2] 46)).alloc (.cells #[.int .i64 b1, .int .i64 b2] 46)) := ((Ext.refl _ _).alloc _).alloc _
  generalize (W.alloc (.cells #[.int .i64 a1, .int .i64 a2] 46)).alloc (.cells #[.int .i64 b1, .int .i64 b2] 46) = W2 at *
  have l0 := cellOf hA 0
  have l1 := cellOf hA 1
  have l2 := cellOf hB 0
  have l3 := cellOf hB 1
  simp only [List.getElem?_toArray, List.getElem?_cons_zero, List.getElem?_cons_succ] at l0 l1 l2 l3
  go_region_held3 (fun w' => w'.cell? ⟨W.heap.size, 0, none⟩ = some (.int .i64 a1) ∧ w'.cell? ⟨W.heap.size, 1, none⟩ = some (.int .i64 a2) ∧ w'.cell? ⟨W.heap.size + 1, 0, none⟩ = some (.int .i64 b1) ∧ w'.cell? ⟨W.heap.size + 1, 1, none⟩ = some (.int .i64 b2))
    ((go_split_ands; refine ⟨?_, ?_, ?_, ?_⟩; (first | ((with_reducible refine keepS2 ?_ ?_); (first | (with_reducible assumption) | (with_reducible exact keepN hyA (by with_reducible assumption))); (exact Nat.ne_of_lt hltB)) | (with_reducible assumption) | (with_reducible exact keepD (by with_reducible assumption)) | (with_reducible exact keepA (by with_reducible assumption)) | (with_reducible exact keepD (keepA (by with_reducible assumption))) | (with_reducible exact keepA (keepD (by with_reducible assumption))) | (with_reducible exact keepN hyA (by with_reducible assumption)) | (with_reducible exact keepA (keepN hyA (by with_reducible assumption)))); (first | ((with_reducible refine keepS2 ?_ ?_); (first | (with_reducible assumption) | (with_reducible exact keepN hyA (by with_reducible assumption))); (exact Nat.ne_of_lt hltB)) | (with_reducible assumption) | (with_reducible exact keepD (by with_reducible assumption)) | (with_reducible exact keepA (by with_reducible assumption)) | (with_reducible exact keepD (keepA (by with_reducible assumption))) | (with_reducible exact keepA (keepD (by with_reducible assumption))) | (with_reducible exact keepN hyA (by with_reducible assumption)) | (with_reducible exact keepA (keepN hyA (by with_reducible assumption)))); (first | ((with_reducible refine keepS2 ?_ ?_); (first | (with_reducible assumption) | (with_reducible exact keepN hyA (by with_reducible assumption))); (exact Nat.ne_of_lt hltB)) | (with_reducible assumption) | (with_reducible exact keepD (by with_reducible assumption)) | (with_reducible exact keepA (by with_reducible assumption)) | (with_reducible exact keepD (keepA (by with_reducible assumption))) | (with_reducible exact keepA (keepD (by with_reducible assumption))) | (with_reducible exact keepN hyA (by with_reducible assumption)) | (with_reducible exact keepA (keepN hyA (by with_reducible assumption)))); (first | ((with_reducible refine keepS2 ?_ ?_); (first | (with_reducible assumption) | (with_reducible exact keepN hyA (by with_reducible assumption))); (exact Nat.ne_of_lt hltB)) | (with_reducible assumption) | (with_reducible exact keepD (by with_reducible assumption)) | (with_reducible exact keepA (by with_reducible assumption)) | (with_reducible exact keepD (keepA (by with_reducible assumption))) | (with_reducible exact keepA (keepD (by with_reducible assumption))) | (with_reducible exact keepN hyA (by with_reducible assumption)) | (with_reducible exact keepA (keepN hyA (by with_reducible assumption))))))
    (first | ((go_at_call 33); (with_reducible refine (cmp_any _ _ _).mono ?_); (rintro e' w1 ⟨rfl, rfl⟩)) | ((go_at_call 32); (with_reducible refine (or_any (cmpZ a1 b1) (cmpZ a2 b2) _ _ ?_ ?_).mono ?_); (exact cellOf (alloc_top (by simp)) 0); (exact cellOf (alloc_top (by simp)) 1); (rintro e' w1 ⟨rfl, rfl⟩)))
  all_goals
    go_wp2
    go_ret
    exact ⟨rfl, by (repeat (first | (with_reducible exact Ext.refl _ _) | (with_reducible assumption) | (with_reducible refine Ext.drewN ?_ _) | (with_reducible refine Ext.drew ?_) | (with_reducible refine Ext.alloc ?_ _)))⟩
end Go.Proofs.Ytgakojgkkdmabaa

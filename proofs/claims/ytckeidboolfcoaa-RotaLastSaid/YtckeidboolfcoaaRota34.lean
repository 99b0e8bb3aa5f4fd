/- An argument that is a ring, read. -/
import Derived.Test.YtckeidboolfcoaaOpen2
import Derived.Test.YtckeidboolfcoaaRota3
namespace Go.Proofs.Ytckeidboolfcoaa
open Go Go.RowKit Go.ChangeShapes Go.WideShapes

def seatOf (z : List Int) : Seat := ⟨z[0]?.getD 0, z[1]?.getD 0, z[2]?.getD 0, z[3]?.getD 0⟩
theorem seatOf_cells {z : List Int} (h : z.length = 4) : (seatOf z).cells = z.map (.int .i64) := by
  match z, h with
  | [a, b, c, d], _ => rfl
theorem flat_seatOf {zss : List (List Int)} (h : ∀ z ∈ zss, z.length = 4) : zss.flatMap (fun z => z.map (Value.int .i64)) = flatS (zss.map seatOf) := by
  induction zss with
  | nil => rfl
  | cons z zss ih =>
    have e := ih (fun y hy => h y (List.mem_cons_of_mem _ hy))
    rw [List.flatMap_cons, e, List.map_cons]
    show _ = (seatOf z).cells ++ flatS (zss.map seatOf)
    rw [seatOf_cells (h z (List.mem_cons_self ..))]
theorem open_ring {H : Type} {enc : TypeId × Value → H} {W : World} {base : Nat} {spare : Nat → Bool} {held : Bool} {r : Reach} {b0 : Nat} {v : Value} {d : DataW H} {p : List MemPlace}
    (hv : Value.okWide Try.prog W r b0 25 v) (h : DataW.Trod enc Try.prog W base spare held 25 v d p) :
    ∃ (r : Ring) (a : Option Addr) (n c : Nat), v = .agg #[.int .i64 r.base, .int .i64 r.per, .slice a n c, .int .i64 r.cur, .bool r.opn] ∧ Seats No W (.slice a n c) r.seats := by
  obtain ⟨cs, rfl, hsz⟩ := okWide_struct Try.underlying25 hv
  have hsz5 : cs.size = 5 := hsz.trans (by kernel_rfl)
  obtain ⟨n, hf⟩ := open_fields Try.underlying25 h
  obtain ⟨l⟩ := cs
  match l, hsz5 with
  | [v0, v1, v2, v3, v4], _ =>
    obtain ⟨x0, h0⟩ := hf 0 _ rfl
    obtain ⟨x1, h1⟩ := hf 1 _ rfl
    obtain ⟨x2, h2⟩ := hf 2 _ rfl
    obtain ⟨x3, h3⟩ := hf 3 _ rfl
    obtain ⟨x4, h4⟩ := hf 4 _ rfl
    obtain ⟨z0, e0, _, _⟩ := DataW.trod_int Try.underlying3 h0
    obtain ⟨z1, e1, _, _⟩ := DataW.trod_int Try.underlying3 h1
    obtain ⟨z3, e3, _, _⟩ := DataW.trod_int Try.underlying3 h3
    obtain ⟨b4, e4, _⟩ := DataW.trod_bool Try.underlying4 h4
    obtain ⟨a, cap, zss, e2, hz, hrow⟩ := open_rows (n := 4) (k := .i64) Try.underlying23 (by kernel_rfl) (by omega) (ints_struct Try.underlying53 (by kernel_rfl) (by
      intro i f hi
      match i, hi with
      | 0, hi => cases hi; exact ⟨rfl, Try.underlying3, by kernel_rfl⟩
      | 1, hi => cases hi; exact ⟨rfl, Try.underlying3, by kernel_rfl⟩
      | 2, hi => cases hi; exact ⟨rfl, Try.underlying3, by kernel_rfl⟩
      | 3, hi => cases hi; exact ⟨rfl, Try.underlying3, by kernel_rfl⟩
      | i + 4, hi => simp at hi)) h2
    have k1 : Try.prog.cellsOf 3 = 1 := by kernel_rfl
    have k2 : Try.prog.cellsOf 23 = 1 := by kernel_rfl
    have k3 : Try.prog.cellsOf 4 = 1 := by kernel_rfl
    simp [k1] at e0
    simp [k1] at e1
    simp [k2] at e2
    simp [k1] at e3
    simp [k3] at e4
    subst e0 e1 e2 e3 e4
    refine ⟨⟨z0, z1, zss.map seatOf, z3, b4⟩, a, zss.length, cap, rfl, ?_⟩
    show Row No W 4 (.slice a zss.length cap) (zss.map seatOf).length (flatS (zss.map seatOf))
    rw [List.length_map, ← flat_seatOf (fun z hz' => (hz z hz').1)]
    exact hrow
end Go.Proofs.Ytckeidboolfcoaa

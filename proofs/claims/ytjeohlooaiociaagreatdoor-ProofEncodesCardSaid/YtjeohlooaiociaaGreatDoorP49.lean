
import Derived.Test.YtjeohlooaiociaaGreatDoorP44
import Derived.Laws.BytesArg
import Derived.Test.YtjeohlooaiociaaGreatDoorP16
set_option linter.unusedVariables false
set_option linter.unusedSimpArgs false
namespace Go.Proofs.YtjeohlooaiociaaGreatDoor
open Go Go.RowKit
theorem ranked_cons {p : RawSet × Value} {q : List Int × Value} {Lv : LS} {R : LD} : RankedP (p :: Lv) (q :: R) ↔ RankOk p.1 q.1 ∧ RankedP Lv R := by
 refine ⟨fun h => ⟨h.2 0 (by simp) (by simp), by simpa using h.1, fun n h1 h2 => ?_⟩, fun h => ⟨by simpa using h.2.1, fun n h1 h2 => ?_⟩⟩
 ·have := h.2 (n + 1) (by simpa using h1) (by simpa using h2)
  simpa using this
 cases n with
 | zero => exact h.1
 | succ n => exact h.2.2 n (by simpa using h1) (by simpa using h2)
theorem flat_toNat : ∀ (l : List Int), rowB l = (l.map Int.toNat).flatMap uv
 | [] => rfl
 | x :: l => by
  have := flat_toNat l
  unfold rowB at this ⊢
  rw [List.flatMap_cons, List.map_cons, List.flatMap_cons, this]
theorem natsZ_toNat : ∀ (l : List Int), (∀ x ∈ l, 0 ≤ x) → natsZ (l.map Int.toNat) = l
 | [], _ => rfl
 | x :: l, h => by
  have h1 := natsZ_toNat l (fun y hy => h y (List.mem_cons_of_mem _ hy))
  have h2 := h x (List.mem_cons_self ..)
  unfold natsZ at h1 ⊢
  rw [List.map_cons, List.map_cons, h1, Int.toNat_of_nonneg h2]
theorem rankOk_row {s : RawSet} {l : List Int} (h : RankOk s l) : ∃ x, RowOk x ∧ s = rowSet x ∧ l = rowRk x ∧ setR s ++ rowB l = rowE x := by
 obtain ⟨w, m, hw, hm, rfl, hl, hb⟩ := h
 have hb2 : ∀ y ∈ l, 0 ≤ y ∧ y ≤ 1073741824 := fun y hy => by
  obtain ⟨i, hi, rfl⟩ := List.getElem_of_mem hy
  have := hb i hi
  unfold RkBad at this
  omega
 refine ⟨((w, memN w m), l.map Int.toNat), ⟨hw, memN_asc w m, fun y hy => memN_lt hy, ?_, fun y hy => ?_⟩, ?_, ?_, ?_⟩
 ·rw [List.length_map, hl, memN_cast]
  simp [natsZ]
 ·obtain ⟨z, hz, rfl⟩ := List.mem_map.1 hy
  have := hb2 z hz
  omega
 ·unfold rowSet
  simp only
  rw [ofN_memN hm]
 ·unfold rowRk
  simp only
  rw [natsZ_toNat l (fun y hy => (hb2 y hy).1)]
 unfold rowE
 simp only
 rw [setR_set hm, flat_toNat]
theorem ranked_rows : ∀ (Lv : LS) (R : LD), RankedP Lv R → ∃ L : List ((Nat × List Nat) × List Nat), L.length = Lv.length ∧ (Lv.zip R).flatMap itemB = L.flatMap rowE ∧ (∀ x ∈ L, RowOk x) ∧ Lv.map Prod.fst = L.map rowSet ∧ R.map Prod.fst = L.map rowRk
 | [], [], _ => ⟨[], rfl, rfl, fun _ h => (by cases h), rfl, rfl⟩
 | [], _ :: _, h => by have := h.1; simp at this
 | _ :: _, [], h => by have := h.1; simp at this
 | p :: Lv, q :: R, h => by
  obtain ⟨h1, h2⟩ := ranked_cons.1 h
  obtain ⟨L, g1, g2, g3, g4, g5⟩ := ranked_rows Lv R h2
  obtain ⟨x, k1, k2, k3, k4⟩ := rankOk_row h1
  refine ⟨x :: L, by simp [g1], ?_, fun y hy => ?_, by rw [List.map_cons, List.map_cons, g4, k2], by rw [List.map_cons, List.map_cons, g5, k3]⟩
  ·rw [List.zip_cons_cons, List.flatMap_cons, List.flatMap_cons, g2, ← k4]; rfl
  rcases List.mem_cons.1 hy with rfl | hy
  ·exact k1
  exact g3 y hy
theorem enc_rows {Lv : LS} {R : LD} (h : EncOk Lv R) : ∃ L : List ((Nat × List Nat) × List Nat), rdProof (encB Lv R) = some L ∧ Lv.map Prod.fst = L.map rowSet ∧ R.map Prod.fst = L.map rowRk := by
 obtain ⟨L, h1, h2, h3, h4, h5⟩ := ranked_rows Lv R h.2
 refine ⟨L, ?_, h4, h5⟩
 have e : encB Lv R = proofE L := by unfold encB proofE; rw [h1, h2]
 rw [e]
 exact rdProof_enc (by rw [h1]; exact h.1) h3
theorem bodyB_seal (l : List Nat) : bodyB (sealB l) = l := by
 unfold bodyB sealB
 rw [List.length_append, ckB_len, Nat.add_sub_cancel]
 simp
theorem sealB_len (l : List Nat) : 4 ≤ (sealB l).length := by
 unfold sealB
 rw [List.length_append, ckB_len]; omega
end Go.Proofs.YtjeohlooaiociaaGreatDoor

namespace Go.Proofs.YtjeohlooaiociaaGreatDoor
open Go Go.RowKit
def strB (l : List Nat) : ByteArray := strOfNums (natsZ l)
theorem conv_any {M : Nat → Prop} {w : World} {sl : Value} {l : List Nat} (h : Ints M w .u8 sl (natsZ l)) : (convert 53 9 sl).run Tryz.prog w = .ok (.string (strB l)) w := by
 have hz : (natsZ l).length = l.length := by simp [natsZ]
 cases l with
 | nil =>
  obtain ⟨_, _, a, c, rfl, _, _⟩ := h
  cases a with
  | none =>
   rw [run_convert_bytes_nil w 53 5 Tryz.underlying53 Tryz.underlying5 _ _ _ Tryz.underlying9]
   rfl
  | some ad =>
   rw [hz, run_convert_bytes_string w 53 9 5 _ _ c Tryz.underlying53 Tryz.underlying5 Tryz.underlying9]
   rw [run_bytesToString w ad _ c [] (by simp [loadCells, loadCellsFrom, Sem.run_pure])]
   rfl
 | cons x l =>
  obtain ⟨b, o, k, rfl, hc⟩ := ints_u8 h (k := 0) (by simp)
  have h1 := run_convert_bytes_arg (P := Tryz.prog) w 53 5 Tryz.underlying53 Tryz.underlying5 b o (x :: l).length k (natsZ (x :: l)) hz (fun i hi => by
   rw [hc i hi]
   simp only [natsZ, List.getD_eq_getElem?_getD, List.getElem?_map, List.getElem?_eq_getElem hi, Option.map_some, Option.getD_some]) 9 Tryz.underlying9
  exact h1
theorem str_eq (a : ByteArray) : (a.toList == a.toList) = true := beq_self_eq_true _
end Go.Proofs.YtjeohlooaiociaaGreatDoor

namespace Go.Proofs.YtjeohlooaiociaaGreatDoor
open Go Go.RowKit Tj
theorem enc_len {Lv : LS} {R : LD} (h : EncOk Lv R) : (sealB (encB Lv R)).length ≤ 700000 := by
 have h1 := part_len h.2 Lv.length (Nat.le_refl _)
 have h2 := uv_len 4 Lv.length (by have := h.1; omega)
 have h3 := h.1
 have h4 : (Lv.zip R).take Lv.length = Lv.zip R := List.take_of_length_le (by simp; omega)
 rw [h4] at h1
 unfold sealB encB
 rw [List.length_append, List.length_append, ckB_len]
 omega
theorem sealB_byte {l : List Nat} (h : ∀ x ∈ l, x < 256) : ∀ x ∈ sealB l, x < 256 := fun x hx => by
 rcases List.mem_append.1 hx with hx | hx
 ·exact h x hx
 exact ckB_byte h x hx

/- Plain law: the count of a set is the length of the list of its members. -/
import Derived.Test.YtjeohlooaiociaaGreatDoorSetB
set_option linter.unusedVariables false
set_option linter.unusedSimpArgs false
namespace Go.Proofs.YtjeohlooaiociaaGreatDoor
open Go Go.RowKit
def cntTo (m k : Nat) : Nat := ((List.range k).filter fun b => m.testBit b).length
theorem cntTo_congr {m m' k : Nat} (h : ∀ i, i < k → m.testBit i = m'.testBit i) : cntTo m k = cntTo m' k := by
 unfold cntTo
 rw [List.filter_congr (fun x hx => by rw [h x (List.mem_range.1 hx)])]
theorem cntTo_add (m j k : Nat) : cntTo m (j + k) = cntTo m j + cntTo (m >>> j) k := by
 unfold cntTo
 rw [List.range_add, List.filter_append, List.length_append, List.filter_map, List.length_map]
 congr 2
 refine List.filter_congr (fun x hx => ?_)
 simp [Nat.testBit_shiftRight]
theorem cntTo_high {m w k : Nat} (hm : m < 2 ^ w) (h : w ≤ k) : cntTo m k = cntTo m w := by
 obtain ⟨d, rfl⟩ : ∃ d, k = w + d := ⟨k - w, by omega⟩
 rw [cntTo_add, Nat.shiftRight_eq_div_pow, Nat.div_eq_of_lt hm]
 simp [cntTo]
theorem popB_cnt : ((List.range 256).all fun a => popB a == cntTo a 8) = true := by kernel_rfl
theorem popB_eq {a : Nat} (h : a < 256) : popB a = cntTo a 8 := by
 have h1 := List.all_eq_true.1 popB_cnt a (List.mem_range.2 h)
 simpa using h1
theorem cnt_bytes : ∀ l : List Nat, (∀ a ∈ l, a < 256) → cntTo (ofB l) (8 * l.length) = (l.map fun a => cntTo a 8).sum
 | [], _ => by simp [cntTo]
 | a :: l, h => by
  have ha := h a (List.mem_cons_self ..)
  have ih := cnt_bytes l (fun x hx => h x (List.mem_cons_of_mem _ hx))
  rw [List.length_cons, show 8 * (l.length + 1) = 8 + 8 * l.length from by omega, cntTo_add, List.map_cons, List.sum_cons]
  have e1 : ofB (a :: l) >>> 8 = ofB l := by
   rw [Nat.shiftRight_eq_div_pow]
   simp only [ofB]; omega
  have e2 : cntTo (ofB (a :: l)) 8 = cntTo a 8 := cntTo_congr (fun i hi => by
   have e3 : ofB (a :: l) % 2 ^ 8 = a := by simp only [ofB]; omega
   have e4 := Nat.testBit_mod_two_pow (ofB (a :: l)) 8 i
   rw [e3] at e4
   rw [e4, decide_eq_true hi, Bool.true_and])
  rw [e1, e2, ih]
theorem popN_cnt {x : Nat} (hx : x < 2 ^ 64) : popN x = cntTo x 64 := by
 obtain ⟨l, h1, h2, rfl⟩ := bytes_ex 8 x (by simpa using hx)
 have hb : Bytes l := ⟨h1, h2⟩
 obtain ⟨e1, e2, e3⟩ := pop_parts hb
 have e4 : popN (ofB l) = (l.map popB).sum := by
  obtain ⟨a, b, c, d, e, f, g, i, rfl⟩ := list8 h1
  have hp : ∀ z ∈ [a, b, c, d, e, f, g, i], popB z ≤ 8 := fun z hz => (b1 z (h2 z hz)).2.2.2.2.2.2.1
  simp only [List.forall_mem_cons] at hp
  obtain ⟨ha, hb', hc, hd, he, hf, hg, hi, _⟩ := hp
  have := step4 _ _ _ _ _ _ _ _ ha hb' hc hd he hf hg hi _ _ _ _ e3 rfl rfl rfl
  show popG _ % 128 = _
  unfold popG popF popE
  rw [this]
  simp only [List.map_cons, List.map_nil, List.sum_cons, List.sum_nil]
  omega
 rw [e4, show (64 : Nat) = 8 * l.length from by rw [h1], cnt_bytes l h2]
 congr 1
 exact List.map_congr_left (fun a ha => popB_eq (h2 a ha))
theorem cntN_eq (m : Nat) : ∀ k, cntN m k = cntTo m (64 * k)
 | 0 => by simp [cntN, cntTo]
 | k + 1 => by
  rw [cntN, cntN_eq m k, popN_cnt (wordN_lt m k), show 64 * (k + 1) = 64 * k + 64 from by omega, cntTo_add]
  congr 1
  refine cntTo_congr (fun i hi => ?_)
  unfold wordN
  rw [Nat.testBit_mod_two_pow, decide_eq_true hi, Bool.true_and]
theorem count_members {w m : Nat} (hm : m < 2 ^ w) : cntN m (nw w) = (membersN w m).length := by
 rw [cntN_eq, cntTo_high hm (by unfold nw; omega)]
 unfold membersN
 rw [List.length_map]; rfl
end Go.Proofs.YtjeohlooaiociaaGreatDoor

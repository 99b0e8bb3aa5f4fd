
import Derived.Test.YtmddchceacmopaaDoorE15
set_option linter.unusedVariables false
set_option linter.unusedSimpArgs false
namespace Go.Proofs.YtmddchceacmopaaDoor
open Go Go.RowKit
theorem infoAE : (Tryd.prog.info? 33).map (fun i => (i.zero, i.size, i.bytes)) = some (some (.agg #[.int .i64 0, .int .i64 0, .slice none 0 0, .int .i64 0, .slice none 0 0, .slice none 0 0]), 6, 96) := by kernel_rfl
theorem zero_run {P : Program} {e : TypeId} {i : TypeInfo} {z : Value} (hi : P.info? e = some i) (hz : i.zero = some z) (w : World) : (zeroValue e).run P w = .ok z w := by simp [zeroValue, typeInfo, hi, hz]
def zA : Value := .agg #[.int .i64 0, .int .i64 0, .slice none 0 0, .int .i64 0, .slice none 0 0, .slice none 0 0]
theorem zA_one : ∀ j : Nat, ((Value.cells zA)[j % (Value.cells zA).size]!).oneCell' = true := fun j => by
 have h : j % (Value.cells zA).size < 6 := Nat.mod_lt _ (by decide)
 generalize j % (Value.cells zA).size = m at h
 match m, h with
 | 0, _ => rfl
 | 1, _ => rfl
 | 2, _ => rfl
 | 3, _ => rfl
 | 4, _ => rfl
 | 5, _ => rfl
theorem erase_flat (L : LA) (i : Nat) (hi : i < L.length) : (L.take i).flatMap kA.cells ++ (L.drop (i + 1)).flatMap kA.cells = (L.eraseIdx i).flatMap kA.cells := by
 rw [List.eraseIdx_eq_take_drop_succ, List.flatMap_append]
def DelPost (base g n cap : Nat) (L : LA) (i : Nat) (W : World) (e : Ending) (w' : World) : Prop :=
 e = .returned (.slice (some ⟨g, 0, none⟩) (n - 1) cap) ∧ Hid (w'.ownsRow base 33 6 (.slice (some ⟨g, 0, none⟩) (n - 1) cap) (n - 1) ((L.eraseIdx i).flatMap kA.cells)) ∧ Hid (Ext (At g) W w')
set_option maxRecDepth 100000 in
set_option maxHeartbeats 8000000 in
theorem delete_any (base g n cap i : Nat) (L : LA) (W : World) (hone : ∀ u ∈ L.flatMap kA.cells, u.oneCell' = true) (h : W.ownsRow base 33 6 (.slice (some ⟨g, 0, none⟩) n cap) n (L.flatMap kA.cells)) (hn : n = L.length) (hi : i < n) (hn2 : n ≤ 1024) :
  Calls Tryd.prog 45 #[.slice (some ⟨g, 0, none⟩) n cap, .int .i64 (i : Int), .int .i64 ((i : Int) + 1)] W (DelPost base g n cap L i W) := by
 obtain ⟨iA, hiA, hA0, hA1, hA2⟩ := info_parts infoAE
 have HO := Lib.hid h
 have HONE := Lib.hid hone
 have HN := Lib.hid hn
 have hcap : n ≤ cap ∧ cap ≤ 9223372036854775807 := by
  have := (Row.ofOwns (M := No) h (fun _ _ x => x)).caps
  exact this
 clear h hone hn
 have hz1 : ¬ (i : Int) = (i : Int) + 1 := by omega
 have hz2 : ((i : Int) == (i : Int) + 1) = false := by simp; omega
 have b1 : (0 : Int) ≤ (i : Int) := by omega
 have b2 : (i : Int) ≤ (i : Int) + 1 := by omega
 have b3 : (i : Int) + 1 ≤ (n : Int) := by omega
 have b4 : (n : Int) ≤ (cap : Int) := by omega
 have b5 : (i : Int) ≤ (cap : Int) := by omega
 have b6 : (0 : Int) ≤ (i : Int) + 1 := by omega
 have b7 : (i : Int) + 1 ≤ (cap : Int) := by omega
 go_enter Tryd.func45, Tryd.ntmps45
 go_upto_region 5 with (fail)
 have HRow := Lib.hid (show Row No W 6 (.slice (some ⟨g, 0, none⟩) n cap) n (L.flatMap kA.cells) from Row.ofOwns HO.out (fun _ _ x => x))
 have hd := Row.drop (k := i + 1) HRow.out (by omega)
 obtain ⟨A0, hA0'⟩ : ∃ A0 : Addr, A0 = (if cap = i + 1 then (⟨g, 0, none⟩ : Addr) else ⟨g, (i + 1) * 6, none⟩) := ⟨_, rfl⟩
 obtain ⟨A, hA⟩ : ∃ A, A = (if cap = i + 1 then some (⟨g, 0, none⟩ : Addr) else some ⟨g, (i + 1) * 6, none⟩) := ⟨_, rfl⟩
 have HAA := Lib.hid (show A = some A0 from by rw [hA, hA0']; split <;> rfl)
 have hld : ((L.flatMap kA.cells).drop ((i + 1) * 6)).length = (n - (i + 1)) * 6 := by rw [List.length_drop, HO.out.1, ← Nat.sub_mul]
 have HLD := Lib.hid hld
 have HND := Lib.hid (show ∀ j u, ((L.flatMap kA.cells).drop ((i + 1) * 6))[j]? = some u → W.drew.cell? (A0.add j) = some u from fun j u hj => by
  by_cases hci : cap = i + 1
  ·have hl0 : ((L.flatMap kA.cells).drop ((i + 1) * 6)).length = 0 := by rw [hld]; rw [show n - (i + 1) = 0 by omega, Nat.zero_mul]
   rw [List.eq_nil_of_length_eq_zero hl0] at hj
   simp at hj
  rw [hA0', if_neg hci]
  obtain ⟨-, hc2⟩ := hd.src
  rcases hc2 with ⟨h0, h2⟩ | ⟨ad', h0, h2⟩
  ·rw [h2] at hj; simp at hj
  simp only [Option.some.injEq] at h0
  subst h0
  have := h2 j u hj
  rw [Nat.zero_add] at this
  exact this)
 clear hd hld hA0'
 refine wp_region_held_drew (S := (fun _ => True)) (by kernel_rfl) ?_ (fun hHeld => ?_)
 ·trivial
 have HC := Lib.hid (show W.drew.ownsRow base 33 6 (.slice (some ⟨g, 0, none⟩) i cap) i ((L.flatMap kA.cells).take (i * 6)) from own_cut (row_keep2 HO.out (Ext.refl No W).drew (fun _ _ x => x)) (by omega))
 have HED := Lib.hid (show Ext (At g) W W.drew from (Ext.refl _ W).drew)
 have HOD := Lib.hid (row_keep2 HO.out (Ext.refl No W).drew (fun _ _ x => x))
 have hws : base ≤ g ∧ g < W.drew.heap.size := World.ownsRow.lt HOD.out g rfl
 generalize W.drew = v0 at *
 refine hHs [0, 1, 2, 3, 4, 5] ?_
 iterate 6
  refine hTn ?_ hHeld (fun w hSw => ?_) ?_
  rotate_left
  ·go_simp; (try with_reducible rfl)
  simp only [Act.put, nzA, nzB, nzC]
 refine hHe ?_
 rw [← hA]
 refine hHc 6 fun K hK => ?_
 (refine wp_app_fits (.tmp 22) (.tmp 25) 34 rfl base 33 iA 6 Tryd.underlying34 hiA hA1 g i cap ((L.flatMap kA.cells).take (i * 6)) rfl HC.out A0 (n - (i + 1)) (cap - (i + 1)) ((L.flatMap kA.cells).drop ((i + 1) * 6)) (by rw [HAA.out]; rfl) HLD.out HND.out (fun u hu => HONE.out u (List.mem_of_mem_drop hu)) (by omega) ?_); (intro w5 hown hg)
 refine hK.out _ _ ?_ ?_
 ·trivial
 clear hK K hHeld
 intro hHeld
 try simp only [Act.put, nzA, nzB, nzC]
 refine hTk 7 ?_ hHeld (fun w hSw => ?_) ?_
 rotate_left
 ·go_simp; (try with_reducible rfl)
 simp only [Act.put, nzA, nzB, nzC]
 refine wpAnyH_done (by kernel_rfl) ?_ _
 obtain ⟨q, hq⟩ : ∃ q, q = n - 1 := ⟨_, rfl⟩
 rw [show i + (n - (i + 1)) = q by omega] at hown ⊢
 have hE5 : Ext (At g) v0 w5 := (Ext.refl _ v0).grown hg (fun k hk _ => (Option.some.inj hk).symm)
 have HE5 := Lib.hid (HED.out.trans hE5)
 have HO5 := Lib.hid (show w5.ownsRow base 33 6 (.slice (some ⟨g, 0, none⟩) q cap) q ((L.eraseIdx i).flatMap kA.cells) from by
  rw [show (L.flatMap kA.cells).take (i * 6) = (L.take i).flatMap kA.cells from take_flat kA L i, show (L.flatMap kA.cells).drop ((i + 1) * 6) = (L.drop (i + 1)).flatMap kA.cells from drop_flat kA L (i + 1), erase_flat L i (by rw [← HN.out]; exact hi)] at hown
  exact hown)
 obtain ⟨cur, hcur, hsz⟩ : ∃ cur, w5.heap[g]? = some (.cells cur 33 (0, 0)) ∧ cur.size = cap * 6 := by
  rcases HO5.out.2 with ⟨h3, _⟩ | ⟨g', cap', cur, h3, hb, hg', hnc, hcm, hcs, htake⟩
  ·simp at h3
  simp only [Value.slice.injEq, Option.some.injEq, Addr.mk.injEq, and_true, true_and] at h3
  obtain ⟨rfl, rfl⟩ := h3
  exact ⟨cur, hg', hcs⟩
 have HCU := Lib.hid (And.intro hcur hsz)
 clear hown hg hE5 hcur hsz
 have hqn : q < n := by omega
 have hqc : ¬ cap = q := by omega
 have c1 : (0 : Int) ≤ (q : Int) := by omega
 have c2 : (q : Int) ≤ (n : Int) := by omega
 have c3 : (n : Int) ≤ (cap : Int) := by omega
 have hzv : ∀ w, (zeroValue 33).run Tryd.prog w = .ok zA w := fun w => zero_run hiA hA0 w
 have HCL := Lib.hid (setCells_own (Builtin.zeroCells (Value.cells zA) (n - q)).toList (q * 6) w5 (Nat.le_refl _) HO5.out)
 have hzc : (Builtin.zeroCells (Value.cells zA) (n - q)).size = (n - q) * 6 := by simp [Builtin.zeroCells, zA, Value.cells]
 have hqm : q * 6 + (n - q) * 6 ≤ cap * 6 := by rw [← Nat.add_mul]; exact Nat.mul_le_mul_right _ (by omega)
 have hone2 : ∀ v ∈ (Builtin.zeroCells (Value.cells zA) (n - q)).toList, v.oneCell' = true := fun v hv => by
  simp only [Builtin.zeroCells, Array.toList_map, List.mem_map] at hv
  obtain ⟨j, _, rfl⟩ := hv
  exact zA_one _
 have hrun := run_clear_K (P := Tryd.prog) w5 34 33 0 zA Tryd.underlying34 hzv g (q * 6) (n - q) (cap - q) (by omega) hone2 (fun j hj => by
  rw [hzc] at hj
  have h1 : q * 6 + j < cur.size := by rw [HCU.out.2]; omega
  rw [cellOf HCU.out.1 (q * 6 + j), Array.getElem?_eq_getElem h1]; rfl) (fun j _ => freeOf HCU.out.1 (q * 6 + j))
 obtain ⟨w6, hw6⟩ : ∃ w6, w6 = w5.setCells g (q * 6) (Builtin.zeroCells (Value.cells zA) (n - q)).toList := ⟨_, rfl⟩
 rw [← hw6] at hrun HCL
 have HQ := Lib.hid hq
 clear hw6 hone2 hzc hqm hq
 go_wp2_with fail
 go_ret
 exact ⟨by rw [HQ.out]; rfl, Lib.hid (by rw [← HQ.out]; exact HCL.out.1), Lib.hid (HE5.out.trans HCL.out.2)⟩

/- ProofMakes: the given statement ProofMakesCardSaid (the tied card: the law returns true whenever it is called as its row says), proved with no further condition. -/
import Derived.Test.YtjeohlooaiociaaGreatDoorP29
import Derived.Test.YtjeohlooaiociaaGreatDoorP30
import Derived.Test.YtjeohlooaiociaaGreatDoorRows
import Derived.Test.YtjeohlooaiociaaGreatDoorTie
import Derived.Test.YtjeohlooaiociaaGreatDoorCards
import Derived.OpenShut
import Derived.ChangeOld
import Derived.Below
import Derived.LaidLaws
import Derived.LaidHandle
import Derived.LaidMore
import Derived.SevenTiedAt
set_option linter.unusedVariables false
set_option linter.unusedSimpArgs false
namespace Go.Proofs.YtjeohlooaiociaaGreatDoor.proofMakes
open Go.ChangeShapes Go.WideShapes Go.ChangeAt Go.RowKit
theorem own : ownKnob Tryz.prog.godebug = none := by kernel_rfl
theorem lo : laidOutB Tryz.prog = true := by kernel_rfl
theorem gT : Tryz.prog.globalNamed "math/bits.deBruijn64tab" = some 0 := by kernel_rfl
theorem tT : (Tryz.prog.globals[0]?).map (·.type) = some 134 := by kernel_rfl
theorem und : Tryz.prog.underlying 134 = some (.array 64 5) := by kernel_rfl
theorem uE : Tryz.prog.underlying 5 = some (.int .u8) := by kernel_rfl
theorem cE : Tryz.prog.cellsOf 5 = 1 := by kernel_rfl
theorem cT : Tryz.prog.cellsOf 134 = 64 := by kernel_rfl
abbrev laid : List (String × DataW Unit) := [("math/bits.deBruijn64tab", Rows.laid_math_bits_deBruijn64tab)]
theorem tb : (Rows.laid_math_bits_deBruijn64tab : DataW Unit) = .agg ((List.range 64).map fun j => .lit (.int .u8 (Lib.deBruijn64tab.getD j 0 : Nat))) := by rfl
theorem it {H : Type} {enc : TypeId × Value → H} {P w base sp held fuel t k c} {y : DataW H × List MemPlace}
  (ht : P.underlying t = some (.int k)) (h : DataW.trod enc P w base sp held fuel t [c] = some y) : ∃ n, c = .int k n ∧ y = (.lit (.int k n), []) := by
 cases fuel with
 | zero => simp [DataW.trod] at h
 | succ fuel =>
  cases c <;> simp [DataW.trod, ht] at h
  rename_i k' n
  obtain ⟨⟨rfl, _⟩, rfl⟩ := h
  exact ⟨n, rfl, rfl⟩
theorem tl {W : World} (h : laidMetH Tryz.prog laid W) : TabW W := by
 have h' : laidMet Tryz.prog laid W := h
 obtain ⟨ps, ⟨g, t, cs, fuel, p, q, hg, ht, hvar, hd, _, _⟩, _⟩ := h'
 obtain rfl := Option.some.inj (gT.symm.trans hg)
 obtain rfl := Option.some.inj (tT.symm.trans ht)
 obtain ⟨xs, m, rfl, hx, hl, hxl, hel⟩ := DataW.trod_array und hd
 rw [tb] at hx
 simp only [Prod.mk.injEq, DataW.agg.injEq] at hx
 obtain ⟨hx, _⟩ := hx
 rw [cT] at hl
 intro j hj
 rw [World.var?_cell gT hvar j]
 have e := hel j hj
 rw [cE, Nat.mul_one] at e
 have hjl : j < cs.toList.length := by omega
 have hdt : (cs.toList.drop j).take 1 = [cs.toList[j]] := by
  rw [List.drop_eq_getElem_cons hjl]; rfl
 rw [hdt, List.getElem?_eq_getElem (by omega)] at e
 obtain ⟨n, hc, hy⟩ := it uE e
 have hm : (xs.map (·.1))[j]? = some (.lit (.int .u8 n)) := by
  rw [List.getElem?_map, List.getElem?_eq_getElem (by omega)]
  simp [hy]
 rw [← hx, List.getElem?_map, List.getElem?_range hj] at hm
 simp at hm
 rw [← Array.getElem?_toList, List.getElem?_eq_getElem hjl, hc, ← hm]
 simp
theorem dm (os : Os) (args : Array Value) : laidMetH Tryz.prog laid ((World.doorLaid Tryz.prog 400 os).forCall (fun _ _ => 0) ⟨#[], args, []⟩).memory :=
 laidMetH_of_parts (laidMet_of_run' 8 (by kernel_rfl) (by kernel_rfl)) (by kernel_rfl)
set_option maxRecDepth 100000 in
theorem L (os : Os) (st : os.Started) (H : Type) (enc : TypeId × Value → H) :
  ReturnsInHanded {} Tryz.checked os 3 .any (fun w args => (Rows.proofMakesSpec.pre enc Tryz.prog Tryz.f3 [] false w args ∧ laidMetH Tryz.prog laid w) ∧ sizedMet enc Tryz.prog Tryz.f3 (OpenSpec.ofChange Rows.proofMakesSpec) false w args)
   (Rows.proofMakesSpec.post enc Tryz.prog Tryz.f3 false true false false) := by
 refine returnsInHanded_of_change_and (C := Tryz.checked) (X := fun w _ => laidMetH Tryz.prog laid w) (fun _ _ _ hh h => h.of_heap hh) own st (by kernel_rfl) Tryz.func3
  (ChangeSpec.witness_shaped (enc := enc) (C := Tryz.checked) (os := os) (X := fun w _ => laidMetH Tryz.prog laid w) false (World.doorLaid Tryz.prog 400 os) #[.slice none 0 0, .agg #[.int .i64 0, .slice none 0 0, .slice none 0 0, .slice none 0 0], .agg #[.slice none 0 0, .slice none 0 0]] 8 rfl (World.shaped_of_RefB (by kernel_rfl) (by kernel_rfl)) (by kernel_rfl) (by kernel_rfl) (by kernel_rfl) (dm os _)) ?_
 intro W base args ds gs before hval0 hW _ _ hL _
 have hval : ∀ (j : Nat) t v, Tryz.f3.params[j]? = some t → args[j]? = some v → Value.okWide Tryz.prog W .any base t v := hval0
 have hW' := hW
 obtain ⟨p, q, hA0, hV, rfl, hfz, hnd⟩ := hW
 have hA : DataW.TrodAll enc Tryz.prog W 0 (fun _ => true) true Tryz.f3.params.toList args.toList ds p := hA0
 rw [Tryz.params3] at hA hval
 obtain ⟨v0, vs0, d0, ds0, p0, q0, hargs, rfl, rfl, h0, r0⟩ := trodAll_cons hA
 obtain ⟨v1, vs1, d1, ds1, p1, q1, rfl, rfl, rfl, h1, r1⟩ := trodAll_cons r0
 obtain ⟨v2, vs2, d2, ds2, p2, q2, rfl, rfl, rfl, h2, r2⟩ := trodAll_cons r1
 obtain ⟨rfl, rfl, rfl⟩ := trodAll_nil r2
 obtain rfl : args = #[v0, v1, v2] := by cases args; simp_all
 obtain ⟨rfl, rfl⟩ := trodVars_none hV
 have k0 := h0
 have lt0 : ∀ x ∈ p0, x.block < W.heap.size := k0.elim fun m hm => DataW.trod_lt m _ _ _ hm
 obtain ⟨a0, len0, cap0, rfl⟩ := okWide_slice Tryz.underlying22 (hval 0 22 v0 rfl rfl)
 obtain ⟨z0, w0⟩ : ∃ zs, Ints No W .i64 (.slice a0 len0 cap0) zs := by
  obtain ⟨fuel, hf⟩ := h0
  rcases open_ints Tryz.underlying22 Tryz.underlying3 (by kernel_rfl) hf with ⟨hcs, _⟩ | ⟨x, l, c, zs, hcs, _, hl, hm, hz, _, hcell, hwz⟩
  ·simp [Value.cells] at hcs
   obtain ⟨rfl, rfl, rfl⟩ := hcs
   exact ⟨[], Row.nil _ _ _ _ _ (by omega)⟩
  simp [Value.cells] at hcs
  obtain ⟨rfl, rfl, rfl⟩ := hcs
  exact ⟨_, Row.ofArg hl hm (by simpa using hz) hcell⟩
 have lt1 : ∀ x ∈ p1, x.block < W.heap.size := h1.elim fun m hm => DataW.trod_lt m _ _ _ hm
 obtain ⟨x1, y1, s1, u1, ld1, ly1, lb1, rfl, w1⟩ := open_sys (hval 1 27 v1 rfl rfl) h1
 have lt2 : ∀ x ∈ p2, x.block < W.heap.size := h2.elim fun m hm => DataW.trod_lt m _ _ _ hm
 obtain ⟨y2, s2, ly2, lb2, rfl, w2, g2⟩ := open_proof (hval 2 29 v2 rfl rfl) h2
 clear hA0 hval0
 refine (proofMakes_any _ z0 _ _ _ _ _ _ _ _ _ _ _ W (tl hL) w0 w1 w2 g2).mono fun e W' ⟨he, hx⟩ => ?_
 have bel := hx.belowNo
 subst he
 exact ⟨_, rfl, _, _, _, [], _, [], hW', trodAll_mk1 (shut_bool Tryz.underlying4 _), (trodAll_cons_mk (Below.trod lo (by kernel_rfl) (of_decide_eq_true (by kernel_rfl)) k0 bel lt0) (trodAll_cons_mk (Below.trod lo (by kernel_rfl) (of_decide_eq_true (by kernel_rfl)) h1 bel lt1) (trodAll_cons_mk (Below.trod lo (by kernel_rfl) (of_decide_eq_true (by kernel_rfl)) h2 bel lt2) trodAll_mk0))), rfl, bel.frame _, fun h => by cases h⟩
theorem over : Rows.ProofMakesSaid :=
 OpenClaim.holds_of_wide 3 Tryz.f3 rfl rfl rfl rfl rfl rfl rfl ⟨rfl, rfl, rfl, rfl, rfl⟩ rfl rfl rfl rfl rfl (by kernel_rfl) Tryz.func3 (by kernel_rfl)
  (of_decide_eq_true (by kernel_rfl)) (by unfold Func.isWrapper; first | (rw [if_pos (by decide +kernel)]; kernel_rfl) | (rw [if_neg (by decide +kernel)]; exact ⟨rfl, rfl⟩))
  (fun os st H enc _ => L os st H enc)
theorem proved : Rows.ProofMakesCardSaid :=
 Claim7.holds_tied_plain_at .later [] [.data] true (true, "822d9a7a2a7b4de125dacb92d6432dcc7a5d98213506f8c6ed69ea507e3d4cd8") false
  over (fun _ h => by cases h) (by kernel_rfl) (fun _ h => by cases h) proofMakes_row_tie rfl ⟨rfl, rfl⟩ (by kernel_rfl) rfl
  (fun f fn hf hfn => by
   obtain rfl : f = 3 := Option.some.inj ((show Tryz.prog.funcNamed "flowquery/flqlaw17.ProofMakes" = some 3 by kernel_rfl).symm.trans hf) |>.symm
   obtain rfl : fn = Tryz.f3 := (Option.some.inj (Tryz.func3.symm.trans hfn)).symm
   exact ⟨by kernel_rfl, fun j t ht => by
    rw [Tryz.params3] at ht
    have hm : t ∈ [22, 27, 29] := by simpa using Array.mem_of_getElem? ht
    have hall : ([22, 27, 29].all fun u => !Tryz.prog.wantsStandIn u) = true := by kernel_rfl
    exact (show Tryz.prog.wantsStandIn t = false by simpa using List.all_eq_true.1 hall t hm)⟩)
  (by kernel_rfl)
#print axioms proved

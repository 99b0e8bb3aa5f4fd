/- EliminationExamples: the given statement EliminationExamplesCardSaid (the tied card: the law returns true whenever it is called as its row says), proved with no further condition. -/
import Derived.Test.YtmddchceacmopaaDoorE34
import Derived.Test.YtmddchceacmopaaDoorRows
import Derived.Test.YtmddchceacmopaaDoorTie
import Derived.Test.YtmddchceacmopaaDoorCards
import Derived.WalkKit
import Derived.ProofKit
import Derived.OpenShut
import Derived.ChangeOld
import Derived.Below
import Derived.LaidLaws
import Derived.LaidHandle
import Derived.LaidMore
import Derived.SevenTiedAt
set_option linter.unusedVariables false
set_option linter.unusedSimpArgs false
namespace Go.Proofs.YtmddchceacmopaaDoor.eliminationExamples
open Go.ChangeShapes Go.WideShapes Go.ChangeAt Go.RowKit
set_option linter.unusedVariables false
theorem own : ownKnob Tryd.prog.godebug = none := by kernel_rfl
theorem laidOut : laidOutB Tryd.prog = true := by kernel_rfl
theorem gTab : Tryd.prog.globalNamed "math/bits.deBruijn64tab" = some 0 := by kernel_rfl
theorem tTab : (Tryd.prog.globals[0]?).map (·.type) = some 142 := by kernel_rfl
theorem und : Tryd.prog.underlying 142 = some (.array 64 5) := by kernel_rfl
theorem undE : Tryd.prog.underlying 5 = some (.int .u8) := by kernel_rfl
theorem cellsE : Tryd.prog.cellsOf 5 = 1 := by kernel_rfl
theorem cellsT : Tryd.prog.cellsOf 142 = 64 := by kernel_rfl
abbrev laid : List (String × DataW Unit) := [("math/bits.deBruijn64tab", Rows.laid_math_bits_deBruijn64tab)]
theorem tab_list : (Rows.laid_math_bits_deBruijn64tab : DataW Unit) = .agg ((List.range 64).map fun j => .lit (.int .u8 (Lib.deBruijn64tab.getD j 0 : Nat))) := by rfl
theorem int_of_trod {H : Type} {enc : TypeId × Value → H} {P : Program} {w : World} {base : Nat} {sp : Nat → Bool} {held : Bool} {fuel : Nat} {t : TypeId} {k : IntKind} {c : Value} {y : DataW H × List MemPlace}
  (ht : P.underlying t = some (.int k)) (h : DataW.trod enc P w base sp held fuel t [c] = some y) : ∃ n, c = .int k n ∧ y = (.lit (.int k n), []) := by
 cases fuel with
 | zero => simp [DataW.trod] at h
 | succ fuel =>
  cases c <;> simp [DataW.trod, ht] at h
  rename_i k' n
  obtain ⟨⟨rfl, _⟩, rfl⟩ := h
  exact ⟨n, rfl, rfl⟩
theorem tab_of_laid {W : World} (h : laidMetH Tryd.prog laid W) : TabW W := by
 have h' : laidMet Tryd.prog laid W := h
 obtain ⟨ps, ⟨g, t, cs, fuel, p, q, hg, ht, hvar, hd, _, _⟩, _⟩ := h'
 obtain rfl := Option.some.inj (gTab.symm.trans hg)
 obtain rfl := Option.some.inj (tTab.symm.trans ht)
 obtain ⟨xs, m, rfl, hx, hl, hxl, hel⟩ := DataW.trod_array und hd
 rw [tab_list] at hx
 simp only [Prod.mk.injEq, DataW.agg.injEq] at hx
 obtain ⟨hx, _⟩ := hx
 rw [cellsT] at hl
 intro j hj
 have hv := World.var?_cell gTab hvar j
 rw [hv]
 have e := hel j hj
 rw [cellsE, Nat.mul_one] at e
 have hjl : j < cs.toList.length := by omega
 have hdt : (cs.toList.drop j).take 1 = [cs.toList[j]] := by
  rw [List.drop_eq_getElem_cons hjl]; rfl
 rw [hdt, List.getElem?_eq_getElem (by omega)] at e
 obtain ⟨n, hc, hy⟩ := int_of_trod undE e
 have hm : (xs.map (·.1))[j]? = some (.lit (.int .u8 n)) := by
  rw [List.getElem?_map, List.getElem?_eq_getElem (by omega)]
  simp [hy]
 rw [← hx, List.getElem?_map, List.getElem?_range hj] at hm
 simp at hm
 rw [← Array.getElem?_toList, List.getElem?_eq_getElem hjl, hc, ← hm]
 simp
theorem door_met (os : Os) (args : Array Value) : laidMetH Tryd.prog laid ((World.doorLaid Tryd.prog 400 os).forCall (fun _ _ => 0) ⟨#[], args, []⟩).memory :=
 laidMetH_of_parts (laidMet_of_run' 8 (by kernel_rfl) (by kernel_rfl)) (by kernel_rfl)
set_option maxRecDepth 100000 in
theorem lifted (os : Os) (started : os.Started) (H : Type) (enc : TypeId × Value → H) :
  ReturnsInHanded {} Tryd.checked os 3 .any (fun w args => (Rows.eliminationExamplesSpec.pre enc Tryd.prog Tryd.f3 [] false w args ∧ laidMetH Tryd.prog laid w) ∧ sizedMet enc Tryd.prog Tryd.f3 (OpenSpec.ofChange Rows.eliminationExamplesSpec) false w args)
   (Rows.eliminationExamplesSpec.post enc Tryd.prog Tryd.f3 false true false false) := by
 refine returnsInHanded_of_change_and (C := Tryd.checked) (X := fun w _ => laidMetH Tryd.prog laid w) (fun _ _ _ hh h => h.of_heap hh) own started (by kernel_rfl) Tryd.func3
  (ChangeSpec.witness_shaped (enc := enc) (C := Tryd.checked) (os := os) (X := fun w _ => laidMetH Tryd.prog laid w) false (World.doorLaid Tryd.prog 400 os) #[] 8 rfl (World.shaped_of_RefB (by kernel_rfl) (by kernel_rfl)) (by kernel_rfl) (by kernel_rfl) (by kernel_rfl) (door_met os _)) ?_
 intro W base args ds gs before hval0 hW _ _ hL _
 have hval : ∀ (j : Nat) t v, Tryd.f3.params[j]? = some t → args[j]? = some v → Value.okWide Tryd.prog W .any base t v := hval0
 have hW' := hW
 obtain ⟨p, q, hA0, hV, rfl, hfz, hnd⟩ := hW
 have hA : DataW.TrodAll enc Tryd.prog W 0 (fun _ => true) true Tryd.f3.params.toList args.toList ds p := hA0
 rw [Tryd.params3] at hA hval
 obtain ⟨hargs, rfl, rfl⟩ := trodAll_nil hA
 obtain rfl : args = #[] := by cases args; simp_all
 obtain ⟨rfl, rfl⟩ := trodVars_none hV
 clear hA0 hval0
 refine (eliminationExamples_any W (tab_of_laid hL)).mono fun e W' ⟨he, hx⟩ => ?_
 have bel := hx.belowNo
 subst he
 exact ⟨_, rfl, _, _, _, [], _, [], hW', trodAll_mk1 (shut_bool Tryd.underlying4 _), trodAll_mk0, rfl, bel.frame _, fun h => by cases h⟩
theorem over : Rows.EliminationExamplesSaid :=
 OpenClaim.holds_of_wide 3 Tryd.f3 rfl rfl rfl rfl rfl rfl rfl ⟨rfl, rfl, rfl, rfl, rfl⟩ rfl rfl rfl rfl rfl (by kernel_rfl) Tryd.func3 (by kernel_rfl)
  (of_decide_eq_true (by kernel_rfl)) (by unfold Func.isWrapper; first | (rw [if_pos (by decide +kernel)]; kernel_rfl) | (rw [if_neg (by decide +kernel)]; exact ⟨rfl, rfl⟩))
  (fun os started H enc _ => lifted os started H enc)
theorem proved : Rows.EliminationExamplesCardSaid :=
 Claim7.holds_tied_plain_at .later [] [.data] true (true, "972a991f2f57d473054efbb2992fad2b477b3c368b5245bb4c1424893be309b2") false
  over (fun _ h => by cases h) (by kernel_rfl) (fun _ h => by cases h) eliminationExamples_row_tie rfl ⟨rfl, rfl⟩ (by kernel_rfl) rfl
  (fun f fn hf hfn => by
   obtain rfl : f = 3 := Option.some.inj ((show Tryd.prog.funcNamed "flowquery/flqlaw13.EliminationExamples" = some 3 by kernel_rfl).symm.trans hf) |>.symm
   obtain rfl : fn = Tryd.f3 := (Option.some.inj (Tryd.func3.symm.trans hfn)).symm
   exact ⟨by kernel_rfl, fun j t ht => by
    rw [Tryd.params3] at ht
    simp at ht⟩)
  (by kernel_rfl)
#print axioms proved
end Go.Proofs.YtmddchceacmopaaDoor.eliminationExamples

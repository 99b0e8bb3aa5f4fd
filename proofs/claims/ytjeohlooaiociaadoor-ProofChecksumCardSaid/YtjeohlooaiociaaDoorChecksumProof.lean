/- ProofChecksum: the given statement ProofChecksumCardSaid (the tied card: the law returns true whenever it is called as its row says), proved with no further condition. -/
import Derived.Test.YtjeohlooaiociaaDoorP16
import Derived.Test.YtjeohlooaiociaaDoorRows
import Derived.Test.YtjeohlooaiociaaDoorTie
import Derived.Test.YtjeohlooaiociaaDoorCards
import Derived.WalkKit
import Derived.ProofKit
import Derived.OpenShut
import Derived.ChangeOld
import Derived.Below
import Derived.LaidLaws
import Derived.LaidHandle
import Derived.LaidMore
import Derived.SevenTiedAt
set_option linter.unusedVariables false
set_option linter.unusedSimpArgs false
/- P17 -/
namespace Go.Proofs.YtjeohlooaiociaaDoor
open Go Go.RowKit Tj

theorem Row.ofArg {w : World} {k : IntKind} {x : Addr} {len cap : Nat} {zs : List Int} (hl : len ≤ cap) (hm : cap ≤ maxLen) (hz : zs.length = cap) (hc : ∀ i, i < zs.length → w.cell? (x.add i) = some (.int k (zs.getD i 0))) :
  Row No w 1 (.slice (some x) len cap) (zs.take len).length ((zs.take len).map (.int k)) := by
 have hlen : (zs.take len).length = len := by simp; omega
 rw [hlen]
 refine ⟨by simp; omega, by simp only [maxLen] at hm; omega, some x, cap, rfl, ⟨hl, by simp only [maxLen] at hm; omega⟩, ?_⟩
 by_cases h0 : len = 0
 ·exact .inl h0
 ·right
  have h1 := hc 0 (by omega)
  have hx0 : x.add 0 = x := by simp [Addr.add]
  rw [hx0] at h1
  obtain ⟨b, off, sp⟩ := x
  have hsp : sp = none := by
   cases sp with
   | none => rfl
   | some s =>
    exfalso
    simp only [World.cell?] at h1
    split at h1 <;> simp at h1
  subst hsp
  refine ⟨b, off, rfl, World.block_lt_of_cell? w _ h1, fun x => x.elim, fun j u hj => ?_⟩
  have hj2 : j < len := by
   have := (List.getElem?_eq_some_iff.1 hj).1
   simp at this
   omega
  have h2 := hc j (by omega)
  have hadd : (⟨b, off, none⟩ : Addr).add j = ⟨b, off + j, none⟩ := by unfold Addr.add; split <;> simp_all
  rw [hadd] at h2
  rw [h2]
  rw [← hj]
  have hjz : j < zs.length := by omega
  simp [hj2, hjz]
theorem Ext.belowNo {w w' : World} (h : Ext No w w') : Below w.heap.size w w' := ⟨h.os, h.tape, h.output, h.size, fun k hk => h.block k hk (fun x => x.elim)⟩
theorem nats_of {zs : List Int} (h : ∀ z ∈ zs, (Lit.int .u8 z).wf = true) : ∃ l : List Nat, zs = natsZ l ∧ ∀ b ∈ l, b < 256 := by
 have bd : ∀ z ∈ zs, 0 ≤ z ∧ z < 256 := fun z hz => by
  have w0 := h z hz
  simp only [Lit.wf, Bool.and_eq_true, decide_eq_true_eq] at w0
  have e1 : IntKind.min .u8 = 0 := by decide
  have e2 : IntKind.max .u8 = 255 := by decide
  rw [e1, e2] at w0
  omega
 refine ⟨zs.map Int.toNat, ?_, fun b hb => ?_⟩
 ·unfold natsZ
  rw [List.map_map]
  refine (List.map_id zs).symm.trans (List.map_congr_left fun z hz => ?_)
  have := (bd z hz).1
  simp; omega
 ·obtain ⟨z, hz, rfl⟩ := List.mem_map.1 hb
  have := bd z hz
  omega
set_option maxRecDepth 100000 in
theorem proofChecksum_any (sl : Value) (l : List Nat) (W : World) (h : Ints No W .u8 sl (natsZ l)) (hb : ∀ b ∈ l, b < 256) (hT : TabW W) :
  Calls Tryd.prog 3 #[sl] W (BoolPost true W) := by
 have H := Lib.hid h
 have HB := Lib.hid hb
 have HT := Lib.hid hT
 obtain ⟨a, c, rfl⟩ := Row.slice h
 have hln : (natsZ l).length = l.length := by simp [natsZ]
 have HL := Lib.hid hln
 clear h hb hT
 obtain ⟨n, hn⟩ : ∃ n, n = (natsZ l).length := ⟨_, rfl⟩
 rw [show (natsZ l).length = n from hn.symm] at H ⊢
 clear hn hln
 have hx0 : Ext No W W := Ext.refl _ _
 by_cases hg : (1000 : Int) < (n : Int)
 ·go_enter Tryd.func3, Tryd.ntmps3
  go_wp2_with fail
  go_ret
  exact ⟨rfl, hx0⟩
 ·go_enter Tryd.func3, Tryd.ntmps3
  go_wp2_with fail
  refine (pchecksum_any l _ _ H.out HB.out).mono ?_
  rintro e1 w1 ⟨rfl, hx1⟩
  go_wp2_with fail
  refine (rchecksum_any l _ _ (H.out.extNo hx1) HB.out).mono ?_
  rintro e2 w2 ⟨rfl, hx2⟩
  have HX := Lib.hid (hx1.transNo hx2)
  clear hx1 hx2
  go_wp2_with fail
  refine (rints_any (.slice none 0 0) (.slice none 0 0) [] [] _ (Row.nil _ _ _ _ _ (by omega)) (Row.nil _ _ _ _ _ (by omega))).mono ?_
  rintro e3 w3 ⟨rfl, hx3⟩
  replace HX := Lib.hid (HX.out.transNo hx3)
  clear hx3
  rw [decide_eq_true rfl]
  go_wp2_with fail
  refine (sane17_any _ (HT.out.ext HX.out)).mono ?_
  rintro e4 w4 ⟨rfl, hx4⟩
  replace HX := Lib.hid (HX.out.transNo hx4)
  clear hx4
  go_wp2_with fail
  go_ret
  exact ⟨rfl, HX.out⟩
theorem bytes_of {w : World} {x : Addr} {len cap : Nat} {zs : List Int} (hwz : ∀ z ∈ zs, (Lit.int .u8 z).wf = true) (hl : len ≤ cap) (hm : cap ≤ maxLen) (hz : zs.length = cap) (hc : ∀ i, i < zs.length → w.cell? (x.add i) = some (.int .u8 (zs.getD i 0))) :
  ∃ l : List Nat, Ints No w .u8 (.slice (some x) len cap) (natsZ l) ∧ ∀ b ∈ l, b < 256 := by
 obtain ⟨l, e, hb⟩ := nats_of (zs := zs.take len) (fun z hz' => hwz z (List.mem_of_mem_take hz'))
 exact ⟨l, e ▸ Row.ofArg hl hm hz hc, hb⟩
end Go.Proofs.YtjeohlooaiociaaDoor

/- ChecksumProof -/
namespace Go.Proofs.YtjeohlooaiociaaDoor.proofChecksum
open Go.ChangeShapes Go.WideShapes Go.ChangeAt Go.RowKit
set_option linter.unusedVariables false

theorem own : ownKnob Tryd.prog.godebug = none := by kernel_rfl
theorem laidOut : laidOutB Tryd.prog = true := by kernel_rfl
theorem gTab : Tryd.prog.globalNamed "math/bits.deBruijn64tab" = some 0 := by kernel_rfl
theorem tTab : (Tryd.prog.globals[0]?).map (·.type) = some 103 := by kernel_rfl
theorem und : Tryd.prog.underlying 103 = some (.array 64 5) := by kernel_rfl
theorem undE : Tryd.prog.underlying 5 = some (.int .u8) := by kernel_rfl
theorem cellsE : Tryd.prog.cellsOf 5 = 1 := by kernel_rfl
theorem cellsT : Tryd.prog.cellsOf 103 = 64 := by kernel_rfl
abbrev laid : List (String × DataW Unit) := [("math/bits.deBruijn64tab", Rows.laid_math_bits_deBruijn64tab)]
theorem tab_list : (Rows.laid_math_bits_deBruijn64tab : DataW Unit) = .agg ((List.range 64).map fun j => .lit (.int .u8 (Lib.deBruijn64tab.getD j 0 : Nat))) := by rfl

theorem int_of_trod {H : Type} {enc : TypeId × Value → H} {P : Program} {w : World} {base : Nat} {sp : Nat → Bool} {held : Bool} {fuel : Nat} {t : TypeId} {k : IntKind} {c : Value} {y : DataW H × List MemPlace}
  (ht : P.underlying t = some (.int k)) (h : DataW.trod enc P w base sp held fuel t [c] = some y) : ∃ n, c = .int k n ∧ y = (.lit (.int k n), []) := by
 cases fuel with
 | zero => simp [DataW.trod] at h
 | succ fuel =>
  cases c <;> simp [DataW.trod, ht] at h
  rename_i k' n
  obtain ⟨⟨rfl, _⟩, rfl⟩ := h
  exact ⟨n, rfl, rfl⟩

theorem tab_of_laid {W : World} (h : laidMetH Tryd.prog laid W) : TabW W := by
 have h' : laidMet Tryd.prog laid W := h
 obtain ⟨ps, ⟨g, t, cs, fuel, p, q, hg, ht, hvar, hd, _, _⟩, _⟩ := h'
 obtain rfl := Option.some.inj (gTab.symm.trans hg)
 obtain rfl := Option.some.inj (tTab.symm.trans ht)
 obtain ⟨xs, m, rfl, hx, hl, hxl, hel⟩ := DataW.trod_array und hd
 rw [tab_list] at hx
 simp only [Prod.mk.injEq, DataW.agg.injEq] at hx
 obtain ⟨hx, _⟩ := hx
 rw [cellsT] at hl
 intro j hj
 have hv := World.var?_cell gTab hvar j
 rw [hv]
 have e := hel j hj
 rw [cellsE, Nat.mul_one] at e
 have hjl : j < cs.toList.length := by omega
 have hdt : (cs.toList.drop j).take 1 = [cs.toList[j]] := by
  rw [List.drop_eq_getElem_cons hjl]; rfl
 rw [hdt, List.getElem?_eq_getElem (by omega)] at e
 obtain ⟨n, hc, hy⟩ := int_of_trod undE e
 have hm : (xs.map (·.1))[j]? = some (.lit (.int .u8 n)) := by
  rw [List.getElem?_map, List.getElem?_eq_getElem (by omega)]
  simp [hy]
 rw [← hx, List.getElem?_map, List.getElem?_range hj] at hm
 simp at hm
 rw [← Array.getElem?_toList, List.getElem?_eq_getElem hjl, hc, ← hm]
 simp

theorem door_met (os : Os) (args : Array Value) : laidMetH Tryd.prog laid ((World.doorLaid Tryd.prog 400 os).forCall (fun _ _ => 0) ⟨#[], args, []⟩).memory :=
 laidMetH_of_parts (laidMet_of_run' 8 (by kernel_rfl) (by kernel_rfl)) (by kernel_rfl)

set_option maxRecDepth 100000 in
theorem lifted (os : Os) (started : os.Started) (H : Type) (enc : TypeId × Value → H) :
  ReturnsInHanded {} Tryd.checked os 3 .any (fun w args => (Rows.proofChecksumSpec.pre enc Tryd.prog Tryd.f3 [] false w args ∧ laidMetH Tryd.prog laid w) ∧ sizedMet enc Tryd.prog Tryd.f3 (OpenSpec.ofChange Rows.proofChecksumSpec) false w args)
   (Rows.proofChecksumSpec.post enc Tryd.prog Tryd.f3 false true false false) := by
 refine returnsInHanded_of_change_and (C := Tryd.checked) (X := fun w _ => laidMetH Tryd.prog laid w) (fun _ _ _ hh h => h.of_heap hh) own started (by kernel_rfl) Tryd.func3
  (ChangeSpec.witness_shaped (enc := enc) (C := Tryd.checked) (os := os) (X := fun w _ => laidMetH Tryd.prog laid w) false (World.doorLaid Tryd.prog 400 os) #[.slice none 0 0] 8 rfl (World.shaped_of_RefB (by kernel_rfl) (by kernel_rfl)) (by kernel_rfl) (by kernel_rfl) (by kernel_rfl) (door_met os _)) ?_
 intro W base args ds gs before hval0 hW _ _ hL _
 have hval : ∀ (j : Nat) t v, Tryd.f3.params[j]? = some t → args[j]? = some v → Value.okWide Tryd.prog W .any base t v := hval0
 have hW' := hW
 obtain ⟨p, q, hA0, hV, rfl, hfz, hnd⟩ := hW
 have hA : DataW.TrodAll enc Tryd.prog W 0 (fun _ => true) true Tryd.f3.params.toList args.toList ds p := hA0
 rw [Tryd.params3] at hA hval
 obtain ⟨v0, vs0, d0, ds0, p0, q0, hargs, rfl, rfl, h0, r0⟩ := trodAll_cons hA
 obtain ⟨rfl, rfl, rfl⟩ := trodAll_nil r0
 obtain rfl : args = #[v0] := by cases args; simp_all
 obtain ⟨rfl, rfl⟩ := trodVars_none hV
 have k0 := h0
 have lt0 : ∀ x ∈ p0, x.block < W.heap.size := by obtain ⟨m, hm⟩ := k0; exact DataW.trod_lt m _ _ _ hm
 obtain ⟨a0, len0, cap0, rfl⟩ := okWide_slice Tryd.underlying22 (hval 0 22 v0 rfl rfl)
 obtain ⟨z0, w0, b0⟩ : ∃ l : List Nat, Ints No W .u8 (.slice a0 len0 cap0) (natsZ l) ∧ ∀ b ∈ l, b < 256 := by
  obtain ⟨fuel, hf⟩ := h0
  rcases open_ints Tryd.underlying22 Tryd.underlying5 (by kernel_rfl) hf with ⟨hcs, _⟩ | ⟨x, l, c, zs, hcs, _, hl, hm, hz, _, hcell, hwz⟩
  ·simp [Value.cells] at hcs
   obtain ⟨rfl, rfl, rfl⟩ := hcs
   exact ⟨[], Row.nil _ _ _ _ _ (by omega), fun _ hb => by cases hb⟩
  ·simp [Value.cells] at hcs
   obtain ⟨rfl, rfl, rfl⟩ := hcs
   exact bytes_of hwz hl hm (by simpa using hz) hcell
 clear hA0 hval0
 refine (proofChecksum_any _ z0 W w0 b0 (tab_of_laid hL)).mono fun e W' ⟨he, hx⟩ => ?_
 have bel := hx.belowNo
 subst he
 exact ⟨_, rfl, _, _, _, [], _, [], hW', trodAll_mk1 (shut_bool Tryd.underlying4 _), (trodAll_cons_mk (Below.trod laidOut (by kernel_rfl) (of_decide_eq_true (by kernel_rfl)) k0 bel lt0) trodAll_mk0), rfl, bel.frame _, fun h => by cases h⟩

theorem over : Rows.ProofChecksumSaid :=
 OpenClaim.holds_of_wide 3 Tryd.f3 rfl rfl rfl rfl rfl rfl rfl ⟨rfl, rfl, rfl, rfl, rfl⟩ rfl rfl rfl rfl rfl (by kernel_rfl) Tryd.func3 (by kernel_rfl)
  (of_decide_eq_true (by kernel_rfl)) (by unfold Func.isWrapper; first | (rw [if_pos (by decide +kernel)]; kernel_rfl) | (rw [if_neg (by decide +kernel)]; exact ⟨rfl, rfl⟩))
  (fun os started H enc _ => lifted os started H enc)

theorem proved : Rows.ProofChecksumCardSaid :=
 Claim7.holds_tied_plain_at .later [] [.data] true (true, "4f49cf66e4429b8848c26750d51948eb1b2fa2e2055a9aa15cc6611b547288f5") false
  over (fun _ h => by cases h) (by kernel_rfl) (fun _ h => by cases h) proofChecksum_row_tie rfl ⟨rfl, rfl⟩ (by kernel_rfl) rfl
  (fun f fn hf hfn => by
   obtain rfl : f = 3 := Option.some.inj ((show Tryd.prog.funcNamed "flowquery/flqlaw17.ProofChecksum" = some 3 by kernel_rfl).symm.trans hf) |>.symm
   obtain rfl : fn = Tryd.f3 := (Option.some.inj (Tryd.func3.symm.trans hfn)).symm
   exact ⟨by kernel_rfl, fun j t ht => by
    rw [Tryd.params3] at ht
    have hm : t ∈ [22] := by simpa using Array.mem_of_getElem? ht
    have hall : ([22].all fun u => !Tryd.prog.wantsStandIn u) = true := by kernel_rfl
    exact (show Tryd.prog.wantsStandIn t = false by simpa using List.all_eq_true.1 hall t hm)⟩)
  (by kernel_rfl)
#print axioms proved
end Go.Proofs.YtjeohlooaiociaaDoor.proofChecksum

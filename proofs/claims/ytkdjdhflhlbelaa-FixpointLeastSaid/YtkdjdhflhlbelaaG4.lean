/- The walk of FixpointLeast. -/
import Derived.Test.YtkdjdhflhlbelaaF10
import Derived.Test.YtkdjdhflhlbelaaG1
import Derived.Test.YtkdjdhflhlbelaaG2
set_option linter.unusedVariables false
set_option linter.unusedSimpArgs false
namespace Go.Proofs.Ytkdjdhflhlbelaa
open Go Go.RowKit
structure LeM (w wr : World) (A base : Nat) (S : SysD) (R : Nat) (vd vt vb v5 v8 : Value) (L : LS) : Prop where
  ext : Ext No w wr
  box : wr.heap[A]? = some (.cells #[.int .i64 (S.w : Int), vd, vt, vb] 29 (0, 0))
  sys : SysAt (fun b => base ≤ b) wr vd vt vb S
  sol : SetsV (fun b => base ≤ b) wr v5 S.w (iterD S R)
  own : LOwn kS No wr base v8 L
  low : A < base
  w0 : w.heap.size ≤ base
section
variable {w wr w' : World} {A base R : Nat} {S : SysD} {vd vt vb v5 v8 : Value} {L : LS} {p : RawSet × Value}
theorem LeM.stepNo (h : LeM w wr A base S R vd vt vb v5 v8 L) (hx : Ext No wr w') : LeM w w' A base S R vd vt vb v5 v8 L :=
  ⟨h.ext.transNo hx, hx.blk h.box no_no, h.sys.extNo hx, h.sol.extNo hx, h.own.extNo hx, h.low, h.w0⟩
theorem LeM.own2 (h : LeM w wr A base S R vd vt vb v5 v8 L) : SetsOwn No wr base v8 L := ⟨h.own.own, h.own.ok⟩
theorem LeM.put {g cap i : Nat} (h : LeM w wr A base S R vd vt vb v5 (.slice (some ⟨g, 0, none⟩) L.length cap) L) (hi : i < L.length) (hp : WordsAt (fun b => b = g) wr p.2 p.1.words) :
    LeM w ((wr.setCell ⟨g, i * 2, none⟩ (.int .i64 p.1.width)).setCell ⟨g, i * 2 + 1, none⟩ p.2) A base S R vd vt vb v5 (.slice (some ⟨g, 0, none⟩) L.length cap) (L.set i p) := by
  have h1 := h.low
  have h2 := (h.own.lt g rfl).1
  have h3 := h.w0
  have hput := h.own2.put hi (hp.mono (fun i _ e => by rcases e with e | e; exact e.elim; exact e))
  have hE : Ext (At g) wr ((wr.setCell ⟨g, i * 2, none⟩ (.int .i64 p.1.width)).setCell ⟨g, i * 2 + 1, none⟩ p.2) := ((Ext.refl (At g) wr).setAt _ _).setAt _ _
  exact ⟨h.ext.trans2 hE (fun i hi e => by unfold At at e; omega), hE.blk h.box (by unfold At; omega), h.sys.ext hE (fun i _ e => by unfold At at e; omega), h.sol.ext hE (fun i _ e => by unfold At at e; omega), ⟨hput.own, hput.ok⟩, h1, h3⟩
theorem LeM.vals {vs : List Nat} (h : LeM w wr A base S R vd vt vb v5 v8 L) (he : L.map Prod.fst = vs.map (setN S.w)) (hm : ∀ m ∈ vs, m < 2 ^ S.w) : SetsV No wr v8 S.w vs :=
  (h.own.list (M := No) (fun _ _ e => e) (fun _ e => e)).setsV he h.sys.ok.w hm
end
theorem set_vals {L : LS} {xs : List Nat} {w k m : Nat} {v : Value} (h : L.map Prod.fst = xs.map (setN w)) : (L.set k (setN w m, v)).map Prod.fst = (xs.set k m).map (setN w) := by rw [List.map_set, h, List.map_set]
theorem upTo_set2 {vs nx : List Nat} {n k : Nat} (hk : k < n) : (upTo vs nx n k).set k (orN (rowD vs k) (rowD nx k)) = upTo vs nx n (k + 1) := upTo_set hk
set_option maxRecDepth 100000 in
set_option maxHeartbeats 16000000 in
theorem fixpointLeast_any (tl : Value) (zs : List Int) (w : World) (ht : Ints No w .i64 tl zs) : Calls Try.prog 6 #[tl] w fun e w' => e = .returned (.bool true) ∧ Ext No w w' := by
  have HT := Lib.hid ht
  obtain ⟨at', ct', rfl⟩ := Row.slice ht
  clear ht
  go_enter Try.func6, Try.ntmps6
  go_wp2_with fail
  refine (new_any _ zs _ HT.out).mono ?_
  rintro e0 w0 ⟨rfl, ht0, hx0, hs0⟩
  obtain ⟨tb, htb⟩ : ∃ tb, tb = w.heap.size := ⟨_, rfl⟩
  rw [← htb] at ht0 ⊢
  have HTB := Lib.hid htb
  clear htb
  go_wp2_with fail
  refine (sysgen_any tb 6 _ (by decide) (by decide) ht0).mono ?_
  rintro e1 w1 ⟨S, vd, vt, vb, rfl, hw4, hn5, hS, ht1, hx1⟩
  have hok := hS.out.ok
  obtain ⟨ad, cd, at1, ct, ab, cb, rfl, rfl, rfl⟩ := hS.out.slices
  have hxa : Ext No w1 (w1.alloc (.cells #[.int .i64 (S.w : Int), .slice ad S.deps.length cd, .slice at1 S.deps.length ct, .slice ab S.deps.length cb] 29)) := (Ext.refl _ _).alloc _
  have HA := Lib.hid (alloc_top (w := w1) (o := (.cells #[.int .i64 (S.w : Int), .slice ad S.deps.length cd, .slice at1 S.deps.length ct, .slice ab S.deps.length cb] 29)) rfl)
  have HS := Lib.hid ((hS.out.mono (M' := At tb) (fun i hi e => by unfold Lo; have := ht0.lt; unfold At at e; omega)).extNo hxa)
  have HX := Lib.hid ((hx0.trans2 hx1 (fun i hi e => by unfold At at e; have := HTB.out; omega)).transNo hxa)
  have HT1 := Lib.hid (ht1.ext hxa)
  have htA : tb < w1.heap.size := ht1.lt
  have HOK := Lib.hid hok
  have hnn := hok.n2
  have hn1 := hok.n1
  have hww := hok.w
  clear hx0 hs0 ht0 hS ht1 hx1 hxa hok
  have cA := cellOf HA.out
  go_wp2_with fail
  clear cA
  generalize (w1.alloc (.cells #[.int .i64 (S.w : Int), .slice ad S.deps.length cd, .slice at1 S.deps.length ct, .slice ab S.deps.length cb] 29)) = V1 at *
  have hlA : w1.heap.size < V1.heap.size := lt_of_block HA.out
  generalize w1.heap.size = A at *
  refine (sysSolve_any (At tb) S _ _ _ V1 (fun b e => by unfold At at e; omega) HS.out.no).mono ?_
  rintro e2 w2 ⟨R, a5, c5, hR, rfl, hs5, hx2⟩
  have HR := Lib.hid hR
  have HRB := Lib.hid (FixAt.bound HOK.out hR)
  have HS2 := Lib.hid (HS.out.extNo hx2)
  have HX2 := Lib.hid (HX.out.transNo hx2)
  have HT2 := Lib.hid (HT1.out.ext hx2)
  have HA2 := Lib.hid (hx2.blk HA.out no_no)
  have hgi := good_iter HOK.out R
  have hfx : iterD S R = nextD S (iterD S R) := hR.fix.symm
  clear HS HX HT1 HA hx2 hR
  have cA := cellOf HA2.out
  go_wp2_with fail
  refine (isSol_any S _ _ _ _ (iterD S R) _ HS2.out.no hs5.out.no hgi.len).mono ?_
  rw [decide_eq_true hfx]
  rintro e3 w3 ⟨rfl, hx3⟩
  have HS3 := Lib.hid (HS2.out.extNo hx3)
  have HX3 := Lib.hid (HX2.out.transNo hx3)
  have HT3 := Lib.hid (HT2.out.ext hx3)
  have HA3 := Lib.hid (hx3.blk HA2.out no_no)
  have HV3 := Lib.hid (hs5.out.extNo hx3)
  have HG := Lib.hid hgi
  clear HS2 HX2 HT2 HA2 hx3 hs5 hgi hfx cA
  have cA := cellOf HA3.out
  have hb2 : S.deps.length * S.w ≤ 24 := Nat.le_trans (Nat.mul_le_mul hn5 hw4) (by decide)
  have hmul : IntKind.i64.wrap ((S.deps.length : Int) * (S.w : Int)) = ((S.deps.length * S.w : Nat) : Int) := by
    rw [show (S.deps.length : Int) * (S.w : Int) = ((S.deps.length * S.w : Nat) : Int) from by simp]
    exact IntWalk.i64_in _ (by omega)
  obtain ⟨P, hP⟩ : ∃ P : Nat, P = S.deps.length * S.w := ⟨_, rfl⟩
  have HP := Lib.hid hP
  rw [← hP] at hmul hb2
  have hRP : R ≤ P := by rw [hP]; exact HRB.out
  clear hP
  have hadd : IntKind.i64.wrap ((P : Int) + 1) = (P : Int) + 1 := IntWalk.i64_in _ (by omega)
  have hcmp : ¬ ((P : Int) + 1 < (R : Int)) := by omega
  go_wp2_with fail
  clear cA
  refine (values_any tb S.w S.deps.length _ _ _ _ _ (by omega) (by omega) (by omega) HT3.out).mono ?_
  rintro e4 w4 ⟨v8, L, rfl, hL, hown, ht4, hx4⟩
  obtain ⟨base, hbase⟩ : ∃ base, base = w3.heap.size := ⟨_, rfl⟩
  have hA3 := lt_of_block HA3.out
  have HLM := Lib.hid (show LeM w w4 A base S R (.slice ad S.deps.length cd) (.slice at1 S.deps.length ct) (.slice ab S.deps.length cb) (.slice a5 S.deps.length c5) v8 L from by
    rw [hbase]
    have h3 := HX3.out.size
    exact ⟨HX3.out.trans2 hx4 (fun i hi e => by unfold At at e; have := HTB.out; omega), hx4.blk HA3.out (by unfold At; omega), ((HS3.out.mono (M' := fun b => b = tb ∨ w3.heap.size ≤ b) (fun i hi e => by unfold At; omega)).ext hx4 (fun i _ e => .inl e)).mono (fun i _ e => .inr e), ((HV3.out.mono (M' := fun b => b = tb ∨ w3.heap.size ≤ b) (fun i hi e => by unfold At; omega)).ext hx4 (fun i _ e => .inl e)).mono (fun i _ e => .inr e), hown.out.mono (fun _ _ e => e.elim), hA3, h3⟩)
  obtain ⟨a8, c8, rfl⟩ := hown.out.slice
  clear HS3 HX3 HT3 HA3 HV3 hown ht4 hx4 hbase hA3 hL hcmp hRP
  have cA := cellOf HLM.out.box
  by_cases hlen : L.length = S.deps.length
  · have hlz : ((L.length : Int) == (S.deps.length : Int)) = true := by simp [hlen]
    rw [hlen] at HLM ⊢
    obtain ⟨g, rfl, -, hgs, -, -, -⟩ := HLM.out.own2.ownAt (k := 0) (by omega)
    have HLEN := Lib.hid hlen
    clear hlen hlz
    go_wp2_with fail
    clear cA
    go_loopw [9] (fun s9 wr => ∃ k : Nat, s9 = .int .i64 k ∧ k ≤ S.deps.length ∧ Hid (LeM w wr A base S R (.slice ad S.deps.length cd) (.slice at1 S.deps.length ct) (.slice ab S.deps.length cb) (.slice a5 S.deps.length c5) (.slice (some ⟨g, 0, none⟩) S.deps.length c8) L) ∧ Hid (∀ i (h : i < L.length), i < k → FitS (S.w : Int) L[i].1)) (fun s9 _ => S.deps.length - (intOf s9).toNat)
    case atStart => exact ⟨0, rfl, Nat.zero_le _, HLM, Lib.hid (fun i h e => absurd e (Nat.not_lt_zero _))⟩
    case round =>
      clear HLM
      obtain ⟨k, rfl, hk, hm, hfit⟩ := hrel
      rename World => wr
      by_cases hlt : k < S.deps.length
      · have hlz : (k : Int) < (S.deps.length : Int) := by omega
        have hkL : k < L.length := by rw [HLEN.out]; exact hlt
        obtain ⟨g', hg', -, -, -, hcell, -⟩ := hm.out.own2.ownAt (k := k) hkL
        simp only [Option.some.injEq, Addr.mk.injEq, and_true] at hg'
        subst hg'
        obtain ⟨q0, q1⟩ := hcell k hkL
        have hw6 : WordsAt No wr L[k].2 L[k].1.words := (hm.out.own2.ok _ (List.getElem_mem hkL)).mono (fun _ _ e => e.elim)
        obtain ⟨a6, c6, e6⟩ := hw6.slice
        rw [e6] at q1 hw6
        obtain ⟨r6, hr6⟩ : ∃ r6, r6 = L[k].1 := ⟨_, rfl⟩
        rw [← hr6] at q0 q1 hw6 e6
        have HR6 := Lib.hid hr6
        have HW6 := Lib.hid (show RawV No wr (.agg #[.int .i64 r6.width, .slice a6 r6.words.length c6]) r6 from ⟨_, rfl, hw6⟩)
        have HQ := Lib.hid (And.intro q0 q1)
        have cA := cellOf hm.out.box
        clear hcell e6 hw6 q0 q1 hr6
        go_upto_region 12 with (fail)
        clear cA
        by_cases hval : validB r6 = true
        · skip
          refine wp_region_held_drew (S := (fun w' => Ext No wr w')) (by kernel_rfl) ?_ (fun hHeld => ?_)
          · exact (Ext.refl _ _).drew
          refine held_take (i := 0) (v := ?_) rfl (by kernel_rfl) (by kernel_rfl) (by kernel_rfl) (fun _ _ _ h => h) rfl (fun w hSw => ?_) hHeld ?_
          rotate_left
          · go_simp; (try with_reducible rfl)
          try simp only [Act.put, List.setIfInBounds_toArray, List.set_cons_zero, List.set_cons_succ]
          refine held_take (i := 1) (v := ?_) rfl (by kernel_rfl) (by kernel_rfl) (by kernel_rfl) (fun _ _ _ h => h) rfl (fun w hSw => ?_) hHeld ?_
          rotate_left
          · go_simp; (try with_reducible rfl)
          try simp only [Act.put, List.setIfInBounds_toArray, List.set_cons_zero, List.set_cons_succ]
          refine held_take (i := 2) (v := ?_) rfl (by kernel_rfl) (by kernel_rfl) (by kernel_rfl) (fun _ _ _ h => h) rfl (fun w hSw => ?_) hHeld ?_
          rotate_left
          · go_simp; (try with_reducible rfl)
          try simp only [Act.put, List.setIfInBounds_toArray, List.set_cons_zero, List.set_cons_succ]
          refine held_take (i := 3) (v := ?_) rfl (by kernel_rfl) (by kernel_rfl) (by kernel_rfl) (fun _ _ _ h => h) rfl (fun w hSw => ?_) hHeld ?_
          rotate_left
          · (have hEs : Ext No wr _ := hSw); (obtain ⟨p0, p1⟩ := HQ.out); (have x0 := hEs.keep p0); (have x1 := hEs.keep p1); go_simp; (try with_reducible rfl)
          try simp only [Act.put, List.setIfInBounds_toArray, List.set_cons_zero, List.set_cons_succ]
          refine held_call (i := 4) rfl (by kernel_rfl) rfl (fun K hK => ?_)
          ((have hEx : Ext No wr _ := hHeld); go_simp; (go_at_call 27); (refine (rvalid_any _ r6 _ (HW6.out.extNo hEx)).mono ?_); (rintro e9 w9 ⟨rfl, hyA⟩); (rw [hval]); go_simp)
          refine hK.out _ _ ?_ (fun hNew => ?_)
          · exact Ext.transNo (show Ext No wr _ from hHeld) hyA
          clear hK K hHeld
          have hHeld := hNew
          clear hNew
          try simp only [Act.put, List.setIfInBounds_toArray, List.set_cons_zero, List.set_cons_succ]
          refine held_take (i := 5) (v := ?_) rfl (by kernel_rfl) (by kernel_rfl) (by kernel_rfl) (fun _ _ _ h => h) rfl (fun w hSw => ?_) hHeld ?_
          rotate_left
          · go_simp; (try with_reducible rfl)
          try simp only [Act.put, List.setIfInBounds_toArray, List.set_cons_zero, List.set_cons_succ]
          refine held_take (i := 6) (v := ?_) rfl (by kernel_rfl) (by kernel_rfl) (by kernel_rfl) (fun _ _ _ h => h) rfl (fun w hSw => ?_) hHeld ?_
          rotate_left
          · go_simp; (try with_reducible rfl)
          try simp only [Act.put, List.setIfInBounds_toArray, List.set_cons_zero, List.set_cons_succ]
          refine held_take (i := 7) (v := ?_) rfl (by kernel_rfl) (by kernel_rfl) (by kernel_rfl) (fun _ _ _ h => h) rfl (fun w hSw => ?_) hHeld ?_
          rotate_left
          · go_simp; (try with_reducible rfl)
          try simp only [Act.put, List.setIfInBounds_toArray, List.set_cons_zero, List.set_cons_succ]
          refine held_take (i := 8) (v := ?_) rfl (by kernel_rfl) (by kernel_rfl) (by kernel_rfl) (fun _ _ _ h => h) rfl (fun w hSw => ?_) hHeld ?_
          rotate_left
          · go_simp; (try with_reducible rfl)
          try simp only [Act.put, List.setIfInBounds_toArray, List.set_cons_zero, List.set_cons_succ]
          refine held_take (i := 9) (v := ?_) rfl (by kernel_rfl) (by kernel_rfl) (by kernel_rfl) (fun _ _ _ h => h) rfl (fun w hSw => ?_) hHeld ?_
          rotate_left
          · go_simp; (try with_reducible rfl)
          try simp only [Act.put, List.setIfInBounds_toArray, List.set_cons_zero, List.set_cons_succ]
          refine held_take (i := 10) (v := ?_) rfl (by kernel_rfl) (by kernel_rfl) (by kernel_rfl) (fun _ _ _ h => h) rfl (fun w hSw => ?_) hHeld ?_
          rotate_left
          · go_simp; (try with_reducible rfl)
          try simp only [Act.put, List.setIfInBounds_toArray, List.set_cons_zero, List.set_cons_succ]
          refine held_take (i := 11) (v := ?_) rfl (by kernel_rfl) (by kernel_rfl) (by kernel_rfl) (fun _ _ _ h => h) rfl (fun w hSw => ?_) hHeld ?_
          rotate_left
          · (have hEs : Ext No wr _ := hSw); (obtain ⟨p0, p1⟩ := HQ.out); (have x0 := hEs.keep p0); go_simp; (try with_reducible rfl)
          try simp only [Act.put, List.setIfInBounds_toArray, List.set_cons_zero, List.set_cons_succ]
          refine held_take (i := 12) (v := ?_) rfl (by kernel_rfl) (by kernel_rfl) (by kernel_rfl) (fun _ _ _ h => h) rfl (fun w hSw => ?_) hHeld ?_
          rotate_left
          · go_simp; (try with_reducible rfl)
          try simp only [Act.put, List.setIfInBounds_toArray, List.set_cons_zero, List.set_cons_succ]
          refine held_take (i := 13) (v := ?_) rfl (by kernel_rfl) (by kernel_rfl) (by kernel_rfl) (fun _ _ _ h => h) rfl (fun w hSw => ?_) hHeld ?_
          rotate_left
          · (have hEs : Ext No wr _ := hSw); (have x0 := cellOf (hEs.blk hm.out.box no_no)); go_simp; (try with_reducible rfl)
          try simp only [Act.put, List.setIfInBounds_toArray, List.set_cons_zero, List.set_cons_succ]
          refine held_take (i := 14) (v := ?_) rfl (by kernel_rfl) (by kernel_rfl) (by kernel_rfl) (fun _ _ _ h => h) rfl (fun w hSw => ?_) hHeld ?_
          rotate_left
          · go_simp; (try with_reducible rfl)
          try simp only [Act.put, List.setIfInBounds_toArray, List.set_cons_zero, List.set_cons_succ]
          refine held_take (i := 15) (v := ?_) rfl (by kernel_rfl) (by kernel_rfl) (by kernel_rfl) (fun _ _ _ h => h) rfl (fun w hSw => ?_) hHeld ?_
          rotate_left
          · go_simp; (try with_reducible rfl)
          try simp only [Act.put, List.setIfInBounds_toArray, List.set_cons_zero, List.set_cons_succ]
          refine wpAnyH_done (by kernel_rfl) ?_ _
          have hEx : Ext No wr _ := hHeld
          by_cases hwd : r6.width = (S.w : Int)
          · have hwq : (r6.width == (S.w : Int)) = true := by simp [hwd]
            go_wp2_with fail
            go_roundw
            case rel => exact ⟨k + 1, by go_num, by omega, Lib.hid (hm.out.stepNo hEx), Lib.hid (fun i h e => by
              by_cases hik : i = k
              · subst hik
                rw [← HR6.out]; exact ⟨hval, hwd⟩
              · exact hfit.out i h (by omega))⟩
            case measure => simp [intOf]; omega
          · have hwq : (r6.width == (S.w : Int)) = false := by simp [hwd]
            go_wp2_with fail
            refine (sane11_any _).mono ?_
            rintro e6 w6 ⟨rfl, hx6⟩
            go_wp2_with fail
            go_ret
            exact ⟨rfl, (hm.out.ext.transNo hEx).transNo hx6⟩
        · have hvf : validB r6 = false := by simpa using hval
          refine wp_region_held_drew (S := (fun w' => Ext No wr w')) (by kernel_rfl) ?_ (fun hHeld => ?_)
          · exact (Ext.refl _ _).drew
          refine held_take (i := 0) (v := ?_) rfl (by kernel_rfl) (by kernel_rfl) (by kernel_rfl) (fun _ _ _ h => h) rfl (fun w hSw => ?_) hHeld ?_
          rotate_left
          · go_simp; (try with_reducible rfl)
          try simp only [Act.put, List.setIfInBounds_toArray, List.set_cons_zero, List.set_cons_succ]
          refine held_take (i := 1) (v := ?_) rfl (by kernel_rfl) (by kernel_rfl) (by kernel_rfl) (fun _ _ _ h => h) rfl (fun w hSw => ?_) hHeld ?_
          rotate_left
          · go_simp; (try with_reducible rfl)
          try simp only [Act.put, List.setIfInBounds_toArray, List.set_cons_zero, List.set_cons_succ]
          refine held_take (i := 2) (v := ?_) rfl (by kernel_rfl) (by kernel_rfl) (by kernel_rfl) (fun _ _ _ h => h) rfl (fun w hSw => ?_) hHeld ?_
          rotate_left
          · go_simp; (try with_reducible rfl)
          try simp only [Act.put, List.setIfInBounds_toArray, List.set_cons_zero, List.set_cons_succ]
          refine held_take (i := 3) (v := ?_) rfl (by kernel_rfl) (by kernel_rfl) (by kernel_rfl) (fun _ _ _ h => h) rfl (fun w hSw => ?_) hHeld ?_
          rotate_left
          · (have hEs : Ext No wr _ := hSw); (obtain ⟨p0, p1⟩ := HQ.out); (have x0 := hEs.keep p0); (have x1 := hEs.keep p1); go_simp; (try with_reducible rfl)
          try simp only [Act.put, List.setIfInBounds_toArray, List.set_cons_zero, List.set_cons_succ]
          refine held_call (i := 4) rfl (by kernel_rfl) rfl (fun K hK => ?_)
          ((have hEx : Ext No wr _ := hHeld); go_simp; (go_at_call 27); (refine (rvalid_any _ r6 _ (HW6.out.extNo hEx)).mono ?_); (rintro e9 w9 ⟨rfl, hyA⟩); (rw [hvf]); go_simp)
          refine hK.out _ _ ?_ (fun hNew => ?_)
          · exact Ext.transNo (show Ext No wr _ from hHeld) hyA
          clear hK K hHeld
          have hHeld := hNew
          clear hNew
          try simp only [Act.put, List.setIfInBounds_toArray, List.set_cons_zero, List.set_cons_succ]
          refine held_take (i := 5) (v := ?_) rfl (by kernel_rfl) (by kernel_rfl) (by kernel_rfl) (fun _ _ _ h => h) rfl (fun w hSw => ?_) hHeld ?_
          rotate_left
          · go_simp; (try with_reducible rfl)
          try simp only [Act.put, List.setIfInBounds_toArray, List.set_cons_zero, List.set_cons_succ]
          refine held_take (i := 6) (v := ?_) rfl (by kernel_rfl) (by kernel_rfl) (by kernel_rfl) (fun _ _ _ h => h) rfl (fun w hSw => ?_) hHeld ?_
          rotate_left
          · go_simp; (try with_reducible rfl)
          try simp only [Act.put, List.setIfInBounds_toArray, List.set_cons_zero, List.set_cons_succ]
          refine held_skip (i := 7) rfl (by kernel_rfl) (by kernel_rfl) (by kernel_rfl) (fun _ _ _ h => h) rfl hHeld ?_
          try simp only [Act.put, List.setIfInBounds_toArray, List.set_cons_zero, List.set_cons_succ]
          refine held_skip (i := 8) rfl (by kernel_rfl) (by kernel_rfl) (by kernel_rfl) (fun _ _ _ h => h) rfl hHeld ?_
          try simp only [Act.put, List.setIfInBounds_toArray, List.set_cons_zero, List.set_cons_succ]
          refine held_skip (i := 9) rfl (by kernel_rfl) (by kernel_rfl) (by kernel_rfl) (fun _ _ _ h => h) rfl hHeld ?_
          try simp only [Act.put, List.setIfInBounds_toArray, List.set_cons_zero, List.set_cons_succ]
          refine held_skip (i := 10) rfl (by kernel_rfl) (by kernel_rfl) (by kernel_rfl) (fun _ _ _ h => h) rfl hHeld ?_
          try simp only [Act.put, List.setIfInBounds_toArray, List.set_cons_zero, List.set_cons_succ]
          refine held_skip (i := 11) rfl (by kernel_rfl) (by kernel_rfl) (by kernel_rfl) (fun _ _ _ h => h) rfl hHeld ?_
          try simp only [Act.put, List.setIfInBounds_toArray, List.set_cons_zero, List.set_cons_succ]
          refine held_skip (i := 12) rfl (by kernel_rfl) (by kernel_rfl) (by kernel_rfl) (fun _ _ _ h => h) rfl hHeld ?_
          try simp only [Act.put, List.setIfInBounds_toArray, List.set_cons_zero, List.set_cons_succ]
          refine held_skip (i := 13) rfl (by kernel_rfl) (by kernel_rfl) (by kernel_rfl) (fun _ _ _ h => h) rfl hHeld ?_
          try simp only [Act.put, List.setIfInBounds_toArray, List.set_cons_zero, List.set_cons_succ]
          refine held_skip (i := 14) rfl (by kernel_rfl) (by kernel_rfl) (by kernel_rfl) (fun _ _ _ h => h) rfl hHeld ?_
          try simp only [Act.put, List.setIfInBounds_toArray, List.set_cons_zero, List.set_cons_succ]
          refine held_take (i := 15) (v := ?_) rfl (by kernel_rfl) (by kernel_rfl) (by kernel_rfl) (fun _ _ _ h => h) rfl (fun w hSw => ?_) hHeld ?_
          rotate_left
          · go_simp; (try with_reducible rfl)
          try simp only [Act.put, List.setIfInBounds_toArray, List.set_cons_zero, List.set_cons_succ]
          refine wpAnyH_done (by kernel_rfl) ?_ _
          have hEx : Ext No wr _ := hHeld
          go_wp2_with fail
          refine (sane11_any _).mono ?_
          rintro e6 w6 ⟨rfl, hx6⟩
          go_wp2_with fail
          go_ret
          exact ⟨rfl, (hm.out.ext.transNo hEx).transNo hx6⟩
      · have hge : ¬ (k : Int) < (S.deps.length : Int) := by omega
        have hkn : k = S.deps.length := by omega
        have HF := Lib.hid (show ∀ p ∈ L, FitS (S.w : Int) p.1 from fun p hp => by
          obtain ⟨i, hi, rfl⟩ := List.getElem_of_mem hp
          exact hfit.out i hi (by have := HLEN.out; omega))
        clear hfit hkn hk hlt
        obtain ⟨ws, hws, hgw⟩ := fit_list (S := S) (fun p hp => hm.out.own2.ok p hp) HF.out HLEN.out
        have HWS := Lib.hid hws
        have HGW := Lib.hid hgw
        clear hws hgw HF
        go_wp2_with fail
        clear hge
        go_loopw [10, 11, 12, 13] (fun s10 _ _ _ wr => ∃ (r : Nat) (L : LS), s10 = .int .i64 r ∧ r ≤ P + 1 ∧ Hid (LeM w wr A base S R (.slice ad S.deps.length cd) (.slice at1 S.deps.length ct) (.slice ab S.deps.length cb) (.slice a5 S.deps.length c5) (.slice (some ⟨g, 0, none⟩) S.deps.length c8) L) ∧ Hid (L.map Prod.fst = (upIter S ws r).map (setN S.w))) (fun s10 _ _ _ _ => P + 1 - (intOf s10).toNat)
        case atStart => exact ⟨0, L, rfl, Nat.zero_le _, hm, HWS⟩
        case round =>
          clear hm HWS HLEN
          obtain ⟨r, L, rfl, hr, hm, hLr⟩ := hrel
          rename World => wr
          have HGR := Lib.hid (good_upI HOK.out HGW.out r)
          have hgs := (hm.out.own.lt g rfl).2
          by_cases hlt : r ≤ P
          · have hlz : (r : Int) ≤ (P : Int) := by omega
            have HRR : Hid (Value.int .i64 ((r : Int) + 1) = .int .i64 ((r + 1 : Nat) : Int)) := Lib.hid (by rw [show ((r + 1 : Nat) : Int) = (r : Int) + 1 from by omega])
            have cA := cellOf hm.out.box
            go_wp2_with fail
            clear cA
            refine (sysNext_any (fun b => b = g) S _ _ _ _ (upIter S ws r) _ (fun b e => by omega) hm.out.sys.no (hm.out.vals hLr.out HGR.out.lt) HGR.out.len).mono ?_
            rintro e7 w7 ⟨a11, c11, rfl, hs11, hx7⟩
            have hl2 : (nextD S (upIter S ws r)).length = S.deps.length := nextTo_len _ _ _
            have HL2 := Lib.hid hl2
            rw [hl2] at hs11 ⊢
            have hm7 := Lib.hid (hm.out.stepNo hx7)
            have HLR0 := Lib.hid (show L.map Prod.fst = (upTo (upIter S ws r) (nextD S (upIter S ws r)) S.deps.length 0).map (setN S.w) by rw [upTo_zero HGR.out.len]; exact hLr.out)
            clear hx7 hm hl2 hLr
            go_wp2_with fail
            go_loopw [13] (fun s13 wx => ∃ (k : Nat) (L : LS), s13 = .int .i64 k ∧ k ≤ S.deps.length ∧ Hid (LeM w wx A base S R (.slice ad S.deps.length cd) (.slice at1 S.deps.length ct) (.slice ab S.deps.length cb) (.slice a5 S.deps.length c5) (.slice (some ⟨g, 0, none⟩) S.deps.length c8) L) ∧ Hid (L.map Prod.fst = (upTo (upIter S ws r) (nextD S (upIter S ws r)) S.deps.length k).map (setN S.w)) ∧ Hid (SetsV (fun b => b = g) wx (.slice a11 S.deps.length c11) S.w (nextD S (upIter S ws r)))) (fun s13 _ => S.deps.length - (intOf s13).toNat)
            case atStart => exact ⟨0, L, rfl, Nat.zero_le _, hm7, HLR0, hs11⟩
            case round =>
              clear hm7 HLR0 hs11 hgs
              obtain ⟨k, L, rfl, hk, hm, hLk, hnx⟩ := hrel
              rename World => wx
              by_cases hlt : k < S.deps.length
              · have hlz : (k : Int) < (S.deps.length : Int) := by omega
                have hLL : Hid (L.length = S.deps.length) := Lib.hid (by have := congrArg List.length hLk.out; simp only [List.length_map, upTo_len] at this; exact this)
                obtain ⟨o1, o2, o3, o4, o5, hve, hcl1, hq1⟩ := (hm.out.vals hLk.out (upTo_lt HOK.out HGR.out k)).cells (i := k) (by rw [upTo_len]; exact hlt)
                simp only [Value.slice.injEq, Option.some.injEq, Addr.mk.injEq, and_true] at hve
                obtain ⟨⟨rfl, rfl⟩, -, rfl⟩ := hve
                rw [upTo_at hlt] at hq1
                obtain ⟨p1, p2, p3, p4, p5, hve, hcl2, hq2⟩ := hnx.out.cells (i := k) (by rw [HL2.out]; exact hlt)
                rw [HL2.out] at hve
                simp only [Value.slice.injEq] at hve
                obtain ⟨rfl, -, rfl⟩ := hve
                simp only [Nat.zero_add] at hcl1
                have HQ1 := Lib.hid hcl1
                have HQ2 := Lib.hid hcl2
                have hgx := (hm.out.own.lt g rfl).2
                clear hcl1 hcl2
                go_upto_region 23 with (fail)
                refine wp_region_heldL [15] (fun w' => Ext No wx w') (by kernel_rfl) ?_ (fun hHeld => ?_)
                · exact (Ext.refl _ _).drew
                have HE := Lib.hid (show Ext No wx wx.drew from (Ext.refl _ _).drew)
                generalize wx.drew = v0 at *
                refine heldL_free (i := 0) (v := ?_) rfl (by kernel_rfl) (by kernel_rfl) (by kernel_rfl) (by kernel_rfl) (by kernel_rfl) (fun _ _ _ h => h) rfl (fun w => ?_) hHeld ?_
                rotate_left
                · go_simp; (try with_reducible rfl)
                try simp only [Act.put, List.setIfInBounds_toArray, List.set_cons_zero, List.set_cons_succ]
                replace hHeld := (ST_set (T := [15]) (i := 0) (by kernel_rfl) _ _).2 hHeld
                refine heldL_free (i := 1) (v := ?_) rfl (by kernel_rfl) (by kernel_rfl) (by kernel_rfl) (by kernel_rfl) (by kernel_rfl) (fun _ _ _ h => h) rfl (fun w => ?_) hHeld ?_
                rotate_left
                · go_simp; (try with_reducible rfl)
                try simp only [Act.put, List.setIfInBounds_toArray, List.set_cons_zero, List.set_cons_succ]
                replace hHeld := (ST_set (T := [15]) (i := 1) (by kernel_rfl) _ _).2 hHeld
                refine heldL_free (i := 2) (v := ?_) rfl (by kernel_rfl) (by kernel_rfl) (by kernel_rfl) (by kernel_rfl) (by kernel_rfl) (fun _ _ _ h => h) rfl (fun w => ?_) hHeld ?_
                rotate_left
                · go_simp; (try with_reducible rfl)
                try simp only [Act.put, List.setIfInBounds_toArray, List.set_cons_zero, List.set_cons_succ]
                replace hHeld := (ST_set (T := [15]) (i := 2) (by kernel_rfl) _ _).2 hHeld
                refine heldL_free (i := 3) (v := ?_) rfl (by kernel_rfl) (by kernel_rfl) (by kernel_rfl) (by kernel_rfl) (by kernel_rfl) (fun _ _ _ h => h) rfl (fun w => ?_) hHeld ?_
                rotate_left
                · go_simp; (try with_reducible rfl)
                try simp only [Act.put, List.setIfInBounds_toArray, List.set_cons_zero, List.set_cons_succ]
                replace hHeld := (ST_set (T := [15]) (i := 3) (by kernel_rfl) _ _).2 hHeld
                refine heldL_free (i := 4) (v := ?_) rfl (by kernel_rfl) (by kernel_rfl) (by kernel_rfl) (by kernel_rfl) (by kernel_rfl) (fun _ _ _ h => h) rfl (fun w => ?_) hHeld ?_
                rotate_left
                · go_simp; (try with_reducible rfl)
                try simp only [Act.put, List.setIfInBounds_toArray, List.set_cons_zero, List.set_cons_succ]
                replace hHeld := (ST_set (T := [15]) (i := 4) (by kernel_rfl) _ _).2 hHeld
                refine heldL_take (i := 5) (v := ?_) rfl (by kernel_rfl) (by kernel_rfl) (by kernel_rfl) (by kernel_rfl) (by kernel_rfl) (fun _ _ _ h => h) rfl (fun w hSw => ?_) hHeld ?_
                rotate_left
                · (obtain ⟨p0, p1⟩ := HQ1.out); (have x0 := (show Ext No wx _ from hSw).keep p0); (have x1 := (show Ext No wx _ from hSw).keep p1); go_simp; (try with_reducible rfl)
                try simp only [Act.put, List.setIfInBounds_toArray, List.set_cons_zero, List.set_cons_succ]
                replace hHeld := (ST_set (T := [15]) (i := 5) (by kernel_rfl) _ _).2 hHeld
                refine heldL_free (i := 6) (v := ?_) rfl (by kernel_rfl) (by kernel_rfl) (by kernel_rfl) (by kernel_rfl) (by kernel_rfl) (fun _ _ _ h => h) rfl (fun w => ?_) hHeld ?_
                rotate_left
                · go_simp; (try with_reducible rfl)
                try simp only [Act.put, List.setIfInBounds_toArray, List.set_cons_zero, List.set_cons_succ]
                replace hHeld := (ST_set (T := [15]) (i := 6) (by kernel_rfl) _ _).2 hHeld
                refine heldL_free (i := 7) (v := ?_) rfl (by kernel_rfl) (by kernel_rfl) (by kernel_rfl) (by kernel_rfl) (by kernel_rfl) (fun _ _ _ h => h) rfl (fun w => ?_) hHeld ?_
                rotate_left
                · go_simp; (try with_reducible rfl)
                try simp only [Act.put, List.setIfInBounds_toArray, List.set_cons_zero, List.set_cons_succ]
                replace hHeld := (ST_set (T := [15]) (i := 7) (by kernel_rfl) _ _).2 hHeld
                refine heldL_free (i := 8) (v := ?_) rfl (by kernel_rfl) (by kernel_rfl) (by kernel_rfl) (by kernel_rfl) (by kernel_rfl) (fun _ _ _ h => h) rfl (fun w => ?_) hHeld ?_
                rotate_left
                · go_simp; (try with_reducible rfl)
                try simp only [Act.put, List.setIfInBounds_toArray, List.set_cons_zero, List.set_cons_succ]
                replace hHeld := (ST_set (T := [15]) (i := 8) (by kernel_rfl) _ _).2 hHeld
                refine heldL_take (i := 9) (v := ?_) rfl (by kernel_rfl) (by kernel_rfl) (by kernel_rfl) (by kernel_rfl) (by kernel_rfl) (fun _ _ _ h => h) rfl (fun w hSw => ?_) hHeld ?_
                rotate_left
                · (obtain ⟨p0, p1⟩ := HQ2.out); (have x0 := (show Ext No wx _ from hSw).keep p0); (have x1 := (show Ext No wx _ from hSw).keep p1); go_simp; (try with_reducible rfl)
                try simp only [Act.put, List.setIfInBounds_toArray, List.set_cons_zero, List.set_cons_succ]
                replace hHeld := (ST_set (T := [15]) (i := 9) (by kernel_rfl) _ _).2 hHeld
                refine heldL_next1 (i := 10) (by kernel_rfl) (NextL.mk rfl rfl (fun K hK => ?_))
                (go_simp; (go_at_call 14); (refine (union_any (fun b => b = g) S.w (rowD (upIter S ws r) k) (rowD (nextD S (upIter S ws r)) k) _ _ _ (fun b e => by have := HE.out.size; omega) (hq1.out.extNo HE.out) (hq2.out.no.extNo HE.out)).mono ?_); (rintro e9 v1 ⟨aq, cq, rfl, hsq, hyA⟩); go_simp)
                refine hK.out _ _ ?_ (fun hNew => ?_)
                · intro _; exact HE.out.transNo hyA
                clear hK K hHeld
                have hHeld := hNew
                clear hNew
                replace HE := Lib.hid (HE.out.transNo hyA)
                clear hyA
                try simp only [Act.put, List.setIfInBounds_toArray, List.set_cons_zero, List.set_cons_succ]
                refine heldL_free (i := 11) (v := ?_) rfl (by kernel_rfl) (by kernel_rfl) (by kernel_rfl) (by kernel_rfl) (by kernel_rfl) (fun _ _ _ h => h) rfl (fun w => ?_) hHeld ?_
                rotate_left
                · go_simp; (try with_reducible rfl)
                try simp only [Act.put, List.setIfInBounds_toArray, List.set_cons_zero, List.set_cons_succ]
                replace hHeld := (ST_set (T := [15]) (i := 11) (by kernel_rfl) _ _).2 hHeld
                refine heldL_free (i := 12) (v := ?_) rfl (by kernel_rfl) (by kernel_rfl) (by kernel_rfl) (by kernel_rfl) (by kernel_rfl) (fun _ _ _ h => h) rfl (fun w => ?_) hHeld ?_
                rotate_left
                · go_simp; (try with_reducible rfl)
                try simp only [Act.put, List.setIfInBounds_toArray, List.set_cons_zero, List.set_cons_succ]
                replace hHeld := (ST_set (T := [15]) (i := 12) (by kernel_rfl) _ _).2 hHeld
                refine heldL_free (i := 13) (v := ?_) rfl (by kernel_rfl) (by kernel_rfl) (by kernel_rfl) (by kernel_rfl) (by kernel_rfl) (fun _ _ _ h => h) rfl (fun w => ?_) hHeld ?_
                rotate_left
                · go_simp; (try with_reducible rfl)
                try simp only [Act.put, List.setIfInBounds_toArray, List.set_cons_zero, List.set_cons_succ]
                replace hHeld := (ST_set (T := [15]) (i := 13) (by kernel_rfl) _ _).2 hHeld
                refine heldL_free (i := 14) (v := ?_) rfl (by kernel_rfl) (by kernel_rfl) (by kernel_rfl) (by kernel_rfl) (by kernel_rfl) (fun _ _ _ h => h) rfl (fun w => ?_) hHeld ?_
                rotate_left
                · go_simp; (try with_reducible rfl)
                try simp only [Act.put, List.setIfInBounds_toArray, List.set_cons_zero, List.set_cons_succ]
                replace hHeld := (ST_set (T := [15]) (i := 14) (by kernel_rfl) _ _).2 hHeld
                refine heldL_next1 (i := 15) (by kernel_rfl) (NextL.mk rfl rfl (fun K hK => ?_))
                ((have hm5 := hm.out.stepNo HE.out); (obtain ⟨g', hg', -, -, -, hcell, hfro⟩ := hm5.own2.ownAt (k := k) (by rw [hLL.out]; omega)); (simp only [Option.some.injEq, Addr.mk.injEq, and_true] at hg'); (subst hg'); (obtain ⟨q0, q1⟩ := hcell k (by rw [hLL.out]; omega)); (have hput := Lib.hid (LeM.put (p := (setN S.w (orN (rowD (upIter S ws r) k) (rowD (nextD S (upIter S ws r)) k)), .slice aq (nw S.w) cq)) (i := k) (by have h := hm5; rw [← hLL.out] at h; exact h) (by rw [hLL.out]; omega) hsq.out.words)); (rw [hLL.out] at hput); (have hnx5 := Lib.hid (hnx.out.extNo HE.out)); go_simp; (clear q0 q1 hcell hfro))
                refine hK.out _ _ ?_ (fun hNew => ?_)
                · exact fun h => absurd h (by decide)
                clear hK K hHeld
                have hHeld := hNew
                clear hNew
                try simp only [Act.put, List.setIfInBounds_toArray, List.set_cons_zero, List.set_cons_succ]
                refine heldL_done (by kernel_rfl) ?_ _
                go_wp2_with fail
                go_roundw
                case rel => exact ⟨k + 1, L.set k (setN S.w (orN (rowD (upIter S ws r) k) (rowD (nextD S (upIter S ws r)) k)), .slice aq (nw S.w) cq), by go_num, by omega, hput, Lib.hid ((set_vals hLk.out).trans (congrArg (List.map (setN S.w)) (upTo_set2 hlt))), Lib.hid (hnx5.out.ext (((Ext.refl (At g) _).setAt _ _).setAt _ _) (fun _ _ e => e))⟩
                case measure => simp [intOf]; omega
              · have hge : ¬ (k : Int) < (S.deps.length : Int) := by omega
                have hkn : k = S.deps.length := by omega
                have HL9 := Lib.hid (show L.map Prod.fst = (upIter S ws (r + 1)).map (setN S.w) by
                  have h := hLk.out
                  rw [hkn, upTo_all] at h
                  exact h)
                clear hkn
                go_wp2_with fail
                go_roundw
                case rel => exact ⟨r + 1, L, HRR.out, by omega, hm, HL9⟩
                case measure => simp [intOf]; omega
          · have hge : ¬ (r : Int) ≤ (P : Int) := by omega
            have hrn : r = P + 1 := by omega
            subst hrn
            have HAB := Lib.hid (show LeV S (nextD S (upIter S ws (P + 1))) (upIter S ws (P + 1)) by rw [HP.out]; exact up_above HOK.out HGW.out)
            have cA := cellOf hm.out.box
            go_wp2_with fail
            clear cA
            refine (isAbove_yes S _ _ _ _ (upIter S ws (P + 1)) _ hm.out.sys.no (hm.out.vals hLr.out HGR.out.lt) HGR.out.len HAB.out).mono ?_
            rintro e8 w8 ⟨rfl, hx8⟩
            have hm8 := Lib.hid (hm.out.stepNo hx8)
            have HLE := Lib.hid (iter_least HOK.out HAB.out R)
            clear hm hx8 hge HAB
            go_wp2_with fail
            go_loopw [14] (fun s14 wx => ∃ k : Nat, s14 = .int .i64 k ∧ k ≤ S.deps.length ∧ Hid (LeM w wx A base S R (.slice ad S.deps.length cd) (.slice at1 S.deps.length ct) (.slice ab S.deps.length cb) (.slice a5 S.deps.length c5) (.slice (some ⟨g, 0, none⟩) S.deps.length c8) L)) (fun s14 _ => S.deps.length - (intOf s14).toNat)
            case atStart => exact ⟨0, rfl, Nat.zero_le _, hm8⟩
            case round =>
              clear hm8 hgs
              obtain ⟨k, rfl, hk, hm⟩ := hrel
              rename World => wx
              by_cases hlt : k < S.deps.length
              · have hlz : (k : Int) < (S.deps.length : Int) := by omega
                obtain ⟨o1, o2, o3, o4, o5, hve, hcl1, hq1⟩ := hm.out.sol.no.cells (i := k) (by rw [HG.out.len]; exact hlt)
                rw [HG.out.len] at hve
                simp only [Value.slice.injEq] at hve
                obtain ⟨rfl, -, rfl⟩ := hve
                obtain ⟨p1, p2, p3, p4, p5, hve, hcl2, hq2⟩ := (hm.out.vals hLr.out HGR.out.lt).cells (i := k) (by rw [HGR.out.len]; exact hlt)
                rw [HGR.out.len] at hve
                simp only [Value.slice.injEq, Option.some.injEq, Addr.mk.injEq, and_true] at hve
                obtain ⟨⟨rfl, rfl⟩, -, rfl⟩ := hve
                simp only [Nat.zero_add] at hcl2
                have HQ1 := Lib.hid hcl1
                have HQ2 := Lib.hid hcl2
                clear hcl1 hcl2
                go_upto_region 29 with (fail)
                refine wp_region_held_drew (S := (fun w' => Ext No wx w')) (by kernel_rfl) ?_ (fun hHeld => ?_)
                · exact (Ext.refl _ _).drew
                refine held_take (i := 0) (v := ?_) rfl (by kernel_rfl) (by kernel_rfl) (by kernel_rfl) (fun _ _ _ h => h) rfl (fun w hSw => ?_) hHeld ?_
                rotate_left
                · go_simp; (try with_reducible rfl)
                try simp only [Act.put, List.setIfInBounds_toArray, List.set_cons_zero, List.set_cons_succ]
                refine held_take (i := 1) (v := ?_) rfl (by kernel_rfl) (by kernel_rfl) (by kernel_rfl) (fun _ _ _ h => h) rfl (fun w hSw => ?_) hHeld ?_
                rotate_left
                · go_simp; (try with_reducible rfl)
                try simp only [Act.put, List.setIfInBounds_toArray, List.set_cons_zero, List.set_cons_succ]
                refine held_take (i := 2) (v := ?_) rfl (by kernel_rfl) (by kernel_rfl) (by kernel_rfl) (fun _ _ _ h => h) rfl (fun w hSw => ?_) hHeld ?_
                rotate_left
                · go_simp; (try with_reducible rfl)
                try simp only [Act.put, List.setIfInBounds_toArray, List.set_cons_zero, List.set_cons_succ]
                refine held_take (i := 3) (v := ?_) rfl (by kernel_rfl) (by kernel_rfl) (by kernel_rfl) (fun _ _ _ h => h) rfl (fun w hSw => ?_) hHeld ?_
                rotate_left
                · (have hEs : Ext No wx _ := hSw); (obtain ⟨p0, p1⟩ := HQ1.out); (have x0 := hEs.keep p0); (have x1 := hEs.keep p1); go_simp; (try with_reducible rfl)
                try simp only [Act.put, List.setIfInBounds_toArray, List.set_cons_zero, List.set_cons_succ]
                refine held_take (i := 4) (v := ?_) rfl (by kernel_rfl) (by kernel_rfl) (by kernel_rfl) (fun _ _ _ h => h) rfl (fun w hSw => ?_) hHeld ?_
                rotate_left
                · go_simp; (try with_reducible rfl)
                try simp only [Act.put, List.setIfInBounds_toArray, List.set_cons_zero, List.set_cons_succ]
                refine held_take (i := 5) (v := ?_) rfl (by kernel_rfl) (by kernel_rfl) (by kernel_rfl) (fun _ _ _ h => h) rfl (fun w hSw => ?_) hHeld ?_
                rotate_left
                · go_simp; (try with_reducible rfl)
                try simp only [Act.put, List.setIfInBounds_toArray, List.set_cons_zero, List.set_cons_succ]
                refine held_take (i := 6) (v := ?_) rfl (by kernel_rfl) (by kernel_rfl) (by kernel_rfl) (fun _ _ _ h => h) rfl (fun w hSw => ?_) hHeld ?_
                rotate_left
                · go_simp; (try with_reducible rfl)
                try simp only [Act.put, List.setIfInBounds_toArray, List.set_cons_zero, List.set_cons_succ]
                refine held_take (i := 7) (v := ?_) rfl (by kernel_rfl) (by kernel_rfl) (by kernel_rfl) (fun _ _ _ h => h) rfl (fun w hSw => ?_) hHeld ?_
                rotate_left
                · (have hEs : Ext No wx _ := hSw); (obtain ⟨p0, p1⟩ := HQ2.out); (have x0 := hEs.keep p0); (have x1 := hEs.keep p1); go_simp; (try with_reducible rfl)
                try simp only [Act.put, List.setIfInBounds_toArray, List.set_cons_zero, List.set_cons_succ]
                refine held_call (i := 8) rfl (by kernel_rfl) rfl (fun K hK => ?_)
                ((have hEx : Ext No wx _ := hHeld); go_simp; (go_at_call 30); (refine (subset_any S.w (rowD (iterD S R) k) (rowD (upIter S ws (P + 1)) k) _ _ _ (hq1.out.extNo hEx) (hq2.out.extNo hEx)).mono ?_); (rintro e9 w9 ⟨rfl, hyA⟩); (rw [sub_of_le (HLE.out k hlt)]); go_simp)
                refine hK.out _ _ ?_ (fun hNew => ?_)
                · exact Ext.transNo (show Ext No wx _ from hHeld) hyA
                clear hK K hHeld
                have hHeld := hNew
                clear hNew
                try simp only [Act.put, List.setIfInBounds_toArray, List.set_cons_zero, List.set_cons_succ]
                refine held_take (i := 9) (v := ?_) rfl (by kernel_rfl) (by kernel_rfl) (by kernel_rfl) (fun _ _ _ h => h) rfl (fun w hSw => ?_) hHeld ?_
                rotate_left
                · go_simp; (try with_reducible rfl)
                try simp only [Act.put, List.setIfInBounds_toArray, List.set_cons_zero, List.set_cons_succ]
                refine wpAnyH_done (by kernel_rfl) ?_ _
                have hEx : Ext No wx _ := hHeld
                go_wp2_with fail
                go_roundw
                case rel => exact ⟨k + 1, by go_num, by omega, Lib.hid (hm.out.stepNo hEx)⟩
                case measure => simp [intOf]; omega
              · have hge : ¬ (k : Int) < (S.deps.length : Int) := by omega
                go_wp2_with fail
                refine (sane11_any _).mono ?_
                rintro e9 w9 ⟨rfl, hx9⟩
                go_wp2_with fail
                go_ret
                exact ⟨rfl, hm.out.ext.transNo hx9⟩
  · have hlz : ((L.length : Int) == (S.deps.length : Int)) = false := by simp; omega
    have hle : ¬ ((L.length : Int) = (S.deps.length : Int)) := by omega
    go_wp2_with fail
    refine (sane11_any _).mono ?_
    rintro e5 w5 ⟨rfl, hx5⟩
    go_wp2_with fail
    go_ret
    exact ⟨rfl, HLM.out.ext.transNo hx5⟩
end Go.Proofs.Ytkdjdhflhlbelaa

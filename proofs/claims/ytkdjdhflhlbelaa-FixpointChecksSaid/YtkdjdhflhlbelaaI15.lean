/- The walk of FixpointChecks. -/
import Derived.Test.YtkdjdhflhlbelaaI10
import Derived.Test.YtkdjdhflhlbelaaI11
import Derived.Test.YtkdjdhflhlbelaaI14
import Derived.Test.YtkdjdhflhlbelaaF10
import Derived.Test.YtkdjdhflhlbelaaG1
set_option linter.unusedVariables false
set_option linter.unusedSimpArgs false
namespace Go.Proofs.Ytkdjdhflhlbelaa
open Go Go.RowKit
structure CkM (tb : Nat) (w wr : World) (bS : Array Value) (X B : Nat) (S : SysD) (vd vt vb vl vm : Value) (L Lm : LS) : Prop where
  ext : Ext No w wr
  tape : TapeOk wr tb
  boxS : wr.heap[w.heap.size]? = some (.cells bS 29 (0, 0))
  boxX : wr.heap[X]? = some (.cells #[.int .i64 (S.w : Int), vd, vt, vb] 29 (0, 0))
  sys : SysAt (fun b => b = tb ∨ B ≤ b) wr vd vt vb S
  least : LAt kS (fun b => b = tb ∨ B ≤ b) wr vl L
  more : LOwn kS (At tb) wr B vm Lm
  c1 : w.heap.size < tb
  c2 : tb < X
  c3 : X < B
section
variable {tb : Nat} {w wr w' : World} {bS : Array Value} {X B : Nat} {S : SysD} {vd vt vb vl vm : Value} {L Lm : LS}
theorem CkM.step (h : CkM tb w wr bS X B S vd vt vb vl vm L Lm) (hx : Ext (At tb) wr w') (ht : TapeOk w' tb) : CkM tb w w' bS X B S vd vt vb vl vm L Lm := by
  have h1 := h.c1
  have h2 := h.c2
  have h3 := h.c3
  exact ⟨h.ext.trans2 hx (fun i hi e => by unfold At at e; omega), ht, hx.blk h.boxS (by unfold At; omega), hx.blk h.boxX (by unfold At; omega), h.sys.ext hx (fun i _ e => .inl e), h.least.ext hx (fun i _ e => .inl e), h.more.ext hx (fun i hi e => by unfold At at e; omega) (fun _ e => e), h1, h2, h3⟩
theorem CkM.put {g cap i : Nat} {p : RawSet × Value} (h : CkM tb w wr bS X B S vd vt vb vl (.slice (some ⟨g, 0, none⟩) Lm.length cap) L Lm) (hi : i < Lm.length) (hp : WordsAt (fun b => At tb b ∨ b = g) wr p.2 p.1.words) :
    CkM tb w ((wr.setCell ⟨g, i * 2, none⟩ (.int .i64 p.1.width)).setCell ⟨g, i * 2 + 1, none⟩ p.2) bS X B S vd vt vb vl (.slice (some ⟨g, 0, none⟩) Lm.length cap) L (Lm.set i p) := by
  have hE : Ext (At g) wr ((wr.setCell ⟨g, i * 2, none⟩ (.int .i64 p.1.width)).setCell ⟨g, i * 2 + 1, none⟩ p.2) := ((Ext.refl (At g) _).setAt _ _).setAt _ _
  have h1 := h.c1
  have h2 := h.c2
  have h3 := h.c3
  have hg := (h.more.lt g rfl).1
  have hP : LOwn kS (At tb) ((wr.setCell ⟨g, i * 2, none⟩ (.int .i64 p.1.width)).setCell ⟨g, i * 2 + 1, none⟩ p.2) B (.slice (some ⟨g, 0, none⟩) Lm.length cap) (Lm.set i p) := h.more.putAll hi hp
  exact ⟨h.ext.trans2 hE (fun i hi e => by unfold At at e; omega), h.tape.extAbove hE (fun i hi e => by unfold At at e; omega), hE.blk h.boxS (by unfold At; omega), hE.blk h.boxX (by unfold At; omega), h.sys.ext hE (fun i _ e => .inr (by unfold At at e; omega)), h.least.ext hE (fun i _ e => .inr (by unfold At at e; omega)), hP, h1, h2, h3⟩
end
set_option maxRecDepth 100000 in
set_option maxHeartbeats 16000000 in
theorem fixpointChecks_any (tl : Value) (zs : List Int) (x : Int) (vd vt vb vv : Value) (Ld : LD) (Lt : LT) (Lb Lv : LS) (w : World) (ht : Ints No w .i64 tl zs) (hy : YAt No w vd vt vb Ld Lt Lb) (hv : LAt kS No w vv Lv) :
    Calls Try.prog 5 #[tl, .agg #[.int .i64 x, vd, vt, vb], vv] w fun e w' => e = .returned (.bool true) ∧ Ext No w w' := by
  obtain ⟨iS, hiS, hS0, hS1, hS2⟩ := info_parts infoS
  have HT := Lib.hid ht
  have HY := Lib.hid hy
  have HVV := Lib.hid hv
  obtain ⟨at', ct', rfl⟩ := Row.slice ht
  obtain ⟨ad0, cd0, rfl⟩ := hy.d.slice
  obtain ⟨at0, ct0, rfl⟩ := hy.t.slice
  obtain ⟨ab0, cb0, rfl⟩ := hy.b.slice
  obtain ⟨av0, cv0, rfl⟩ := hv.slice
  obtain ⟨bS, hbS⟩ : ∃ bS : Array Value, bS = #[.int .i64 x, .slice ad0 Ld.length cd0, .slice at0 Lt.length ct0, .slice ab0 Lb.length cb0] := ⟨_, rfl⟩
  have HBS := Lib.hid hbS
  clear ht hy hv hbS
  go_enter Try.func5, Try.ntmps5
  go_upto_region 1 with (fail)
  have hx0 : Ext No w (w.alloc (.cells #[.int .i64 x, .slice ad0 Ld.length cd0, .slice at0 Lt.length ct0, .slice ab0 Lb.length cb0] 29)) := (Ext.refl _ _).alloc _
  have HS0 := Lib.hid (show (w.alloc (.cells #[.int .i64 x, .slice ad0 Ld.length cd0, .slice at0 Lt.length ct0, .slice ab0 Lb.length cb0] 29)).heap[w.heap.size]? = some (.cells bS 29 (0, 0)) from by rw [HBS.out]; exact alloc_top rfl)
  generalize (w.alloc (.cells #[.int .i64 x, .slice ad0 Ld.length cd0, .slice at0 Lt.length ct0, .slice ab0 Lb.length cb0] 29)) = wa at *
  go_wp2_with fail
  refine (new_any _ zs _ (Row.extNo HT.out hx0)).mono ?_
  rintro e0 w0 ⟨rfl, ht0, hx1, hs0⟩
  have hwa := lt_of_block HS0.out
  obtain ⟨tb, htb⟩ : ∃ tb, tb = wa.heap.size := ⟨_, rfl⟩
  rw [← htb] at ht0 hwa ⊢
  have HX0 := Lib.hid (hx0.transNo hx1)
  have HB0 := Lib.hid (hx1.blk HS0.out no_no)
  have HT0 := Lib.hid ht0
  clear htb hx0 hx1 HS0 hs0 ht0
  go_wp2_with fail
  go_loopw [8, 9, 10, 11, 12, 13, 14] (fun s8 _ _ _ _ _ _ wr => ∃ k : Nat, s8 = .int .i64 k ∧ k ≤ 5 ∧ Hid (TapeOk wr tb) ∧ Hid (Ext No w wr) ∧ Hid (wr.heap[w.heap.size]? = some (.cells bS 29 (0, 0)))) (fun s8 _ _ _ _ _ _ _ => 5 - (intOf s8).toNat)
  case atStart => exact ⟨0, rfl, Nat.zero_le _, HT0, HX0, HB0⟩
  case round =>
    clear HT0 HX0 HB0
    obtain ⟨i, rfl, hi, htp, hx, hbs⟩ := hrel
    rename World => wr
    by_cases hlt : i < 5
    · have hlz : (i : Int) < 5 := by omega
      have HII : Hid (Value.int .i64 ((i : Int) + 1) = .int .i64 ((i + 1 : Nat) : Int)) := Lib.hid (by rw [show ((i + 1 : Nat) : Int) = (i : Int) + 1 from by omega])
      go_wp2_with fail
      refine (sysgen_any tb 4 _ (by decide) (by decide) htp.out).mono ?_
      rintro e1 w1 ⟨S, vd1, vt1, vb1, rfl, hw4, hn5, hS, ht1, hx1⟩
      have hok := hS.out.ok
      obtain ⟨ad, cd, at1, ct, ab, cb, rfl, rfl, rfl⟩ := hS.out.slices
      have hxa : Ext No w1 (w1.alloc (.cells #[.int .i64 (S.w : Int), .slice ad S.deps.length cd, .slice at1 S.deps.length ct, .slice ab S.deps.length cb] 29)) := (Ext.refl _ _).alloc _
      have htw := htp.out.lt
      have HX := Lib.hid (alloc_top (w := w1) (o := (.cells #[.int .i64 (S.w : Int), .slice ad S.deps.length cd, .slice at1 S.deps.length ct, .slice ab S.deps.length cb] 29)) rfl)
      have HSY := Lib.hid ((hS.out.mono (M' := At tb) (fun i hi e => by unfold Lo; unfold At at e; omega)).extNo hxa)
      have HE := Lib.hid ((hx.out.trans2 hx1 (fun i hi e => by unfold At at e; omega)).transNo hxa)
      have HB1 := Lib.hid (hxa.blk (hx1.blk hbs.out (by unfold At; omega)) no_no)
      have HTP := Lib.hid (ht1.ext hxa)
      have htX : tb < w1.heap.size := ht1.lt
      have HOK := Lib.hid hok
      have hnn := hok.n2
      have hn1 := hok.n1
      have hww := hok.w
      clear htp hx hbs hS ht1 hx1 hxa hok htw
      go_upto_region 6 with (fail)
      generalize (w1.alloc (.cells #[.int .i64 (S.w : Int), .slice ad S.deps.length cd, .slice at1 S.deps.length ct, .slice ab S.deps.length cb] 29)) = V1 at *
      have hXl : w1.heap.size < V1.heap.size := lt_of_block HX.out
      generalize w1.heap.size = X at *
      have cX := cellOf HX.out
      go_wp2_with fail
      clear cX
      refine (rSolve_any (At tb) S _ _ _ V1 (fun b e => by unfold At at e; omega) HSY.out).mono ?_
      rintro e2 w2 ⟨R, a5, c5, hR, rfl, hs5, hx2⟩
      have hgi := good_iter HOK.out R
      have HGI := Lib.hid hgi
      obtain ⟨Ll, hLl, hLm, hLn⟩ := hs5.out.list
      have hLk : Ll.length = S.deps.length := by rw [hLn]; exact hgi.len
      have HLM := Lib.hid hLm
      have HLK := Lib.hid hLk
      have HX2 := Lib.hid (hx2.blk HX.out no_no)
      have HSY2 := Lib.hid (HSY.out.extNo hx2)
      have HE2 := Lib.hid (HE.out.transNo hx2)
      have HB2 := Lib.hid (hx2.blk HB1.out no_no)
      have HTP2 := Lib.hid (HTP.out.ext hx2)
      have HLL := Lib.hid hLl
      have hXl2 := lt_of_block HX2.out
      clear hR hs5 hx2 hgi hLl hLm hLn hLk HX HSY HE HB1 HTP hXl
      have HROW := Lib.hid (show Row No (w2.alloc (.cells #[] 33)) 2 (.slice a5 S.deps.length c5) S.deps.length (Ll.flatMap kS.cells) from by
        have h := (HLL.out.no.extNo ((Ext.refl No w2).alloc (.cells #[] 33))).row
        rw [HLK.out] at h
        exact h)
      go_upto_region 8 with (at_builtin; (refine wpList_plain rfl (fun K0 hK0 => wp_app_ful2 _ (.tmp 29) (.tmp 30) 27 rfl 33 iS _ 2 32 Try.underlying27 hiS hS0 hS1 hS2 rfl (by omega) No ⟨w2.heap.size, 0, none⟩ 0 [] rfl (Row.nil _ _ _ _ _ (Nat.zero_le _)) No a5 S.deps.length c5 (Ll.flatMap kS.cells) rfl HROW.out (by omega) (by omega) (by omega) (fun v9 w9 hown1 hg1 => hK0 _ _ ?_))); (have hy9 : Ext No w2 w9 := ((Ext.refl No w2).alloc (.cells #[] 33)).grown hg1 (fun k hk _ => by cases hk)); (simp only [Nat.zero_add, List.nil_append] at hown1); (obtain ⟨aM, cM, hs9⟩ := (Row.ofOwns (M := No) hown1 (fun _ _ x => x)).slice); (subst hs9); (have HO9 := Lib.hid hown1); (clear hg1 hown1))
      have hB2 : (w2.alloc (.cells #[] 33)).heap.size = w2.heap.size + 1 := by simp
      have HM := Lib.hid (show CkM tb w w9 bS X (w2.heap.size + 1) S (.slice ad S.deps.length cd) (.slice at1 S.deps.length ct) (.slice ab S.deps.length cb) (.slice a5 S.deps.length c5) (.slice aM S.deps.length cM) Ll Ll from
        ⟨HE2.out.transNo hy9, HTP2.out.ext hy9, hy9.blk HB2.out no_no, hy9.blk HX2.out no_no, (HSY2.out.mono (M' := fun b => b = tb ∨ w2.heap.size + 1 ≤ b) (fun i hi e => by unfold At; omega)).extNo hy9, (HLL.out.mono (M' := fun b => b = tb ∨ w2.heap.size + 1 ≤ b) (fun i hi e => by unfold At; omega)).extNo hy9, ⟨by rw [← hB2, HLK.out]; exact HO9.out, fun p hp => kS.ext (kS.mono (M' := fun b => At tb b ∨ Value.ownBlock (.slice aM S.deps.length cM) = some b) (HLL.out.ok p hp) (fun i hi e => by
          rcases e with e | e
          · exact e
          · have := (World.ownsRow.lt HO9.out i e).1; omega)) hy9 (fun _ _ x => x.elim)⟩, hwa, htX, by omega⟩)
      clear HE2 HTP2 HB2 HX2 HSY2 HLL HO9 hy9 hB2 hXl2
      generalize w2.heap.size + 1 = B at *
      clear HROW
      go_wp2_with fail
      refine (next_lt tb (S.deps.length : Int) (by omega) (by omega) _ HM.out.tape).mono ?_
      rintro e3 w3 ⟨k, rfl, hk, ht3, hx3, -⟩
      have HM3 := Lib.hid (HM.out.step hx3 ht3)
      clear HM hx3 ht3
      have hk2 : k < Ll.length := by rw [HLK.out]; omega
      have hkz : (k : Int) < (S.deps.length : Int) := by omega
      obtain ⟨g, cap, hsg, -, -⟩ := HM3.out.more.shape (by omega)
      rw [HLK.out] at hsg
      simp only [Value.slice.injEq] at hsg
      obtain ⟨rfl, -, rfl⟩ := hsg
      have hMV : SetsV (At tb) w3 (.slice (some ⟨g, 0, none⟩) Ll.length cM) S.w (iterD S R) := (show LAt kS (At tb) w3 (.slice (some ⟨g, 0, none⟩) Ll.length cM) Ll from by
        have h := HM3.out.more
        rw [← HLK.out] at h
        exact h.list2 (fun b hb e => by have h1 := (h.lt b hb).1; have h2 := HM3.out.c3; unfold At at e; omega) (fun _ e => e)).setsV HLM.out hww HGI.out.lt
      obtain ⟨o1, o2, o3, o4, o5, hve, hcl, hq⟩ := hMV.cells (i := k) (by rw [HGI.out.len]; omega)
      rw [HLK.out, HGI.out.len] at hve
      simp only [Value.slice.injEq, Option.some.injEq, Addr.mk.injEq, and_true] at hve
      obtain ⟨⟨rfl, rfl⟩, -, rfl⟩ := hve
      simp only [Nat.zero_add] at hcl
      have HQ := Lib.hid hcl
      have HSQ := Lib.hid hq.out
      have HNG : Hid (¬ At tb g) := Lib.hid (by unfold At; have h1 := (HM3.out.more.lt g rfl).1; have h2 := HM3.out.c3; omega)
      have HNX : Hid (¬ At tb X) := Lib.hid (by unfold At; omega)
      have HXB := Lib.hid HM3.out.boxX
      clear hcl hq hMV
      go_upto_region 9 with (fail)
      refine wp_region_heldL [12] (fun w' => Ext (At tb) w3 w') (by kernel_rfl) ?_ (fun hHeld => ?_)
      · exact (Ext.refl No _).drew.ofNo
      have HE := Lib.hid (show Ext (At tb) w3 w3.drew from (Ext.refl No _).drew.ofNo)
      have HTP := Lib.hid (HM3.out.tape.ext (show Ext No w3 w3.drew from (Ext.refl No _).drew))
      generalize w3.drew = v0 at *
      refine heldL_free (i := 0) (v := ?_) rfl (by kernel_rfl) (by kernel_rfl) (by kernel_rfl) (by kernel_rfl) (by kernel_rfl) (fun _ _ _ h => h) rfl (fun w => ?_) hHeld ?_
      rotate_left
      · go_simp; (try with_reducible rfl)
      try simp only [Act.put, nzA, nzB, nzC]
      replace hHeld := (ST_set (T := [12]) (i := 0) (by kernel_rfl) _ _).2 hHeld
      refine heldL_free (i := 1) (v := ?_) rfl (by kernel_rfl) (by kernel_rfl) (by kernel_rfl) (by kernel_rfl) (by kernel_rfl) (fun _ _ _ h => h) rfl (fun w => ?_) hHeld ?_
      rotate_left
      · go_simp; (try with_reducible rfl)
      try simp only [Act.put, nzA, nzB, nzC]
      replace hHeld := (ST_set (T := [12]) (i := 1) (by kernel_rfl) _ _).2 hHeld
      refine heldL_free (i := 2) (v := ?_) rfl (by kernel_rfl) (by kernel_rfl) (by kernel_rfl) (by kernel_rfl) (by kernel_rfl) (fun _ _ _ h => h) rfl (fun w => ?_) hHeld ?_
      rotate_left
      · go_simp; (try with_reducible rfl)
      try simp only [Act.put, nzA, nzB, nzC]
      replace hHeld := (ST_set (T := [12]) (i := 2) (by kernel_rfl) _ _).2 hHeld
      refine heldL_free (i := 3) (v := ?_) rfl (by kernel_rfl) (by kernel_rfl) (by kernel_rfl) (by kernel_rfl) (by kernel_rfl) (fun _ _ _ h => h) rfl (fun w => ?_) hHeld ?_
      rotate_left
      · go_simp; (try with_reducible rfl)
      try simp only [Act.put, nzA, nzB, nzC]
      replace hHeld := (ST_set (T := [12]) (i := 3) (by kernel_rfl) _ _).2 hHeld
      refine heldL_free (i := 4) (v := ?_) rfl (by kernel_rfl) (by kernel_rfl) (by kernel_rfl) (by kernel_rfl) (by kernel_rfl) (fun _ _ _ h => h) rfl (fun w => ?_) hHeld ?_
      rotate_left
      · go_simp; (try with_reducible rfl)
      try simp only [Act.put, nzA, nzB, nzC]
      replace hHeld := (ST_set (T := [12]) (i := 4) (by kernel_rfl) _ _).2 hHeld
      refine heldL_take (i := 5) (v := ?_) rfl (by kernel_rfl) (by kernel_rfl) (by kernel_rfl) (by kernel_rfl) (by kernel_rfl) (fun _ _ _ h => h) rfl (fun w hSw => ?_) hHeld ?_
      rotate_left
      · (obtain ⟨p0, p1⟩ := HQ.out); (have x0 := (show Ext (At tb) w3 _ from hSw).keepM p0 HNG.out); (have x1 := (show Ext (At tb) w3 _ from hSw).keepM p1 HNG.out); go_simp; (try with_reducible rfl)
      try simp only [Act.put, nzA, nzB, nzC]
      replace hHeld := (ST_set (T := [12]) (i := 5) (by kernel_rfl) _ _).2 hHeld
      refine heldL_free (i := 6) (v := ?_) rfl (by kernel_rfl) (by kernel_rfl) (by kernel_rfl) (by kernel_rfl) (by kernel_rfl) (fun _ _ _ h => h) rfl (fun w => ?_) hHeld ?_
      rotate_left
      · go_simp; (try with_reducible rfl)
      try simp only [Act.put, nzA, nzB, nzC]
      replace hHeld := (ST_set (T := [12]) (i := 6) (by kernel_rfl) _ _).2 hHeld
      refine heldL_free (i := 7) (v := ?_) rfl (by kernel_rfl) (by kernel_rfl) (by kernel_rfl) (by kernel_rfl) (by kernel_rfl) (fun _ _ _ h => h) rfl (fun w => ?_) hHeld ?_
      rotate_left
      · go_simp; (try with_reducible rfl)
      try simp only [Act.put, nzA, nzB, nzC]
      replace hHeld := (ST_set (T := [12]) (i := 7) (by kernel_rfl) _ _).2 hHeld
      refine heldL_take (i := 8) (v := ?_) rfl (by kernel_rfl) (by kernel_rfl) (by kernel_rfl) (by kernel_rfl) (by kernel_rfl) (fun _ _ _ h => h) rfl (fun w hSw => ?_) hHeld ?_
      rotate_left
      · (have x0 := cellOf ((show Ext (At tb) w3 _ from hSw).blk HXB.out HNX.out)); go_simp; (try with_reducible rfl)
      try simp only [Act.put, nzA, nzB, nzC]
      replace hHeld := (ST_set (T := [12]) (i := 8) (by kernel_rfl) _ _).2 hHeld
      refine heldL_next1 (i := 9) (by kernel_rfl) (NextL.mk rfl rfl (fun K hK => ?_))
      (go_simp; (go_at_call 13); (refine (gset_any tb S.w _ hww HTP.out).mono ?_); (rintro e5 v1 ⟨m5, g5, hm5, rfl, hb5, hlo5, htA, hyA⟩); go_simp)
      refine hK.out _ _ ?_ (fun hNew => ?_)
      · intro _; exact HE.out.trans hyA
      clear hK K hHeld
      have hHeld := hNew
      clear hNew
      have HS5 := Lib.hid (hb5.out.set (M := No) hww hm5 (fun e => e.elim))
      replace HTP := Lib.hid htA
      replace HE := Lib.hid (HE.out.trans hyA)
      clear hb5 htA hyA
      try simp only [Act.put, nzA, nzB, nzC]
      refine heldL_next1 (i := 10) (by kernel_rfl) (NextL.mk rfl rfl (fun K hK => ?_))
      (go_simp; (go_at_call 23); (refine (rjoin_any (fun b => At tb b ∨ b = g) S.w (rowD (iterD S R) k) m5 _ _ _ (fun b e => by have h1 := HE.out.size; have h2 := (HM3.out.more.lt g rfl).2; rcases e with e | e; (unfold At at e; have h3 := HM3.out.tape.lt; omega); omega) (HSQ.out.ext HE.out (fun i _ e => e)).no HS5.out).mono ?_); (rintro e6 v2 ⟨g6, c6, rfl, hs6, hyA⟩); go_simp)
      refine hK.out _ _ ?_ (fun hNew => ?_)
      · intro _; exact HE.out.transNo hyA
      clear hK K hHeld
      have hHeld := hNew
      clear hNew
      replace HTP := Lib.hid (HTP.out.ext hyA)
      replace HE := Lib.hid (HE.out.transNo hyA)
      have HS6 := Lib.hid hs6.out
      have hmv := Lib.hid (HM3.out.step HE.out HTP.out)
      clear hyA hs6
      try simp only [Act.put, nzA, nzB, nzC]
      refine heldL_free (i := 11) (v := ?_) rfl (by kernel_rfl) (by kernel_rfl) (by kernel_rfl) (by kernel_rfl) (by kernel_rfl) (fun _ _ _ h => h) rfl (fun w => ?_) hHeld ?_
      rotate_left
      · go_simp; (try with_reducible rfl)
      try simp only [Act.put, nzA, nzB, nzC]
      replace hHeld := (ST_set (T := [12]) (i := 11) (by kernel_rfl) _ _).2 hHeld
      refine heldL_next1 (i := 12) (by kernel_rfl) (NextL.mk rfl rfl (fun K hK => ?_))
      ((obtain ⟨p0, p1⟩ := HQ.out); (have x0 := HE.out.keepM p0 HNG.out); (have x1 := HE.out.keepM p1 HNG.out); (have hf9 : ∀ j, v2.frozen? ⟨g, j, none⟩ = false := fun j => World.ownsRow.frozenAt (by have h := hmv.out.more.own; rw [HLK.out] at h; exact h) j); go_simp; (clear p0 p1 x0 x1 hf9))
      refine hK.out _ _ ?_ (fun hNew => ?_)
      · exact fun h => absurd h (by decide)
      clear hK K hHeld
      have hHeld := hNew
      clear hNew
      try simp only [Act.put, nzA, nzB, nzC]
      refine heldL_done (by kernel_rfl) ?_ _
      have hmw := Lib.hid (show CkM tb w ((v2.setCell ⟨g, k * 2, none⟩ (.int .i64 (S.w : Int))).setCell ⟨g, k * 2 + 1, none⟩ (.slice g6 (nw S.w) c6)) bS X B S (.slice ad S.deps.length cd) (.slice at1 S.deps.length ct) (.slice ab S.deps.length cb) (.slice a5 S.deps.length c5) (.slice (some ⟨g, 0, none⟩) S.deps.length cM) Ll (Ll.set k (setN S.w (orN (rowD (iterD S R) k) m5), .slice g6 (nw S.w) c6)) from by
        have h := hmv.out
        rw [← HLK.out] at h ⊢
        exact h.put (i := k) (p := (setN S.w (orN (rowD (iterD S R) k) m5), .slice g6 (nw S.w) c6)) hk2 HS6.out.words)
      go_upto_region 10 with (fail)
      generalize ((v2.setCell ⟨g, k * 2, none⟩ (.int .i64 (S.w : Int))).setCell ⟨g, k * 2 + 1, none⟩ (.slice g6 (nw S.w) c6)) = wr2 at *
      obtain ⟨LD1, LT1, LB1, hYX, hVS⟩ := hmw.out.sys.vs
      have HYX := Lib.hid (hYX.mono (M' := At tb) (fun i _ e => .inl e))
      have HVS := Lib.hid hVS
      have HXB2 := Lib.hid hmw.out.boxX
      have HTW := Lib.hid hmw.out.tape
      have HMV := Lib.hid (show LAt kS (At tb) wr2 (.slice (some ⟨g, 0, none⟩) S.deps.length cM) (Ll.set k (setN S.w (orN (rowD (iterD S R) k) m5), .slice g6 (nw S.w) c6)) from by
        have h := hmw.out.more.list2 (M := At tb) (fun b hb e => by have h1 := (hmw.out.more.lt b hb).1; have h2 := hmw.out.c3; unfold At at e; omega) (fun _ e => e)
        exact h)
      clear hYX hVS
      refine wp_region_held_drew (S := (fun w' => Ext (At tb) wr2 w' ∧ TapeOk w' tb)) (by kernel_rfl) ?_ (fun hHeld => ?_)
      · exact ⟨(Ext.refl No _).drew.ofNo, hmw.out.tape.ext (Ext.refl No _).drew⟩
      refine hTk (i := 0) (v := ?_) rfl (by kernel_rfl) (fun _ _ _ h => h) rfl (fun w hSw => ?_) hHeld ?_
      rotate_left
      · (have hEs := (show Ext (At tb) wr2 _ ∧ TapeOk _ tb from hSw).1); (have x0 := cellOf (hEs.blk HXB2.out HNX.out)); go_simp; (try with_reducible rfl)
      try simp only [Act.put, nzA, nzB, nzC]
      refine hTk (i := 1) (v := ?_) rfl (by kernel_rfl) (fun _ _ _ h => h) rfl (fun w hSw => ?_) hHeld ?_
      rotate_left
      · go_simp; (try with_reducible rfl)
      try simp only [Act.put, nzA, nzB, nzC]
      refine hTk (i := 2) (v := ?_) rfl (by kernel_rfl) (fun _ _ _ h => h) rfl (fun w hSw => ?_) hHeld ?_
      rotate_left
      · (have hEs := (show Ext (At tb) wr2 _ ∧ TapeOk _ tb from hSw).1); (have x0 := cellOf (hEs.blk HXB2.out HNX.out)); go_simp; (try with_reducible rfl)
      try simp only [Act.put, nzA, nzB, nzC]
      refine held_call (i := 3) rfl (by kernel_rfl) rfl (fun K hK => ?_)
      ((have hST : Ext (At tb) wr2 _ ∧ TapeOk _ tb := hHeld); (have hEx := hST.1); (have hTP := hST.2); go_simp; (go_at_call 25); (refine (values_any tb S.w S.deps.length _ _ _ _ _ (by omega) (by omega) (by omega) hTP).mono ?_); (rintro e11 u11 ⟨vv8, L8, rfl, hl8, hown8, ht11', hyA⟩); (have hyT := ht11'); (have HL8 := Lib.hid (hown8.out.list (M := No) (fun _ _ x => x) (fun _ x => x.elim))); (obtain ⟨a8, c8, rfl⟩ := HL8.out.slice); (clear hown8); go_simp)
      refine hK.out _ _ ?_ (fun hNew => ?_)
      · exact ⟨Ext.trans (show Ext (At tb) wr2 _ ∧ TapeOk _ tb from hHeld).1 hyA, hyT⟩
      clear hK K hHeld
      have hHeld := hNew
      clear hNew
      try simp only [Act.put, nzA, nzB, nzC]
      refine held_call (i := 4) rfl (by kernel_rfl) rfl (fun K hK => ?_)
      ((have hST : Ext (At tb) wr2 _ ∧ TapeOk _ tb := hHeld); (have hEx := hST.1); (have hTP := hST.2); go_simp; (go_at_call 24); (refine (checks_any (S.w : Int) _ _ _ _ LD1 LT1 LB1 _ _ (HYX.out.ext hEx (fun _ _ e => e)).no (HL8.out)).mono ?_); (rintro e12 u12 ⟨rfl, hy0⟩); (have hyA := hy0.ofNo (M := At tb)); (have hyT := hTP.ext hy0); (clear hy0); go_simp)
      refine hK.out _ _ ?_ (fun hNew => ?_)
      · exact ⟨Ext.trans (show Ext (At tb) wr2 _ ∧ TapeOk _ tb from hHeld).1 hyA, hyT⟩
      clear hK K hHeld
      have hHeld := hNew
      clear hNew
      try simp only [Act.put, nzA, nzB, nzC]
      refine hTk (i := 5) (v := ?_) rfl (by kernel_rfl) (fun _ _ _ h => h) rfl (fun w hSw => ?_) hHeld ?_
      rotate_left
      · go_simp; (try with_reducible rfl)
      try simp only [Act.put, nzA, nzB, nzC]
      refine hTk (i := 6) (v := ?_) rfl (by kernel_rfl) (fun _ _ _ h => h) rfl (fun w hSw => ?_) hHeld ?_
      rotate_left
      · go_simp; (try with_reducible rfl)
      try simp only [Act.put, nzA, nzB, nzC]
      refine hTk (i := 7) (v := ?_) rfl (by kernel_rfl) (fun _ _ _ h => h) rfl (fun w hSw => ?_) hHeld ?_
      rotate_left
      · (have hEs := (show Ext (At tb) wr2 _ ∧ TapeOk _ tb from hSw).1); (have x0 := cellOf (hEs.blk HXB2.out HNX.out)); go_simp; (try with_reducible rfl)
      try simp only [Act.put, nzA, nzB, nzC]
      refine hTk (i := 8) (v := ?_) rfl (by kernel_rfl) (fun _ _ _ h => h) rfl (fun w hSw => ?_) hHeld ?_
      rotate_left
      · go_simp; (try with_reducible rfl)
      try simp only [Act.put, nzA, nzB, nzC]
      refine held_call (i := 9) rfl (by kernel_rfl) rfl (fun K hK => ?_)
      ((have hST : Ext (At tb) wr2 _ ∧ TapeOk _ tb := hHeld); (have hEx := hST.1); (have hTP := hST.2); go_simp; (go_at_call 24); (refine (checks_any (S.w : Int) _ _ _ _ LD1 LT1 LB1 _ _ (HYX.out.ext hEx (fun _ _ e => e)).no ((hmw.out.least.ext hEx (fun _ _ e => .inl e)).no)).mono ?_); (rintro e13 u13 ⟨rfl, hy0⟩); (have hyA := hy0.ofNo (M := At tb)); (have hyT := hTP.ext hy0); (clear hy0); go_simp)
      refine hK.out _ _ ?_ (fun hNew => ?_)
      · exact ⟨Ext.trans (show Ext (At tb) wr2 _ ∧ TapeOk _ tb from hHeld).1 hyA, hyT⟩
      clear hK K hHeld
      have hHeld := hNew
      clear hNew
      try simp only [Act.put, nzA, nzB, nzC]
      refine hTk (i := 10) (v := ?_) rfl (by kernel_rfl) (fun _ _ _ h => h) rfl (fun w hSw => ?_) hHeld ?_
      rotate_left
      · go_simp; (try with_reducible rfl)
      try simp only [Act.put, nzA, nzB, nzC]
      refine hTk (i := 11) (v := ?_) rfl (by kernel_rfl) (fun _ _ _ h => h) rfl (fun w hSw => ?_) hHeld ?_
      rotate_left
      · go_simp; (try with_reducible rfl)
      try simp only [Act.put, nzA, nzB, nzC]
      refine hTk (i := 12) (v := ?_) rfl (by kernel_rfl) (fun _ _ _ h => h) rfl (fun w hSw => ?_) hHeld ?_
      rotate_left
      · go_simp; (try with_reducible rfl)
      try simp only [Act.put, nzA, nzB, nzC]
      refine hTk (i := 13) (v := ?_) rfl (by kernel_rfl) (fun _ _ _ h => h) rfl (fun w hSw => ?_) hHeld ?_
      rotate_left
      · (have hEs := (show Ext (At tb) wr2 _ ∧ TapeOk _ tb from hSw).1); (have x0 := cellOf (hEs.blk HXB2.out HNX.out)); go_simp; (try with_reducible rfl)
      try simp only [Act.put, nzA, nzB, nzC]
      refine hTk (i := 14) (v := ?_) rfl (by kernel_rfl) (fun _ _ _ h => h) rfl (fun w hSw => ?_) hHeld ?_
      rotate_left
      · go_simp; (try with_reducible rfl)
      try simp only [Act.put, nzA, nzB, nzC]
      refine held_call (i := 15) rfl (by kernel_rfl) rfl (fun K hK => ?_)
      ((have hST : Ext (At tb) wr2 _ ∧ TapeOk _ tb := hHeld); (have hEx := hST.1); (have hTP := hST.2); go_simp; (go_at_call 24); (refine (checks_any (S.w : Int) _ _ _ _ LD1 LT1 LB1 _ _ (HYX.out.ext hEx (fun _ _ e => e)).no ((HMV.out.ext hEx (fun _ _ e => e)).no)).mono ?_); (rintro e14 u14 ⟨rfl, hy0⟩); (have hyA := hy0.ofNo (M := At tb)); (have hyT := hTP.ext hy0); (clear hy0); go_simp)
      refine hK.out _ _ ?_ (fun hNew => ?_)
      · exact ⟨Ext.trans (show Ext (At tb) wr2 _ ∧ TapeOk _ tb from hHeld).1 hyA, hyT⟩
      clear hK K hHeld
      have hHeld := hNew
      clear hNew
      try simp only [Act.put, nzA, nzB, nzC]
      refine hTk (i := 16) (v := ?_) rfl (by kernel_rfl) (fun _ _ _ h => h) rfl (fun w hSw => ?_) hHeld ?_
      rotate_left
      · go_simp; (try with_reducible rfl)
      try simp only [Act.put, nzA, nzB, nzC]
      refine hTk (i := 17) (v := ?_) rfl (by kernel_rfl) (fun _ _ _ h => h) rfl (fun w hSw => ?_) hHeld ?_
      rotate_left
      · go_simp; (try with_reducible rfl)
      try simp only [Act.put, nzA, nzB, nzC]
      refine hTk (i := 18) (v := ?_) rfl (by kernel_rfl) (fun _ _ _ h => h) rfl (fun w hSw => ?_) hHeld ?_
      rotate_left
      · go_simp; (try with_reducible rfl)
      try simp only [Act.put, nzA, nzB, nzC]
      refine hTk (i := 19) (v := ?_) rfl (by kernel_rfl) (fun _ _ _ h => h) rfl (fun w hSw => ?_) hHeld ?_
      rotate_left
      · go_simp; (try with_reducible rfl)
      try simp only [Act.put, nzA, nzB, nzC]
      refine hTk (i := 20) (v := ?_) rfl (by kernel_rfl) (fun _ _ _ h => h) rfl (fun w hSw => ?_) hHeld ?_
      rotate_left
      · (have hEs := (show Ext (At tb) wr2 _ ∧ TapeOk _ tb from hSw).1); (have x0 := cellOf (hEs.blk HXB2.out HNX.out)); go_simp; (try with_reducible rfl)
      try simp only [Act.put, nzA, nzB, nzC]
      refine hTk (i := 22) (v := ?_) rfl (by kernel_rfl) (fun _ _ _ h => h) rfl (fun w hSw => ?_) hHeld ?_
      rotate_left
      · go_simp; (try with_reducible rfl)
      try simp only [Act.put, nzA, nzB, nzC]
      refine held_call (i := 21) rfl (by kernel_rfl) rfl (fun K hK => ?_)
      ((have hST : Ext (At tb) wr2 _ ∧ TapeOk _ tb := hHeld); (have hEx := hST.1); (have hTP := hST.2); go_simp; (go_at_call 19); (refine (spoilSys_any tb (S.w : Int) _ _ _ LD1 LT1 LB1 _ (HYX.out.ext hEx (fun _ _ e => e)) HVS.out hTP).mono ?_); (rintro e15 u15 ⟨xs, vd2, vt2, vb2, LD2, LT2, LB2, rfl, hY15, ht15', hyA⟩); (have hyT := ht15'); go_simp)
      refine hK.out _ _ ?_ (fun hNew => ?_)
      · exact ⟨Ext.trans (show Ext (At tb) wr2 _ ∧ TapeOk _ tb from hHeld).1 hyA, hyT⟩
      clear hK K hHeld
      have hHeld := hNew
      clear hNew
      try simp only [Act.put, nzA, nzB, nzC]
      refine held_call (i := 23) rfl (by kernel_rfl) rfl (fun K hK => ?_)
      ((have hST : Ext (At tb) wr2 _ ∧ TapeOk _ tb := hHeld); (have hEx := hST.1); (have hTP := hST.2); go_simp; (go_at_call 24); (refine (checks_any xs _ _ _ _ LD2 LT2 LB2 _ _ hY15.out (hmw.out.least.ext hEx (fun _ _ e => .inl e)).no).mono ?_); (rintro e16 u16 ⟨rfl, hy0⟩); (have hyA := hy0.ofNo (M := At tb)); (have hyT := hTP.ext hy0); (clear hy0); go_simp)
      refine hK.out _ _ ?_ (fun hNew => ?_)
      · exact ⟨Ext.trans (show Ext (At tb) wr2 _ ∧ TapeOk _ tb from hHeld).1 hyA, hyT⟩
      clear hK K hHeld
      have hHeld := hNew
      clear hNew
      try simp only [Act.put, nzA, nzB, nzC]
      refine hTk (i := 24) (v := ?_) rfl (by kernel_rfl) (fun _ _ _ h => h) rfl (fun w hSw => ?_) hHeld ?_
      rotate_left
      · go_simp; (try with_reducible rfl)
      try simp only [Act.put, nzA, nzB, nzC]
      refine hTk (i := 25) (v := ?_) rfl (by kernel_rfl) (fun _ _ _ h => h) rfl (fun w hSw => ?_) hHeld ?_
      rotate_left
      · go_simp; (try with_reducible rfl)
      try simp only [Act.put, nzA, nzB, nzC]
      refine wpAnyH_done (by kernel_rfl) ?_ _
      have hST : Ext (At tb) wr2 _ ∧ TapeOk _ tb := hHeld
      have hEx := hST.1
      have ht16 := Lib.hid hST.2
      go_wp2_with fail
      go_roundw
      case rel => exact ⟨i + 1, HII.out, by omega, ht16, Lib.hid (hmw.out.ext.trans2 hEx (fun i hi e => by unfold At at e; have := hmw.out.c1; omega)), Lib.hid (hEx.blk hmw.out.boxS (by unfold At; omega))⟩
      case measure => simp [intOf]; omega
    · have hge : ¬ (i : Int) < 5 := by omega
      have hb := hbs.out
      rw [HBS.out] at hb
      have HBX := Lib.hid hb
      have cS := cellOf hb
      clear hb
      go_wp2_with fail
      clear cS
      refine (huge_any x _ _ _ Ld Lt Lb _ (HY.out.extNo hx.out)).mono ?_
      rintro e1 w1 ⟨⟨b, rfl⟩, hx1⟩
      have HX1 := Lib.hid (hx.out.transNo hx1)
      have HBX1 := Lib.hid (hx1.blk HBX.out no_no)
      clear hx1
      cases b with
      | true =>
        go_wp2_with fail
        go_ret
        exact ⟨rfl, HX1.out⟩
      | false =>
        by_cases hl8 : 8 < (Lv.length : Int)
        · go_wp2_with fail
          go_ret
          exact ⟨rfl, HX1.out⟩
        · have cS := cellOf HBX1.out
          go_wp2_with fail
          clear cS
          refine (checks_any x _ _ _ _ Ld Lt Lb Lv _ (HY.out.extNo HX1.out) (HVV.out.extNo HX1.out)).mono ?_
          rintro e2 w2 ⟨rfl, hx2⟩
          go_wp2_with fail
          refine (sane11_any _).mono ?_
          rintro e3 w3 ⟨rfl, hx3⟩
          go_wp2_with fail
          go_ret
          exact ⟨rfl, (HX1.out.transNo hx2).transNo hx3⟩
end Go.Proofs.Ytkdjdhflhlbelaa

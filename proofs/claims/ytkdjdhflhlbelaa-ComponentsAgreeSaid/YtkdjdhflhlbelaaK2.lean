/- The search's visit, by induction on the number of those not yet discovered. -/
import Derived.Test.YtkdjdhflhlbelaaK1
import Derived.Test.YtkdjdhflhlbelaaHeldL
set_option linter.unusedVariables false
set_option linter.unusedSimpArgs false
namespace Go.Proofs.Ytkdjdhflhlbelaa
open Go Go.RowKit Tj
theorem infoInt2 : (Try.prog.info? 3).map (fun i => (i.zero, i.size, i.bytes)) = some (some (.int .i64 0), 1, 8) := by kernel_rfl
def outTo (t : TS) (L : List Nat) (c : Int) (k : Nat) : TS := { t with out := fun x => if x ∈ L.take k then c else t.out x }
theorem outTo_zero (t : TS) (L : List Nat) (c : Int) : outTo t L c 0 = t := by
 unfold outTo
 simp
theorem outTo_succ {t : TS} {L : List Nat} {c : Int} {k x : Nat} (hk : k < L.length) (hx : x = L[k]) : { outTo t L c k with out := upd (outTo t L c k).out x c } = outTo t L c (k + 1) := by
 have h : upd (outTo t L c k).out x c = (outTo t L c (k + 1)).out := by
  funext y
  show (if y = x then c else if y ∈ L.take k then c else t.out y) = if y ∈ L.take (k + 1) then c else t.out y
  rw [List.take_succ_eq_append_getElem hk]
  by_cases e : y = x
  ·rw [if_pos e, if_pos (List.mem_append_right _ (by rw [e, hx]; exact List.mem_singleton_self _))]
  ·rw [if_neg e]
   by_cases e2 : y ∈ L.take k
   ·rw [if_pos e2, if_pos (List.mem_append_left _ e2)]
   ·rw [if_neg e2, if_neg (fun e3 => (List.mem_append.1 e3).elim e2 (fun e4 => e (by rw [hx]; simpa using e4)))]
 exact congrArg (fun o => { t with out := o }) h
theorem outTo_all (s t : TS) (l : List Nat) (n : Nat) (c : Int) : { outTo t (n :: l) c (n :: l).length with path := s.path } = Tj.finish s t l n c := by
 unfold outTo Tj.finish
 simp only [List.take_length]
def VisPost (S : SysD) (B P X bi bl bo cI cL cO : Nat) (vd : Value) (W0 : World) (G : Nat → Prop) (s : TS) (n : Nat) (e : Ending) (w' : World) : Prop :=
 ∃ (v : Value) (s' : TS) (vp' : Value), e = .returned v ∧ Hid (VPost S.deps.length (depD S) G s n s') ∧ Hid (SvM S.deps.length B P X bi bl bo cI cL cO vd W0 w' vp' s')
set_option maxRecDepth 100000 in
set_option maxHeartbeats 16000000 in
theorem visit_any (S : SysD) (B P X bi bl bo cI cL cO : Nat) (vd vt vb : Value) (W0 : World) (hW0 : W0.heap.size ≤ B) (hS : SysAt No W0 vd vt vb S) :
  ∀ (f : Nat) (s : TS) (n : Nat) (G : Nat → Prop) (vp : Value) (W : World), whites S.deps.length s ≤ f → VPre S.deps.length (depD S) G s n → SvM S.deps.length B P X bi bl bo cI cL cO vd W0 W vp s →
   Calls Try.prog 119 #[.pointer (some ⟨X, 0, none⟩), .int .i64 (n : Int)] W (VisPost S B P X bi bl bo cI cL cO vd W0 G s n) := by
 intro f
 induction f with
 | zero =>
  intro s n G vp W hf hp _
  have h1 := hp.room
  have h2 := hp.inv.tot
  omega
 | succ f ih =>
 intro s n G vp W hf hp hm
 obtain ⟨i0, hi0, hz0, hz1, hz2⟩ := info_parts infoInt2
 have HS := Lib.hid (show SysAt (fun b => B ≤ b) W0 vd vt vb S from hS.mono (fun i hi e => by omega))
 have HF := Lib.hid hf
 have HP := Lib.hid hp
 have IH := Lib.hid ih
 have hnN := hp.lt
 have hnn := hS.ok.n2
 have hok := hS.ok
 have HOK := Lib.hid hok
 obtain ⟨bd, od, cd, aq, cq, hve, gd0, hint0⟩ := hS.dep hnN
 subst hve
 have HW0 := Lib.hid (show ∀ b, b < W0.heap.size → ¬ (B ≤ b) from fun b hb => by omega)
 have hbd := World.block_lt_of_cell? W0 _ gd0
 have HGD := Lib.hid gd0
 have HINT := Lib.hid hint0.out
 obtain ⟨dn, hdn⟩ : ∃ dn, dn = (depD S n).length := ⟨_, rfl⟩
 have HDN := Lib.hid hdn
 have hdb : dn ≤ 9223372036854775807 := by rw [hdn]; exact IntsN.len hint0.out
 obtain ⟨c1, hc1⟩ : ∃ c1 : Nat, c1 = s.cnt + 1 := ⟨_, rfl⟩
 have hroom := hp.room
 have hadd : IntKind.i64.wrap ((s.cnt : Int) + 1) = (c1 : Int) := by rw [IntWalk.i64_in _ (by omega)]; omega
 have hnz : (n : Int) < (S.deps.length : Int) := by omega
 have hnz0 : (0 : Int) ≤ (n : Int) := by omega
 have HM := Lib.hid hm
 obtain ⟨⟨l1, l2, l3, l4⟩, l5, l6, l7, l8⟩ := hm.lo
 obtain ⟨⟨n1, n2, n3⟩, n4, n5, n6⟩ := hm.ne
 have HL := Lib.hid (And.intro hm.lo hm.ne)
 have hX0 := cellOf hm.box
 have hXf := freeOf hm.box
 have HC1 := Lib.hid hc1
 clear hf hp hm ih hS hok gd0 hint0 hdn hc1
 go_enter Try.func119, Try.ntmps119
 go_upto_region 1 with (fail)
 clear hX0 hXf
 have hm1 := Lib.hid (HM.out.putCnt c1)
 generalize (W.setCell ⟨X, 5, none⟩ (.int .i64 (c1 : Int))) = w1 at *
 refine wp_region_held_drew (S := (fun w' => Ext (fun b => b = bi ∨ b = bl) w1 w')) (by kernel_rfl) ?_ (fun hHeld => ?_)
 ·exact (Ext.refl _ _).drew
 have HB1 := Lib.hid hm1.out.box
 replace hm1 := Lib.hid (hm1.out.stepNo (Ext.refl No _).drew)
 generalize w1.drew = v0 at *
 refine hTk (i := 0) (v := ?_) hHeld (fun w hSw => ?_) ?_
 rotate_left
 ·go_simp; (try with_reducible rfl)
 try simp only [Act.put, nzA, nzB, nzC]
 refine hTk (i := 1) (v := ?_) hHeld (fun w hSw => ?_) ?_
 rotate_left
 ·go_simp; (try with_reducible rfl)
 try simp only [Act.put, nzA, nzB, nzC]
 refine hTk (i := 2) (v := ?_) hHeld (fun w hSw => ?_) ?_
 rotate_left
 ·go_simp; (try with_reducible rfl)
 try simp only [Act.put, nzA, nzB, nzC]
 refine hTk (i := 3) (v := ?_) hHeld (fun w hSw => ?_) ?_
 rotate_left
 ·(have x0 := cellOf ((show Ext (fun b => b = bi ∨ b = bl) w1 _ from hSw).blk HB1.out (fun e => by rcases e with e | e <;> omega))); go_simp; (try with_reducible rfl)
 try simp only [Act.put, nzA, nzB, nzC]
 refine hTk (i := 4) (v := ?_) hHeld (fun w hSw => ?_) ?_
 rotate_left
 ·go_simp; (try with_reducible rfl)
 try simp only [Act.put, nzA, nzB, nzC]
 refine hTk (i := 5) (v := ?_) hHeld (fun w hSw => ?_) ?_
 rotate_left
 ·go_simp; (try with_reducible rfl)
 try simp only [Act.put, nzA, nzB, nzC]
 refine hTk (i := 6) (v := ?_) hHeld (fun w hSw => ?_) ?_
 rotate_left
 ·go_simp; (try with_reducible rfl)
 try simp only [Act.put, nzA, nzB, nzC]
 refine hTk (i := 7) (v := ?_) hHeld (fun w hSw => ?_) ?_
 rotate_left
 ·go_simp; (try with_reducible rfl)
 try simp only [Act.put, nzA, nzB, nzC]
 refine hTk (i := 8) (v := ?_) hHeld (fun w hSw => ?_) ?_
 rotate_left
 ·(have x0 := cellOf ((show Ext (fun b => b = bi ∨ b = bl) w1 _ from hSw).blk HB1.out (fun e => by rcases e with e | e <;> omega))); go_simp; (try with_reducible rfl)
 try simp only [Act.put, nzA, nzB, nzC]
 refine hTk (i := 9) (v := ?_) hHeld (fun w hSw => ?_) ?_
 rotate_left
 ·go_simp; (try with_reducible rfl)
 try simp only [Act.put, nzA, nzB, nzC]
 refine hTk (i := 10) (v := ?_) hHeld (fun w hSw => ?_) ?_
 rotate_left
 ·go_simp; (try with_reducible rfl)
 try simp only [Act.put, nzA, nzB, nzC]
 refine hTk (i := 11) (v := ?_) hHeld (fun w hSw => ?_) ?_
 rotate_left
 ·go_simp; (try with_reducible rfl)
 try simp only [Act.put, nzA, nzB, nzC]
 refine hTk (i := 12) (v := ?_) hHeld (fun w hSw => ?_) ?_
 rotate_left
 ·go_simp; (try with_reducible rfl)
 try simp only [Act.put, nzA, nzB, nzC]
 refine hTk (i := 13) (v := ?_) hHeld (fun w hSw => ?_) ?_
 rotate_left
 ·(have x0 := cellOf ((show Ext (fun b => b = bi ∨ b = bl) w1 _ from hSw).blk HB1.out (fun e => by rcases e with e | e <;> omega))); go_simp; (try with_reducible rfl)
 try simp only [Act.put, nzA, nzB, nzC]
 refine hTk (i := 14) (v := ?_) hHeld (fun w hSw => ?_) ?_
 rotate_left
 ·go_simp; (try with_reducible rfl)
 try simp only [Act.put, nzA, nzB, nzC]
 refine hTk (i := 15) (v := ?_) hHeld (fun w hSw => ?_) ?_
 rotate_left
 ·go_simp; (try with_reducible rfl)
 try simp only [Act.put, nzA, nzB, nzC]
 refine hTk (i := 16) (v := ?_) hHeld (fun w hSw => ?_) ?_
 rotate_left
 ·go_simp; (try with_reducible rfl)
 try simp only [Act.put, nzA, nzB, nzC]
 refine hTk (i := 17) (v := ?_) hHeld (fun w hSw => ?_) ?_
 rotate_left
 ·(have x0 := cellOf ((show Ext (fun b => b = bi ∨ b = bl) w1 _ from hSw).blk HB1.out (fun e => by rcases e with e | e <;> omega))); go_simp; (try with_reducible rfl)
 try simp only [Act.put, nzA, nzB, nzC]
 refine hTk (i := 18) (v := ?_) hHeld (fun w hSw => ?_) ?_
 rotate_left
 ·go_simp; (try with_reducible rfl)
 try simp only [Act.put, nzA, nzB, nzC]
 refine held_call (i := 19) rfl (by kernel_rfl) rfl (fun K hK => ?_)
 ((have q0 := hm1.out.rI.cell hnN); (have f0 := hm1.out.rI.free n); go_simp; (clear q0 f0))
 refine hK.out _ _ ?_ ?_
 ·exact Ext.setCell (show Ext (fun b => b = bi ∨ b = bl) w1 _ from hHeld) (fun _ => .inl rfl) _
 clear hK K hHeld
 intro hHeld
 have hm2 := Lib.hid (hm1.out.putIdx n c1)
 generalize (v0.setCell ⟨bi, n, none⟩ (.int .i64 (c1 : Int))) = w2 at *
 try simp only [Act.put, nzA, nzB, nzC]
 refine hTk (i := 20) (v := ?_) hHeld (fun w hSw => ?_) ?_
 rotate_left
 ·go_simp; (try with_reducible rfl)
 try simp only [Act.put, nzA, nzB, nzC]
 refine held_call (i := 21) rfl (by kernel_rfl) rfl (fun K hK => ?_)
 ((have q0 := hm2.out.rL.cell hnN); (have f0 := hm2.out.rL.free n); go_simp; (clear q0 f0))
 refine hK.out _ _ ?_ ?_
 ·exact Ext.setCell (show Ext (fun b => b = bi ∨ b = bl) w1 _ from hHeld) (fun _ => .inr rfl) _
 clear hK K hHeld
 intro hHeld
 have hm3 := Lib.hid (hm2.out.putLow n c1)
 generalize (w2.setCell ⟨bl, n, none⟩ (.int .i64 (c1 : Int))) = w3 at *
 try simp only [Act.put, nzA, nzB, nzC]
 refine wpAnyH_done (by kernel_rfl) ?_ _
 have hEx : Ext (fun b => b = bi ∨ b = bl) w1 _ := hHeld
 clear hm1 hm2
 have hpl := HP.out.inv.path_len
 obtain ⟨ap, cp, hvp⟩ := hm3.out.slice
 have HVP := Lib.hid hvp
 obtain ⟨vpl, hvpl⟩ : ∃ k, k = s.path.length := ⟨_, rfl⟩
 have hvp2 : vp = .slice ap vpl cp := by rw [hvp, hvpl]
 subst hvp2
 have HB3 := Lib.hid hm3.out.box
 have HPT := Lib.hid (show w3.ownsRow P 3 1 (.slice ap vpl cp) vpl ((natsZ s.path).map (.int .i64)) from by have h := hm3.out.path; rw [← hvpl] at h; exact h)
 have HVPL := Lib.hid hvpl
 have hPw := hm3.out.top
 rw [← hvpl] at hpl
 clear hvp hvpl
 have hX0 := cellOf HB3.out
 have hXf := freeOf HB3.out
 go_upto_region 3 with (at_builtin; (refine wpList_app _ rfl (.tmp 41) (.tmp 43) 22 rfl P 3 i0 _ 1 8 Try.underlying22 hi0 hz0 hz1 hz2 rfl (by omega) (.slice ap vpl cp) vpl ((natsZ s.path).map (.int .i64)) rfl (row_keep HPT.out ((Ext.refl No _).alloc _) (fun _ _ x => x)) No (some ⟨w3.heap.size, 0, none⟩) 1 1 [.int .i64 (n : Int)] rfl (Row.block (alloc_top rfl) rfl no_no (by omega)) (by simp [Value.oneCell']) (by omega) (by omega) (by simp; omega) ?_); (intro v1 w9 hown1 hg1 hv1); (obtain ⟨a9, c9, hs9⟩ := (Row.ofOwns (M := No) hown1 (fun _ _ x => x)).slice); (subst hs9); (have hX9 := (((Ext.refl (fun k => (Value.slice ap vpl cp).ownBlock = some k) w3).alloc _).grown hg1 (fun k hk _ => hk)).blk HB3.out (fun e => by have := (World.ownsRow.lt HPT.out X e).1; omega)); (clear hX0 hXf); (have hX0 := cellOf hX9); (have hXf := freeOf hX9); (have hm4 := Lib.hid (hm3.out.app (n := n) (vp' := .slice a9 (vpl + 1) c9) (by have e := HVPL.out; subst e; exact hown1) hg1)); (clear hown1 hg1 hv1))
 clear hX0 hXf hX9 hm3 HB3 HPT
 generalize (w9.setCell ⟨X, 3, none⟩ (.slice a9 (vpl + 1) c9)) = w4 at *
 have hm5 := Lib.hid (show SvM S.deps.length B P X bi bl bo cI cL cO (.slice (some ⟨bd, od, none⟩) S.deps.length cd) W0 w4 (.slice a9 (vpl + 1) c9) (Tj.start s n) from by
  have h := hm4.out
  have e := HC1.out
  subst e
  exact h)
 clear hm4
 have hX0 := cellOf hm5.out.box
 have gd := hm5.out.ext.keepM HGD.out (HW0.out _ hbd)
 rw [← HDN.out] at gd
 go_wp2_with fail
 clear hX0 gd
 go_loopw [5, 55] (fun _ i wr => ∃ (k : Nat) (t : TS) (vq : Value), i = .int .i64 k ∧ k ≤ dn ∧ Hid (LInv S.deps.length (depD S) G s n k t) ∧ Hid (SvM S.deps.length B P X bi bl bo cI cL cO (.slice (some ⟨bd, od, none⟩) S.deps.length cd) W0 wr (vq) (t))) (fun _ i _ => dn - (intOf i).toNat)
 case atStart => exact ⟨0, _, _, rfl, Nat.zero_le _, Lib.hid (LInv.start HP.out), hm5⟩
 case round =>
  clear hm5
  obtain ⟨k, t, vq, rfl, hk, hl, hm⟩ := hrel
  rename World => wr
  by_cases hlt : k < dn
  ·have hlz : (k : Int) < (dn : Int) := by omega
   have HKK : Hid (Value.int .i64 ((k : Int) + 1) = .int .i64 ((k + 1 : Nat) : Int)) := Lib.hid (by rw [show ((k + 1 : Nat) : Int) = (k : Int) + 1 from by omega])
   have hkd : k < (depD S n).length := by rw [← HDN.out]; exact hlt
   obtain ⟨b, off, cap', hsl, hb1, _, hcell⟩ := IntsN.at HINT.out hkd
   simp only [Value.slice.injEq] at hsl
   obtain ⟨rfl, _, rfl⟩ := hsl
   have q0 := hm.out.ext.keepM (hcell k hkd) (HW0.out _ hb1)
   obtain ⟨m, hmj⟩ : ∃ m, m = (depD S n)[k] := ⟨_, rfl⟩
   rw [← hmj] at q0
   have hmN : m < S.deps.length := HOK.out.dep (i := n) (by rw [hmj]; exact List.getElem_mem hkd)
   have HMJ := Lib.hid hmj
   have hmz : (m : Int) < (S.deps.length : Int) := by omega
   have hmz0 : (0 : Int) ≤ (m : Int) := by omega
   clear hmj hcell
   have hX0 := cellOf hm.out.box
   have hi1 := hm.out.rI.cell hmN
   have HBX := Lib.hid hm.out.box
   by_cases hw : t.idx m = 0
   ·have HWW := Lib.hid hw
    rw [hw] at hi1
    clear hw
    go_wp2_with fail
    clear hX0 hi1 q0
    refine (IH.out t m (gn G n) vq wr (by have h1 := HF.out; have h2 := hl.out.whites; omega) (hl.out.call hkd HMJ.out hmN HWW.out) hm.out).mono ?_
    rintro e6 w6 ⟨v6, t6, vp6, rfl, hpost, hm6⟩
    clear hm HBX
    have HB6 := Lib.hid hm6.out.box
    have HLN := Lib.hid (hm6.out.rL.cell hnN)
    have HLM := Lib.hid (hm6.out.rL.cell hmN)
    obtain ⟨q, hq⟩ : ∃ q, q = min (t6.low n) (t6.low m) := ⟨_, rfl⟩
    have HMV := Lib.hid (show Value.int .i64 (if t6.low m < t6.low n then (t6.low m : Int) else (t6.low n : Int)) = .int .i64 (q : Int) from by
     split
     ·rw [show t6.low m = q from by omega]
     ·rw [show t6.low n = q from by omega])
    have HQ := Lib.hid hq
    clear hq
    go_upto_region 8 with (fail)
    refine wp_region_heldL [21] (fun w' => Ext No w6 w') (by kernel_rfl) ?_ (fun hHeld => ?_)
    ·exact (Ext.refl _ _).drew
    have hm6d := Lib.hid (hm6.out.stepNo (Ext.refl No _).drew)
    generalize w6.drew = v0 at *
    refine heldL_free (i := 0) (v := ?_) rfl (by kernel_rfl) (by kernel_rfl) (by kernel_rfl) (by kernel_rfl) (by kernel_rfl) (fun _ _ _ h => h) rfl (fun w => ?_) hHeld ?_
    rotate_left
    ·go_simp; (try with_reducible rfl)
    try simp only [Act.put, nzA, nzB, nzC]
    replace hHeld := (ST_set (T := [21]) (i := 0) (by kernel_rfl) _ _).2 hHeld
    refine heldL_free (i := 1) (v := ?_) rfl (by kernel_rfl) (by kernel_rfl) (by kernel_rfl) (by kernel_rfl) (by kernel_rfl) (fun _ _ _ h => h) rfl (fun w => ?_) hHeld ?_
    rotate_left
    ·go_simp; (try with_reducible rfl)
    try simp only [Act.put, nzA, nzB, nzC]
    replace hHeld := (ST_set (T := [21]) (i := 1) (by kernel_rfl) _ _).2 hHeld
    refine heldL_free (i := 2) (v := ?_) rfl (by kernel_rfl) (by kernel_rfl) (by kernel_rfl) (by kernel_rfl) (by kernel_rfl) (fun _ _ _ h => h) rfl (fun w => ?_) hHeld ?_
    rotate_left
    ·go_simp; (try with_reducible rfl)
    try simp only [Act.put, nzA, nzB, nzC]
    replace hHeld := (ST_set (T := [21]) (i := 2) (by kernel_rfl) _ _).2 hHeld
    refine heldL_take (i := 3) (v := ?_) rfl (by kernel_rfl) (by kernel_rfl) (by kernel_rfl) (by kernel_rfl) (by kernel_rfl) (fun _ _ _ h => h) rfl (fun w hSw => ?_) hHeld ?_
    rotate_left
    ·(have hEs : Ext No w6 _ := hSw); (have x0 := cellOf (hEs.blk HB6.out no_no)); go_simp; (try with_reducible rfl)
    try simp only [Act.put, nzA, nzB, nzC]
    replace hHeld := (ST_set (T := [21]) (i := 3) (by kernel_rfl) _ _).2 hHeld
    refine heldL_free (i := 4) (v := ?_) rfl (by kernel_rfl) (by kernel_rfl) (by kernel_rfl) (by kernel_rfl) (by kernel_rfl) (fun _ _ _ h => h) rfl (fun w => ?_) hHeld ?_
    rotate_left
    ·go_simp; (try with_reducible rfl)
    try simp only [Act.put, nzA, nzB, nzC]
    replace hHeld := (ST_set (T := [21]) (i := 4) (by kernel_rfl) _ _).2 hHeld
    refine heldL_free (i := 5) (v := ?_) rfl (by kernel_rfl) (by kernel_rfl) (by kernel_rfl) (by kernel_rfl) (by kernel_rfl) (fun _ _ _ h => h) rfl (fun w => ?_) hHeld ?_
    rotate_left
    ·go_simp; (try with_reducible rfl)
    try simp only [Act.put, nzA, nzB, nzC]
    replace hHeld := (ST_set (T := [21]) (i := 5) (by kernel_rfl) _ _).2 hHeld
    refine heldL_free (i := 6) (v := ?_) rfl (by kernel_rfl) (by kernel_rfl) (by kernel_rfl) (by kernel_rfl) (by kernel_rfl) (fun _ _ _ h => h) rfl (fun w => ?_) hHeld ?_
    rotate_left
    ·go_simp; (try with_reducible rfl)
    try simp only [Act.put, nzA, nzB, nzC]
    replace hHeld := (ST_set (T := [21]) (i := 6) (by kernel_rfl) _ _).2 hHeld
    refine heldL_free (i := 7) (v := ?_) rfl (by kernel_rfl) (by kernel_rfl) (by kernel_rfl) (by kernel_rfl) (by kernel_rfl) (fun _ _ _ h => h) rfl (fun w => ?_) hHeld ?_
    rotate_left
    ·go_simp; (try with_reducible rfl)
    try simp only [Act.put, nzA, nzB, nzC]
    replace hHeld := (ST_set (T := [21]) (i := 7) (by kernel_rfl) _ _).2 hHeld
    refine heldL_take (i := 8) (v := ?_) rfl (by kernel_rfl) (by kernel_rfl) (by kernel_rfl) (by kernel_rfl) (by kernel_rfl) (fun _ _ _ h => h) rfl (fun w hSw => ?_) hHeld ?_
    rotate_left
    ·(have hEs : Ext No w6 _ := hSw); (have x0 := cellOf (hEs.blk HB6.out no_no)); go_simp; (try with_reducible rfl)
    try simp only [Act.put, nzA, nzB, nzC]
    replace hHeld := (ST_set (T := [21]) (i := 8) (by kernel_rfl) _ _).2 hHeld
    refine heldL_free (i := 9) (v := ?_) rfl (by kernel_rfl) (by kernel_rfl) (by kernel_rfl) (by kernel_rfl) (by kernel_rfl) (fun _ _ _ h => h) rfl (fun w => ?_) hHeld ?_
    rotate_left
    ·go_simp; (try with_reducible rfl)
    try simp only [Act.put, nzA, nzB, nzC]
    replace hHeld := (ST_set (T := [21]) (i := 9) (by kernel_rfl) _ _).2 hHeld
    refine heldL_free (i := 10) (v := ?_) rfl (by kernel_rfl) (by kernel_rfl) (by kernel_rfl) (by kernel_rfl) (by kernel_rfl) (fun _ _ _ h => h) rfl (fun w => ?_) hHeld ?_
    rotate_left
    ·go_simp; (try with_reducible rfl)
    try simp only [Act.put, nzA, nzB, nzC]
    replace hHeld := (ST_set (T := [21]) (i := 10) (by kernel_rfl) _ _).2 hHeld
    refine heldL_take (i := 11) (v := ?_) rfl (by kernel_rfl) (by kernel_rfl) (by kernel_rfl) (by kernel_rfl) (by kernel_rfl) (fun _ _ _ h => h) rfl (fun w hSw => ?_) hHeld ?_
    rotate_left
    ·(have hEs : Ext No w6 _ := hSw); (have x0 := hEs.keep HLN.out); go_simp; (try with_reducible rfl)
    try simp only [Act.put, nzA, nzB, nzC]
    replace hHeld := (ST_set (T := [21]) (i := 11) (by kernel_rfl) _ _).2 hHeld
    refine heldL_free (i := 12) (v := ?_) rfl (by kernel_rfl) (by kernel_rfl) (by kernel_rfl) (by kernel_rfl) (by kernel_rfl) (fun _ _ _ h => h) rfl (fun w => ?_) hHeld ?_
    rotate_left
    ·go_simp; (try with_reducible rfl)
    try simp only [Act.put, nzA, nzB, nzC]
    replace hHeld := (ST_set (T := [21]) (i := 12) (by kernel_rfl) _ _).2 hHeld
    refine heldL_free (i := 13) (v := ?_) rfl (by kernel_rfl) (by kernel_rfl) (by kernel_rfl) (by kernel_rfl) (by kernel_rfl) (fun _ _ _ h => h) rfl (fun w => ?_) hHeld ?_
    rotate_left
    ·go_simp; (try with_reducible rfl)
    try simp only [Act.put, nzA, nzB, nzC]
    replace hHeld := (ST_set (T := [21]) (i := 13) (by kernel_rfl) _ _).2 hHeld
    refine heldL_free (i := 14) (v := ?_) rfl (by kernel_rfl) (by kernel_rfl) (by kernel_rfl) (by kernel_rfl) (by kernel_rfl) (fun _ _ _ h => h) rfl (fun w => ?_) hHeld ?_
    rotate_left
    ·go_simp; (try with_reducible rfl)
    try simp only [Act.put, nzA, nzB, nzC]
    replace hHeld := (ST_set (T := [21]) (i := 14) (by kernel_rfl) _ _).2 hHeld
    refine heldL_take (i := 15) (v := ?_) rfl (by kernel_rfl) (by kernel_rfl) (by kernel_rfl) (by kernel_rfl) (by kernel_rfl) (fun _ _ _ h => h) rfl (fun w hSw => ?_) hHeld ?_
    rotate_left
    ·(have hEs : Ext No w6 _ := hSw); (have x0 := cellOf (hEs.blk HB6.out no_no)); go_simp; (try with_reducible rfl)
    try simp only [Act.put, nzA, nzB, nzC]
    replace hHeld := (ST_set (T := [21]) (i := 15) (by kernel_rfl) _ _).2 hHeld
    refine heldL_free (i := 16) (v := ?_) rfl (by kernel_rfl) (by kernel_rfl) (by kernel_rfl) (by kernel_rfl) (by kernel_rfl) (fun _ _ _ h => h) rfl (fun w => ?_) hHeld ?_
    rotate_left
    ·go_simp; (try with_reducible rfl)
    try simp only [Act.put, nzA, nzB, nzC]
    replace hHeld := (ST_set (T := [21]) (i := 16) (by kernel_rfl) _ _).2 hHeld
    refine heldL_free (i := 17) (v := ?_) rfl (by kernel_rfl) (by kernel_rfl) (by kernel_rfl) (by kernel_rfl) (by kernel_rfl) (fun _ _ _ h => h) rfl (fun w => ?_) hHeld ?_
    rotate_left
    ·go_simp; (try with_reducible rfl)
    try simp only [Act.put, nzA, nzB, nzC]
    replace hHeld := (ST_set (T := [21]) (i := 17) (by kernel_rfl) _ _).2 hHeld
    refine heldL_take (i := 18) (v := ?_) rfl (by kernel_rfl) (by kernel_rfl) (by kernel_rfl) (by kernel_rfl) (by kernel_rfl) (fun _ _ _ h => h) rfl (fun w hSw => ?_) hHeld ?_
    rotate_left
    ·(have hEs : Ext No w6 _ := hSw); (have x0 := hEs.keep HLM.out); go_simp; (try with_reducible rfl)
    try simp only [Act.put, nzA, nzB, nzC]
    replace hHeld := (ST_set (T := [21]) (i := 18) (by kernel_rfl) _ _).2 hHeld
    refine heldL_free (i := 19) (v := ?_) rfl (by kernel_rfl) (by kernel_rfl) (by kernel_rfl) (by kernel_rfl) (by kernel_rfl) (fun _ _ _ h => h) rfl (fun w => ?_) hHeld ?_
    rotate_left
    ·go_simp; (try with_reducible rfl)
    try simp only [Act.put, nzA, nzB, nzC]
    replace hHeld := (ST_set (T := [21]) (i := 19) (by kernel_rfl) _ _).2 hHeld
    refine heldL_free (i := 20) (v := ?_) rfl (by kernel_rfl) (by kernel_rfl) (by kernel_rfl) (by kernel_rfl) (by kernel_rfl) (fun _ _ _ h => h) rfl (fun w => ?_) hHeld ?_
    rotate_left
    ·go_simp; (try with_reducible rfl)
    try simp only [Act.put, nzA, nzB, nzC]
    replace hHeld := (ST_set (T := [21]) (i := 20) (by kernel_rfl) _ _).2 hHeld
    refine heldL_next1 (i := 21) (by kernel_rfl) (NextL.mk rfl rfl (fun K hK => ?_))
    ((have q0 := hm6d.out.rL.cell hnN); (have f0 := hm6d.out.rL.free n); go_simp; (clear q0 f0))
    refine hK.out _ _ ?_ ?_
    ·exact fun h => absurd h (by decide)
    clear hK K hHeld
    intro hHeld
    have hm7 := Lib.hid (show SvM S.deps.length B P X bi bl bo cI cL cO (.slice (some ⟨bd, od, none⟩) S.deps.length cd) W0 (v0.setCell ⟨bl, n, none⟩ (.int .i64 (if t6.low m < t6.low n then (t6.low m : Int) else (t6.low n : Int)))) (vp6) ({ t6 with low := upd t6.low n q }) from by rw [HMV.out]; exact hm6d.out.putLow n q)
    generalize (v0.setCell ⟨bl, n, none⟩ (.int .i64 (if t6.low m < t6.low n then (t6.low m : Int) else (t6.low n : Int)))) = v1 at *
    try simp only [Act.put, nzA, nzB, nzC]
    refine heldL_done (by kernel_rfl) ?_ _
    go_wp2_with fail
    go_roundw
    case rel => exact ⟨k + 1, _, _, HKK.out, by omega, Lib.hid (by have h := hl.out.back hkd HMJ.out HWW.out hpost.out; rw [← HQ.out] at h; exact h), hm7⟩
    case measure => simp [intOf]; omega
   ·have HWW := Lib.hid hw
    have hi2 : ((t.idx m : Int) == 0) = false := by simp [hw]
    have hi3 : ¬ ((t.idx m : Int) = 0) := by omega
    have ho := hm.out.rO.cell hmN
    clear hw
    by_cases hno : t.out m < 0
    ·have HLN := Lib.hid (hm.out.rL.cell hnN)
     have HLM := Lib.hid (hm.out.rI.cell hmN)
     obtain ⟨q, hq⟩ : ∃ q, q = min (t.low n) (t.idx m) := ⟨_, rfl⟩
     have HMV := Lib.hid (show Value.int .i64 (if t.idx m < t.low n then (t.idx m : Int) else (t.low n : Int)) = .int .i64 (q : Int) from by
      split
      ·rw [show t.idx m = q from by omega]
      ·rw [show t.low n = q from by omega])
     have HQ := Lib.hid hq
     clear hq
     go_upto_region 10 with (fail)
     clear hX0 hi1 ho q0
     refine wp_region_heldL [21] (fun w' => Ext No wr w') (by kernel_rfl) ?_ (fun hHeld => ?_)
     ·exact (Ext.refl _ _).drew
     have hmd := Lib.hid (hm.out.stepNo (Ext.refl No _).drew)
     generalize wr.drew = v0 at *
     refine heldL_free (i := 0) (v := ?_) rfl (by kernel_rfl) (by kernel_rfl) (by kernel_rfl) (by kernel_rfl) (by kernel_rfl) (fun _ _ _ h => h) rfl (fun w => ?_) hHeld ?_
     rotate_left
     ·go_simp; (try with_reducible rfl)
     try simp only [Act.put, nzA, nzB, nzC]
     replace hHeld := (ST_set (T := [21]) (i := 0) (by kernel_rfl) _ _).2 hHeld
     refine heldL_free (i := 1) (v := ?_) rfl (by kernel_rfl) (by kernel_rfl) (by kernel_rfl) (by kernel_rfl) (by kernel_rfl) (fun _ _ _ h => h) rfl (fun w => ?_) hHeld ?_
     rotate_left
     ·go_simp; (try with_reducible rfl)
     try simp only [Act.put, nzA, nzB, nzC]
     replace hHeld := (ST_set (T := [21]) (i := 1) (by kernel_rfl) _ _).2 hHeld
     refine heldL_free (i := 2) (v := ?_) rfl (by kernel_rfl) (by kernel_rfl) (by kernel_rfl) (by kernel_rfl) (by kernel_rfl) (fun _ _ _ h => h) rfl (fun w => ?_) hHeld ?_
     rotate_left
     ·go_simp; (try with_reducible rfl)
     try simp only [Act.put, nzA, nzB, nzC]
     replace hHeld := (ST_set (T := [21]) (i := 2) (by kernel_rfl) _ _).2 hHeld
     refine heldL_take (i := 3) (v := ?_) rfl (by kernel_rfl) (by kernel_rfl) (by kernel_rfl) (by kernel_rfl) (by kernel_rfl) (fun _ _ _ h => h) rfl (fun w hSw => ?_) hHeld ?_
     rotate_left
     ·(have hEs : Ext No wr _ := hSw); (have x0 := cellOf (hEs.blk HBX.out no_no)); go_simp; (try with_reducible rfl)
     try simp only [Act.put, nzA, nzB, nzC]
     replace hHeld := (ST_set (T := [21]) (i := 3) (by kernel_rfl) _ _).2 hHeld
     refine heldL_free (i := 4) (v := ?_) rfl (by kernel_rfl) (by kernel_rfl) (by kernel_rfl) (by kernel_rfl) (by kernel_rfl) (fun _ _ _ h => h) rfl (fun w => ?_) hHeld ?_
     rotate_left
     ·go_simp; (try with_reducible rfl)
     try simp only [Act.put, nzA, nzB, nzC]
     replace hHeld := (ST_set (T := [21]) (i := 4) (by kernel_rfl) _ _).2 hHeld
     refine heldL_free (i := 5) (v := ?_) rfl (by kernel_rfl) (by kernel_rfl) (by kernel_rfl) (by kernel_rfl) (by kernel_rfl) (fun _ _ _ h => h) rfl (fun w => ?_) hHeld ?_
     rotate_left
     ·go_simp; (try with_reducible rfl)
     try simp only [Act.put, nzA, nzB, nzC]
     replace hHeld := (ST_set (T := [21]) (i := 5) (by kernel_rfl) _ _).2 hHeld
     refine heldL_free (i := 6) (v := ?_) rfl (by kernel_rfl) (by kernel_rfl) (by kernel_rfl) (by kernel_rfl) (by kernel_rfl) (fun _ _ _ h => h) rfl (fun w => ?_) hHeld ?_
     rotate_left
     ·go_simp; (try with_reducible rfl)
     try simp only [Act.put, nzA, nzB, nzC]
     replace hHeld := (ST_set (T := [21]) (i := 6) (by kernel_rfl) _ _).2 hHeld
     refine heldL_free (i := 7) (v := ?_) rfl (by kernel_rfl) (by kernel_rfl) (by kernel_rfl) (by kernel_rfl) (by kernel_rfl) (fun _ _ _ h => h) rfl (fun w => ?_) hHeld ?_
     rotate_left
     ·go_simp; (try with_reducible rfl)
     try simp only [Act.put, nzA, nzB, nzC]
     replace hHeld := (ST_set (T := [21]) (i := 7) (by kernel_rfl) _ _).2 hHeld
     refine heldL_take (i := 8) (v := ?_) rfl (by kernel_rfl) (by kernel_rfl) (by kernel_rfl) (by kernel_rfl) (by kernel_rfl) (fun _ _ _ h => h) rfl (fun w hSw => ?_) hHeld ?_
     rotate_left
     ·(have hEs : Ext No wr _ := hSw); (have x0 := cellOf (hEs.blk HBX.out no_no)); go_simp; (try with_reducible rfl)
     try simp only [Act.put, nzA, nzB, nzC]
     replace hHeld := (ST_set (T := [21]) (i := 8) (by kernel_rfl) _ _).2 hHeld
     refine heldL_free (i := 9) (v := ?_) rfl (by kernel_rfl) (by kernel_rfl) (by kernel_rfl) (by kernel_rfl) (by kernel_rfl) (fun _ _ _ h => h) rfl (fun w => ?_) hHeld ?_
     rotate_left
     ·go_simp; (try with_reducible rfl)
     try simp only [Act.put, nzA, nzB, nzC]
     replace hHeld := (ST_set (T := [21]) (i := 9) (by kernel_rfl) _ _).2 hHeld
     refine heldL_free (i := 10) (v := ?_) rfl (by kernel_rfl) (by kernel_rfl) (by kernel_rfl) (by kernel_rfl) (by kernel_rfl) (fun _ _ _ h => h) rfl (fun w => ?_) hHeld ?_
     rotate_left
     ·go_simp; (try with_reducible rfl)
     try simp only [Act.put, nzA, nzB, nzC]
     replace hHeld := (ST_set (T := [21]) (i := 10) (by kernel_rfl) _ _).2 hHeld
     refine heldL_take (i := 11) (v := ?_) rfl (by kernel_rfl) (by kernel_rfl) (by kernel_rfl) (by kernel_rfl) (by kernel_rfl) (fun _ _ _ h => h) rfl (fun w hSw => ?_) hHeld ?_
     rotate_left
     ·(have hEs : Ext No wr _ := hSw); (have x0 := hEs.keep HLN.out); go_simp; (try with_reducible rfl)
     try simp only [Act.put, nzA, nzB, nzC]
     replace hHeld := (ST_set (T := [21]) (i := 11) (by kernel_rfl) _ _).2 hHeld
     refine heldL_free (i := 12) (v := ?_) rfl (by kernel_rfl) (by kernel_rfl) (by kernel_rfl) (by kernel_rfl) (by kernel_rfl) (fun _ _ _ h => h) rfl (fun w => ?_) hHeld ?_
     rotate_left
     ·go_simp; (try with_reducible rfl)
     try simp only [Act.put, nzA, nzB, nzC]
     replace hHeld := (ST_set (T := [21]) (i := 12) (by kernel_rfl) _ _).2 hHeld
     refine heldL_free (i := 13) (v := ?_) rfl (by kernel_rfl) (by kernel_rfl) (by kernel_rfl) (by kernel_rfl) (by kernel_rfl) (fun _ _ _ h => h) rfl (fun w => ?_) hHeld ?_
     rotate_left
     ·go_simp; (try with_reducible rfl)
     try simp only [Act.put, nzA, nzB, nzC]
     replace hHeld := (ST_set (T := [21]) (i := 13) (by kernel_rfl) _ _).2 hHeld
     refine heldL_free (i := 14) (v := ?_) rfl (by kernel_rfl) (by kernel_rfl) (by kernel_rfl) (by kernel_rfl) (by kernel_rfl) (fun _ _ _ h => h) rfl (fun w => ?_) hHeld ?_
     rotate_left
     ·go_simp; (try with_reducible rfl)
     try simp only [Act.put, nzA, nzB, nzC]
     replace hHeld := (ST_set (T := [21]) (i := 14) (by kernel_rfl) _ _).2 hHeld
     refine heldL_take (i := 15) (v := ?_) rfl (by kernel_rfl) (by kernel_rfl) (by kernel_rfl) (by kernel_rfl) (by kernel_rfl) (fun _ _ _ h => h) rfl (fun w hSw => ?_) hHeld ?_
     rotate_left
     ·(have hEs : Ext No wr _ := hSw); (have x0 := cellOf (hEs.blk HBX.out no_no)); go_simp; (try with_reducible rfl)
     try simp only [Act.put, nzA, nzB, nzC]
     replace hHeld := (ST_set (T := [21]) (i := 15) (by kernel_rfl) _ _).2 hHeld
     refine heldL_free (i := 16) (v := ?_) rfl (by kernel_rfl) (by kernel_rfl) (by kernel_rfl) (by kernel_rfl) (by kernel_rfl) (fun _ _ _ h => h) rfl (fun w => ?_) hHeld ?_
     rotate_left
     ·go_simp; (try with_reducible rfl)
     try simp only [Act.put, nzA, nzB, nzC]
     replace hHeld := (ST_set (T := [21]) (i := 16) (by kernel_rfl) _ _).2 hHeld
     refine heldL_free (i := 17) (v := ?_) rfl (by kernel_rfl) (by kernel_rfl) (by kernel_rfl) (by kernel_rfl) (by kernel_rfl) (fun _ _ _ h => h) rfl (fun w => ?_) hHeld ?_
     rotate_left
     ·go_simp; (try with_reducible rfl)
     try simp only [Act.put, nzA, nzB, nzC]
     replace hHeld := (ST_set (T := [21]) (i := 17) (by kernel_rfl) _ _).2 hHeld
     refine heldL_take (i := 18) (v := ?_) rfl (by kernel_rfl) (by kernel_rfl) (by kernel_rfl) (by kernel_rfl) (by kernel_rfl) (fun _ _ _ h => h) rfl (fun w hSw => ?_) hHeld ?_
     rotate_left
     ·(have hEs : Ext No wr _ := hSw); (have x0 := hEs.keep HLM.out); go_simp; (try with_reducible rfl)
     try simp only [Act.put, nzA, nzB, nzC]
     replace hHeld := (ST_set (T := [21]) (i := 18) (by kernel_rfl) _ _).2 hHeld
     refine heldL_free (i := 19) (v := ?_) rfl (by kernel_rfl) (by kernel_rfl) (by kernel_rfl) (by kernel_rfl) (by kernel_rfl) (fun _ _ _ h => h) rfl (fun w => ?_) hHeld ?_
     rotate_left
     ·go_simp; (try with_reducible rfl)
     try simp only [Act.put, nzA, nzB, nzC]
     replace hHeld := (ST_set (T := [21]) (i := 19) (by kernel_rfl) _ _).2 hHeld
     refine heldL_free (i := 20) (v := ?_) rfl (by kernel_rfl) (by kernel_rfl) (by kernel_rfl) (by kernel_rfl) (by kernel_rfl) (fun _ _ _ h => h) rfl (fun w => ?_) hHeld ?_
     rotate_left
     ·go_simp; (try with_reducible rfl)
     try simp only [Act.put, nzA, nzB, nzC]
     replace hHeld := (ST_set (T := [21]) (i := 20) (by kernel_rfl) _ _).2 hHeld
     refine heldL_next1 (i := 21) (by kernel_rfl) (NextL.mk rfl rfl (fun K hK => ?_))
     ((have q0 := hmd.out.rL.cell hnN); (have f0 := hmd.out.rL.free n); go_simp; (clear q0 f0))
     refine hK.out _ _ ?_ ?_
     ·exact fun h => absurd h (by decide)
     clear hK K hHeld
     intro hHeld
     have hm7 := Lib.hid (show SvM S.deps.length B P X bi bl bo cI cL cO (.slice (some ⟨bd, od, none⟩) S.deps.length cd) W0 (v0.setCell ⟨bl, n, none⟩ (.int .i64 (if t.idx m < t.low n then (t.idx m : Int) else (t.low n : Int)))) (vq) ({ t with low := upd t.low n q }) from by rw [HMV.out]; exact hmd.out.putLow n q)
     generalize (v0.setCell ⟨bl, n, none⟩ (.int .i64 (if t.idx m < t.low n then (t.idx m : Int) else (t.low n : Int)))) = v1 at *
     try simp only [Act.put, nzA, nzB, nzC]
     refine heldL_done (by kernel_rfl) ?_ _
     go_wp2_with fail
     go_roundw
     case rel => exact ⟨k + 1, _, _, HKK.out, by omega, Lib.hid (by have h := hl.out.on hkd HMJ.out HWW.out hno; rw [← HQ.out] at h; exact h), hm7⟩
     case measure => simp [intOf]; omega
    ·go_wp2_with fail
     clear hX0 hi1 ho q0
     go_roundw
     case rel => exact ⟨k + 1, t, vq, HKK.out, by omega, Lib.hid (hl.out.off hkd HMJ.out HWW.out (by omega)), hm⟩
     case measure => simp [intOf]; omega
  ·have hge : ¬ (k : Int) < (dn : Int) := by omega
   have hkn : k = (depD S n).length := by have := HDN.out; omega
   have hlf := Lib.hid (show LInv S.deps.length (depD S) G s n (depD S n).length t from by rw [← hkn]; exact hl.out)
   clear hkn hl
   have HBX := Lib.hid hm.out.box
   have HLN := Lib.hid (hm.out.rL.cell hnN)
   have HIN := Lib.hid (hm.out.rI.cell hnN)
   by_cases hlo : t.low n < t.idx n
   ·have hlo2 : (t.low n : Int) < (t.idx n : Int) := by omega
    go_upto_region 12 with (fail)
    refine wp_region_held_drew (S := (fun w' => Ext No wr w')) (by kernel_rfl) ?_ (fun hHeld => ?_)
    ·exact (Ext.refl _ _).drew
    refine hTk (i := 0) (v := ?_) hHeld (fun w hSw => ?_) ?_
    rotate_left
    ·go_simp; (try with_reducible rfl)
    try simp only [Act.put, nzA, nzB, nzC]
    refine hTk (i := 1) (v := ?_) hHeld (fun w hSw => ?_) ?_
    rotate_left
    ·go_simp; (try with_reducible rfl)
    try simp only [Act.put, nzA, nzB, nzC]
    refine hTk (i := 2) (v := ?_) hHeld (fun w hSw => ?_) ?_
    rotate_left
    ·go_simp; (try with_reducible rfl)
    try simp only [Act.put, nzA, nzB, nzC]
    refine hTk (i := 3) (v := ?_) hHeld (fun w hSw => ?_) ?_
    rotate_left
    ·(have hEs : Ext No wr _ := hSw); (have x0 := cellOf (hEs.blk HBX.out no_no)); go_simp; (try with_reducible rfl)
    try simp only [Act.put, nzA, nzB, nzC]
    refine hTk (i := 4) (v := ?_) hHeld (fun w hSw => ?_) ?_
    rotate_left
    ·go_simp; (try with_reducible rfl)
    try simp only [Act.put, nzA, nzB, nzC]
    refine hTk (i := 5) (v := ?_) hHeld (fun w hSw => ?_) ?_
    rotate_left
    ·go_simp; (try with_reducible rfl)
    try simp only [Act.put, nzA, nzB, nzC]
    refine hTk (i := 6) (v := ?_) hHeld (fun w hSw => ?_) ?_
    rotate_left
    ·(have hEs : Ext No wr _ := hSw); (have x0 := hEs.keep HLN.out); go_simp; (try with_reducible rfl)
    try simp only [Act.put, nzA, nzB, nzC]
    refine hTk (i := 7) (v := ?_) hHeld (fun w hSw => ?_) ?_
    rotate_left
    ·go_simp; (try with_reducible rfl)
    try simp only [Act.put, nzA, nzB, nzC]
    refine hTk (i := 8) (v := ?_) hHeld (fun w hSw => ?_) ?_
    rotate_left
    ·go_simp; (try with_reducible rfl)
    try simp only [Act.put, nzA, nzB, nzC]
    refine hTk (i := 9) (v := ?_) hHeld (fun w hSw => ?_) ?_
    rotate_left
    ·go_simp; (try with_reducible rfl)
    try simp only [Act.put, nzA, nzB, nzC]
    refine hTk (i := 10) (v := ?_) hHeld (fun w hSw => ?_) ?_
    rotate_left
    ·(have hEs : Ext No wr _ := hSw); (have x0 := cellOf (hEs.blk HBX.out no_no)); go_simp; (try with_reducible rfl)
    try simp only [Act.put, nzA, nzB, nzC]
    refine hTk (i := 11) (v := ?_) hHeld (fun w hSw => ?_) ?_
    rotate_left
    ·go_simp; (try with_reducible rfl)
    try simp only [Act.put, nzA, nzB, nzC]
    refine hTk (i := 12) (v := ?_) hHeld (fun w hSw => ?_) ?_
    rotate_left
    ·go_simp; (try with_reducible rfl)
    try simp only [Act.put, nzA, nzB, nzC]
    refine hTk (i := 13) (v := ?_) hHeld (fun w hSw => ?_) ?_
    rotate_left
    ·(have hEs : Ext No wr _ := hSw); (have x0 := hEs.keep HIN.out); go_simp; (try with_reducible rfl)
    try simp only [Act.put, nzA, nzB, nzC]
    refine hTk (i := 14) (v := ?_) hHeld (fun w hSw => ?_) ?_
    rotate_left
    ·go_simp; (try with_reducible rfl)
    try simp only [Act.put, nzA, nzB, nzC]
    refine wpAnyH_done (by kernel_rfl) ?_ _
    have hEx : Ext No wr _ := hHeld
    go_wp2_with fail
    refine ret_ex rfl ?_
    simp [results, Try.results119, go_sem]
    exact ⟨_, t, vq, rfl, Lib.hid (hlf.out.stay hlo), Lib.hid (hm.out.stepNo hEx)⟩
   ·have hlo2 : ¬ (t.low n : Int) < (t.idx n : Int) := by omega
    obtain ⟨l, hpath⟩ := hlf.out.path
    obtain ⟨bp, op, kp, hvq, hbp, -, -⟩ := IntsN.at hm.out.ints (i := 0) (by rw [hpath, List.length_append, List.length_cons]; omega)
    subst hvq
    have HPATH := Lib.hid hpath
    clear hpath
    go_upto_region 12 with (fail)
    refine wp_region_held_drew (S := (fun w' => Ext No wr w')) (by kernel_rfl) ?_ (fun hHeld => ?_)
    ·exact (Ext.refl _ _).drew
    refine hTk (i := 0) (v := ?_) hHeld (fun w hSw => ?_) ?_
    rotate_left
    ·go_simp; (try with_reducible rfl)
    try simp only [Act.put, nzA, nzB, nzC]
    refine hTk (i := 1) (v := ?_) hHeld (fun w hSw => ?_) ?_
    rotate_left
    ·go_simp; (try with_reducible rfl)
    try simp only [Act.put, nzA, nzB, nzC]
    refine hTk (i := 2) (v := ?_) hHeld (fun w hSw => ?_) ?_
    rotate_left
    ·go_simp; (try with_reducible rfl)
    try simp only [Act.put, nzA, nzB, nzC]
    refine hTk (i := 3) (v := ?_) hHeld (fun w hSw => ?_) ?_
    rotate_left
    ·(have hEs : Ext No wr _ := hSw); (have x0 := cellOf (hEs.blk HBX.out no_no)); go_simp; (try with_reducible rfl)
    try simp only [Act.put, nzA, nzB, nzC]
    refine hTk (i := 4) (v := ?_) hHeld (fun w hSw => ?_) ?_
    rotate_left
    ·go_simp; (try with_reducible rfl)
    try simp only [Act.put, nzA, nzB, nzC]
    refine hTk (i := 5) (v := ?_) hHeld (fun w hSw => ?_) ?_
    rotate_left
    ·go_simp; (try with_reducible rfl)
    try simp only [Act.put, nzA, nzB, nzC]
    refine hTk (i := 6) (v := ?_) hHeld (fun w hSw => ?_) ?_
    rotate_left
    ·(have hEs : Ext No wr _ := hSw); (have x0 := hEs.keep HLN.out); go_simp; (try with_reducible rfl)
    try simp only [Act.put, nzA, nzB, nzC]
    refine hTk (i := 7) (v := ?_) hHeld (fun w hSw => ?_) ?_
    rotate_left
    ·go_simp; (try with_reducible rfl)
    try simp only [Act.put, nzA, nzB, nzC]
    refine hTk (i := 8) (v := ?_) hHeld (fun w hSw => ?_) ?_
    rotate_left
    ·go_simp; (try with_reducible rfl)
    try simp only [Act.put, nzA, nzB, nzC]
    refine hTk (i := 9) (v := ?_) hHeld (fun w hSw => ?_) ?_
    rotate_left
    ·go_simp; (try with_reducible rfl)
    try simp only [Act.put, nzA, nzB, nzC]
    refine hTk (i := 10) (v := ?_) hHeld (fun w hSw => ?_) ?_
    rotate_left
    ·(have hEs : Ext No wr _ := hSw); (have x0 := cellOf (hEs.blk HBX.out no_no)); go_simp; (try with_reducible rfl)
    try simp only [Act.put, nzA, nzB, nzC]
    refine hTk (i := 11) (v := ?_) hHeld (fun w hSw => ?_) ?_
    rotate_left
    ·go_simp; (try with_reducible rfl)
    try simp only [Act.put, nzA, nzB, nzC]
    refine hTk (i := 12) (v := ?_) hHeld (fun w hSw => ?_) ?_
    rotate_left
    ·go_simp; (try with_reducible rfl)
    try simp only [Act.put, nzA, nzB, nzC]
    refine hTk (i := 13) (v := ?_) hHeld (fun w hSw => ?_) ?_
    rotate_left
    ·(have hEs : Ext No wr _ := hSw); (have x0 := hEs.keep HIN.out); go_simp; (try with_reducible rfl)
    try simp only [Act.put, nzA, nzB, nzC]
    refine hTk (i := 14) (v := ?_) hHeld (fun w hSw => ?_) ?_
    rotate_left
    ·go_simp; (try with_reducible rfl)
    try simp only [Act.put, nzA, nzB, nzC]
    refine wpAnyH_done (by kernel_rfl) ?_ _
    have hEx : Ext No wr _ := hHeld
    have hm2 := Lib.hid (hm.out.stepNo hEx)
    have HNI := Lib.hid (show n ∉ s.path from HP.out.notin)
    have hX0 := cellOf hm2.out.box
    have HII := Lib.hid (show Ints No _ .i64 (.slice (some ⟨bp, op, none⟩) t.path.length kp) (natsZ (s.path ++ n :: l)) from by have h := hm2.out.ints; rw [HPATH.out] at h ⊢; exact h)
    go_wp2_with fail
    clear hX0
    refine (indexI_any _ s.path l n _ HII.out HNI.out).mono ?_
    rintro e7 w7 ⟨rfl, hx7⟩
    have hm7 := Lib.hid (hm2.out.stepNo hx7)
    have HX7 := Lib.hid (hEx.transNo hx7)
    have HI7 := Lib.hid (Row.extNo HII.out hx7)
    obtain ⟨at1, hat⟩ : ∃ at1, at1 = s.path.length := ⟨_, rfl⟩
    have HAT := Lib.hid hat
    rw [← hat]
    obtain ⟨tn, htn⟩ : ∃ tn, tn = (n :: l).length := ⟨_, rfl⟩
    have htl : t.path.length = at1 + tn := by rw [HPATH.out, hat, htn, List.length_append]
    rw [htl] at hm7 HI7
    have HTN := Lib.hid htn
    have HTL := Lib.hid htl
    have hcap := hm7.out.cap
    have hplT := hm7.out.ints.2.1
    rw [nats_len, htl] at hplT
    have hX0 := cellOf hm7.out.box
    have hal1 : (at1 : Int) ≤ ((at1 + tn : Nat) : Int) := by omega
    have hID := Lib.hid (IntsN.drop HI7.out HAT.out (by rw [HTN.out]))
    rw [← HTN.out] at hID
    have htn1 : 1 ≤ tn := by rw [htn]; simp
    clear hat hx7 hm2 HII hHeld hEx htn htl HI7
    go_wp2_with fail
    clear hX0
    refine (minI_any _ (n :: l) _ hID.out (by simp)).mono ?_
    rintro e8 w8 ⟨c, rfl, hcm, hx8⟩
    have hm8 := Lib.hid (hm7.out.stepNo hx8)
    clear hm7 hID hx8
    have hX0 := cellOf hm8.out.box
    go_upto_region 16 with (fail)
    clear hX0
    go_loopw [9, 156] (fun _ i wx => ∃ k : Nat, i = .int .i64 k ∧ k ≤ tn ∧ Hid (SvM S.deps.length B P X bi bl bo cI cL cO (.slice (some ⟨bd, od, none⟩) S.deps.length cd) W0 wx (.slice (some ⟨bp, op, none⟩) (at1 + tn) kp) (outTo t (n :: l) (c : Int) k))) (fun _ i _ => tn - (intOf i).toNat)
    case atStart => exact ⟨0, rfl, Nat.zero_le _, Lib.hid (by rw [outTo_zero]; exact hm8.out)⟩
    case round =>
     clear hm8
     obtain ⟨j, rfl, hj, hmx⟩ := hrel
     rename World => wx
     have hX0 := cellOf hmx.out.box
     by_cases hlt3 : j < tn
     ·have hjz : (j : Int) < (tn : Int) := by omega
      have HJJ : Hid (Value.int .i64 ((j : Int) + 1) = .int .i64 ((j + 1 : Nat) : Int)) := Lib.hid (by rw [show ((j + 1 : Nat) : Int) = (j : Int) + 1 from by omega])
      have hjl : j < (n :: l).length := by rw [← HTN.out]; exact hlt3
      have hIx := IntsN.drop (show Ints No wx .i64 (.slice (some ⟨bp, op, none⟩) (at1 + tn) kp) (natsZ (s.path ++ n :: l)) from by have h := hmx.out.ints; rw [← HPATH.out]; exact h) HAT.out (by rw [HTN.out])
      obtain ⟨b3, o3, k3, hsl, hb3, _, hcell⟩ := IntsN.at hIx hjl
      simp only [Value.slice.injEq, Option.some.injEq, Addr.mk.injEq] at hsl
      obtain ⟨⟨rfl, rfl, -⟩, -, rfl⟩ := hsl
      have q0 := hcell j hjl
      obtain ⟨m, hmj⟩ : ∃ m, m = (n :: l)[j] := ⟨_, rfl⟩
      rw [← hmj] at q0
      have hmN : m < S.deps.length := hlf.out.inv.path_lt (by rw [HPATH.out, hmj]; exact List.mem_append_right _ (List.getElem_mem hjl))
      have HMJ := Lib.hid hmj
      have hmz : (m : Int) < (S.deps.length : Int) := by omega
      have hmz0 : (0 : Int) ≤ (m : Int) := by omega
      clear hmj hcell hIx hb3
      have qo := hmx.out.rO.cell hmN
      have fo := hmx.out.rO.free m
      go_wp2_with fail
      clear hX0 qo fo q0
      have hm9 := hmx.out.putOut m (c : Int)
      rw [outTo_succ hjl HMJ.out] at hm9
      go_roundw
      case rel => exact ⟨j + 1, HJJ.out, by omega, Lib.hid hm9⟩
      case measure => simp [intOf]; omega
     ·have hge3 : ¬ (j : Int) < (tn : Int) := by omega
      obtain rfl : j = tn := by omega
      have hXf := freeOf hmx.out.box
      have hal2 : (at1 : Int) ≤ (kp : Int) := by omega
      have hm9 := Lib.hid (show SvM S.deps.length B P X bi bl bo cI cL cO (.slice (some ⟨bd, od, none⟩) S.deps.length cd) W0 (wx.setCell ⟨X, 3, none⟩ (.slice (some ⟨bp, op, none⟩) at1 kp)) (.slice (some ⟨bp, op, none⟩) at1 kp) (Tj.finish s t l n (c : Int)) from by
       have h := hmx.out.cut (k := at1) (l := s.path) HTL.out.symm HAT.out ⟨n :: l, HPATH.out⟩
       have e := outTo_all s t l n (c : Int)
       rw [← HTN.out] at e
       rw [← e]
       exact h)
      go_wp2_with fail
      refine ret_ex rfl ?_
      simp [results, Try.results119, go_sem]
      exact ⟨_, _, _, rfl, Lib.hid (hlf.out.finish hlo HPATH.out hcm.out.1 hcm.out.2), hm9⟩
end Go.Proofs.Ytkdjdhflhlbelaa

/- The walk of FixpointJoins. -/
import Derived.Test.YtkdjdhflhlbelaaF11
set_option linter.unusedVariables false
set_option linter.unusedSimpArgs false
namespace Go.Proofs.Ytkdjdhflhlbelaa
open Go Go.RowKit
theorem SysAt.withB {M : Nat → Prop} {W : World} {vd vt vb vb' : Value} {S : SysD} {bs : List Nat} {L : LS} (h : SysAt M W vd vt vb S) (hb : LAt kS M W vb' L) (he : L.map Prod.fst = bs.map (setN S.w)) (hl : bs.length = S.deps.length) (hm : ∀ m ∈ bs, m < 2 ^ S.w) : SysAt M W vd vt vb' (withB S bs) := by
  obtain ⟨Ld, Lt, Lb, h1, h2, h3, _⟩ := h.ex
  exact ⟨h.ok.withB hl hm, Ld, Lt, L, ⟨h1.d, h1.t, hb⟩, h2, h3, he⟩
theorem solveB_any (S : SysD) (bs : List Nat) (vd vt vb : Value) (W : World) (h : SysAt No W vd vt vb (withB S bs)) :
    Calls Try.prog 15 #[.agg #[.int .i64 (S.w : Int), vd, vt, vb]] W (fun e w' => ∃ (R : Nat) (a : Option Addr) (c : Nat), FixAt (withB S bs) R ∧ e = .returned (.tuple #[.slice a S.deps.length c, .int .i64 (R : Int), .int .i64 0]) ∧ Hid (SetsV No w' (.slice a S.deps.length c) S.w (iterD (withB S bs) R)) ∧ Ext No W w') :=
  sysSolve_any No (withB S bs) vd vt vb W no_lt' h
structure JM (w wr : World) (tb A B C X : Nat) (S : SysD) (vd vt vb vB vC : Value) (cB cC : Array Value) (LB LC : LS) : Prop where
  ext : Ext No w wr
  tape : TapeOk wr tb
  boxA : wr.heap[A]? = some (.cells #[.int .i64 (S.w : Int), vd, vt, vb] 29 (0, 0))
  boxB : wr.heap[B]? = some (.cells cB 29 (0, 0))
  boxC : wr.heap[C]? = some (.cells cC 29 (0, 0))
  sys : SysAt (fun b => (b = tb ∨ b = B ∨ b = C) ∨ Value.ownBlock vB = some b ∨ Value.ownBlock vC = some b) wr vd vt vb S
  two : TwL wr X vB vC LB LC
  c1 : w.heap.size ≤ tb
  c2 : tb < A
  c3 : A < B
  c4 : A < C
  c5 : B ≠ C
  c6 : B ≤ X
  c7 : C ≤ X
  c8 : X < wr.heap.size
section
variable {w wr w' : World} {tb A B C X : Nat} {S : SysD} {vd vt vb vB vC v' : Value} {cB cC : Array Value} {LB LC : LS} {p : RawSet × Value}
theorem JM.step (h : JM w wr tb A B C X S vd vt vb vB vC cB cC LB LC) (hx : Ext (At tb) wr w') (ht : TapeOk w' tb) : JM w w' tb A B C X S vd vt vb vB vC cB cC LB LC := by
  have c1 := h.c1
  have c2 := h.c2
  have c3 := h.c3
  have c4 := h.c4
  have c6 := h.c6
  exact ⟨h.ext.trans2 hx (fun i hi e => by unfold At at e; omega), ht, hx.blk h.boxA (by unfold At; omega), hx.blk h.boxB (by unfold At; omega), hx.blk h.boxC (by unfold At; omega), h.sys.ext hx (fun i _ e => .inl (.inl e)), h.two.step hx (fun i _ e => by unfold At at e; omega), c1, c2, c3, c4, h.c5, c6, h.c7, Nat.lt_of_lt_of_le h.c8 hx.size⟩
theorem JM.stepNo (h : JM w wr tb A B C X S vd vt vb vB vC cB cC LB LC) (hx : Ext No wr w') : JM w w' tb A B C X S vd vt vb vB vC cB cC LB LC := h.step hx.ofNo (h.tape.ext hx)
theorem JM.putB (h : JM w wr tb A B C X S vd vt vb vB vC cB cC LB LC) (j : Nat) (u : Value) : JM w (wr.setCell ⟨B, j, none⟩ u) tb A B C X S vd vt vb vB vC (cB.setIfInBounds j u) cC LB LC := by
  have hx : Ext (At B) wr (wr.setCell ⟨B, j, none⟩ u) := (Ext.refl (At B) _).setAt _ _
  have c1 := h.c1
  have c2 := h.c2
  have c3 := h.c3
  have c5 := h.c5
  have c6 := h.c6
  exact ⟨h.ext.trans2 hx (fun i hi e => by unfold At at e; omega), h.tape.extAbove hx (fun i hi e => by unfold At at e; omega), hx.blk h.boxA (by unfold At; omega), set_same h.boxB, hx.blk h.boxC (by unfold At; omega), h.sys.ext hx (fun i _ e => .inl (.inr (.inl e))), h.two.step hx (fun i _ e => by unfold At at e; omega), c1, c2, c3, h.c4, c5, c6, h.c7, Nat.lt_of_lt_of_le h.c8 hx.size⟩
theorem JM.putC (h : JM w wr tb A B C X S vd vt vb vB vC cB cC LB LC) (j : Nat) (u : Value) : JM w (wr.setCell ⟨C, j, none⟩ u) tb A B C X S vd vt vb vB vC cB (cC.setIfInBounds j u) LB LC := by
  have hx : Ext (At C) wr (wr.setCell ⟨C, j, none⟩ u) := (Ext.refl (At C) _).setAt _ _
  have c1 := h.c1
  have c2 := h.c2
  have c4 := h.c4
  have c5 := h.c5
  have c7 := h.c7
  exact ⟨h.ext.trans2 hx (fun i hi e => by unfold At at e; omega), h.tape.extAbove hx (fun i hi e => by unfold At at e; omega), hx.blk h.boxA (by unfold At; omega), hx.blk h.boxB (by unfold At; omega), set_same h.boxC, h.sys.ext hx (fun i _ e => .inl (.inr (.inr e))), h.two.step hx (fun i _ e => by unfold At at e; omega), c1, c2, h.c3, c4, c5, h.c6, c7, Nat.lt_of_lt_of_le h.c8 hx.size⟩
theorem JM.appB (h : JM w wr tb A B C X S vd vt vb vB vC cB cC LB LC) (hp : kS.ok (HA X vB vC) wr p) (hown : w'.ownsRow (X + 1) kS.T kS.s v' (LB.length + 1) (LB.flatMap kS.cells ++ kS.cells p)) (hg : wr.grownBy w' vB.ownBlock) (hv : v'.ownBlock = vB.ownBlock ∨ v'.ownBlock = some wr.heap.size) :
    JM w w' tb A B C X S vd vt vb v' vC cB cC (LB ++ [p]) LC := by
  have hx : Ext (fun k => vB.ownBlock = some k) wr w' := (Ext.refl _ wr).grown hg (fun k hk _ => hk)
  have hlo : ∀ i, vB.ownBlock = some i → X + 1 ≤ i := fun i hi => (h.two.b.lt i hi).1
  have c1 := h.c1
  have c2 := h.c2
  have c3 := h.c3
  have c4 := h.c4
  have c6 := h.c6
  have c7 := h.c7
  have h2 : SysAt (fun b => (fun b => (b = tb ∨ b = B ∨ b = C) ∨ Value.ownBlock v' = some b ∨ Value.ownBlock vC = some b) b ∨ vB.ownBlock = some b) wr vd vt vb S := h.sys.mono (fun i hi e => by
    rcases e with (e | e | e) | e
    · exact .inl e
    · rcases hv with hv | hv
      · rw [hv] at e; exact .inr (.inl e)
      · rw [hv] at e; simp only [Option.some.injEq] at e; omega
    · exact .inr (.inr e)
    · exact .inr (.inl e))
  exact ⟨h.ext.trans2 hx (fun i hi e => by have := hlo i e; omega), h.tape.extAbove hx (fun i hi e => by have := hlo i e; omega), hx.blk h.boxA (fun e => by have := hlo _ e; omega), hx.blk h.boxB (fun e => by have := hlo _ e; omega), hx.blk h.boxC (fun e => by have := hlo _ e; omega), (h2.ext hx (fun i _ e => .inr e)).mono (fun i _ e => .inl e), h.two.appB h.c8 hp hown hg hv, c1, c2, c3, c4, h.c5, c6, c7, Nat.lt_of_lt_of_le h.c8 hx.size⟩
theorem JM.appC (h : JM w wr tb A B C X S vd vt vb vB vC cB cC LB LC) (hp : kS.ok (HA X vB vC) wr p) (hown : w'.ownsRow (X + 1) kS.T kS.s v' (LC.length + 1) (LC.flatMap kS.cells ++ kS.cells p)) (hg : wr.grownBy w' vC.ownBlock) (hv : v'.ownBlock = vC.ownBlock ∨ v'.ownBlock = some wr.heap.size) :
    JM w w' tb A B C X S vd vt vb vB v' cB cC LB (LC ++ [p]) := by
  have hx : Ext (fun k => vC.ownBlock = some k) wr w' := (Ext.refl _ wr).grown hg (fun k hk _ => hk)
  have hlo : ∀ i, vC.ownBlock = some i → X + 1 ≤ i := fun i hi => (h.two.c.lt i hi).1
  have c1 := h.c1
  have c2 := h.c2
  have c3 := h.c3
  have c4 := h.c4
  have c6 := h.c6
  have c7 := h.c7
  have h2 : SysAt (fun b => (fun b => (b = tb ∨ b = B ∨ b = C) ∨ Value.ownBlock vB = some b ∨ Value.ownBlock v' = some b) b ∨ vC.ownBlock = some b) wr vd vt vb S := h.sys.mono (fun i hi e => by
    rcases e with (e | e | e) | e
    · exact .inl e
    · exact .inr (.inl e)
    · rcases hv with hv | hv
      · rw [hv] at e; exact .inr (.inr e)
      · rw [hv] at e; simp only [Option.some.injEq] at e; omega
    · exact .inr (.inr e))
  exact ⟨h.ext.trans2 hx (fun i hi e => by have := hlo i e; omega), h.tape.extAbove hx (fun i hi e => by have := hlo i e; omega), hx.blk h.boxA (fun e => by have := hlo _ e; omega), hx.blk h.boxB (fun e => by have := hlo _ e; omega), hx.blk h.boxC (fun e => by have := hlo _ e; omega), (h2.ext hx (fun i _ e => .inr e)).mono (fun i _ e => .inl e), h.two.appC h.c8 hp hown hg hv, c1, c2, c3, c4, h.c5, c6, c7, Nat.lt_of_lt_of_le h.c8 hx.size⟩
end
set_option maxRecDepth 100000 in
set_option maxHeartbeats 16000000 in
theorem fixpointJoins_any (tl : Value) (zs : List Int) (w : World) (ht : Ints No w .i64 tl zs) : Calls Try.prog 3 #[tl] w fun e w' => e = .returned (.bool true) ∧ Ext No w w' := by
  obtain ⟨iS, hiS, hS0, hS1, hS2⟩ := info_parts infoS
  have HT := Lib.hid ht
  obtain ⟨at', ct', rfl⟩ := Row.slice ht
  clear ht
  go_enter Try.func3, Try.ntmps3
  go_wp2_with fail
  refine (new_any _ zs _ HT.out).mono ?_
  rintro e0 w0 ⟨rfl, ht0, hx0, hs0⟩
  obtain ⟨tb, htb⟩ : ∃ tb, tb = w.heap.size := ⟨_, rfl⟩
  rw [← htb] at ht0 ⊢
  have HTB := Lib.hid htb
  clear htb
  go_wp2_with fail
  refine (sysgen_any tb 5 _ (by decide) (by decide) ht0).mono ?_
  rintro e1 w1 ⟨S, vd, vt, vb, rfl, hw4, hn5, hS, ht1, hx1⟩
  have hok := hS.out.ok
  obtain ⟨ad, cd, at1, ct, ab, cb, rfl, rfl, rfl⟩ := hS.out.slices
  have hxa : Ext No w1 (w1.alloc (.cells #[.int .i64 (S.w : Int), .slice ad S.deps.length cd, .slice at1 S.deps.length ct, .slice ab S.deps.length cb] 29)) := (Ext.refl _ _).alloc _
  have HA := Lib.hid (alloc_top (w := w1) (o := (.cells #[.int .i64 (S.w : Int), .slice ad S.deps.length cd, .slice at1 S.deps.length ct, .slice ab S.deps.length cb] 29)) rfl)
  have HS := Lib.hid ((hS.out.mono (M' := fun b => b = tb ∨ w1.heap.size ≤ b) (fun i hi e => by unfold Lo; have := ht0.lt; rcases e with e | e <;> omega)).extNo hxa)
  have HX := Lib.hid ((hx0.trans2 hx1 (fun i hi e => by unfold At at e; have := HTB.out; omega)).transNo hxa)
  have HT1 := Lib.hid (ht1.ext hxa)
  have htA : tb < w1.heap.size := ht1.lt
  have HOK := Lib.hid hok
  have hnn := hok.n2
  have hww := hok.w
  clear hx0 hs0 ht0 hS ht1 hx1 hxa hok
  have cA := cellOf HA.out
  go_upto_region 3 with (fail)
  clear cA
  generalize (w1.alloc (.cells #[.int .i64 (S.w : Int), .slice ad S.deps.length cd, .slice at1 S.deps.length ct, .slice ab S.deps.length cb] 29)) = V1 at *
  have hlA : w1.heap.size < V1.heap.size := lt_of_block HA.out
  generalize w1.heap.size = A at *
  go_cut [5, 6] (fun s5 s6 wx => ∃ (B C X : Nat), s5 = .pointer (some ⟨B, 0, none⟩) ∧ s6 = .pointer (some ⟨C, 0, none⟩) ∧ Hid (JM w wx tb A B C X S (.slice ad S.deps.length cd) (.slice at1 S.deps.length ct) (.slice ab S.deps.length cb) (.slice none 0 0) (.slice none 0 0) #[.int .i64 (S.w : Int), .slice ad S.deps.length cd, .slice at1 S.deps.length ct, .slice ab S.deps.length cb] #[.int .i64 (S.w : Int), .slice ad S.deps.length cd, .slice at1 S.deps.length ct, .slice ab S.deps.length cb] [] []))
  case first =>
    refine wp_region_held_drew (S := (fun w' => Ext No V1 w')) (by kernel_rfl) ?_ (fun hHeld => ?_)
    · exact (Ext.refl _ _).drew
    generalize V1.drew = v0 at *
    refine held_take (i := 0) (v := ?_) rfl (by kernel_rfl) (by kernel_rfl) (by kernel_rfl) (fun _ _ _ h => h) rfl (fun w hSw => ?_) hHeld ?_
    rotate_left
    · (have hEs : Ext No V1 _ := hSw); (have x0 := cellOf (hEs.blk HA.out no_no)); go_simp; (try with_reducible rfl)
    try simp only [Act.put, List.setIfInBounds_toArray, List.set_cons_zero, List.set_cons_succ]
    refine held_take (i := 1) (v := ?_) rfl (by kernel_rfl) (by kernel_rfl) (by kernel_rfl) (fun _ _ _ h => h) rfl (fun w hSw => ?_) hHeld ?_
    rotate_left
    · (have hEs : Ext No V1 _ := hSw); (have x0 := cellOf (hEs.blk HA.out no_no)); go_simp; (try with_reducible rfl)
    try simp only [Act.put, List.setIfInBounds_toArray, List.set_cons_zero, List.set_cons_succ]
    refine held_next2 (i := 2) (j := 3) (by kernel_rfl) (NextOp.mk rfl rfl (fun K hK => ?_)) (NextOp.mk rfl rfl (fun K hK => ?_))
    · ((have hVB : V1.heap.size ≤ v0.heap.size := (show Ext No V1 _ from hHeld).size); go_simp)
      refine hK.out _ _ ?_ (fun hNew => ?_)
      · exact Ext.alloc (show Ext No V1 _ from hHeld) _
      clear hK K hHeld
      have hHeld := hNew
      clear hNew
      have hB := Lib.hid (alloc_top (w := v0) (o := (.cells #[.int .i64 0, .slice none 0 0, .slice none 0 0, .slice none 0 0] 29)) rfl)
      generalize (v0.alloc (.cells #[.int .i64 0, .slice none 0 0, .slice none 0 0, .slice none 0 0] 29)) = v1 at *
      generalize v0.heap.size = B at *
      have hltB : B < v1.heap.size := lt_of_block hB.out
      try simp only [Act.put, List.setIfInBounds_toArray, List.set_cons_zero, List.set_cons_succ]
      refine held_call (i := 3) rfl (by kernel_rfl) rfl (fun K hK => ?_)
      ((have hVC : V1.heap.size ≤ v1.heap.size := (show Ext No V1 _ from hHeld).size); go_simp)
      refine hK.out _ _ ?_ (fun hNew => ?_)
      · exact Ext.alloc (show Ext No V1 _ from hHeld) _
      clear hK K hHeld
      have hHeld := hNew
      clear hNew
      have hC := Lib.hid (alloc_top (w := v1) (o := (.cells #[.int .i64 0, .slice none 0 0, .slice none 0 0, .slice none 0 0] 29)) rfl)
      replace hB := Lib.hid (alloc_under (o := (.cells #[.int .i64 0, .slice none 0 0, .slice none 0 0, .slice none 0 0] 29)) hB.out)
      have hne : B < v1.heap.size := hltB
      generalize (v1.alloc (.cells #[.int .i64 0, .slice none 0 0, .slice none 0 0, .slice none 0 0] 29)) = v2 at *
      generalize v1.heap.size = C at *
      have hltC : C < v2.heap.size := lt_of_block hC.out
      replace hltB : B < v2.heap.size := lt_of_block hB.out
      try simp only [Act.put, List.setIfInBounds_toArray, List.set_cons_zero, List.set_cons_succ]
      refine held_call (i := 4) rfl (by kernel_rfl) rfl (fun K hK => ?_)
      ((have cS := cellOf hB.out); (have fS := freeOf hB.out); go_simp; (clear cS fS))
      refine hK.out _ _ ?_ (fun hNew => ?_)
      · exact ((((show Ext No V1 _ from hHeld).own hVB _).own hVB _).own hVB _).own hVB _
      clear hK K hHeld
      have hHeld := hNew
      clear hNew
      replace hB := Lib.hid (fin4 hB.out (.int .i64 (S.w : Int)) (.slice ad S.deps.length cd) (.slice at1 S.deps.length ct) (.slice ab S.deps.length cb))
      replace hC := Lib.hid ((set4 v2 B (.int .i64 (S.w : Int)) (.slice ad S.deps.length cd) (.slice at1 S.deps.length ct) (.slice ab S.deps.length cb)).blk hC.out (by unfold At; omega))
      generalize ((((v2.setCell ⟨B, 0, none⟩ (.int .i64 (S.w : Int))).setCell ⟨B, 1, none⟩ (.slice ad S.deps.length cd)).setCell ⟨B, 2, none⟩ (.slice at1 S.deps.length ct)).setCell ⟨B, 3, none⟩ (.slice ab S.deps.length cb)) = v3 at *
      replace hltB : B < v3.heap.size := lt_of_block hB.out
      replace hltC : C < v3.heap.size := lt_of_block hC.out
      try simp only [Act.put, List.setIfInBounds_toArray, List.set_cons_zero, List.set_cons_succ]
      refine held_call (i := 5) rfl (by kernel_rfl) rfl (fun K hK => ?_)
      ((have cS := cellOf hC.out); (have fS := freeOf hC.out); go_simp; (clear cS fS))
      refine hK.out _ _ ?_ (fun hNew => ?_)
      · exact ((((show Ext No V1 _ from hHeld).own hVC _).own hVC _).own hVC _).own hVC _
      clear hK K hHeld
      have hHeld := hNew
      clear hNew
      replace hC := Lib.hid (fin4 hC.out (.int .i64 (S.w : Int)) (.slice ad S.deps.length cd) (.slice at1 S.deps.length ct) (.slice ab S.deps.length cb))
      replace hB := Lib.hid ((set4 v3 C (.int .i64 (S.w : Int)) (.slice ad S.deps.length cd) (.slice at1 S.deps.length ct) (.slice ab S.deps.length cb)).blk hB.out (by unfold At; omega))
      generalize ((((v3.setCell ⟨C, 0, none⟩ (.int .i64 (S.w : Int))).setCell ⟨C, 1, none⟩ (.slice ad S.deps.length cd)).setCell ⟨C, 2, none⟩ (.slice at1 S.deps.length ct)).setCell ⟨C, 3, none⟩ (.slice ab S.deps.length cb)) = v4 at *
      replace hltC : C < v4.heap.size := lt_of_block hC.out
      replace hltB : B < v4.heap.size := lt_of_block hB.out
      try simp only [Act.put, List.setIfInBounds_toArray, List.set_cons_zero, List.set_cons_succ]
      refine wpAnyH_done (by kernel_rfl) ?_ _
      have hEx : Ext No V1 _ := hHeld
      go_wp2_with fail
      go_meet
      have hcw : w.heap.size ≤ tb := by have := HTB.out; omega
      refine ⟨B, C, max B C, rfl, rfl, Lib.hid ⟨HX.out.transNo hEx, HT1.out.ext hEx, hEx.blk HA.out no_no, hB.out, hC.out, (HS.out.mono (fun i hi e => ?_)).extNo hEx, ⟨LOwn.nil _ _ _ _, LOwn.nil _ _ _ _, fun k e => by cases e⟩, hcw, htA, by omega, by omega, by omega, by omega, by omega, by omega⟩⟩
      rcases e with (e | e | e) | e | e
      · exact .inl e
      · exact .inr (by omega)
      · exact .inr (by omega)
      · cases e
      · cases e
    · ((have hVC : V1.heap.size ≤ v0.heap.size := (show Ext No V1 _ from hHeld).size); go_simp)
      refine hK.out _ _ ?_ (fun hNew => ?_)
      · exact Ext.alloc (show Ext No V1 _ from hHeld) _
      clear hK K hHeld
      have hHeld := hNew
      clear hNew
      have hC := Lib.hid (alloc_top (w := v0) (o := (.cells #[.int .i64 0, .slice none 0 0, .slice none 0 0, .slice none 0 0] 29)) rfl)
      generalize (v0.alloc (.cells #[.int .i64 0, .slice none 0 0, .slice none 0 0, .slice none 0 0] 29)) = v1 at *
      generalize v0.heap.size = C at *
      have hltC : C < v1.heap.size := lt_of_block hC.out
      try simp only [Act.put, List.setIfInBounds_toArray, List.set_cons_zero, List.set_cons_succ]
      refine held_call (i := 2) rfl (by kernel_rfl) rfl (fun K hK => ?_)
      ((have hVB : V1.heap.size ≤ v1.heap.size := (show Ext No V1 _ from hHeld).size); go_simp)
      refine hK.out _ _ ?_ (fun hNew => ?_)
      · exact Ext.alloc (show Ext No V1 _ from hHeld) _
      clear hK K hHeld
      have hHeld := hNew
      clear hNew
      have hB := Lib.hid (alloc_top (w := v1) (o := (.cells #[.int .i64 0, .slice none 0 0, .slice none 0 0, .slice none 0 0] 29)) rfl)
      replace hC := Lib.hid (alloc_under (o := (.cells #[.int .i64 0, .slice none 0 0, .slice none 0 0, .slice none 0 0] 29)) hC.out)
      have hne : C < v1.heap.size := hltC
      generalize (v1.alloc (.cells #[.int .i64 0, .slice none 0 0, .slice none 0 0, .slice none 0 0] 29)) = v2 at *
      generalize v1.heap.size = B at *
      have hltB : B < v2.heap.size := lt_of_block hB.out
      replace hltC : C < v2.heap.size := lt_of_block hC.out
      try simp only [Act.put, List.setIfInBounds_toArray, List.set_cons_zero, List.set_cons_succ]
      refine held_call (i := 4) rfl (by kernel_rfl) rfl (fun K hK => ?_)
      ((have cS := cellOf hB.out); (have fS := freeOf hB.out); go_simp; (clear cS fS))
      refine hK.out _ _ ?_ (fun hNew => ?_)
      · exact ((((show Ext No V1 _ from hHeld).own hVB _).own hVB _).own hVB _).own hVB _
      clear hK K hHeld
      have hHeld := hNew
      clear hNew
      replace hB := Lib.hid (fin4 hB.out (.int .i64 (S.w : Int)) (.slice ad S.deps.length cd) (.slice at1 S.deps.length ct) (.slice ab S.deps.length cb))
      replace hC := Lib.hid ((set4 v2 B (.int .i64 (S.w : Int)) (.slice ad S.deps.length cd) (.slice at1 S.deps.length ct) (.slice ab S.deps.length cb)).blk hC.out (by unfold At; omega))
      generalize ((((v2.setCell ⟨B, 0, none⟩ (.int .i64 (S.w : Int))).setCell ⟨B, 1, none⟩ (.slice ad S.deps.length cd)).setCell ⟨B, 2, none⟩ (.slice at1 S.deps.length ct)).setCell ⟨B, 3, none⟩ (.slice ab S.deps.length cb)) = v3 at *
      replace hltB : B < v3.heap.size := lt_of_block hB.out
      replace hltC : C < v3.heap.size := lt_of_block hC.out
      try simp only [Act.put, List.setIfInBounds_toArray, List.set_cons_zero, List.set_cons_succ]
      refine held_call (i := 5) rfl (by kernel_rfl) rfl (fun K hK => ?_)
      ((have cS := cellOf hC.out); (have fS := freeOf hC.out); go_simp; (clear cS fS))
      refine hK.out _ _ ?_ (fun hNew => ?_)
      · exact ((((show Ext No V1 _ from hHeld).own hVC _).own hVC _).own hVC _).own hVC _
      clear hK K hHeld
      have hHeld := hNew
      clear hNew
      replace hC := Lib.hid (fin4 hC.out (.int .i64 (S.w : Int)) (.slice ad S.deps.length cd) (.slice at1 S.deps.length ct) (.slice ab S.deps.length cb))
      replace hB := Lib.hid ((set4 v3 C (.int .i64 (S.w : Int)) (.slice ad S.deps.length cd) (.slice at1 S.deps.length ct) (.slice ab S.deps.length cb)).blk hB.out (by unfold At; omega))
      generalize ((((v3.setCell ⟨C, 0, none⟩ (.int .i64 (S.w : Int))).setCell ⟨C, 1, none⟩ (.slice ad S.deps.length cd)).setCell ⟨C, 2, none⟩ (.slice at1 S.deps.length ct)).setCell ⟨C, 3, none⟩ (.slice ab S.deps.length cb)) = v4 at *
      replace hltC : C < v4.heap.size := lt_of_block hC.out
      replace hltB : B < v4.heap.size := lt_of_block hB.out
      try simp only [Act.put, List.setIfInBounds_toArray, List.set_cons_zero, List.set_cons_succ]
      refine wpAnyH_done (by kernel_rfl) ?_ _
      have hEx : Ext No V1 _ := hHeld
      go_wp2_with fail
      go_meet
      have hcw : w.heap.size ≤ tb := by have := HTB.out; omega
      refine ⟨B, C, max B C, rfl, rfl, Lib.hid ⟨HX.out.transNo hEx, HT1.out.ext hEx, hEx.blk HA.out no_no, hB.out, hC.out, (HS.out.mono (fun i hi e => ?_)).extNo hEx, ⟨LOwn.nil _ _ _ _, LOwn.nil _ _ _ _, fun k e => by cases e⟩, hcw, htA, by omega, by omega, by omega, by omega, by omega, by omega⟩⟩
      rcases e with (e | e | e) | e | e
      · exact .inl e
      · exact .inr (by omega)
      · exact .inr (by omega)
      · cases e
      · cases e
  case rest =>
    obtain ⟨B, C, X, rfl, rfl, hm⟩ := hcut
    rename World => wq
    clear HA HS HX HT1 HT hlA
    have hBC := hm.out.c5
    have cB := cellOf hm.out.boxB
    have fB := freeOf hm.out.boxB
    have hm1 := Lib.hid (show JM w _ tb A B C X S (.slice ad S.deps.length cd) (.slice at1 S.deps.length ct) (.slice ab S.deps.length cb) (.slice none 0 0) (.slice none 0 0) #[.int .i64 (S.w : Int), .slice ad S.deps.length cd, .slice at1 S.deps.length ct, .slice none 0 0] #[.int .i64 (S.w : Int), .slice ad S.deps.length cd, .slice at1 S.deps.length ct, .slice ab S.deps.length cb] [] [] from hm.out.putB 3 (.slice none 0 0))
    have cC := cellOf hm1.out.boxC
    have fC := freeOf hm1.out.boxC
    have hm2 := Lib.hid (show JM w _ tb A B C X S (.slice ad S.deps.length cd) (.slice at1 S.deps.length ct) (.slice ab S.deps.length cb) (.slice none 0 0) (.slice none 0 0) #[.int .i64 (S.w : Int), .slice ad S.deps.length cd, .slice at1 S.deps.length ct, .slice none 0 0] #[.int .i64 (S.w : Int), .slice ad S.deps.length cd, .slice at1 S.deps.length ct, .slice none 0 0] [] [] from hm1.out.putC 3 (.slice none 0 0))
    go_wp2_with fail
    clear cB fB cC fC hm hm1
    generalize ((wq.setCell ⟨B, 3, none⟩ (.slice none 0 0)).setCell ⟨C, 3, none⟩ (.slice none 0 0)) = W2 at *
    clear wq
    go_loopw [7, 8, 9, 10] (fun s7 _ _ _ wr => ∃ (k : Nat) (vB vC : Value) (LB LC : LS) (xs : List Nat), s7 = .int .i64 k ∧ k ≤ S.deps.length ∧ Hid (JM w wr tb A B C X S (.slice ad S.deps.length cd) (.slice at1 S.deps.length ct) (.slice ab S.deps.length cb) vB vC #[.int .i64 (S.w : Int), .slice ad S.deps.length cd, .slice at1 S.deps.length ct, vB] #[.int .i64 (S.w : Int), .slice ad S.deps.length cd, .slice at1 S.deps.length ct, vC] LB LC) ∧ Hid (LB.map Prod.fst = xs.map (setN S.w)) ∧ Hid (LC.map Prod.fst = (orV xs S.bnd k).map (setN S.w)) ∧ Hid (xs.length = k) ∧ Hid (∀ m ∈ xs, m < 2 ^ S.w)) (fun s7 _ _ _ _ => S.deps.length - (intOf s7).toNat)
    case atStart => exact ⟨0, _, _, [], [], [], rfl, Nat.zero_le _, hm2, Lib.hid rfl, Lib.hid rfl, Lib.hid rfl, Lib.hid (fun m h => by cases h)⟩
    case round =>
      clear hm2
      obtain ⟨k, vB, vC, LB, LC, xs, rfl, hk, hm, hLB, hLC, hxl, hxm⟩ := hrel
      rename World => wr
      have hlB : Hid (LB.length = k) := Lib.hid (by have := congrArg List.length hLB.out; have := hxl.out; simp at *; omega)
      have hlC : Hid (LC.length = k) := Lib.hid (by have := congrArg List.length hLC.out; simp [orV_len] at this; omega)
      obtain ⟨a1, c1, e1⟩ := hm.out.two.b.slice
      obtain ⟨a2, c2, e2⟩ := hm.out.two.c.slice
      rw [hlB.out] at e1
      rw [hlC.out] at e2
      subst e1 e2
      by_cases hlt : k < S.deps.length
      · have hlz : (k : Int) < (S.deps.length : Int) := by omega
        have HKK : Hid (Value.int .i64 ((k : Int) + 1) = .int .i64 ((k + 1 : Nat) : Int)) := Lib.hid (by rw [show ((k + 1 : Nat) : Int) = (k : Int) + 1 from by omega])
        have cA := cellOf hm.out.boxA
        go_wp2_with fail
        clear cA
        refine (gset_any tb S.w _ hww hm.out.tape).mono ?_
        rintro e3 w3 ⟨m, g, hmm, rfl, hb3, hlo3, ht3, hx3⟩
        have hm3 := Lib.hid (hm.out.step hx3 ht3)
        have hX := hm.out.c8
        have hs3 := hb3.out.set (M := HA X (.slice a1 k c1) (.slice a2 k c2)) hww hmm (fun e => by have := hm.out.two.hM hm.out.c8 g e; omega)
        have hxe : Ext No w3 (w3.alloc (.cells #[.int .i64 (S.w : Int), .slice (some ⟨g, 0, none⟩) (nw S.w) (nw S.w)] 33)) := (Ext.refl _ _).alloc _
        have HM3 := Lib.hid (hm3.out.stepNo hxe)
        have HS3 := Lib.hid (hs3.extNo hxe)
        have HE3 := Lib.hid (alloc_top (w := w3) (o := .cells #[.int .i64 (S.w : Int), .slice (some ⟨g, 0, none⟩) (nw S.w) (nw S.w)] 33) rfl)
        have hNE1 : Hid (Value.ownBlock (.slice a1 k c1) ≠ some w3.heap.size) := Lib.hid (fun e => Nat.lt_irrefl _ (hm3.out.two.b.lt _ e).2)
        have hNE2 : Hid (Value.ownBlock (.slice a2 k c2) ≠ some w3.heap.size) := Lib.hid (fun e => Nat.lt_irrefl _ (hm3.out.two.c.lt _ e).2)
        clear hm hm3 hs3 hxe hb3 hlo3 ht3 hx3
        go_upto_region 9 with (fail)
        generalize (w3.alloc (.cells #[.int .i64 (S.w : Int), .slice (some ⟨g, 0, none⟩) (nw S.w) (nw S.w)] 33)) = V3 at *
        generalize w3.heap.size = E at *
        obtain ⟨bb, ob, kb, a5, c5, hve, g0, g1, hset⟩ := HM3.out.sys.bn hlt
        simp only [Value.slice.injEq] at hve
        obtain ⟨rfl, -, rfl⟩ := hve
        have HQ := Lib.hid (And.intro g0 g1)
        clear g0 g1
        have HM := Lib.hid HM3.out.boxA
        go_cut [9, 10] (fun s9 s10 wx => ∃ (G : Nat) (a6 : Option Addr) (c6 : Nat), s9 = .pointer (some ⟨G, 0, none⟩) ∧ Hid (Ext No V3 wx) ∧ Hid (wx.heap[G]? = some (.cells #[.int .i64 (S.w : Int), .slice a6 (nw S.w) c6] 33 (0, 0))) ∧ Hid (SetAt (HA X (.slice a1 k c1) (.slice a2 k c2)) wx (.slice a6 (nw S.w) c6) S.w (orN m (rowD S.bnd k))) ∧ Hid (Hid (Value.ownBlock (.slice a1 k c1) ≠ some G) ∧ Hid (Value.ownBlock (.slice a2 k c2) ≠ some G)))
        case first =>
          refine wp_region_held_drew (S := (fun w' => Ext No V3 w')) (by kernel_rfl) ?_ (fun hHeld => ?_)
          · exact (Ext.refl _ _).drew
          generalize V3.drew = v0 at *
          refine held_take (i := 0) (v := ?_) rfl (by kernel_rfl) (by kernel_rfl) (by kernel_rfl) (fun _ _ _ h => h) rfl (fun w hSw => ?_) hHeld ?_
          rotate_left
          · (have hEs : Ext No V3 _ := hSw); (have x0 := cellOf (hEs.blk HE3.out no_no)); go_simp; (try with_reducible rfl)
          try simp only [Act.put, List.setIfInBounds_toArray, List.set_cons_zero, List.set_cons_succ]
          refine held_take (i := 1) (v := ?_) rfl (by kernel_rfl) (by kernel_rfl) (by kernel_rfl) (fun _ _ _ h => h) rfl (fun w hSw => ?_) hHeld ?_
          rotate_left
          · go_simp; (try with_reducible rfl)
          try simp only [Act.put, List.setIfInBounds_toArray, List.set_cons_zero, List.set_cons_succ]
          refine held_take (i := 2) (v := ?_) rfl (by kernel_rfl) (by kernel_rfl) (by kernel_rfl) (fun _ _ _ h => h) rfl (fun w hSw => ?_) hHeld ?_
          rotate_left
          · (have hEs : Ext No V3 _ := hSw); (have x0 := cellOf (hEs.blk HM.out no_no)); go_simp; (try with_reducible rfl)
          try simp only [Act.put, List.setIfInBounds_toArray, List.set_cons_zero, List.set_cons_succ]
          refine held_take (i := 3) (v := ?_) rfl (by kernel_rfl) (by kernel_rfl) (by kernel_rfl) (fun _ _ _ h => h) rfl (fun w hSw => ?_) hHeld ?_
          rotate_left
          · go_simp; (try with_reducible rfl)
          try simp only [Act.put, List.setIfInBounds_toArray, List.set_cons_zero, List.set_cons_succ]
          refine held_take (i := 4) (v := ?_) rfl (by kernel_rfl) (by kernel_rfl) (by kernel_rfl) (fun _ _ _ h => h) rfl (fun w hSw => ?_) hHeld ?_
          rotate_left
          · go_simp; (try with_reducible rfl)
          try simp only [Act.put, List.setIfInBounds_toArray, List.set_cons_zero, List.set_cons_succ]
          refine held_take (i := 5) (v := ?_) rfl (by kernel_rfl) (by kernel_rfl) (by kernel_rfl) (fun _ _ _ h => h) rfl (fun w hSw => ?_) hHeld ?_
          rotate_left
          · (have hEs : Ext No V3 _ := hSw); (obtain ⟨p0, p1⟩ := HQ.out); (have x0 := hEs.keep p0); (have x1 := hEs.keep p1); go_simp; (try with_reducible rfl)
          try simp only [Act.put, List.setIfInBounds_toArray, List.set_cons_zero, List.set_cons_succ]
          refine held_next2 (i := 6) (j := 10) (by kernel_rfl) (NextOp.mk rfl rfl (fun K hK => ?_)) (NextOp.mk rfl rfl (fun K hK => ?_))
          · ((have hEx : Ext No V3 _ := hHeld); go_simp; (go_at_call 14); (refine (union_any (Lo v0.heap.size) S.w m (rowD S.bnd k) _ _ _ (fun _ e => e) (HS3.out.no.extNo hEx) (hset.out.no.extNo hEx)).mono ?_); (rintro e9 v1 ⟨aq, cq, rfl, hsq, hyA⟩); (have hEz := hEx.size); go_simp)
            refine hK.out _ _ ?_ (fun hNew => ?_)
            · exact Ext.transNo (show Ext No V3 _ from hHeld) hyA
            clear hK K hHeld
            have hHeld := hNew
            clear hNew
            have hS := Lib.hid (hsq.out.mono (M' := (HA X (.slice a1 k c1) (.slice a2 k c2))) (fun i hi e => by have h1 := HM3.out.two.hM HM3.out.c8 i e; unfold Lo; omega))
            clear hEx hsq hyA hEz
            try simp only [Act.put, List.setIfInBounds_toArray, List.set_cons_zero, List.set_cons_succ]
            refine held_take (i := 7) (v := ?_) rfl (by kernel_rfl) (by kernel_rfl) (by kernel_rfl) (fun _ _ _ h => h) rfl (fun w hSw => ?_) hHeld ?_
            rotate_left
            · go_simp; (try with_reducible rfl)
            try simp only [Act.put, List.setIfInBounds_toArray, List.set_cons_zero, List.set_cons_succ]
            refine held_take (i := 8) (v := ?_) rfl (by kernel_rfl) (by kernel_rfl) (by kernel_rfl) (fun _ _ _ h => h) rfl (fun w hSw => ?_) hHeld ?_
            rotate_left
            · go_simp; (try with_reducible rfl)
            try simp only [Act.put, List.setIfInBounds_toArray, List.set_cons_zero, List.set_cons_succ]
            refine held_take (i := 9) (v := ?_) rfl (by kernel_rfl) (by kernel_rfl) (by kernel_rfl) (fun _ _ _ h => h) rfl (fun w hSw => ?_) hHeld ?_
            rotate_left
            · go_simp; (try with_reducible rfl)
            try simp only [Act.put, List.setIfInBounds_toArray, List.set_cons_zero, List.set_cons_succ]
            refine held_call (i := 10) rfl (by kernel_rfl) rfl (fun K hK => ?_)
            ((have hGV : V3.heap.size ≤ v1.heap.size := (show Ext No V3 _ from hHeld).size); go_simp)
            refine hK.out _ _ ?_ (fun hNew => ?_)
            · exact Ext.alloc (show Ext No V3 _ from hHeld) _
            clear hK K hHeld
            have hHeld := hNew
            clear hNew
            have hG := Lib.hid (alloc_top (w := v1) (o := (.cells #[.int .i64 0, .slice none 0 0] 33)) rfl)
            replace hS := Lib.hid ((hS.out.mono (M' := fun b => (HA X (.slice a1 k c1) (.slice a2 k c2)) b ∨ b = v1.heap.size) (fun i hi e => by rcases e with e | e; exact e; omega)).extNo ((Ext.refl No v1).alloc (.cells #[.int .i64 0, .slice none 0 0] 33)))
            generalize (v1.alloc (.cells #[.int .i64 0, .slice none 0 0] 33)) = v2 at *
            generalize v1.heap.size = G at *
            try simp only [Act.put, List.setIfInBounds_toArray, List.set_cons_zero, List.set_cons_succ]
            refine held_call (i := 11) rfl (by kernel_rfl) rfl (fun K hK => ?_)
            ((have cS := cellOf hG.out); (have fS := freeOf hG.out); go_simp; (clear cS fS))
            refine hK.out _ _ ?_ (fun hNew => ?_)
            · exact ext2 (show Ext No V3 _ from hHeld) hGV
            clear hK K hHeld
            have hHeld := hNew
            clear hNew
            try simp only [Act.put, List.setIfInBounds_toArray, List.set_cons_zero, List.set_cons_succ]
            refine held_take (i := 12) (v := ?_) rfl (by kernel_rfl) (by kernel_rfl) (by kernel_rfl) (fun _ _ _ h => h) rfl (fun w hSw => ?_) hHeld ?_
            rotate_left
            · go_simp; (try with_reducible rfl)
            try simp only [Act.put, List.setIfInBounds_toArray, List.set_cons_zero, List.set_cons_succ]
            refine wpAnyH_done (by kernel_rfl) ?_ _
            have hEx : Ext No V3 _ := hHeld
            go_wp2_with fail
            go_meet
            have hE2 : Ext (At G) v2 _ := ext_two (Ext.refl No v2) G (u0 := .int .i64 (S.w : Int)) (u1 := .slice aq (nw S.w) cq)
            exact ⟨G, aq, cq, rfl, Lib.hid hEx, Lib.hid ((set_same (j := 1) (set_same (j := 0) hG.out)).trans rfl), Lib.hid ((hS.out.ext hE2 (fun i _ e => .inr e)).mono (fun i _ e => .inl e)), Lib.hid ⟨Lib.hid (fun e => by have := (HM3.out.two.b.lt _ e).2; omega), Lib.hid (fun e => by have := (HM3.out.two.c.lt _ e).2; omega)⟩⟩
          · ((have hGV : V3.heap.size ≤ v0.heap.size := (show Ext No V3 _ from hHeld).size); go_simp)
            refine hK.out _ _ ?_ (fun hNew => ?_)
            · exact Ext.alloc (show Ext No V3 _ from hHeld) _
            clear hK K hHeld
            have hHeld := hNew
            clear hNew
            have hG := Lib.hid (alloc_top (w := v0) (o := (.cells #[.int .i64 0, .slice none 0 0] 33)) rfl)
            generalize (v0.alloc (.cells #[.int .i64 0, .slice none 0 0] 33)) = v1 at *
            generalize v0.heap.size = G at *
            try simp only [Act.put, List.setIfInBounds_toArray, List.set_cons_zero, List.set_cons_succ]
            refine held_call (i := 6) rfl (by kernel_rfl) rfl (fun K hK => ?_)
            ((have hEx : Ext No V3 _ := hHeld); go_simp; (go_at_call 14); (refine (union_any (Lo v1.heap.size) S.w m (rowD S.bnd k) _ _ _ (fun _ e => e) (HS3.out.no.extNo hEx) (hset.out.no.extNo hEx)).mono ?_); (rintro e9 v2 ⟨aq, cq, rfl, hsq, hyA⟩); (have hEz := hEx.size); go_simp)
            refine hK.out _ _ ?_ (fun hNew => ?_)
            · exact Ext.transNo (show Ext No V3 _ from hHeld) hyA
            clear hK K hHeld
            have hHeld := hNew
            clear hNew
            have hS := Lib.hid (hsq.out.mono (M' := fun b => (HA X (.slice a1 k c1) (.slice a2 k c2)) b ∨ b = G) (fun i hi e => by rcases e with e | e; (have h1 := HM3.out.two.hM HM3.out.c8 i e; unfold Lo; omega); (unfold Lo; have := lt_of_block hG.out; omega)))
            replace hG := Lib.hid (hyA.blk hG.out no_no)
            clear hEx hsq hyA hEz
            try simp only [Act.put, List.setIfInBounds_toArray, List.set_cons_zero, List.set_cons_succ]
            refine held_take (i := 7) (v := ?_) rfl (by kernel_rfl) (by kernel_rfl) (by kernel_rfl) (fun _ _ _ h => h) rfl (fun w hSw => ?_) hHeld ?_
            rotate_left
            · go_simp; (try with_reducible rfl)
            try simp only [Act.put, List.setIfInBounds_toArray, List.set_cons_zero, List.set_cons_succ]
            refine held_take (i := 8) (v := ?_) rfl (by kernel_rfl) (by kernel_rfl) (by kernel_rfl) (fun _ _ _ h => h) rfl (fun w hSw => ?_) hHeld ?_
            rotate_left
            · go_simp; (try with_reducible rfl)
            try simp only [Act.put, List.setIfInBounds_toArray, List.set_cons_zero, List.set_cons_succ]
            refine held_take (i := 9) (v := ?_) rfl (by kernel_rfl) (by kernel_rfl) (by kernel_rfl) (fun _ _ _ h => h) rfl (fun w hSw => ?_) hHeld ?_
            rotate_left
            · go_simp; (try with_reducible rfl)
            try simp only [Act.put, List.setIfInBounds_toArray, List.set_cons_zero, List.set_cons_succ]
            refine held_call (i := 11) rfl (by kernel_rfl) rfl (fun K hK => ?_)
            ((have cS := cellOf hG.out); (have fS := freeOf hG.out); go_simp; (clear cS fS))
            refine hK.out _ _ ?_ (fun hNew => ?_)
            · exact ext2 (show Ext No V3 _ from hHeld) hGV
            clear hK K hHeld
            have hHeld := hNew
            clear hNew
            try simp only [Act.put, List.setIfInBounds_toArray, List.set_cons_zero, List.set_cons_succ]
            refine held_take (i := 12) (v := ?_) rfl (by kernel_rfl) (by kernel_rfl) (by kernel_rfl) (fun _ _ _ h => h) rfl (fun w hSw => ?_) hHeld ?_
            rotate_left
            · go_simp; (try with_reducible rfl)
            try simp only [Act.put, List.setIfInBounds_toArray, List.set_cons_zero, List.set_cons_succ]
            refine wpAnyH_done (by kernel_rfl) ?_ _
            have hEx : Ext No V3 _ := hHeld
            go_wp2_with fail
            go_meet
            have hE2 : Ext (At G) v2 _ := ext_two (Ext.refl No v2) G (u0 := .int .i64 (S.w : Int)) (u1 := .slice aq (nw S.w) cq)
            exact ⟨G, aq, cq, rfl, Lib.hid hEx, Lib.hid ((set_same (j := 1) (set_same (j := 0) hG.out)).trans rfl), Lib.hid ((hS.out.ext hE2 (fun i _ e => .inr e)).mono (fun i _ e => .inl e)), Lib.hid ⟨Lib.hid (fun e => by have := (HM3.out.two.b.lt _ e).2; omega), Lib.hid (fun e => by have := (HM3.out.two.c.lt _ e).2; omega)⟩⟩
        case rest =>
          obtain ⟨G, a6, c6, rfl, hx9, hG9, hs9, hNG⟩ := hcut
          rename World => wy
          have hm := Lib.hid (HM3.out.stepNo hx9.out)
          have hsB := Lib.hid (HS3.out.extNo hx9.out)
          have hE := Lib.hid (hx9.out.blk HE3.out no_no)
          clear HQ hset HM HM3 HS3 HE3 hx9
          have hkB : k ≤ 256 := by omega
          go_upto_region 10 with (fail)
          have hBE : Hid (Value.ownBlock (.slice a1 k c1) ≠ some E) := hNE1
          have hCE : Hid (Value.ownBlock (.slice a2 k c2) ≠ some E) := hNE2
          have hBG : Hid (Value.ownBlock (.slice a1 k c1) ≠ some G) := hNG.out.1
          have hCG : Hid (Value.ownBlock (.slice a2 k c2) ≠ some G) := hNG.out.2
          refine wp_region_heldL [11, 13] (fun w' => w'.heap[B]? = some (.cells #[.int .i64 (S.w : Int), .slice ad S.deps.length cd, .slice at1 S.deps.length ct, (.slice a1 k c1)] 29 (0, 0)) ∧ w'.heap[C]? = some (.cells #[.int .i64 (S.w : Int), .slice ad S.deps.length cd, .slice at1 S.deps.length ct, (.slice a2 k c2)] 29 (0, 0)) ∧ w'.heap[E]? = some (.cells #[.int .i64 (S.w : Int), .slice (some ⟨g, 0, none⟩) (nw S.w) (nw S.w)] 33 (0, 0)) ∧ w'.heap[G]? = some (.cells #[.int .i64 (S.w : Int), .slice a6 (nw S.w) c6] 33 (0, 0))) (by kernel_rfl) ?_ (fun hHeld => ?_)
          · exact ⟨(show Ext No wy wy.drew from (Ext.refl _ _).drew).blk hm.out.boxB no_no, (show Ext No wy wy.drew from (Ext.refl _ _).drew).blk hm.out.boxC no_no, (show Ext No wy wy.drew from (Ext.refl _ _).drew).blk hE.out no_no, (show Ext No wy wy.drew from (Ext.refl _ _).drew).blk hG9.out no_no⟩
          have hdr : Ext No wy wy.drew := (Ext.refl _ _).drew
          replace hm := Lib.hid (hm.out.stepNo hdr)
          replace hE := Lib.hid (hdr.blk hE.out no_no)
          replace hG9 := Lib.hid (hdr.blk hG9.out no_no)
          replace hs9 := Lib.hid (hs9.out.extNo hdr)
          replace hsB := Lib.hid (hsB.out.extNo hdr)
          clear hdr
          generalize wy.drew = v0 at *
          refine heldL_free (i := 0) (v := ?_) rfl (by kernel_rfl) (by kernel_rfl) (by kernel_rfl) (by kernel_rfl) (by kernel_rfl) (fun _ _ _ h => h) rfl (fun w => ?_) hHeld ?_
          rotate_left
          · go_simp; (try with_reducible rfl)
          try simp only [Act.put, List.setIfInBounds_toArray, List.set_cons_zero, List.set_cons_succ]
          refine heldL_take (i := 1) (v := ?_) rfl (by kernel_rfl) (by kernel_rfl) (by kernel_rfl) (by kernel_rfl) (by kernel_rfl) (fun _ _ _ h => h) rfl (fun w hSw => ?_) hHeld ?_
          rotate_left
          · (have x0 := cellOf hSw.1); go_simp; (try with_reducible rfl)
          try simp only [Act.put, List.setIfInBounds_toArray, List.set_cons_zero, List.set_cons_succ]
          refine heldL_take (i := 2) (v := ?_) rfl (by kernel_rfl) (by kernel_rfl) (by kernel_rfl) (by kernel_rfl) (by kernel_rfl) (fun _ _ _ h => h) rfl (fun w hSw => ?_) hHeld ?_
          rotate_left
          · (have x0 := cellOf hSw.2.2.1); go_simp; (try with_reducible rfl)
          try simp only [Act.put, List.setIfInBounds_toArray, List.set_cons_zero, List.set_cons_succ]
          refine heldL_free (i := 5) (v := ?_) rfl (by kernel_rfl) (by kernel_rfl) (by kernel_rfl) (by kernel_rfl) (by kernel_rfl) (fun _ _ _ h => h) rfl (fun w => ?_) hHeld ?_
          rotate_left
          · go_simp; (try with_reducible rfl)
          try simp only [Act.put, List.setIfInBounds_toArray, List.set_cons_zero, List.set_cons_succ]
          refine heldL_take (i := 6) (v := ?_) rfl (by kernel_rfl) (by kernel_rfl) (by kernel_rfl) (by kernel_rfl) (by kernel_rfl) (fun _ _ _ h => h) rfl (fun w hSw => ?_) hHeld ?_
          rotate_left
          · (have x0 := cellOf hSw.2.1); go_simp; (try with_reducible rfl)
          try simp only [Act.put, List.setIfInBounds_toArray, List.set_cons_zero, List.set_cons_succ]
          refine heldL_take (i := 7) (v := ?_) rfl (by kernel_rfl) (by kernel_rfl) (by kernel_rfl) (by kernel_rfl) (by kernel_rfl) (fun _ _ _ h => h) rfl (fun w hSw => ?_) hHeld ?_
          rotate_left
          · (have x0 := cellOf hSw.2.2.2); go_simp; (try with_reducible rfl)
          try simp only [Act.put, List.setIfInBounds_toArray, List.set_cons_zero, List.set_cons_succ]
          refine heldL_next2 (i := 3) (j := 8) (by kernel_rfl) (NextL.mk rfl rfl (fun K hK => ?_)) (NextL.mk rfl rfl (fun K hK => ?_))
          · go_simp
            refine hK.out _ _ ?_ (fun hNew => ?_)
            · intro _; exact ⟨alloc_under hm.out.boxB, alloc_under hm.out.boxC, alloc_under hE.out, alloc_under hG9.out⟩
            clear hK K hHeld
            have hHeld := hNew
            clear hNew
            have hx := (Ext.refl No v0).alloc (.cells #[.int .i64 (S.w : Int), .slice (some ⟨g, 0, none⟩) (nw S.w) (nw S.w)] 33)
            have hLb := Lib.hid (alloc_top (w := v0) (o := (.cells #[.int .i64 (S.w : Int), .slice (some ⟨g, 0, none⟩) (nw S.w) (nw S.w)] 33)) rfl)
            replace hm := Lib.hid (hm.out.stepNo hx)
            replace hE := Lib.hid (hx.blk hE.out no_no)
            replace hG9 := Lib.hid (hx.blk hG9.out no_no)
            replace hs9 := Lib.hid (hs9.out.extNo hx)
            replace hsB := Lib.hid (hsB.out.extNo hx)
            clear hx
            generalize (v0.alloc (.cells #[.int .i64 (S.w : Int), .slice (some ⟨g, 0, none⟩) (nw S.w) (nw S.w)] 33)) = v1 at *
            generalize v0.heap.size = BL at *
            try simp only [Act.put, List.setIfInBounds_toArray, List.set_cons_zero, List.set_cons_succ]
            refine heldL_next2 (i := 4) (j := 8) (by kernel_rfl) (NextL.mk rfl rfl (fun K hK => ?_)) (NextL.mk rfl rfl (fun K hK => ?_))
            · ((refine wp_app _ (.tmp 53) (.tmp 55) 27 rfl (X + 1) 33 iS _ 2 32 Try.underlying27 hiS hS0 hS1 hS2 rfl (by omega) (.slice a1 k c1) k (LB.flatMap kS.cells) rfl (by have h := hm.out.two.b.own; rw [hlB.out] at h; exact h) No (some ⟨BL, 0, none⟩) 1 1 [.int .i64 (S.w : Int), .slice (some ⟨g, 0, none⟩) (nw S.w) (nw S.w)] rfl (Row.block hLb.out rfl no_no (by omega)) (by simp [Value.oneCell']) (by omega) (by omega) hm.out.c8 ?_); (intro v9 w9 hown1 hg1 hv1); (have hE9 : Ext (fun bq => Value.ownBlock (.slice a1 k c1) = some bq) v1 w9 := (Ext.refl _ _).grown hg1 (fun bq hk _ => hk)); (have hm9 := Lib.hid (hm.out.appB (p := (setN S.w m, .slice (some ⟨g, 0, none⟩) (nw S.w) (nw S.w))) hsB.out.words (by rw [hlB.out]; exact hown1) hg1 hv1)); (have hs9b := Lib.hid (TwL.carryS hs9.out hg1 hv1)); (obtain ⟨xB, yB, hs99⟩ := hm9.out.two.b.slice); (rw [List.length_append, hlB.out] at hs99); (subst hs99); (clear hown1 hg1 hv1))
              refine hK.out _ _ ?_ (fun hNew => ?_)
              · intro _; exact ⟨hm9.out.boxB, hm9.out.boxC, hE9.blk hE.out (fun e => hBE.out e), hE9.blk hG9.out (fun e => hBG.out e)⟩
              clear hK K hHeld
              have hHeld := hNew
              clear hNew
              clear hm
              have hm := hm9
              clear hm9
              replace hE := Lib.hid (hE9.blk hE.out (fun e => hBE.out e))
              replace hG9 := Lib.hid (hE9.blk hG9.out (fun e => hBG.out e))
              clear hs9 hsB hLb
              have hs9 := hs9b
              clear hs9b
              clear hE9
              generalize w9 = v2 at *
              try simp only [Act.put, List.setIfInBounds_toArray, List.set_cons_zero, List.set_cons_succ]
              refine heldL_free (i := 10) (v := ?_) rfl (by kernel_rfl) (by kernel_rfl) (by kernel_rfl) (by kernel_rfl) (by kernel_rfl) (fun _ _ _ h => h) rfl (fun w => ?_) hHeld ?_
              rotate_left
              · go_simp; (try with_reducible rfl)
              try simp only [Act.put, List.setIfInBounds_toArray, List.set_cons_zero, List.set_cons_succ]
              refine heldL_next1 (i := 8) (by kernel_rfl) (NextL.mk rfl rfl (fun K hK => ?_))
              go_simp
              refine hK.out _ _ ?_ (fun hNew => ?_)
              · intro _; exact ⟨alloc_under hm.out.boxB, alloc_under hm.out.boxC, alloc_under hE.out, alloc_under hG9.out⟩
              clear hK K hHeld
              have hHeld := hNew
              clear hNew
              have hx := (Ext.refl No v2).alloc (.cells #[.int .i64 (S.w : Int), .slice a6 (nw S.w) c6] 33)
              have hLc := Lib.hid (alloc_top (w := v2) (o := (.cells #[.int .i64 (S.w : Int), .slice a6 (nw S.w) c6] 33)) rfl)
              replace hm := Lib.hid (hm.out.stepNo hx)
              replace hE := Lib.hid (hx.blk hE.out no_no)
              replace hG9 := Lib.hid (hx.blk hG9.out no_no)
              replace hs9 := Lib.hid (hs9.out.extNo hx)
              clear hx
              generalize (v2.alloc (.cells #[.int .i64 (S.w : Int), .slice a6 (nw S.w) c6] 33)) = v3 at *
              generalize v2.heap.size = CL at *
              try simp only [Act.put, List.setIfInBounds_toArray, List.set_cons_zero, List.set_cons_succ]
              refine heldL_next1 (i := 9) (by kernel_rfl) (NextL.mk rfl rfl (fun K hK => ?_))
              ((refine wp_app _ (.tmp 58) (.tmp 60) 27 rfl (X + 1) 33 iS _ 2 32 Try.underlying27 hiS hS0 hS1 hS2 rfl (by omega) (.slice a2 k c2) k (LC.flatMap kS.cells) rfl (by have h := hm.out.two.c.own; rw [hlC.out] at h; exact h) No (some ⟨CL, 0, none⟩) 1 1 [.int .i64 (S.w : Int), .slice a6 (nw S.w) c6] rfl (Row.block hLc.out rfl no_no (by omega)) (by simp [Value.oneCell']) (by omega) (by omega) hm.out.c8 ?_); (intro v9 w9 hown1 hg1 hv1); (have hE9 : Ext (fun bq => Value.ownBlock (.slice a2 k c2) = some bq) v3 w9 := (Ext.refl _ _).grown hg1 (fun bq hk _ => hk)); (have hm9 := Lib.hid (hm.out.appC (p := (setN S.w (orN m (rowD S.bnd k)), .slice a6 (nw S.w) c6)) hs9.out.words (by rw [hlC.out]; exact hown1) hg1 hv1)); (obtain ⟨xC, yC, hs99⟩ := hm9.out.two.c.slice); (rw [List.length_append, hlC.out] at hs99); (subst hs99); (clear hown1 hg1 hv1))
              refine hK.out _ _ ?_ (fun hNew => ?_)
              · intro _; exact ⟨hm9.out.boxB, hm9.out.boxC, hE9.blk hE.out (fun e => hCE.out e), hE9.blk hG9.out (fun e => hCG.out e)⟩
              clear hK K hHeld
              have hHeld := hNew
              clear hNew
              clear hm
              have hm := hm9
              clear hm9
              replace hE := trivial
              replace hG9 := trivial
              clear hLc hs9 hE hG9
              clear hE9
              generalize w9 = v4 at *
              try simp only [Act.put, List.setIfInBounds_toArray, List.set_cons_zero, List.set_cons_succ]
              refine heldL_next1 (i := 11) (by kernel_rfl) (NextL.mk rfl rfl (fun K hK => ?_))
              ((have cX := cellOf hm.out.boxB); (have fX := freeOf hm.out.boxB); go_simp; (clear cX fX))
              refine hK.out _ _ ?_ (fun hNew => ?_)
              · exact fun h => absurd h (by decide)
              clear hK K hHeld
              have hHeld := hNew
              clear hNew
              have hm9 := Lib.hid (show JM w (v4.setCell ⟨B, 3, none⟩ (.slice xB (k + 1) yB)) tb A B C X S (.slice ad S.deps.length cd) (.slice at1 S.deps.length ct) _ (.slice xB (k + 1) yB) (.slice xC (k + 1) yC) #[.int .i64 (S.w : Int), .slice ad S.deps.length cd, .slice at1 S.deps.length ct, (.slice xB (k + 1) yB)] #[.int .i64 (S.w : Int), .slice ad S.deps.length cd, .slice at1 S.deps.length ct, (.slice a2 k c2)] _ _ from hm.out.putB 3 (.slice xB (k + 1) yB))
              clear hm
              have hm := hm9
              clear hm9
              generalize (v4.setCell ⟨B, 3, none⟩ (.slice xB (k + 1) yB)) = v5 at *
              try simp only [Act.put, List.setIfInBounds_toArray, List.set_cons_zero, List.set_cons_succ]
              refine heldL_free (i := 12) (v := ?_) rfl (by kernel_rfl) (by kernel_rfl) (by kernel_rfl) (by kernel_rfl) (by kernel_rfl) (fun _ _ _ h => h) rfl (fun w => ?_) hHeld ?_
              rotate_left
              · go_simp; (try with_reducible rfl)
              try simp only [Act.put, List.setIfInBounds_toArray, List.set_cons_zero, List.set_cons_succ]
              refine heldL_next1 (i := 13) (by kernel_rfl) (NextL.mk rfl rfl (fun K hK => ?_))
              ((have cX := cellOf hm.out.boxC); (have fX := freeOf hm.out.boxC); go_simp; (clear cX fX))
              refine hK.out _ _ ?_ (fun hNew => ?_)
              · exact fun h => absurd h (by decide)
              clear hK K hHeld
              have hHeld := hNew
              clear hNew
              have hm9 := Lib.hid (show JM w (v5.setCell ⟨C, 3, none⟩ (.slice xC (k + 1) yC)) tb A B C X S (.slice ad S.deps.length cd) (.slice at1 S.deps.length ct) _ (.slice xB (k + 1) yB) (.slice xC (k + 1) yC) #[.int .i64 (S.w : Int), .slice ad S.deps.length cd, .slice at1 S.deps.length ct, (.slice xB (k + 1) yB)] #[.int .i64 (S.w : Int), .slice ad S.deps.length cd, .slice at1 S.deps.length ct, (.slice xC (k + 1) yC)] _ _ from hm.out.putC 3 (.slice xC (k + 1) yC))
              clear hm
              have hm := hm9
              clear hm9
              generalize (v5.setCell ⟨C, 3, none⟩ (.slice xC (k + 1) yC)) = v6 at *
              try simp only [Act.put, List.setIfInBounds_toArray, List.set_cons_zero, List.set_cons_succ]
              refine heldL_done (by kernel_rfl) ?_ _
              go_wp2_with fail
              go_roundw
              case rel => exact ⟨k + 1, _, _, _, _, xs ++ [m], HKK.out, by omega, hm, Lib.hid (by rw [List.map_append, List.map_append, hLB.out]; rfl), Lib.hid (by
                rw [List.map_append, hLC.out, orV_snoc, List.map_append]
                have h1 : orV (xs ++ [m]) S.bnd k = orV xs S.bnd k := by
                  refine List.map_congr_left (fun i hi => ?_)
                  have hi2 := List.mem_range.1 hi
                  have := hxl.out
                  simp [rowD, List.getElem?_append_left (show i < xs.length by omega)]
                have h2 : rowD (xs ++ [m]) k = m := by
                  have := hxl.out
                  simp [rowD, ← this]
                rw [h1, h2]
                rfl), Lib.hid (by rw [List.length_append, hxl.out]; rfl), Lib.hid (fun q hq => by
                rcases List.mem_append.1 hq with hq | hq
                · exact hxm.out q hq
                · rw [List.mem_singleton.1 hq]; exact hmm)⟩
              case measure => simp [intOf]; omega
            · go_simp
              refine hK.out _ _ ?_ (fun hNew => ?_)
              · intro _; exact ⟨alloc_under hm.out.boxB, alloc_under hm.out.boxC, alloc_under hE.out, alloc_under hG9.out⟩
              clear hK K hHeld
              have hHeld := hNew
              clear hNew
              have hx := (Ext.refl No v1).alloc (.cells #[.int .i64 (S.w : Int), .slice a6 (nw S.w) c6] 33)
              have hLc := Lib.hid (alloc_top (w := v1) (o := (.cells #[.int .i64 (S.w : Int), .slice a6 (nw S.w) c6] 33)) rfl)
              have hBn : Hid (Value.ownBlock (.slice a1 k c1) ≠ some v1.heap.size) := Lib.hid (fun e => Nat.lt_irrefl _ (hm.out.two.b.lt _ e).2)
              replace hm := Lib.hid (hm.out.stepNo hx)
              replace hE := Lib.hid (hx.blk hE.out no_no)
              replace hG9 := Lib.hid (hx.blk hG9.out no_no)
              replace hs9 := Lib.hid (hs9.out.extNo hx)
              replace hsB := Lib.hid (hsB.out.extNo hx)
              replace hLb := Lib.hid (hx.blk hLb.out no_no)
              clear hx
              generalize (v1.alloc (.cells #[.int .i64 (S.w : Int), .slice a6 (nw S.w) c6] 33)) = v2 at *
              generalize v1.heap.size = CL at *
              try simp only [Act.put, List.setIfInBounds_toArray, List.set_cons_zero, List.set_cons_succ]
              refine heldL_next1 (i := 4) (by kernel_rfl) (NextL.mk rfl rfl (fun K hK => ?_))
              ((refine wp_app _ (.tmp 53) (.tmp 55) 27 rfl (X + 1) 33 iS _ 2 32 Try.underlying27 hiS hS0 hS1 hS2 rfl (by omega) (.slice a1 k c1) k (LB.flatMap kS.cells) rfl (by have h := hm.out.two.b.own; rw [hlB.out] at h; exact h) No (some ⟨BL, 0, none⟩) 1 1 [.int .i64 (S.w : Int), .slice (some ⟨g, 0, none⟩) (nw S.w) (nw S.w)] rfl (Row.block hLb.out rfl no_no (by omega)) (by simp [Value.oneCell']) (by omega) (by omega) hm.out.c8 ?_); (intro v9 w9 hown1 hg1 hv1); (have hE9 : Ext (fun bq => Value.ownBlock (.slice a1 k c1) = some bq) v2 w9 := (Ext.refl _ _).grown hg1 (fun bq hk _ => hk)); (have hm9 := Lib.hid (hm.out.appB (p := (setN S.w m, .slice (some ⟨g, 0, none⟩) (nw S.w) (nw S.w))) hsB.out.words (by rw [hlB.out]; exact hown1) hg1 hv1)); (have hs9b := Lib.hid (TwL.carryS hs9.out hg1 hv1)); (have hLc9 := Lib.hid (hE9.blk hLc.out (fun e => hBn.out e))); (obtain ⟨xB, yB, hs99⟩ := hm9.out.two.b.slice); (rw [List.length_append, hlB.out] at hs99); (subst hs99); (clear hown1 hg1 hv1))
              refine hK.out _ _ ?_ (fun hNew => ?_)
              · intro _; exact ⟨hm9.out.boxB, hm9.out.boxC, hE9.blk hE.out (fun e => hBE.out e), hE9.blk hG9.out (fun e => hBG.out e)⟩
              clear hK K hHeld
              have hHeld := hNew
              clear hNew
              clear hm
              have hm := hm9
              clear hm9
              replace hE := Lib.hid (hE9.blk hE.out (fun e => hBE.out e))
              replace hG9 := Lib.hid (hE9.blk hG9.out (fun e => hBG.out e))
              clear hs9 hsB hLb
              have hs9 := hs9b
              clear hs9b
              clear hLc
              have hLc := hLc9
              clear hLc9
              clear hE9
              generalize w9 = v3 at *
              try simp only [Act.put, List.setIfInBounds_toArray, List.set_cons_zero, List.set_cons_succ]
              refine heldL_free (i := 10) (v := ?_) rfl (by kernel_rfl) (by kernel_rfl) (by kernel_rfl) (by kernel_rfl) (by kernel_rfl) (fun _ _ _ h => h) rfl (fun w => ?_) hHeld ?_
              rotate_left
              · go_simp; (try with_reducible rfl)
              try simp only [Act.put, List.setIfInBounds_toArray, List.set_cons_zero, List.set_cons_succ]
              refine heldL_next1 (i := 9) (by kernel_rfl) (NextL.mk rfl rfl (fun K hK => ?_))
              ((refine wp_app _ (.tmp 58) (.tmp 60) 27 rfl (X + 1) 33 iS _ 2 32 Try.underlying27 hiS hS0 hS1 hS2 rfl (by omega) (.slice a2 k c2) k (LC.flatMap kS.cells) rfl (by have h := hm.out.two.c.own; rw [hlC.out] at h; exact h) No (some ⟨CL, 0, none⟩) 1 1 [.int .i64 (S.w : Int), .slice a6 (nw S.w) c6] rfl (Row.block hLc.out rfl no_no (by omega)) (by simp [Value.oneCell']) (by omega) (by omega) hm.out.c8 ?_); (intro v9 w9 hown1 hg1 hv1); (have hE9 : Ext (fun bq => Value.ownBlock (.slice a2 k c2) = some bq) v3 w9 := (Ext.refl _ _).grown hg1 (fun bq hk _ => hk)); (have hm9 := Lib.hid (hm.out.appC (p := (setN S.w (orN m (rowD S.bnd k)), .slice a6 (nw S.w) c6)) hs9.out.words (by rw [hlC.out]; exact hown1) hg1 hv1)); (obtain ⟨xC, yC, hs99⟩ := hm9.out.two.c.slice); (rw [List.length_append, hlC.out] at hs99); (subst hs99); (clear hown1 hg1 hv1))
              refine hK.out _ _ ?_ (fun hNew => ?_)
              · intro _; exact ⟨hm9.out.boxB, hm9.out.boxC, hE9.blk hE.out (fun e => hCE.out e), hE9.blk hG9.out (fun e => hCG.out e)⟩
              clear hK K hHeld
              have hHeld := hNew
              clear hNew
              clear hm
              have hm := hm9
              clear hm9
              replace hE := trivial
              replace hG9 := trivial
              clear hLc hs9 hE hG9
              clear hE9
              generalize w9 = v4 at *
              try simp only [Act.put, List.setIfInBounds_toArray, List.set_cons_zero, List.set_cons_succ]
              refine heldL_next1 (i := 11) (by kernel_rfl) (NextL.mk rfl rfl (fun K hK => ?_))
              ((have cX := cellOf hm.out.boxB); (have fX := freeOf hm.out.boxB); go_simp; (clear cX fX))
              refine hK.out _ _ ?_ (fun hNew => ?_)
              · exact fun h => absurd h (by decide)
              clear hK K hHeld
              have hHeld := hNew
              clear hNew
              have hm9 := Lib.hid (show JM w (v4.setCell ⟨B, 3, none⟩ (.slice xB (k + 1) yB)) tb A B C X S (.slice ad S.deps.length cd) (.slice at1 S.deps.length ct) _ (.slice xB (k + 1) yB) (.slice xC (k + 1) yC) #[.int .i64 (S.w : Int), .slice ad S.deps.length cd, .slice at1 S.deps.length ct, (.slice xB (k + 1) yB)] #[.int .i64 (S.w : Int), .slice ad S.deps.length cd, .slice at1 S.deps.length ct, (.slice a2 k c2)] _ _ from hm.out.putB 3 (.slice xB (k + 1) yB))
              clear hm
              have hm := hm9
              clear hm9
              generalize (v4.setCell ⟨B, 3, none⟩ (.slice xB (k + 1) yB)) = v5 at *
              try simp only [Act.put, List.setIfInBounds_toArray, List.set_cons_zero, List.set_cons_succ]
              refine heldL_free (i := 12) (v := ?_) rfl (by kernel_rfl) (by kernel_rfl) (by kernel_rfl) (by kernel_rfl) (by kernel_rfl) (fun _ _ _ h => h) rfl (fun w => ?_) hHeld ?_
              rotate_left
              · go_simp; (try with_reducible rfl)
              try simp only [Act.put, List.setIfInBounds_toArray, List.set_cons_zero, List.set_cons_succ]
              refine heldL_next1 (i := 13) (by kernel_rfl) (NextL.mk rfl rfl (fun K hK => ?_))
              ((have cX := cellOf hm.out.boxC); (have fX := freeOf hm.out.boxC); go_simp; (clear cX fX))
              refine hK.out _ _ ?_ (fun hNew => ?_)
              · exact fun h => absurd h (by decide)
              clear hK K hHeld
              have hHeld := hNew
              clear hNew
              have hm9 := Lib.hid (show JM w (v5.setCell ⟨C, 3, none⟩ (.slice xC (k + 1) yC)) tb A B C X S (.slice ad S.deps.length cd) (.slice at1 S.deps.length ct) _ (.slice xB (k + 1) yB) (.slice xC (k + 1) yC) #[.int .i64 (S.w : Int), .slice ad S.deps.length cd, .slice at1 S.deps.length ct, (.slice xB (k + 1) yB)] #[.int .i64 (S.w : Int), .slice ad S.deps.length cd, .slice at1 S.deps.length ct, (.slice xC (k + 1) yC)] _ _ from hm.out.putC 3 (.slice xC (k + 1) yC))
              clear hm
              have hm := hm9
              clear hm9
              generalize (v5.setCell ⟨C, 3, none⟩ (.slice xC (k + 1) yC)) = v6 at *
              try simp only [Act.put, List.setIfInBounds_toArray, List.set_cons_zero, List.set_cons_succ]
              refine heldL_done (by kernel_rfl) ?_ _
              go_wp2_with fail
              go_roundw
              case rel => exact ⟨k + 1, _, _, _, _, xs ++ [m], HKK.out, by omega, hm, Lib.hid (by rw [List.map_append, List.map_append, hLB.out]; rfl), Lib.hid (by
                rw [List.map_append, hLC.out, orV_snoc, List.map_append]
                have h1 : orV (xs ++ [m]) S.bnd k = orV xs S.bnd k := by
                  refine List.map_congr_left (fun i hi => ?_)
                  have hi2 := List.mem_range.1 hi
                  have := hxl.out
                  simp [rowD, List.getElem?_append_left (show i < xs.length by omega)]
                have h2 : rowD (xs ++ [m]) k = m := by
                  have := hxl.out
                  simp [rowD, ← this]
                rw [h1, h2]
                rfl), Lib.hid (by rw [List.length_append, hxl.out]; rfl), Lib.hid (fun q hq => by
                rcases List.mem_append.1 hq with hq | hq
                · exact hxm.out q hq
                · rw [List.mem_singleton.1 hq]; exact hmm)⟩
              case measure => simp [intOf]; omega
          · go_simp
            refine hK.out _ _ ?_ (fun hNew => ?_)
            · intro _; exact ⟨alloc_under hm.out.boxB, alloc_under hm.out.boxC, alloc_under hE.out, alloc_under hG9.out⟩
            clear hK K hHeld
            have hHeld := hNew
            clear hNew
            have hx := (Ext.refl No v0).alloc (.cells #[.int .i64 (S.w : Int), .slice a6 (nw S.w) c6] 33)
            have hLc := Lib.hid (alloc_top (w := v0) (o := (.cells #[.int .i64 (S.w : Int), .slice a6 (nw S.w) c6] 33)) rfl)
            have hBn : Hid (Value.ownBlock (.slice a1 k c1) ≠ some v0.heap.size) := Lib.hid (fun e => Nat.lt_irrefl _ (hm.out.two.b.lt _ e).2)
            replace hm := Lib.hid (hm.out.stepNo hx)
            replace hE := Lib.hid (hx.blk hE.out no_no)
            replace hG9 := Lib.hid (hx.blk hG9.out no_no)
            replace hs9 := Lib.hid (hs9.out.extNo hx)
            replace hsB := Lib.hid (hsB.out.extNo hx)
            clear hx
            generalize (v0.alloc (.cells #[.int .i64 (S.w : Int), .slice a6 (nw S.w) c6] 33)) = v1 at *
            generalize v0.heap.size = CL at *
            try simp only [Act.put, List.setIfInBounds_toArray, List.set_cons_zero, List.set_cons_succ]
            refine heldL_next1 (i := 3) (by kernel_rfl) (NextL.mk rfl rfl (fun K hK => ?_))
            go_simp
            refine hK.out _ _ ?_ (fun hNew => ?_)
            · intro _; exact ⟨alloc_under hm.out.boxB, alloc_under hm.out.boxC, alloc_under hE.out, alloc_under hG9.out⟩
            clear hK K hHeld
            have hHeld := hNew
            clear hNew
            have hx := (Ext.refl No v1).alloc (.cells #[.int .i64 (S.w : Int), .slice (some ⟨g, 0, none⟩) (nw S.w) (nw S.w)] 33)
            have hLb := Lib.hid (alloc_top (w := v1) (o := (.cells #[.int .i64 (S.w : Int), .slice (some ⟨g, 0, none⟩) (nw S.w) (nw S.w)] 33)) rfl)
            replace hm := Lib.hid (hm.out.stepNo hx)
            replace hE := Lib.hid (hx.blk hE.out no_no)
            replace hG9 := Lib.hid (hx.blk hG9.out no_no)
            replace hs9 := Lib.hid (hs9.out.extNo hx)
            replace hsB := Lib.hid (hsB.out.extNo hx)
            replace hLc := Lib.hid (hx.blk hLc.out no_no)
            clear hx
            generalize (v1.alloc (.cells #[.int .i64 (S.w : Int), .slice (some ⟨g, 0, none⟩) (nw S.w) (nw S.w)] 33)) = v2 at *
            generalize v1.heap.size = BL at *
            try simp only [Act.put, List.setIfInBounds_toArray, List.set_cons_zero, List.set_cons_succ]
            refine heldL_next1 (i := 4) (by kernel_rfl) (NextL.mk rfl rfl (fun K hK => ?_))
            ((refine wp_app _ (.tmp 53) (.tmp 55) 27 rfl (X + 1) 33 iS _ 2 32 Try.underlying27 hiS hS0 hS1 hS2 rfl (by omega) (.slice a1 k c1) k (LB.flatMap kS.cells) rfl (by have h := hm.out.two.b.own; rw [hlB.out] at h; exact h) No (some ⟨BL, 0, none⟩) 1 1 [.int .i64 (S.w : Int), .slice (some ⟨g, 0, none⟩) (nw S.w) (nw S.w)] rfl (Row.block hLb.out rfl no_no (by omega)) (by simp [Value.oneCell']) (by omega) (by omega) hm.out.c8 ?_); (intro v9 w9 hown1 hg1 hv1); (have hE9 : Ext (fun bq => Value.ownBlock (.slice a1 k c1) = some bq) v2 w9 := (Ext.refl _ _).grown hg1 (fun bq hk _ => hk)); (have hm9 := Lib.hid (hm.out.appB (p := (setN S.w m, .slice (some ⟨g, 0, none⟩) (nw S.w) (nw S.w))) hsB.out.words (by rw [hlB.out]; exact hown1) hg1 hv1)); (have hs9b := Lib.hid (TwL.carryS hs9.out hg1 hv1)); (have hLc9 := Lib.hid (hE9.blk hLc.out (fun e => hBn.out e))); (obtain ⟨xB, yB, hs99⟩ := hm9.out.two.b.slice); (rw [List.length_append, hlB.out] at hs99); (subst hs99); (clear hown1 hg1 hv1))
            refine hK.out _ _ ?_ (fun hNew => ?_)
            · intro _; exact ⟨hm9.out.boxB, hm9.out.boxC, hE9.blk hE.out (fun e => hBE.out e), hE9.blk hG9.out (fun e => hBG.out e)⟩
            clear hK K hHeld
            have hHeld := hNew
            clear hNew
            clear hm
            have hm := hm9
            clear hm9
            replace hE := Lib.hid (hE9.blk hE.out (fun e => hBE.out e))
            replace hG9 := Lib.hid (hE9.blk hG9.out (fun e => hBG.out e))
            clear hs9 hsB hLb
            have hs9 := hs9b
            clear hs9b
            clear hLc
            have hLc := hLc9
            clear hLc9
            clear hE9
            generalize w9 = v3 at *
            try simp only [Act.put, List.setIfInBounds_toArray, List.set_cons_zero, List.set_cons_succ]
            refine heldL_free (i := 10) (v := ?_) rfl (by kernel_rfl) (by kernel_rfl) (by kernel_rfl) (by kernel_rfl) (by kernel_rfl) (fun _ _ _ h => h) rfl (fun w => ?_) hHeld ?_
            rotate_left
            · go_simp; (try with_reducible rfl)
            try simp only [Act.put, List.setIfInBounds_toArray, List.set_cons_zero, List.set_cons_succ]
            refine heldL_next1 (i := 9) (by kernel_rfl) (NextL.mk rfl rfl (fun K hK => ?_))
            ((refine wp_app _ (.tmp 58) (.tmp 60) 27 rfl (X + 1) 33 iS _ 2 32 Try.underlying27 hiS hS0 hS1 hS2 rfl (by omega) (.slice a2 k c2) k (LC.flatMap kS.cells) rfl (by have h := hm.out.two.c.own; rw [hlC.out] at h; exact h) No (some ⟨CL, 0, none⟩) 1 1 [.int .i64 (S.w : Int), .slice a6 (nw S.w) c6] rfl (Row.block hLc.out rfl no_no (by omega)) (by simp [Value.oneCell']) (by omega) (by omega) hm.out.c8 ?_); (intro v9 w9 hown1 hg1 hv1); (have hE9 : Ext (fun bq => Value.ownBlock (.slice a2 k c2) = some bq) v3 w9 := (Ext.refl _ _).grown hg1 (fun bq hk _ => hk)); (have hm9 := Lib.hid (hm.out.appC (p := (setN S.w (orN m (rowD S.bnd k)), .slice a6 (nw S.w) c6)) hs9.out.words (by rw [hlC.out]; exact hown1) hg1 hv1)); (obtain ⟨xC, yC, hs99⟩ := hm9.out.two.c.slice); (rw [List.length_append, hlC.out] at hs99); (subst hs99); (clear hown1 hg1 hv1))
            refine hK.out _ _ ?_ (fun hNew => ?_)
            · intro _; exact ⟨hm9.out.boxB, hm9.out.boxC, hE9.blk hE.out (fun e => hCE.out e), hE9.blk hG9.out (fun e => hCG.out e)⟩
            clear hK K hHeld
            have hHeld := hNew
            clear hNew
            clear hm
            have hm := hm9
            clear hm9
            replace hE := trivial
            replace hG9 := trivial
            clear hLc hs9 hE hG9
            clear hE9
            generalize w9 = v4 at *
            try simp only [Act.put, List.setIfInBounds_toArray, List.set_cons_zero, List.set_cons_succ]
            refine heldL_next1 (i := 11) (by kernel_rfl) (NextL.mk rfl rfl (fun K hK => ?_))
            ((have cX := cellOf hm.out.boxB); (have fX := freeOf hm.out.boxB); go_simp; (clear cX fX))
            refine hK.out _ _ ?_ (fun hNew => ?_)
            · exact fun h => absurd h (by decide)
            clear hK K hHeld
            have hHeld := hNew
            clear hNew
            have hm9 := Lib.hid (show JM w (v4.setCell ⟨B, 3, none⟩ (.slice xB (k + 1) yB)) tb A B C X S (.slice ad S.deps.length cd) (.slice at1 S.deps.length ct) _ (.slice xB (k + 1) yB) (.slice xC (k + 1) yC) #[.int .i64 (S.w : Int), .slice ad S.deps.length cd, .slice at1 S.deps.length ct, (.slice xB (k + 1) yB)] #[.int .i64 (S.w : Int), .slice ad S.deps.length cd, .slice at1 S.deps.length ct, (.slice a2 k c2)] _ _ from hm.out.putB 3 (.slice xB (k + 1) yB))
            clear hm
            have hm := hm9
            clear hm9
            generalize (v4.setCell ⟨B, 3, none⟩ (.slice xB (k + 1) yB)) = v5 at *
            try simp only [Act.put, List.setIfInBounds_toArray, List.set_cons_zero, List.set_cons_succ]
            refine heldL_free (i := 12) (v := ?_) rfl (by kernel_rfl) (by kernel_rfl) (by kernel_rfl) (by kernel_rfl) (by kernel_rfl) (fun _ _ _ h => h) rfl (fun w => ?_) hHeld ?_
            rotate_left
            · go_simp; (try with_reducible rfl)
            try simp only [Act.put, List.setIfInBounds_toArray, List.set_cons_zero, List.set_cons_succ]
            refine heldL_next1 (i := 13) (by kernel_rfl) (NextL.mk rfl rfl (fun K hK => ?_))
            ((have cX := cellOf hm.out.boxC); (have fX := freeOf hm.out.boxC); go_simp; (clear cX fX))
            refine hK.out _ _ ?_ (fun hNew => ?_)
            · exact fun h => absurd h (by decide)
            clear hK K hHeld
            have hHeld := hNew
            clear hNew
            have hm9 := Lib.hid (show JM w (v5.setCell ⟨C, 3, none⟩ (.slice xC (k + 1) yC)) tb A B C X S (.slice ad S.deps.length cd) (.slice at1 S.deps.length ct) _ (.slice xB (k + 1) yB) (.slice xC (k + 1) yC) #[.int .i64 (S.w : Int), .slice ad S.deps.length cd, .slice at1 S.deps.length ct, (.slice xB (k + 1) yB)] #[.int .i64 (S.w : Int), .slice ad S.deps.length cd, .slice at1 S.deps.length ct, (.slice xC (k + 1) yC)] _ _ from hm.out.putC 3 (.slice xC (k + 1) yC))
            clear hm
            have hm := hm9
            clear hm9
            generalize (v5.setCell ⟨C, 3, none⟩ (.slice xC (k + 1) yC)) = v6 at *
            try simp only [Act.put, List.setIfInBounds_toArray, List.set_cons_zero, List.set_cons_succ]
            refine heldL_done (by kernel_rfl) ?_ _
            go_wp2_with fail
            go_roundw
            case rel => exact ⟨k + 1, _, _, _, _, xs ++ [m], HKK.out, by omega, hm, Lib.hid (by rw [List.map_append, List.map_append, hLB.out]; rfl), Lib.hid (by
              rw [List.map_append, hLC.out, orV_snoc, List.map_append]
              have h1 : orV (xs ++ [m]) S.bnd k = orV xs S.bnd k := by
                refine List.map_congr_left (fun i hi => ?_)
                have hi2 := List.mem_range.1 hi
                have := hxl.out
                simp [rowD, List.getElem?_append_left (show i < xs.length by omega)]
              have h2 : rowD (xs ++ [m]) k = m := by
                have := hxl.out
                simp [rowD, ← this]
              rw [h1, h2]
              rfl), Lib.hid (by rw [List.length_append, hxl.out]; rfl), Lib.hid (fun q hq => by
              rcases List.mem_append.1 hq with hq | hq
              · exact hxm.out q hq
              · rw [List.mem_singleton.1 hq]; exact hmm)⟩
            case measure => simp [intOf]; omega
      · have hge : ¬ (k : Int) < (S.deps.length : Int) := by omega
        have hkn : k = S.deps.length := by omega
        subst hkn
        have cA := cellOf hm.out.boxA
        go_wp2_with fail
        clear cA
        refine (sysSolve_any No S _ _ _ _ no_lt' hm.out.sys.no).mono ?_
        rintro e3 w3 ⟨R1, b1, d1, hR1, rfl, hs1, hx1⟩
        have HR1 := Lib.hid hR1
        have hm1 := Lib.hid (hm.out.stepNo hx1)
        clear hR1 hx1 hm
        have cB := cellOf hm1.out.boxB
        go_wp2_with fail
        clear cB
        refine (solveB_any S xs _ _ _ _ (hm1.out.sys.no.withB (hm1.out.two.b.list (fun b hb e => e.elim) (fun _ e => e.elim)) hLB.out hxl.out hxm.out)).mono ?_
        rintro e4 w4 ⟨R2, b2, d2, hR2, rfl, hs2, hx2⟩
        have HR2 := Lib.hid hR2
        have hm2 := Lib.hid (hm1.out.stepNo hx2)
        have HS1 := Lib.hid (hs1.out.extNo hx2)
        clear hR2 hx2 hm1 hs1
        have cC := cellOf hm2.out.boxC
        have HOM : Hid (∀ q ∈ orV xs S.bnd S.deps.length, q < 2 ^ S.w) := Lib.hid (fun q hq => by
          obtain ⟨i, _, rfl⟩ := List.mem_map.1 hq
          exact orN_lt' ((HOK.out.withB hxl.out hxm.out).bn i) (HOK.out.bn i))
        go_wp2_with fail
        clear cC
        refine (solveB_any S (orV xs S.bnd S.deps.length) _ _ _ _ (hm2.out.sys.no.withB (hm2.out.two.c.list (fun b hb e => e.elim) (fun _ e => e.elim)) hLC.out (orV_len _ _ _) HOM.out)).mono ?_
        rintro e5 w5 ⟨R3, b3, d3, hR3, rfl, hs3, hx3⟩
        have HLW := Lib.hid (joins_law HOK.out hxl.out hxm.out HR1.out HR2.out hR3)
        have HS1' := Lib.hid (HS1.out.extNo hx3)
        have HS2' := Lib.hid (hs2.out.extNo hx3)
        have HS3' := Lib.hid hs3.out
        have HX5 := Lib.hid (hm2.out.ext.transNo hx3)
        have hg1 := (good_iter HOK.out R1).len
        have hg2 : (iterD (withB S xs) R2).length = S.deps.length := (good_iter (HOK.out.withB hxl.out hxm.out) R2).len
        have hg3 : (iterD (withB S (orV xs S.bnd S.deps.length)) R3).length = S.deps.length := (good_iter (HOK.out.withB (orV_len _ _ _) HOM.out) R3).len
        generalize iterD S R1 = u at *
        generalize iterD (withB S xs) R2 = v at *
        generalize iterD (withB S (orV xs S.bnd S.deps.length)) R3 = x at *
        have HG1 := Lib.hid hg1
        have HG2 := Lib.hid hg2
        have HG3 := Lib.hid hg3
        clear hg1 hg2 hg3 hR3 hx3 hm2 hs2 hs3 HS1 HOM HR1 HR2 hLB hLC hxl hxm hlB hlC hge hk hlt
        go_wp2_with fail
        go_loopw [20, 21, 22] (fun s20 _ _ wr => ∃ k : Nat, s20 = .int .i64 k ∧ k ≤ S.deps.length ∧ Hid (Ext No w5 wr)) (fun s20 _ _ _ => S.deps.length - (intOf s20).toNat)
        case atStart => exact ⟨0, rfl, Nat.zero_le _, Lib.hid (Ext.refl _ _)⟩
        case round =>
          obtain ⟨k, rfl, hk, hx⟩ := hrel
          rename World => wr
          by_cases hlt : k < S.deps.length
          · have hlz : (k : Int) < (S.deps.length : Int) := by omega
            obtain ⟨o1, o2, o3, o4, o5, hve, hcl1, hq1⟩ := (HS1'.out.extNo hx.out).cells (i := k) (by rw [HG1.out]; exact hlt)
            rw [HG1.out] at hve
            simp only [Value.slice.injEq] at hve
            obtain ⟨rfl, -, rfl⟩ := hve
            obtain ⟨p1, p2, p3, p4, p5, hve, hcl2, hq2⟩ := (HS2'.out.extNo hx.out).cells (i := k) (by rw [HG2.out]; exact hlt)
            rw [HG2.out] at hve
            simp only [Value.slice.injEq] at hve
            obtain ⟨rfl, -, rfl⟩ := hve
            obtain ⟨q1, q2, q3, q4, q5, hve, hcl3, hq3⟩ := (HS3'.out.extNo hx.out).cells (i := k) (by rw [HG3.out]; exact hlt)
            rw [HG3.out] at hve
            simp only [Value.slice.injEq] at hve
            obtain ⟨rfl, -, rfl⟩ := hve
            have HQ1 := Lib.hid hcl1
            have HQ2 := Lib.hid hcl2
            have HQ3 := Lib.hid hcl3
            clear hcl1 hcl2 hcl3
            go_upto_region 19 with (fail)
            go_cut [21, 22] (fun s21 s22 wx => ∃ (G : Nat) (a6 : Option Addr) (c6 : Nat), s21 = .pointer (some ⟨G, 0, none⟩) ∧ Hid (Ext No wr wx) ∧ Hid (wx.heap[G]? = some (.cells #[.int .i64 (S.w : Int), .slice a6 (nw S.w) c6] 33 (0, 0))) ∧ Hid (SetAt No wx (.slice a6 (nw S.w) c6) S.w (orN (rowD u k) (rowD v k))))
            case first =>
              refine wp_region_held_drew (S := (fun w' => Ext No wr w')) (by kernel_rfl) ?_ (fun hHeld => ?_)
              · exact (Ext.refl _ _).drew
              generalize wr.drew = v0 at *
              refine held_take (i := 0) (v := ?_) rfl (by kernel_rfl) (by kernel_rfl) (by kernel_rfl) (fun _ _ _ h => h) rfl (fun w hSw => ?_) hHeld ?_
              rotate_left
              · go_simp; (try with_reducible rfl)
              try simp only [Act.put, List.setIfInBounds_toArray, List.set_cons_zero, List.set_cons_succ]
              refine held_take (i := 1) (v := ?_) rfl (by kernel_rfl) (by kernel_rfl) (by kernel_rfl) (fun _ _ _ h => h) rfl (fun w hSw => ?_) hHeld ?_
              rotate_left
              · go_simp; (try with_reducible rfl)
              try simp only [Act.put, List.setIfInBounds_toArray, List.set_cons_zero, List.set_cons_succ]
              refine held_take (i := 2) (v := ?_) rfl (by kernel_rfl) (by kernel_rfl) (by kernel_rfl) (fun _ _ _ h => h) rfl (fun w hSw => ?_) hHeld ?_
              rotate_left
              · go_simp; (try with_reducible rfl)
              try simp only [Act.put, List.setIfInBounds_toArray, List.set_cons_zero, List.set_cons_succ]
              refine held_take (i := 3) (v := ?_) rfl (by kernel_rfl) (by kernel_rfl) (by kernel_rfl) (fun _ _ _ h => h) rfl (fun w hSw => ?_) hHeld ?_
              rotate_left
              · (have hEs : Ext No wr _ := hSw); (obtain ⟨p0, p1⟩ := HQ1.out); (have x0 := hEs.keep p0); (have x1 := hEs.keep p1); go_simp; (try with_reducible rfl)
              try simp only [Act.put, List.setIfInBounds_toArray, List.set_cons_zero, List.set_cons_succ]
              refine held_take (i := 4) (v := ?_) rfl (by kernel_rfl) (by kernel_rfl) (by kernel_rfl) (fun _ _ _ h => h) rfl (fun w hSw => ?_) hHeld ?_
              rotate_left
              · go_simp; (try with_reducible rfl)
              try simp only [Act.put, List.setIfInBounds_toArray, List.set_cons_zero, List.set_cons_succ]
              refine held_take (i := 5) (v := ?_) rfl (by kernel_rfl) (by kernel_rfl) (by kernel_rfl) (fun _ _ _ h => h) rfl (fun w hSw => ?_) hHeld ?_
              rotate_left
              · go_simp; (try with_reducible rfl)
              try simp only [Act.put, List.setIfInBounds_toArray, List.set_cons_zero, List.set_cons_succ]
              refine held_take (i := 6) (v := ?_) rfl (by kernel_rfl) (by kernel_rfl) (by kernel_rfl) (fun _ _ _ h => h) rfl (fun w hSw => ?_) hHeld ?_
              rotate_left
              · go_simp; (try with_reducible rfl)
              try simp only [Act.put, List.setIfInBounds_toArray, List.set_cons_zero, List.set_cons_succ]
              refine held_take (i := 7) (v := ?_) rfl (by kernel_rfl) (by kernel_rfl) (by kernel_rfl) (fun _ _ _ h => h) rfl (fun w hSw => ?_) hHeld ?_
              rotate_left
              · (have hEs : Ext No wr _ := hSw); (obtain ⟨p0, p1⟩ := HQ2.out); (have x0 := hEs.keep p0); (have x1 := hEs.keep p1); go_simp; (try with_reducible rfl)
              try simp only [Act.put, List.setIfInBounds_toArray, List.set_cons_zero, List.set_cons_succ]
              refine held_next2 (i := 8) (j := 12) (by kernel_rfl) (NextOp.mk rfl rfl (fun K hK => ?_)) (NextOp.mk rfl rfl (fun K hK => ?_))
              · ((have hEx : Ext No wr _ := hHeld); go_simp; (go_at_call 14); (refine (union_any (Lo v0.heap.size) S.w (rowD u k) (rowD v k) _ _ _ (fun _ e => e) (hq1.out.extNo hEx) (hq2.out.extNo hEx)).mono ?_); (rintro e9 v1 ⟨aq, cq, rfl, hsq, hyA⟩); go_simp)
                refine hK.out _ _ ?_ (fun hNew => ?_)
                · exact Ext.transNo (show Ext No wr _ from hHeld) hyA
                clear hK K hHeld
                have hHeld := hNew
                clear hNew
                have hS := Lib.hid hsq.out.no
                clear hEx hsq hyA
                try simp only [Act.put, List.setIfInBounds_toArray, List.set_cons_zero, List.set_cons_succ]
                refine held_take (i := 9) (v := ?_) rfl (by kernel_rfl) (by kernel_rfl) (by kernel_rfl) (fun _ _ _ h => h) rfl (fun w hSw => ?_) hHeld ?_
                rotate_left
                · go_simp; (try with_reducible rfl)
                try simp only [Act.put, List.setIfInBounds_toArray, List.set_cons_zero, List.set_cons_succ]
                refine held_take (i := 10) (v := ?_) rfl (by kernel_rfl) (by kernel_rfl) (by kernel_rfl) (fun _ _ _ h => h) rfl (fun w hSw => ?_) hHeld ?_
                rotate_left
                · go_simp; (try with_reducible rfl)
                try simp only [Act.put, List.setIfInBounds_toArray, List.set_cons_zero, List.set_cons_succ]
                refine held_take (i := 11) (v := ?_) rfl (by kernel_rfl) (by kernel_rfl) (by kernel_rfl) (fun _ _ _ h => h) rfl (fun w hSw => ?_) hHeld ?_
                rotate_left
                · go_simp; (try with_reducible rfl)
                try simp only [Act.put, List.setIfInBounds_toArray, List.set_cons_zero, List.set_cons_succ]
                refine held_call (i := 12) rfl (by kernel_rfl) rfl (fun K hK => ?_)
                ((have hGV : wr.heap.size ≤ v1.heap.size := (show Ext No wr _ from hHeld).size); go_simp)
                refine hK.out _ _ ?_ (fun hNew => ?_)
                · exact Ext.alloc (show Ext No wr _ from hHeld) _
                clear hK K hHeld
                have hHeld := hNew
                clear hNew
                have hG := Lib.hid (alloc_top (w := v1) (o := (.cells #[.int .i64 0, .slice none 0 0] 33)) rfl)
                replace hS := Lib.hid ((hS.out.mono (M' := fun b => b = v1.heap.size) (fun i hi e => by omega)).extNo ((Ext.refl No v1).alloc (.cells #[.int .i64 0, .slice none 0 0] 33)))
                generalize (v1.alloc (.cells #[.int .i64 0, .slice none 0 0] 33)) = v2 at *
                generalize v1.heap.size = G at *
                try simp only [Act.put, List.setIfInBounds_toArray, List.set_cons_zero, List.set_cons_succ]
                refine held_call (i := 13) rfl (by kernel_rfl) rfl (fun K hK => ?_)
                ((have cS := cellOf hG.out); (have fS := freeOf hG.out); go_simp; (clear cS fS))
                refine hK.out _ _ ?_ (fun hNew => ?_)
                · exact ext2 (show Ext No wr _ from hHeld) hGV
                clear hK K hHeld
                have hHeld := hNew
                clear hNew
                try simp only [Act.put, List.setIfInBounds_toArray, List.set_cons_zero, List.set_cons_succ]
                refine held_take (i := 14) (v := ?_) rfl (by kernel_rfl) (by kernel_rfl) (by kernel_rfl) (fun _ _ _ h => h) rfl (fun w hSw => ?_) hHeld ?_
                rotate_left
                · go_simp; (try with_reducible rfl)
                try simp only [Act.put, List.setIfInBounds_toArray, List.set_cons_zero, List.set_cons_succ]
                refine wpAnyH_done (by kernel_rfl) ?_ _
                have hEx : Ext No wr _ := hHeld
                go_wp2_with fail
                go_meet
                have hE2 : Ext (At G) v2 _ := ext_two (Ext.refl No v2) G (u0 := .int .i64 (S.w : Int)) (u1 := .slice aq (nw S.w) cq)
                exact ⟨G, aq, cq, rfl, Lib.hid hEx, Lib.hid ((set_same (j := 1) (set_same (j := 0) hG.out)).trans rfl), Lib.hid (hS.out.ext hE2 (fun i _ e => e)).no⟩
              · ((have hGV : wr.heap.size ≤ v0.heap.size := (show Ext No wr _ from hHeld).size); go_simp)
                refine hK.out _ _ ?_ (fun hNew => ?_)
                · exact Ext.alloc (show Ext No wr _ from hHeld) _
                clear hK K hHeld
                have hHeld := hNew
                clear hNew
                have hG := Lib.hid (alloc_top (w := v0) (o := (.cells #[.int .i64 0, .slice none 0 0] 33)) rfl)
                generalize (v0.alloc (.cells #[.int .i64 0, .slice none 0 0] 33)) = v1 at *
                generalize v0.heap.size = G at *
                try simp only [Act.put, List.setIfInBounds_toArray, List.set_cons_zero, List.set_cons_succ]
                refine held_call (i := 8) rfl (by kernel_rfl) rfl (fun K hK => ?_)
                ((have hEx : Ext No wr _ := hHeld); go_simp; (go_at_call 14); (refine (union_any (Lo v1.heap.size) S.w (rowD u k) (rowD v k) _ _ _ (fun _ e => e) (hq1.out.extNo hEx) (hq2.out.extNo hEx)).mono ?_); (rintro e9 v2 ⟨aq, cq, rfl, hsq, hyA⟩); go_simp)
                refine hK.out _ _ ?_ (fun hNew => ?_)
                · exact Ext.transNo (show Ext No wr _ from hHeld) hyA
                clear hK K hHeld
                have hHeld := hNew
                clear hNew
                have hS := Lib.hid (hsq.out.mono (M' := fun b => b = G) (fun i hi e => by unfold Lo; have := lt_of_block hG.out; omega))
                replace hG := Lib.hid (hyA.blk hG.out no_no)
                clear hEx hsq hyA
                try simp only [Act.put, List.setIfInBounds_toArray, List.set_cons_zero, List.set_cons_succ]
                refine held_take (i := 9) (v := ?_) rfl (by kernel_rfl) (by kernel_rfl) (by kernel_rfl) (fun _ _ _ h => h) rfl (fun w hSw => ?_) hHeld ?_
                rotate_left
                · go_simp; (try with_reducible rfl)
                try simp only [Act.put, List.setIfInBounds_toArray, List.set_cons_zero, List.set_cons_succ]
                refine held_take (i := 10) (v := ?_) rfl (by kernel_rfl) (by kernel_rfl) (by kernel_rfl) (fun _ _ _ h => h) rfl (fun w hSw => ?_) hHeld ?_
                rotate_left
                · go_simp; (try with_reducible rfl)
                try simp only [Act.put, List.setIfInBounds_toArray, List.set_cons_zero, List.set_cons_succ]
                refine held_take (i := 11) (v := ?_) rfl (by kernel_rfl) (by kernel_rfl) (by kernel_rfl) (fun _ _ _ h => h) rfl (fun w hSw => ?_) hHeld ?_
                rotate_left
                · go_simp; (try with_reducible rfl)
                try simp only [Act.put, List.setIfInBounds_toArray, List.set_cons_zero, List.set_cons_succ]
                refine held_call (i := 13) rfl (by kernel_rfl) rfl (fun K hK => ?_)
                ((have cS := cellOf hG.out); (have fS := freeOf hG.out); go_simp; (clear cS fS))
                refine hK.out _ _ ?_ (fun hNew => ?_)
                · exact ext2 (show Ext No wr _ from hHeld) hGV
                clear hK K hHeld
                have hHeld := hNew
                clear hNew
                try simp only [Act.put, List.setIfInBounds_toArray, List.set_cons_zero, List.set_cons_succ]
                refine held_take (i := 14) (v := ?_) rfl (by kernel_rfl) (by kernel_rfl) (by kernel_rfl) (fun _ _ _ h => h) rfl (fun w hSw => ?_) hHeld ?_
                rotate_left
                · go_simp; (try with_reducible rfl)
                try simp only [Act.put, List.setIfInBounds_toArray, List.set_cons_zero, List.set_cons_succ]
                refine wpAnyH_done (by kernel_rfl) ?_ _
                have hEx : Ext No wr _ := hHeld
                go_wp2_with fail
                go_meet
                have hE2 : Ext (At G) v2 _ := ext_two (Ext.refl No v2) G (u0 := .int .i64 (S.w : Int)) (u1 := .slice aq (nw S.w) cq)
                exact ⟨G, aq, cq, rfl, Lib.hid hEx, Lib.hid ((set_same (j := 1) (set_same (j := 0) hG.out)).trans rfl), Lib.hid (hS.out.ext hE2 (fun i _ e => e)).no⟩
            case rest =>
              obtain ⟨G, a6, c6, rfl, hx6, hG, hs6⟩ := hcut
              rename World => wy
              go_upto_region 20 with (fail)
              refine wp_region_held_drew (S := (fun w' => Ext No wy w')) (by kernel_rfl) ?_ (fun hHeld => ?_)
              · exact (Ext.refl _ _).drew
              refine held_take (i := 0) (v := ?_) rfl (by kernel_rfl) (by kernel_rfl) (by kernel_rfl) (fun _ _ _ h => h) rfl (fun w hSw => ?_) hHeld ?_
              rotate_left
              · (have hEs : Ext No wy _ := hSw); (have x0 := cellOf (hEs.blk hG.out no_no)); go_simp; (try with_reducible rfl)
              try simp only [Act.put, List.setIfInBounds_toArray, List.set_cons_zero, List.set_cons_succ]
              refine held_take (i := 1) (v := ?_) rfl (by kernel_rfl) (by kernel_rfl) (by kernel_rfl) (fun _ _ _ h => h) rfl (fun w hSw => ?_) hHeld ?_
              rotate_left
              · go_simp; (try with_reducible rfl)
              try simp only [Act.put, List.setIfInBounds_toArray, List.set_cons_zero, List.set_cons_succ]
              refine held_take (i := 2) (v := ?_) rfl (by kernel_rfl) (by kernel_rfl) (by kernel_rfl) (fun _ _ _ h => h) rfl (fun w hSw => ?_) hHeld ?_
              rotate_left
              · go_simp; (try with_reducible rfl)
              try simp only [Act.put, List.setIfInBounds_toArray, List.set_cons_zero, List.set_cons_succ]
              refine held_take (i := 3) (v := ?_) rfl (by kernel_rfl) (by kernel_rfl) (by kernel_rfl) (fun _ _ _ h => h) rfl (fun w hSw => ?_) hHeld ?_
              rotate_left
              · go_simp; (try with_reducible rfl)
              try simp only [Act.put, List.setIfInBounds_toArray, List.set_cons_zero, List.set_cons_succ]
              refine held_take (i := 4) (v := ?_) rfl (by kernel_rfl) (by kernel_rfl) (by kernel_rfl) (fun _ _ _ h => h) rfl (fun w hSw => ?_) hHeld ?_
              rotate_left
              · (have hEs : Ext No wy _ := hSw); (obtain ⟨p0, p1⟩ := HQ3.out); (have x0 := (hx6.out.transNo hEs).keep p0); (have x1 := (hx6.out.transNo hEs).keep p1); go_simp; (try with_reducible rfl)
              try simp only [Act.put, List.setIfInBounds_toArray, List.set_cons_zero, List.set_cons_succ]
              refine held_call (i := 5) rfl (by kernel_rfl) rfl (fun K hK => ?_)
              ((have hEx : Ext No wy _ := hHeld); go_simp; (go_at_call 16); (refine (equal_any S.w (orN (rowD u k) (rowD v k)) (rowD x k) _ _ _ (hs6.out.extNo hEx) (hq3.out.extNo (hx6.out.transNo hEx))).mono ?_); (rintro e9 w9 ⟨rfl, hyA⟩); (rw [decide_eq_true (HLW.out k hlt)]); go_simp)
              refine hK.out _ _ ?_ (fun hNew => ?_)
              · exact Ext.transNo (show Ext No wy _ from hHeld) hyA
              clear hK K hHeld
              have hHeld := hNew
              clear hNew
              try simp only [Act.put, List.setIfInBounds_toArray, List.set_cons_zero, List.set_cons_succ]
              refine held_take (i := 6) (v := ?_) rfl (by kernel_rfl) (by kernel_rfl) (by kernel_rfl) (fun _ _ _ h => h) rfl (fun w hSw => ?_) hHeld ?_
              rotate_left
              · go_simp; (try with_reducible rfl)
              try simp only [Act.put, List.setIfInBounds_toArray, List.set_cons_zero, List.set_cons_succ]
              refine wpAnyH_done (by kernel_rfl) ?_ _
              have hEx : Ext No wy _ := hHeld
              go_wp2_with fail
              go_roundw
              case rel => exact ⟨k + 1, by go_num, by omega, Lib.hid ((hx.out.transNo hx6.out).transNo hEx)⟩
              case measure => simp [intOf]; omega
          · have hge : ¬ (k : Int) < (S.deps.length : Int) := by omega
            go_wp2_with fail
            refine (sane11_any _).mono ?_
            rintro e6 w6 ⟨rfl, hx6⟩
            go_wp2_with fail
            go_ret
            exact ⟨rfl, (HX5.out.transNo hx.out).transNo hx6⟩
end Go.Proofs.Ytkdjdhflhlbelaa

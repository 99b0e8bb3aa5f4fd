
import Derived.Test.YtmddchceacmopaaGreatDoorFL
set_option linter.unusedVariables false
set_option linter.unusedSimpArgs false
namespace Go.Proofs.YtmddchceacmopaaGreatDoor
open Go Go.RowKit
structure SysD where
 w : Nat
 deps : List (List Nat)
 trs : List TrD
 bnd : List Nat
def natsZ (l : List Nat) : List Int := l.map fun (n : Nat) => (n : Int)
def rowD (rs : List Nat) (k : Nat) : Nat := (rs[k]?).getD 0
theorem rowD_get {rs : List Nat} {k : Nat} (h : k < rs.length) : rowD rs k = rs[k] := by simp [rowD, h]
structure SysOk (S : SysD) : Prop where
 w : S.w ≤ 256
 n1 : 1 ≤ S.deps.length
 n2 : S.deps.length ≤ 256
 lt : S.trs.length = S.deps.length
 lb : S.bnd.length = S.deps.length
 asc : ∀ l ∈ S.deps, AscL (natsZ l) S.deps.length
 tot : (S.deps.map List.length).sum ≤ 1024
 trs : ∀ t ∈ S.trs, TrOk t ∧ t.w = S.w
 bnd : ∀ m ∈ S.bnd, m < 2 ^ S.w
def trD (S : SysD) (i : Nat) : TrD := (S.trs[i]?).getD ⟨S.w, 0, 0, []⟩
def depD (S : SysD) (i : Nat) : List Nat := (S.deps[i]?).getD []
section
variable {S : SysD}
theorem SysOk.tr (h : SysOk S) {i : Nat} (hi : i < S.deps.length) : TrOk (trD S i) ∧ (trD S i).w = S.w := by
 have hl : i < S.trs.length := by rw [h.lt]; exact hi
 have e : trD S i = S.trs[i] := by simp [trD, hl]
 rw [e]
 exact h.trs _ (List.getElem_mem hl)
theorem SysOk.dep (h : SysOk S) {i m : Nat} (hm : m ∈ depD S i) : m < S.deps.length := by
 unfold depD at hm
 cases e : S.deps[i]? with
 | none => rw [e] at hm; cases hm
 | some l =>
  rw [e] at hm
  obtain ⟨j, hj, rfl⟩ := List.getElem_of_mem hm
  have h1 := h.asc l (List.mem_of_getElem? e)
  have h2 := (h1 j (by simpa [natsZ] using hj)).2.1
  simp [natsZ] at h2
  exact h2
theorem SysOk.bn (h : SysOk S) (i : Nat) : rowD S.bnd i < 2 ^ S.w := by
 unfold rowD
 cases e : S.bnd[i]? with
 | none => exact Nat.two_pow_pos _
 | some m => exact h.bnd m (List.mem_of_getElem? e)
end
def LeB (a b : Nat) : Prop := ∀ i, a.testBit i = true → b.testBit i = true
theorem LeB.refl (a : Nat) : LeB a a := fun _ h => h
theorem LeB.trans {a b c : Nat} (h : LeB a b) (k : LeB b c) : LeB a c := fun i hi => k i (h i hi)
theorem LeB.anti {a b : Nat} (h : LeB a b) (k : LeB b a) : a = b := Nat.eq_of_testBit_eq fun i => by
 rw [Bool.eq_iff_iff]; exact ⟨h i, k i⟩
theorem orN_bit (a b i : Nat) : (orN a b).testBit i = true ↔ a.testBit i = true ∨ b.testBit i = true := by
 unfold orN; rw [Nat.testBit_or, Bool.or_eq_true]
theorem LeB.or {a b c : Nat} (h : LeB a c) (k : LeB b c) : LeB (orN a b) c := fun i hi => by
 rcases (orN_bit a b i).1 hi with hi | hi
 ·exact h i hi
 exact k i hi
theorem LeB.zero (b : Nat) : LeB 0 b := fun i h => by simp at h
theorem appT_bit {t : TrD} (ho : TrOk t) {s b : Nat} (hb : b < t.w) : (applyT t s).testBit b = true ↔ t.gen.testBit b = true ∨ ∃ a : Nat, a < t.w ∧ s.testBit a = true ∧ followsB t a b = true := by
 rw [← hasZ_nat hb, apply_law ho hb, inK_iff, hasZ_nat hb]
 constructor
 ·rintro (h | ⟨a, h1, h2, h3⟩)
  ·exact .inl h
  exact .inr ⟨a, h1, by rw [hasZ_nat h1] at h2; exact h2, h3⟩
 rintro (h | ⟨a, h1, h2, h3⟩)
 ·exact .inl h
 exact .inr ⟨a, h1, by rw [hasZ_nat h1]; exact h2, h3⟩
theorem app_lt {t : TrD} (ho : TrOk t) {s : Nat} (hs : s < 2 ^ t.w) : applyT t s < 2 ^ t.w := applyN_lt ho hs _
theorem lt_of_bit {m w b : Nat} (h : m < 2 ^ w) (hb : m.testBit b = true) : b < w := by
 by_cases e : b < w
 ·exact e
 rw [bit_high h (by omega)] at hb; cases hb
theorem app_mono {t : TrD} (ho : TrOk t) {s r : Nat} (hs : s < 2 ^ t.w) (h : LeB s r) : LeB (applyT t s) (applyT t r) := fun i hi => by
 have hb := lt_of_bit (app_lt ho hs) hi
 rcases (appT_bit ho hb).1 hi with h1 | ⟨a, h1, h2, h3⟩
 ·exact (appT_bit ho hb).2 (.inl h1)
 exact (appT_bit ho hb).2 (.inr ⟨a, h1, h a h2, h3⟩)
def stepR (S : SysD) (vs : List Nat) (out m : Nat) : Nat := orN out (applyT (trD S m) (rowD vs m))
def rightK (S : SysD) (vs : List Nat) (i k : Nat) : Nat := ((depD S i).take k).foldl (stepR S vs) (rowD S.bnd i)
def rightD (S : SysD) (vs : List Nat) (i : Nat) : Nat := (depD S i).foldl (stepR S vs) (rowD S.bnd i)
def nextTo (S : SysD) (vs : List Nat) (k : Nat) : List Nat := (List.range k).map (rightD S vs)
def nextD (S : SysD) (vs : List Nat) : List Nat := nextTo S vs S.deps.length
structure GoodV (S : SysD) (vs : List Nat) : Prop where
 len : vs.length = S.deps.length
 lt : ∀ m ∈ vs, m < 2 ^ S.w
section
variable {S : SysD} {vs us : List Nat}
theorem rightK_succ {i k : Nat} (hk : k < (depD S i).length) : rightK S vs i (k + 1) = orN (rightK S vs i k) (applyT (trD S (depD S i)[k]) (rowD vs (depD S i)[k])) := by
 unfold rightK
 rw [List.take_succ_eq_append_getElem hk, List.foldl_append]
 rfl
theorem rightK_all (S : SysD) (vs : List Nat) (i : Nat) : rightK S vs i (depD S i).length = rightD S vs i := by unfold rightK; rw [List.take_length]; rfl
theorem nextTo_len (S : SysD) (vs : List Nat) (k : Nat) : (nextTo S vs k).length = k := by simp [nextTo]
theorem nextTo_snoc (S : SysD) (vs : List Nat) (k : Nat) : nextTo S vs (k + 1) = nextTo S vs k ++ [rightD S vs k] := by simp [nextTo, List.range_succ]
theorem nextTo_row {k i : Nat} (hi : i < k) : rowD (nextTo S vs k) i = rightD S vs i := by
 rw [rowD_get (by rw [nextTo_len]; exact hi)]
 simp [nextTo]
theorem GoodV.row (h : GoodV S vs) (i : Nat) : rowD vs i < 2 ^ S.w := by
 unfold rowD
 cases e : vs[i]? with
 | none => exact Nat.two_pow_pos _
 | some m => exact h.lt m (List.mem_of_getElem? e)
theorem good_app (hS : SysOk S) (h : GoodV S vs) {m : Nat} (hm : m < S.deps.length) : applyT (trD S m) (rowD vs m) < 2 ^ S.w := by
 obtain ⟨h1, h2⟩ := hS.tr hm
 have := app_lt h1 (s := rowD vs m) (by rw [h2]; exact h.row m)
 rw [h2] at this
 exact this
theorem rightK_lt (hS : SysOk S) (h : GoodV S vs) (i : Nat) : ∀ k, k ≤ (depD S i).length → rightK S vs i k < 2 ^ S.w
 | 0, _ => hS.bn i
 | k + 1, hk => by
  rw [rightK_succ (by omega)]
  exact orN_lt' (rightK_lt hS h i k (by omega)) (good_app hS h (hS.dep (List.getElem_mem _)))
theorem rightD_lt (hS : SysOk S) (h : GoodV S vs) (i : Nat) : rightD S vs i < 2 ^ S.w := by rw [← rightK_all]; exact rightK_lt hS h i _ (Nat.le_refl _)
theorem nextTo_lt (hS : SysOk S) (h : GoodV S vs) (k : Nat) : ∀ m ∈ nextTo S vs k, m < 2 ^ S.w := fun m hm => by
 obtain ⟨i, _, rfl⟩ := List.mem_map.1 hm
 exact rightD_lt hS h i
theorem good_next (hS : SysOk S) (h : GoodV S vs) : GoodV S (nextD S vs) := ⟨nextTo_len _ _ _, nextTo_lt hS h _⟩
theorem foldR_bit {l : List Nat} {a b : Nat} : (l.foldl (stepR S vs) a).testBit b = true ↔ a.testBit b = true ∨ ∃ m ∈ l, (applyT (trD S m) (rowD vs m)).testBit b = true := by
 induction l generalizing a with
 | nil => simp
 | cons m l ih =>
  rw [List.foldl_cons, ih]
  unfold stepR
  rw [orN_bit]
  constructor
  ·rintro ((h | h) | ⟨x, h1, h2⟩)
   ·exact .inl h
   ·exact .inr ⟨m, List.mem_cons_self .., h⟩
   exact .inr ⟨x, List.mem_cons_of_mem _ h1, h2⟩
  rintro (h | ⟨x, h1, h2⟩)
  ·exact .inl (.inl h)
  rcases List.mem_cons.1 h1 with rfl | h1
  ·exact .inl (.inr h2)
  exact .inr ⟨x, h1, h2⟩
theorem right_bit (S : SysD) (vs : List Nat) (i b : Nat) : (rightD S vs i).testBit b = true ↔ (rowD S.bnd i).testBit b = true ∨ ∃ m ∈ depD S i, (applyT (trD S m) (rowD vs m)).testBit b = true := foldR_bit
def LeV (S : SysD) (vs us : List Nat) : Prop := ∀ i, i < S.deps.length → LeB (rowD vs i) (rowD us i)
theorem LeV.refl (S : SysD) (vs : List Nat) : LeV S vs vs := fun _ _ => LeB.refl _
theorem LeV.trans {xs : List Nat} (h : LeV S vs us) (k : LeV S us xs) : LeV S vs xs := fun i hi => (h i hi).trans (k i hi)
theorem ext_row {xs ys : List Nat} (hl : xs.length = ys.length) (h : ∀ i, i < xs.length → rowD xs i = rowD ys i) : xs = ys :=
 List.ext_getElem hl (fun i h1 h2 => by have := h i h1; rwa [rowD_get h1, rowD_get h2] at this)
theorem LeV.anti (hv : GoodV S vs) (hu : GoodV S us) (h : LeV S vs us) (k : LeV S us vs) : vs = us :=
 ext_row (by rw [hv.len, hu.len]) (fun i hi => LeB.anti (h i (by rw [← hv.len]; exact hi)) (k i (by rw [← hv.len]; exact hi)))
theorem right_mono (hS : SysOk S) (hv : GoodV S vs) (h : LeV S vs us) (i : Nat) : LeB (rightD S vs i) (rightD S us i) := fun b hb => by
 rcases (right_bit S vs i b).1 hb with h1 | ⟨m, h1, h2⟩
 ·exact (right_bit S us i b).2 (.inl h1)
 have hm := hS.dep h1
 obtain ⟨h3, h4⟩ := hS.tr hm
 exact (right_bit S us i b).2 (.inr ⟨m, h1, app_mono h3 (by rw [h4]; exact hv.row m) (h m hm) b h2⟩)
theorem next_mono (hS : SysOk S) (hv : GoodV S vs) (h : LeV S vs us) : LeV S (nextD S vs) (nextD S us) := fun i hi => by
 unfold nextD
 rw [nextTo_row hi, nextTo_row hi]
 exact right_mono hS hv h i
end
def zerosD (S : SysD) : List Nat := List.replicate S.deps.length 0
def iterD (S : SysD) : Nat → List Nat
 | 0 => zerosD S
 | k + 1 => nextD S (iterD S k)
def cntY (y : Nat) : Nat → Nat
 | 0 => 0
 | w + 1 => cntY y w + (if y.testBit w then 1 else 0)
theorem cntY_le (y : Nat) : ∀ w, cntY y w ≤ w
 | 0 => Nat.le_refl _
 | w + 1 => by have := cntY_le y w; rw [cntY]; split <;> omega
theorem cntY_mono {y z : Nat} (h : LeB y z) : ∀ w, cntY y w ≤ cntY z w
 | 0 => Nat.le_refl _
 | w + 1 => by
  have := cntY_mono h w
  rw [cntY, cntY]
  have h2 := h w
  split <;> split <;> simp_all <;> omega
theorem cntY_lt {y z b : Nat} (h : LeB y z) (h1 : y.testBit b = false) (h2 : z.testBit b = true) : ∀ w, b < w → cntY y w < cntY z w
 | 0, hb => by omega
 | w + 1, hb => by
  rw [cntY, cntY]
  by_cases e : b = w
  ·subst e
   have := cntY_mono h b
   rw [h1, h2]
   simp; omega
  have := cntY_lt h h1 h2 w (by omega)
  have h3 := h w
  split <;> split <;> simp_all <;> omega
def cntV (vs : List Nat) (w : Nat) : Nat → Nat
 | 0 => 0
 | n + 1 => cntV vs w n + cntY (rowD vs n) w
theorem cntV_le (vs : List Nat) (w : Nat) : ∀ n, cntV vs w n ≤ n * w
 | 0 => Nat.zero_le _
 | n + 1 => by have := cntV_le vs w n; have := cntY_le (rowD vs n) w; rw [cntV, Nat.succ_mul]; omega
theorem cntV_mono {vs us : List Nat} {w : Nat} : ∀ n, (∀ i, i < n → LeB (rowD vs i) (rowD us i)) → cntV vs w n ≤ cntV us w n
 | 0, _ => Nat.le_refl _
 | n + 1, h => by
  have h1 := cntV_mono (w := w) n (fun i hi => h i (by omega))
  have h2 := cntY_mono (h n (by omega)) w
  rw [cntV, cntV]; omega
theorem cntV_lt {vs us : List Nat} {w j b : Nat} (hb : b < w) (h1 : (rowD vs j).testBit b = false) (h2 : (rowD us j).testBit b = true) : ∀ n, j < n → (∀ i, i < n → LeB (rowD vs i) (rowD us i)) → cntV vs w n < cntV us w n
 | 0, hj, _ => by omega
 | n + 1, hj, h => by
  rw [cntV, cntV]
  by_cases e : j = n
  ·subst e
   have h3 := cntV_mono (w := w) j (fun i hi => h i (by omega))
   have h4 := cntY_lt (h j (by omega)) h1 h2 w hb
   omega
  have h3 := cntV_lt hb h1 h2 n (by omega) (fun i hi => h i (by omega))
  have h4 := cntY_mono (h n (by omega)) w
  omega
section
variable {S : SysD} {vs us : List Nat}
theorem good_zeros (S : SysD) : GoodV S (zerosD S) := ⟨by simp [zerosD], fun m hm => by
 rw [List.eq_of_mem_replicate hm]; exact Nat.two_pow_pos _⟩
theorem good_iter (hS : SysOk S) : ∀ k, GoodV S (iterD S k)
 | 0 => good_zeros S
 | k + 1 => good_next hS (good_iter hS k)
theorem zeros_le (S : SysD) (vs : List Nat) : LeV S (zerosD S) vs := fun i hi => by
 rw [show rowD (zerosD S) i = 0 from by simp [rowD, zerosD, hi]]
 exact LeB.zero _
theorem iter_up (hS : SysOk S) : ∀ k, LeV S (iterD S k) (iterD S (k + 1))
 | 0 => zeros_le S _
 | k + 1 => next_mono hS (good_iter hS k) (iter_up hS k)
theorem lt_cnt (hv : GoodV S vs) (hu : GoodV S us) (h : LeV S vs us) (hne : vs ≠ us) : cntV vs S.w S.deps.length < cntV us S.w S.deps.length := by
 have h1 : ∃ j, j < S.deps.length ∧ rowD vs j ≠ rowD us j := Classical.byContradiction fun hn => hne (ext_row (by rw [hv.len, hu.len]) (fun i hi => Classical.byContradiction fun e => hn ⟨i, by rw [← hv.len]; exact hi, e⟩))
 obtain ⟨j, hj, hne2⟩ := h1
 have h2 : ∃ b, ¬ ((rowD us j).testBit b = true → (rowD vs j).testBit b = true) := Classical.byContradiction fun hn => hne2 (LeB.anti (h j hj) (fun b => Classical.byContradiction fun e => hn ⟨b, e⟩))
 obtain ⟨b, hb⟩ := h2
 have hb1 : (rowD us j).testBit b = true := Classical.byContradiction fun e => hb (fun e2 => absurd e2 e)
 have hb2 : (rowD vs j).testBit b = false := by
  cases e : (rowD vs j).testBit b with
  | false => rfl
  | true => exact absurd (fun _ => e) hb
 exact cntV_lt (lt_of_bit (hu.row j) hb1) hb2 hb1 _ hj h
theorem iter_cnt (hS : SysOk S) : ∀ k, (∀ j, j < k → iterD S (j + 1) ≠ iterD S j) → k ≤ cntV (iterD S k) S.w S.deps.length
 | 0, _ => Nat.zero_le _
 | k + 1, h => by
  have h1 := iter_cnt hS k (fun j hj => h j (by omega))
  have h2 := lt_cnt (good_iter hS k) (good_iter hS (k + 1)) (iter_up hS k) (fun e => h k (by omega) e.symm)
  omega
structure FixAt (S : SysD) (R : Nat) : Prop where
 fix : iterD S (R + 1) = iterD S R
 first : ∀ j, j < R → iterD S (j + 1) ≠ iterD S j
theorem first_ex {p : Nat → Prop} : ∀ n, p n → ∃ r, r ≤ n ∧ p r ∧ ∀ j, j < r → ¬ p j
 | 0, h => ⟨0, Nat.le_refl _, h, fun j hj => absurd hj (Nat.not_lt_zero _)⟩
 | n + 1, h => by
  by_cases hx : ∃ j, j ≤ n ∧ p j
  ·obtain ⟨j, hj, hp⟩ := hx
   obtain ⟨r, h1, h2, h3⟩ := first_ex j hp
   exact ⟨r, by omega, h2, h3⟩
  exact ⟨n + 1, Nat.le_refl _, h, fun j hj hp => hx ⟨j, by omega, hp⟩⟩
theorem fix_ex (hS : SysOk S) : ∃ R, FixAt S R ∧ R ≤ S.deps.length * S.w := by
 have h1 : ∃ k, k ≤ S.deps.length * S.w ∧ iterD S (k + 1) = iterD S k := Classical.byContradiction fun hn => by
  have h2 := iter_cnt hS (S.deps.length * S.w + 1) (fun j hj e => hn ⟨j, by omega, e⟩)
  have h3 := cntV_le (iterD S (S.deps.length * S.w + 1)) S.w S.deps.length
  omega
 obtain ⟨k, hk, he⟩ := h1
 obtain ⟨R, hR, h2, h3⟩ := first_ex (p := fun k => iterD S (k + 1) = iterD S k) k he
 exact ⟨R, ⟨h2, h3⟩, by omega⟩
theorem FixAt.le {R k : Nat} (h : FixAt S R) (hk : ∀ j, j < k → iterD S (j + 1) ≠ iterD S j) : k ≤ R := Classical.byContradiction fun e => hk R (by omega) h.fix
theorem FixAt.eq {R k : Nat} (h : FixAt S R) (hk : ∀ j, j < k → iterD S (j + 1) ≠ iterD S j) (hf : iterD S (k + 1) = iterD S k) : k = R := by
 have h1 := h.le hk
 rcases Nat.lt_or_ge k R with h2 | h2
 ·exact absurd hf (h.first k h2)
 omega
end
structure SysAt (M : Nat → Prop) (W : World) (vd vt vb : Value) (S : SysD) : Prop where
 ok : SysOk S
 ex : ∃ (Ld : LD) (Lt : LT) (Lb : LS), YAt M W vd vt vb Ld Lt Lb ∧ Ld.map Prod.fst = S.deps.map natsZ ∧ Lt.map Prod.fst = S.trs.map rawT ∧ Lb.map Prod.fst = S.bnd.map (setN S.w)
section
variable {M M' : Nat → Prop} {W W' : World} {vd vt vb : Value} {S : SysD} {x : Int} {Ld : LD} {Lt : LT} {Lb : LS}
theorem SysAt.ext (h : SysAt M W vd vt vb S) (hx : Ext M' W W') (hm : ∀ i, i < W.heap.size → M' i → M i) : SysAt M W' vd vt vb S := by
 obtain ⟨Ld, Lt, Lb, h1, h2⟩ := h.ex; exact ⟨h.ok, Ld, Lt, Lb, h1.ext hx hm, h2⟩
theorem SysAt.extNo (h : SysAt M W vd vt vb S) (hx : Ext No W W') : SysAt M W' vd vt vb S := h.ext hx (fun _ _ x => x.elim)
theorem SysAt.mono (h : SysAt M W vd vt vb S) (hm : ∀ i, i < W.heap.size → M' i → M i) : SysAt M' W vd vt vb S := by
 obtain ⟨Ld, Lt, Lb, h1, h2⟩ := h.ex; exact ⟨h.ok, Ld, Lt, Lb, h1.mono hm, h2⟩
theorem SysAt.no (h : SysAt M W vd vt vb S) : SysAt No W vd vt vb S := h.mono (fun _ _ x => x.elim)
theorem SysAt.slices (h : SysAt M W vd vt vb S) : ∃ ad cd at1 ct ab cb, vd = .slice ad S.deps.length cd ∧ vt = .slice at1 S.deps.length ct ∧ vb = .slice ab S.deps.length cb := by
 obtain ⟨Ld, Lt, Lb, h1, h2, h3, h4⟩ := h.ex
 obtain ⟨ad, cd, rfl⟩ := h1.d.slice
 obtain ⟨at1, ct, rfl⟩ := h1.t.slice
 obtain ⟨ab, cb, rfl⟩ := h1.b.slice
 have e2 := congrArg List.length h2
 have e3 := congrArg List.length h3
 have e4 := congrArg List.length h4
 simp only [List.length_map] at e2 e3 e4
 exact ⟨ad, cd, at1, ct, ab, cb, by rw [e2], by rw [e3, h.ok.lt], by rw [e4, h.ok.lb]⟩
theorem SysAt.dep (h : SysAt M W vd vt vb S) {i : Nat} (hi : i < S.deps.length) : ∃ b off cap a c, vd = .slice (some ⟨b, off, none⟩) S.deps.length cap ∧ W.cell? ⟨b, off + i, none⟩ = some (.slice a (depD S i).length c) ∧ Hid (Ints M W .i64 (.slice a (depD S i).length c) (natsZ (depD S i))) := by
 obtain ⟨Ld, Lt, Lb, h1, h2, h3, h4⟩ := h.ex
 have e2 := congrArg List.length h2
 simp only [List.length_map] at e2
 have hi2 : i < Ld.length := by omega
 obtain ⟨b, off, cap, g1, _, _, g4⟩ := h1.d.atD hi2
 have g5 : Ints M W .i64 Ld[i].2 Ld[i].1 := h1.d.ok _ (List.getElem_mem hi2)
 have g6 : Ld[i].1 = natsZ (depD S i) := by
  have := congrArg (fun l => l[i]?) h2
  simp only [List.getElem?_map, List.getElem?_eq_getElem hi2, List.getElem?_eq_getElem hi, Option.map_some, Option.some.injEq] at this
  rw [this]
  simp [depD, hi]
 obtain ⟨a, c, g7⟩ := Row.slice g5
 have g8 : Ld[i].1.length = (depD S i).length := by rw [g6]; simp [natsZ]
 rw [g8] at g7
 refine ⟨b, off, cap, a, c, by rw [g1, e2], by rw [g4 i hi2, g7], Lib.hid ?_⟩
 rw [← g6, ← g7]
 exact g5
theorem SysAt.tr (h : SysAt M W vd vt vb S) {i : Nat} (hi : i < S.deps.length) : ∃ b off cap ag cg ak ck ac n cc, vt = .slice (some ⟨b, off, none⟩) S.deps.length cap ∧
  (W.cell? ⟨b, off + i * 5, none⟩ = some (.int .i64 (S.w : Int)) ∧ W.cell? ⟨b, off + i * 5 + 1, none⟩ = some (.slice ag (nw S.w) cg) ∧ W.cell? ⟨b, off + i * 5 + 2, none⟩ = some (.int .i64 (S.w : Int)) ∧ W.cell? ⟨b, off + i * 5 + 3, none⟩ = some (.slice ak (nw S.w) ck) ∧ W.cell? ⟨b, off + i * 5 + 4, none⟩ = some (.slice ac n cc)) ∧
  Hid (TrAt M W (.slice ag (nw S.w) cg) (.slice ak (nw S.w) ck) (.slice ac n cc) (trD S i)) ∧ Hid ((trD S i).w = S.w) := by
 obtain ⟨Ld, Lt, Lb, h1, h2, h3, h4⟩ := h.ex
 have e3 := congrArg List.length h3
 simp only [List.length_map] at e3
 have hi2 : i < Lt.length := by rw [e3, h.ok.lt]; exact hi
 have hi3 : i < S.trs.length := by rw [h.ok.lt]; exact hi
 obtain ⟨b, off, cap, g1, _, _, g4⟩ := h1.t.atT hi2
 have g5 : RawTAt M W Lt[i].2.1 Lt[i].2.2.1 Lt[i].2.2.2 Lt[i].1 := h1.t.ok _ (List.getElem_mem hi2)
 have g6 : Lt[i].1 = rawT (trD S i) := by
  have := congrArg (fun l => l[i]?) h3
  simp only [List.getElem?_map, List.getElem?_eq_getElem hi2, List.getElem?_eq_getElem hi3, Option.map_some, Option.some.injEq] at this
  rw [this]
  simp [trD, hi3]
 obtain ⟨g7, g8⟩ := h.ok.tr hi
 rw [g6] at g5
 have g9 := g5.tr g7
 obtain ⟨ag, cg, k1⟩ := g9.gen.slice
 obtain ⟨ak, ck, k2⟩ := g9.kill.slice
 obtain ⟨ac, cc, k3⟩ := Row.slice g9.copies
 rw [k1, k2, k3] at g9
 rw [g8] at g9 k1 k2
 obtain ⟨c0, c1, c2, c3, c4⟩ := g4 i hi2
 refine ⟨b, off, cap, ag, cg, ak, ck, ac, _, cc, by rw [g1, e3, h.ok.lt], ⟨?_, ?_, ?_, ?_, ?_⟩, Lib.hid g9, Lib.hid g8⟩
 ·rw [c0, g6]; show some (Value.int .i64 ((trD S i).w : Int)) = _; rw [g8]
 ·rw [c1, k1]
 ·rw [c2, g6]; show some (Value.int .i64 ((trD S i).w : Int)) = _; rw [g8]
 ·rw [c3, k2]
 rw [c4, k3]
theorem SysAt.bn (h : SysAt M W vd vt vb S) {i : Nat} (hi : i < S.deps.length) : ∃ b off cap a c, vb = .slice (some ⟨b, off, none⟩) S.deps.length cap ∧
  W.cell? ⟨b, off + i * 2, none⟩ = some (.int .i64 (S.w : Int)) ∧ W.cell? ⟨b, off + i * 2 + 1, none⟩ = some (.slice a (nw S.w) c) ∧ Hid (SetAt M W (.slice a (nw S.w) c) S.w (rowD S.bnd i)) := by
 obtain ⟨Ld, Lt, Lb, h1, h2, h3, h4⟩ := h.ex
 have e4 := congrArg List.length h4
 simp only [List.length_map] at e4
 have hi2 : i < Lb.length := by rw [e4, h.ok.lb]; exact hi
 have hi3 : i < S.bnd.length := by rw [h.ok.lb]; exact hi
 obtain ⟨b, off, cap, g1, _, _, g4⟩ := h1.b.atS hi2
 have g5 : WordsAt M W Lb[i].2 Lb[i].1.words := h1.b.ok _ (List.getElem_mem hi2)
 have g6 : Lb[i].1 = setN S.w (rowD S.bnd i) := by
  have := congrArg (fun l => l[i]?) h4
  simp only [List.getElem?_map, List.getElem?_eq_getElem hi2, List.getElem?_eq_getElem hi3, Option.map_some, Option.some.injEq] at this
  rw [this, rowD_get hi3]
 rw [g6] at g5
 have g7 : SetAt M W Lb[i].2 S.w (rowD S.bnd i) := ⟨g5, h.ok.w, h.ok.bn i⟩
 obtain ⟨a, c, g8⟩ := g7.slice
 obtain ⟨c0, c1⟩ := g4 i hi2
 refine ⟨b, off, cap, a, c, by rw [g1, e4, h.ok.lb], ?_, by rw [c1, g8], Lib.hid (g8 ▸ g7)⟩
 rw [c0, g6]; rfl
theorem nats_of {l : List Int} {n : Nat} (h : AscL l n) : ∃ k : List Nat, l = natsZ k := by
 refine ⟨l.map Int.toNat, ?_⟩
 unfold natsZ
 rw [List.map_map]
 refine (List.ext_getElem (by simp) (fun i h1 h2 => ?_))
 have := (h i h1).1
 simp only [List.getElem_map, Function.comp]
 omega
theorem lift_map {α β γ : Type} {f : γ → β} : ∀ (L : List (β × α)), (∀ p ∈ L, ∃ c, p.1 = f c) → ∃ K : List γ, L.map Prod.fst = K.map f
 | [], _ => ⟨[], rfl⟩
 | p :: L, h => by
  obtain ⟨c, hc⟩ := h p (List.mem_cons_self ..)
  obtain ⟨K, hK⟩ := lift_map L (fun q hq => h q (List.mem_cons_of_mem _ hq))
  exact ⟨c :: K, by simp [hc, hK]⟩
theorem VS.sys (h : VS x Ld Lt Lb) (hy : YAt M W vd vt vb Ld Lt Lb) : ∃ S : SysD, x = (S.w : Int) ∧ SysAt M W vd vt vb S ∧ S.deps.length = Ld.length := by
 obtain ⟨w, rfl⟩ : ∃ w : Nat, x = w := ⟨x.toNat, by have := h.w; omega⟩
 have hw : w ≤ 256 := by have := h.w; omega
 obtain ⟨D, hD⟩ := lift_map (f := natsZ) Ld (fun p hp => nats_of (h.asc p hp))
 obtain ⟨T, hT⟩ := lift_map (f := fun t : {t : TrD // TrOk t ∧ t.w = w} => rawT t.1) Lt (fun p hp => by
  have h1 := h.trs p hp
  have h2 : RawTAt M W p.2.1 p.2.2.1 p.2.2.2 p.1 := hy.t.ok p hp
  obtain ⟨t, ho, he⟩ := validT_ex h1.1 h2.gen.lt h2.kill.lt
  refine ⟨⟨t, ho, ?_⟩, he⟩
  have h3 := h1.2
  rw [he] at h3
  have h4 : ((t.w : Nat) : Int) = (w : Int) := h3
  omega)
 obtain ⟨B, hB⟩ := lift_map (f := fun m : {m : Nat // m < 2 ^ w} => setN w m.1) Lb (fun p hp => by
  have h1 := h.sets p hp
  have h2 : WordsAt M W p.2 p.1.words := hy.b.ok p hp
  obtain ⟨w', m, _, hm, he⟩ := (validB_iff h2.lt).1 h1.1
  have h3 := h1.2
  rw [he] at h3
  have h4 : ((w' : Nat) : Int) = (w : Int) := h3
  obtain rfl : w' = w := by omega
  exact ⟨⟨m, hm⟩, he⟩)
 have eD := congrArg List.length hD
 have eT := congrArg List.length hT
 have eB := congrArg List.length hB
 simp only [List.length_map] at eD eT eB
 refine ⟨⟨w, D, T.map Subtype.val, B.map Subtype.val⟩, rfl, ⟨⟨hw, ?_, ?_, ?_, ?_, fun l hl => ?_, ?_, fun t ht => ?_, fun m hm => ?_⟩, Ld, Lt, Lb, hy, hD, ?_, ?_⟩, by simp only; omega⟩
 ·have := h.n; simp only; omega
 ·have := h.n; simp only; omega
 ·have := h.lt; simp only [List.length_map]; omega
 ·have := h.lb; simp only [List.length_map]; omega
 ·have h1 : natsZ l ∈ Ld.map Prod.fst := by rw [hD]; exact List.mem_map.2 ⟨l, hl, rfl⟩
  obtain ⟨p, hp, he⟩ := List.mem_map.1 h1
  have h2 := h.asc p hp
  rw [he, eD] at h2
  exact h2
 ·have h1 : (Ld.map fun p => p.1.length) = D.map List.length := by
   have := congrArg (fun l => l.map List.length) hD
   simp only [List.map_map] at this
   rw [show (List.map (List.length ∘ natsZ) D) = D.map List.length from by
    refine List.map_congr_left (fun l _ => ?_)
    simp [natsZ]] at this
   exact this
  have h2 := h.tot
  unfold sumL at h2
  rw [h1] at h2
  exact h2
 ·obtain ⟨c, _, rfl⟩ := List.mem_map.1 ht
  exact c.2
 ·obtain ⟨c, _, rfl⟩ := List.mem_map.1 hm
  exact c.2
 ·rw [hT, List.map_map]; rfl
 rw [hB, List.map_map]; rfl
theorem SysAt.vs (h : SysAt M W vd vt vb S) : ∃ (Ld : LD) (Lt : LT) (Lb : LS), YAt M W vd vt vb Ld Lt Lb ∧ VS (S.w : Int) Ld Lt Lb := by
 obtain ⟨Ld, Lt, Lb, h1, h2, h3, h4⟩ := h.ex
 have ho := h.ok
 have e2 := congrArg List.length h2
 have e3 := congrArg List.length h3
 have e4 := congrArg List.length h4
 simp only [List.length_map] at e2 e3 e4
 have := ho.w; have := ho.n1; have := ho.n2; have := ho.lt; have := ho.lb
 refine ⟨Ld, Lt, Lb, h1, ⟨by omega, by omega, by omega, by omega, fun p hp => ?_, ?_, fun p hp => ?_, fun p hp => ?_⟩⟩
 ·have hm : p.1 ∈ S.deps.map natsZ := by rw [← h2]; exact List.mem_map.2 ⟨p, hp, rfl⟩
  obtain ⟨l, hl, he⟩ := List.mem_map.1 hm
  rw [← he, e2]
  exact ho.asc l hl
 ·have h5 := congrArg (fun l => l.map List.length) h2
  simp only [List.map_map] at h5
  rw [show (List.map (List.length ∘ natsZ) S.deps) = S.deps.map List.length from by
   refine List.map_congr_left (fun l _ => ?_)
   simp [natsZ]] at h5
  have h6 := ho.tot
  rw [← h5] at h6
  exact h6
 ·have hm : p.1 ∈ S.bnd.map (setN S.w) := by rw [← h4]; exact List.mem_map.2 ⟨p, hp, rfl⟩
  obtain ⟨m, hm, he⟩ := List.mem_map.1 hm
  rw [← he]
  exact ⟨validB_set ho.w (ho.bnd m hm), rfl⟩
 have hm : p.1 ∈ S.trs.map rawT := by rw [← h3]; exact List.mem_map.2 ⟨p, hp, rfl⟩
 obtain ⟨t, ht, he⟩ := List.mem_map.1 hm
 obtain ⟨k1, k2⟩ := ho.trs t ht
 rw [← he]
 exact ⟨validT_ok k1, by show ((t.w : Nat) : Int) = _; rw [k2]⟩
end

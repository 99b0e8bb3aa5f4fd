
import Derived.Test.YtmddchceacmopaaDoorF1
set_option linter.unusedVariables false
set_option linter.unusedSimpArgs false
namespace Go.Proofs.YtmddchceacmopaaDoor
open Go Go.RowKit
structure SysD where
 w : Nat
 deps : List (List Nat)
 trs : List TrD
 bnd : List Nat
def natsZ (l : List Nat) : List Int := l.map fun (n : Nat) => (n : Int)
def rowD (rs : List Nat) (k : Nat) : Nat := (rs[k]?).getD 0
theorem rowD_get {rs : List Nat} {k : Nat} (h : k < rs.length) : rowD rs k = rs[k] := by simp [rowD, h]
structure SysOk (S : SysD) : Prop where
 w : S.w ≤ 256
 n1 : 1 ≤ S.deps.length
 n2 : S.deps.length ≤ 256
 lt : S.trs.length = S.deps.length
 lb : S.bnd.length = S.deps.length
 asc : ∀ l ∈ S.deps, AscL (natsZ l) S.deps.length
 tot : (S.deps.map List.length).sum ≤ 1024
 trs : ∀ t ∈ S.trs, TrOk t ∧ t.w = S.w
 bnd : ∀ m ∈ S.bnd, m < 2 ^ S.w
def trD (S : SysD) (i : Nat) : TrD := (S.trs[i]?).getD ⟨S.w, 0, 0, []⟩
def depD (S : SysD) (i : Nat) : List Nat := (S.deps[i]?).getD []
section
variable {S : SysD}
theorem SysOk.tr (h : SysOk S) {i : Nat} (hi : i < S.deps.length) : TrOk (trD S i) ∧ (trD S i).w = S.w := by
 have hl : i < S.trs.length := by rw [h.lt]; exact hi
 have e : trD S i = S.trs[i] := by simp [trD, hl]
 rw [e]
 exact h.trs _ (List.getElem_mem hl)
theorem SysOk.dep (h : SysOk S) {i m : Nat} (hm : m ∈ depD S i) : m < S.deps.length := by
 unfold depD at hm
 cases e : S.deps[i]? with
 | none => rw [e] at hm; cases hm
 | some l =>
  rw [e] at hm
  obtain ⟨j, hj, rfl⟩ := List.getElem_of_mem hm
  have h1 := h.asc l (List.mem_of_getElem? e)
  have h2 := (h1 j (by simpa [natsZ] using hj)).2.1
  simp [natsZ] at h2
  exact h2
theorem SysOk.bn (h : SysOk S) (i : Nat) : rowD S.bnd i < 2 ^ S.w := by
 unfold rowD
 cases e : S.bnd[i]? with
 | none => exact Nat.two_pow_pos _
 | some m => exact h.bnd m (List.mem_of_getElem? e)
end
def LeB (a b : Nat) : Prop := ∀ i, a.testBit i = true → b.testBit i = true
theorem LeB.refl (a : Nat) : LeB a a := fun _ h => h
theorem LeB.trans {a b c : Nat} (h : LeB a b) (k : LeB b c) : LeB a c := fun i hi => k i (h i hi)
theorem LeB.anti {a b : Nat} (h : LeB a b) (k : LeB b a) : a = b := Nat.eq_of_testBit_eq fun i => by
 rw [Bool.eq_iff_iff]; exact ⟨h i, k i⟩
theorem orN_bit (a b i : Nat) : (orN a b).testBit i = true ↔ a.testBit i = true ∨ b.testBit i = true := by
 unfold orN; rw [Nat.testBit_or, Bool.or_eq_true]
theorem LeB.orL (a b : Nat) : LeB a (orN a b) := fun i h => (orN_bit a b i).2 (.inl h)
theorem LeB.or {a b c : Nat} (h : LeB a c) (k : LeB b c) : LeB (orN a b) c := fun i hi => by
 rcases (orN_bit a b i).1 hi with hi | hi
 ·exact h i hi
 exact k i hi
theorem LeB.zero (b : Nat) : LeB 0 b := fun i h => by simp at h
theorem appT_bit {t : TrD} (ho : TrOk t) {s b : Nat} (hb : b < t.w) : (applyT t s).testBit b = true ↔ t.gen.testBit b = true ∨ ∃ a : Nat, a < t.w ∧ s.testBit a = true ∧ followsB t a b = true := by
 rw [← hasZ_nat hb, apply_law ho hb, inK_iff, hasZ_nat hb]
 constructor
 ·rintro (h | ⟨a, h1, h2, h3⟩)
  ·exact .inl h
  exact .inr ⟨a, h1, by rw [hasZ_nat h1] at h2; exact h2, h3⟩
 rintro (h | ⟨a, h1, h2, h3⟩)
 ·exact .inl h
 exact .inr ⟨a, h1, by rw [hasZ_nat h1]; exact h2, h3⟩
theorem app_lt {t : TrD} (ho : TrOk t) {s : Nat} (hs : s < 2 ^ t.w) : applyT t s < 2 ^ t.w := applyN_lt ho hs _
theorem lt_of_bit {m w b : Nat} (h : m < 2 ^ w) (hb : m.testBit b = true) : b < w := by
 by_cases e : b < w
 ·exact e
 rw [bit_high h (by omega)] at hb; cases hb
theorem app_mono {t : TrD} (ho : TrOk t) {s r : Nat} (hs : s < 2 ^ t.w) (h : LeB s r) : LeB (applyT t s) (applyT t r) := fun i hi => by
 have hb := lt_of_bit (app_lt ho hs) hi
 rcases (appT_bit ho hb).1 hi with h1 | ⟨a, h1, h2, h3⟩
 ·exact (appT_bit ho hb).2 (.inl h1)
 exact (appT_bit ho hb).2 (.inr ⟨a, h1, h a h2, h3⟩)
def stepR (S : SysD) (vs : List Nat) (out m : Nat) : Nat := orN out (applyT (trD S m) (rowD vs m))
section
variable {S : SysD} {vs us : List Nat}
theorem ext_row {xs ys : List Nat} (hl : xs.length = ys.length) (h : ∀ i, i < xs.length → rowD xs i = rowD ys i) : xs = ys :=
 List.ext_getElem hl (fun i h1 h2 => by have := h i h1; rwa [rowD_get h1, rowD_get h2] at this)
end
def cntY (y : Nat) : Nat → Nat
 | 0 => 0
 | w + 1 => cntY y w + (if y.testBit w then 1 else 0)
theorem cntY_le (y : Nat) : ∀ w, cntY y w ≤ w
 | 0 => Nat.le_refl _
 | w + 1 => by have := cntY_le y w; rw [cntY]; split <;> omega
theorem cntY_mono {y z : Nat} (h : LeB y z) : ∀ w, cntY y w ≤ cntY z w
 | 0 => Nat.le_refl _
 | w + 1 => by
  have := cntY_mono h w
  rw [cntY, cntY]
  have h2 := h w
  split <;> split <;> simp_all <;> omega
theorem cntY_lt {y z b : Nat} (h : LeB y z) (h1 : y.testBit b = false) (h2 : z.testBit b = true) : ∀ w, b < w → cntY y w < cntY z w
 | 0, hb => by omega
 | w + 1, hb => by
  rw [cntY, cntY]
  by_cases e : b = w
  ·subst e
   have := cntY_mono h b
   rw [h1, h2]
   simp; omega
  have := cntY_lt h h1 h2 w (by omega)
  have h3 := h w
  split <;> split <;> simp_all <;> omega
def cntV (vs : List Nat) (w : Nat) : Nat → Nat
 | 0 => 0
 | n + 1 => cntV vs w n + cntY (rowD vs n) w
theorem cntV_le (vs : List Nat) (w : Nat) : ∀ n, cntV vs w n ≤ n * w
 | 0 => Nat.zero_le _
 | n + 1 => by have := cntV_le vs w n; have := cntY_le (rowD vs n) w; rw [cntV, Nat.succ_mul]; omega
theorem cntV_mono {vs us : List Nat} {w : Nat} : ∀ n, (∀ i, i < n → LeB (rowD vs i) (rowD us i)) → cntV vs w n ≤ cntV us w n
 | 0, _ => Nat.le_refl _
 | n + 1, h => by
  have h1 := cntV_mono (w := w) n (fun i hi => h i (by omega))
  have h2 := cntY_mono (h n (by omega)) w
  rw [cntV, cntV]; omega
theorem cntV_lt {vs us : List Nat} {w j b : Nat} (hb : b < w) (h1 : (rowD vs j).testBit b = false) (h2 : (rowD us j).testBit b = true) : ∀ n, j < n → (∀ i, i < n → LeB (rowD vs i) (rowD us i)) → cntV vs w n < cntV us w n
 | 0, hj, _ => by omega
 | n + 1, hj, h => by
  rw [cntV, cntV]
  by_cases e : j = n
  ·subst e
   have h3 := cntV_mono (w := w) j (fun i hi => h i (by omega))
   have h4 := cntY_lt (h j (by omega)) h1 h2 w hb
   omega
  have h3 := cntV_lt hb h1 h2 n (by omega) (fun i hi => h i (by omega))
  have h4 := cntY_mono (h n (by omega)) w
  omega
section
variable {S : SysD} {vs us : List Nat}
theorem first_ex {p : Nat → Prop} : ∀ n, p n → ∃ r, r ≤ n ∧ p r ∧ ∀ j, j < r → ¬ p j
 | 0, h => ⟨0, Nat.le_refl _, h, fun j hj => absurd hj (Nat.not_lt_zero _)⟩
 | n + 1, h => by
  by_cases hx : ∃ j, j ≤ n ∧ p j
  ·obtain ⟨j, hj, hp⟩ := hx
   obtain ⟨r, h1, h2, h3⟩ := first_ex j hp
   exact ⟨r, by omega, h2, h3⟩
  exact ⟨n + 1, Nat.le_refl _, h, fun j hj hp => hx ⟨j, by omega, hp⟩⟩
end
structure SysAt (M : Nat → Prop) (W : World) (vd vt vb : Value) (S : SysD) : Prop where
 ok : SysOk S
 ex : ∃ (Ld : LD) (Lt : LT) (Lb : LS), YAt M W vd vt vb Ld Lt Lb ∧ Ld.map Prod.fst = S.deps.map natsZ ∧ Lt.map Prod.fst = S.trs.map rawT ∧ Lb.map Prod.fst = S.bnd.map (setN S.w)
section
variable {M M' : Nat → Prop} {W W' : World} {vd vt vb : Value} {S : SysD} {x : Int} {Ld : LD} {Lt : LT} {Lb : LS}
theorem SysAt.ext (h : SysAt M W vd vt vb S) (hx : Ext M' W W') (hm : ∀ i, i < W.heap.size → M' i → M i) : SysAt M W' vd vt vb S := by
 obtain ⟨Ld, Lt, Lb, h1, h2⟩ := h.ex; exact ⟨h.ok, Ld, Lt, Lb, h1.ext hx hm, h2⟩
theorem SysAt.extNo (h : SysAt M W vd vt vb S) (hx : Ext No W W') : SysAt M W' vd vt vb S := h.ext hx (fun _ _ x => x.elim)
theorem SysAt.mono (h : SysAt M W vd vt vb S) (hm : ∀ i, i < W.heap.size → M' i → M i) : SysAt M' W vd vt vb S := by
 obtain ⟨Ld, Lt, Lb, h1, h2⟩ := h.ex; exact ⟨h.ok, Ld, Lt, Lb, h1.mono hm, h2⟩
theorem SysAt.no (h : SysAt M W vd vt vb S) : SysAt No W vd vt vb S := h.mono (fun _ _ x => x.elim)
theorem SysAt.slices (h : SysAt M W vd vt vb S) : ∃ ad cd at1 ct ab cb, vd = .slice ad S.deps.length cd ∧ vt = .slice at1 S.deps.length ct ∧ vb = .slice ab S.deps.length cb := by
 obtain ⟨Ld, Lt, Lb, h1, h2, h3, h4⟩ := h.ex
 obtain ⟨ad, cd, rfl⟩ := h1.d.slice
 obtain ⟨at1, ct, rfl⟩ := h1.t.slice
 obtain ⟨ab, cb, rfl⟩ := h1.b.slice
 have e2 := congrArg List.length h2
 have e3 := congrArg List.length h3
 have e4 := congrArg List.length h4
 simp only [List.length_map] at e2 e3 e4
 exact ⟨ad, cd, at1, ct, ab, cb, by rw [e2], by rw [e3, h.ok.lt], by rw [e4, h.ok.lb]⟩
theorem SysAt.dep (h : SysAt M W vd vt vb S) {i : Nat} (hi : i < S.deps.length) : ∃ b off cap a c, vd = .slice (some ⟨b, off, none⟩) S.deps.length cap ∧ W.cell? ⟨b, off + i, none⟩ = some (.slice a (depD S i).length c) ∧ Hid (Ints M W .i64 (.slice a (depD S i).length c) (natsZ (depD S i))) := by
 obtain ⟨Ld, Lt, Lb, h1, h2, h3, h4⟩ := h.ex
 have e2 := congrArg List.length h2
 simp only [List.length_map] at e2
 have hi2 : i < Ld.length := by omega
 obtain ⟨b, off, cap, g1, _, _, g4⟩ := h1.d.atD hi2
 have g5 : Ints M W .i64 Ld[i].2 Ld[i].1 := h1.d.ok _ (List.getElem_mem hi2)
 have g6 : Ld[i].1 = natsZ (depD S i) := by
  have := congrArg (fun l => l[i]?) h2
  simp only [List.getElem?_map, List.getElem?_eq_getElem hi2, List.getElem?_eq_getElem hi, Option.map_some, Option.some.injEq] at this
  rw [this]
  simp [depD, hi]
 obtain ⟨a, c, g7⟩ := Row.slice g5
 have g8 : Ld[i].1.length = (depD S i).length := by rw [g6]; simp [natsZ]
 rw [g8] at g7
 refine ⟨b, off, cap, a, c, by rw [g1, e2], by rw [g4 i hi2, g7], Lib.hid ?_⟩
 rw [← g6, ← g7]
 exact g5
theorem SysAt.tr (h : SysAt M W vd vt vb S) {i : Nat} (hi : i < S.deps.length) : ∃ b off cap ag cg ak ck ac n cc, vt = .slice (some ⟨b, off, none⟩) S.deps.length cap ∧
  (W.cell? ⟨b, off + i * 5, none⟩ = some (.int .i64 (S.w : Int)) ∧ W.cell? ⟨b, off + i * 5 + 1, none⟩ = some (.slice ag (nw S.w) cg) ∧ W.cell? ⟨b, off + i * 5 + 2, none⟩ = some (.int .i64 (S.w : Int)) ∧ W.cell? ⟨b, off + i * 5 + 3, none⟩ = some (.slice ak (nw S.w) ck) ∧ W.cell? ⟨b, off + i * 5 + 4, none⟩ = some (.slice ac n cc)) ∧
  Hid (TrAt M W (.slice ag (nw S.w) cg) (.slice ak (nw S.w) ck) (.slice ac n cc) (trD S i)) ∧ Hid ((trD S i).w = S.w) := by
 obtain ⟨Ld, Lt, Lb, h1, h2, h3, h4⟩ := h.ex
 have e3 := congrArg List.length h3
 simp only [List.length_map] at e3
 have hi2 : i < Lt.length := by rw [e3, h.ok.lt]; exact hi
 have hi3 : i < S.trs.length := by rw [h.ok.lt]; exact hi
 obtain ⟨b, off, cap, g1, _, _, g4⟩ := h1.t.atT hi2
 have g5 : RawTAt M W Lt[i].2.1 Lt[i].2.2.1 Lt[i].2.2.2 Lt[i].1 := h1.t.ok _ (List.getElem_mem hi2)
 have g6 : Lt[i].1 = rawT (trD S i) := by
  have := congrArg (fun l => l[i]?) h3
  simp only [List.getElem?_map, List.getElem?_eq_getElem hi2, List.getElem?_eq_getElem hi3, Option.map_some, Option.some.injEq] at this
  rw [this]
  simp [trD, hi3]
 obtain ⟨g7, g8⟩ := h.ok.tr hi
 rw [g6] at g5
 have g9 := g5.tr g7
 obtain ⟨ag, cg, k1⟩ := g9.gen.slice
 obtain ⟨ak, ck, k2⟩ := g9.kill.slice
 obtain ⟨ac, cc, k3⟩ := Row.slice g9.copies
 rw [k1, k2, k3] at g9
 rw [g8] at g9 k1 k2
 obtain ⟨c0, c1, c2, c3, c4⟩ := g4 i hi2
 refine ⟨b, off, cap, ag, cg, ak, ck, ac, _, cc, by rw [g1, e3, h.ok.lt], ⟨?_, ?_, ?_, ?_, ?_⟩, Lib.hid g9, Lib.hid g8⟩
 ·rw [c0, g6]; show some (Value.int .i64 ((trD S i).w : Int)) = _; rw [g8]
 ·rw [c1, k1]
 ·rw [c2, g6]; show some (Value.int .i64 ((trD S i).w : Int)) = _; rw [g8]
 ·rw [c3, k2]
 rw [c4, k3]
theorem SysAt.bn (h : SysAt M W vd vt vb S) {i : Nat} (hi : i < S.deps.length) : ∃ b off cap a c, vb = .slice (some ⟨b, off, none⟩) S.deps.length cap ∧
  W.cell? ⟨b, off + i * 2, none⟩ = some (.int .i64 (S.w : Int)) ∧ W.cell? ⟨b, off + i * 2 + 1, none⟩ = some (.slice a (nw S.w) c) ∧ Hid (SetAt M W (.slice a (nw S.w) c) S.w (rowD S.bnd i)) := by
 obtain ⟨Ld, Lt, Lb, h1, h2, h3, h4⟩ := h.ex
 have e4 := congrArg List.length h4
 simp only [List.length_map] at e4
 have hi2 : i < Lb.length := by rw [e4, h.ok.lb]; exact hi
 have hi3 : i < S.bnd.length := by rw [h.ok.lb]; exact hi
 obtain ⟨b, off, cap, g1, _, _, g4⟩ := h1.b.atS hi2
 have g5 : WordsAt M W Lb[i].2 Lb[i].1.words := h1.b.ok _ (List.getElem_mem hi2)
 have g6 : Lb[i].1 = setN S.w (rowD S.bnd i) := by
  have := congrArg (fun l => l[i]?) h4
  simp only [List.getElem?_map, List.getElem?_eq_getElem hi2, List.getElem?_eq_getElem hi3, Option.map_some, Option.some.injEq] at this
  rw [this, rowD_get hi3]
 rw [g6] at g5
 have g7 : SetAt M W Lb[i].2 S.w (rowD S.bnd i) := ⟨g5, h.ok.w, h.ok.bn i⟩
 obtain ⟨a, c, g8⟩ := g7.slice
 obtain ⟨c0, c1⟩ := g4 i hi2
 refine ⟨b, off, cap, a, c, by rw [g1, e4, h.ok.lb], ?_, by rw [c1, g8], Lib.hid (g8 ▸ g7)⟩
 rw [c0, g6]; rfl
theorem nats_of {l : List Int} {n : Nat} (h : AscL l n) : ∃ k : List Nat, l = natsZ k := by
 refine ⟨l.map Int.toNat, ?_⟩
 unfold natsZ
 rw [List.map_map]
 refine (List.ext_getElem (by simp) (fun i h1 h2 => ?_))
 have := (h i h1).1
 simp only [List.getElem_map, Function.comp]
 omega
theorem lift_map {α β γ : Type} {f : γ → β} : ∀ (L : List (β × α)), (∀ p ∈ L, ∃ c, p.1 = f c) → ∃ K : List γ, L.map Prod.fst = K.map f
 | [], _ => ⟨[], rfl⟩
 | p :: L, h => by
  obtain ⟨c, hc⟩ := h p (List.mem_cons_self ..)
  obtain ⟨K, hK⟩ := lift_map L (fun q hq => h q (List.mem_cons_of_mem _ hq))
  exact ⟨c :: K, by simp [hc, hK]⟩
theorem VS.sys (h : VS x Ld Lt Lb) (hy : YAt M W vd vt vb Ld Lt Lb) : ∃ S : SysD, x = (S.w : Int) ∧ SysAt M W vd vt vb S ∧ S.deps.length = Ld.length := by
 obtain ⟨w, rfl⟩ : ∃ w : Nat, x = w := ⟨x.toNat, by have := h.w; omega⟩
 have hw : w ≤ 256 := by have := h.w; omega
 obtain ⟨D, hD⟩ := lift_map (f := natsZ) Ld (fun p hp => nats_of (h.asc p hp))
 obtain ⟨T, hT⟩ := lift_map (f := fun t : {t : TrD // TrOk t ∧ t.w = w} => rawT t.1) Lt (fun p hp => by
  have h1 := h.trs p hp
  have h2 : RawTAt M W p.2.1 p.2.2.1 p.2.2.2 p.1 := hy.t.ok p hp
  obtain ⟨t, ho, he⟩ := validT_ex h1.1 h2.gen.lt h2.kill.lt
  refine ⟨⟨t, ho, ?_⟩, he⟩
  have h3 := h1.2
  rw [he] at h3
  have h4 : ((t.w : Nat) : Int) = (w : Int) := h3
  omega)
 obtain ⟨B, hB⟩ := lift_map (f := fun m : {m : Nat // m < 2 ^ w} => setN w m.1) Lb (fun p hp => by
  have h1 := h.sets p hp
  have h2 : WordsAt M W p.2 p.1.words := hy.b.ok p hp
  obtain ⟨w', m, _, hm, he⟩ := (validB_iff h2.lt).1 h1.1
  have h3 := h1.2
  rw [he] at h3
  have h4 : ((w' : Nat) : Int) = (w : Int) := h3
  obtain rfl : w' = w := by omega
  exact ⟨⟨m, hm⟩, he⟩)
 have eD := congrArg List.length hD
 have eT := congrArg List.length hT
 have eB := congrArg List.length hB
 simp only [List.length_map] at eD eT eB
 refine ⟨⟨w, D, T.map Subtype.val, B.map Subtype.val⟩, rfl, ⟨⟨hw, ?_, ?_, ?_, ?_, fun l hl => ?_, ?_, fun t ht => ?_, fun m hm => ?_⟩, Ld, Lt, Lb, hy, hD, ?_, ?_⟩, by simp only; omega⟩
 ·have := h.n; simp only; omega
 ·have := h.n; simp only; omega
 ·have := h.lt; simp only [List.length_map]; omega
 ·have := h.lb; simp only [List.length_map]; omega
 ·have h1 : natsZ l ∈ Ld.map Prod.fst := by rw [hD]; exact List.mem_map.2 ⟨l, hl, rfl⟩
  obtain ⟨p, hp, he⟩ := List.mem_map.1 h1
  have h2 := h.asc p hp
  rw [he, eD] at h2
  exact h2
 ·have h1 : (Ld.map fun p => p.1.length) = D.map List.length := by
   have := congrArg (fun l => l.map List.length) hD
   simp only [List.map_map] at this
   rw [show (List.map (List.length ∘ natsZ) D) = D.map List.length from by
    refine List.map_congr_left (fun l _ => ?_)
    simp [natsZ]] at this
   exact this
  have h2 := h.tot
  unfold sumL at h2
  rw [h1] at h2
  exact h2
 ·obtain ⟨c, _, rfl⟩ := List.mem_map.1 ht
  exact c.2
 ·obtain ⟨c, _, rfl⟩ := List.mem_map.1 hm
  exact c.2
 ·rw [hT, List.map_map]; rfl
 rw [hB, List.map_map]; rfl
theorem SysAt.vs (h : SysAt M W vd vt vb S) : ∃ (Ld : LD) (Lt : LT) (Lb : LS), YAt M W vd vt vb Ld Lt Lb ∧ VS (S.w : Int) Ld Lt Lb := by
 obtain ⟨Ld, Lt, Lb, h1, h2, h3, h4⟩ := h.ex
 have ho := h.ok
 have e2 := congrArg List.length h2
 have e3 := congrArg List.length h3
 have e4 := congrArg List.length h4
 simp only [List.length_map] at e2 e3 e4
 have := ho.w; have := ho.n1; have := ho.n2; have := ho.lt; have := ho.lb
 refine ⟨Ld, Lt, Lb, h1, ⟨by omega, by omega, by omega, by omega, fun p hp => ?_, ?_, fun p hp => ?_, fun p hp => ?_⟩⟩
 ·have hm : p.1 ∈ S.deps.map natsZ := by rw [← h2]; exact List.mem_map.2 ⟨p, hp, rfl⟩
  obtain ⟨l, hl, he⟩ := List.mem_map.1 hm
  rw [← he, e2]
  exact ho.asc l hl
 ·have h5 := congrArg (fun l => l.map List.length) h2
  simp only [List.map_map] at h5
  rw [show (List.map (List.length ∘ natsZ) S.deps) = S.deps.map List.length from by
   refine List.map_congr_left (fun l _ => ?_)
   simp [natsZ]] at h5
  have h6 := ho.tot
  rw [← h5] at h6
  exact h6
 ·have hm : p.1 ∈ S.bnd.map (setN S.w) := by rw [← h4]; exact List.mem_map.2 ⟨p, hp, rfl⟩
  obtain ⟨m, hm, he⟩ := List.mem_map.1 hm
  rw [← he]
  exact ⟨validB_set ho.w (ho.bnd m hm), rfl⟩
 have hm : p.1 ∈ S.trs.map rawT := by rw [← h3]; exact List.mem_map.2 ⟨p, hp, rfl⟩
 obtain ⟨t, ht, he⟩ := List.mem_map.1 hm
 obtain ⟨k1, k2⟩ := ho.trs t ht
 rw [← he]
 exact ⟨validT_ok k1, by show ((t.w : Nat) : Int) = _; rw [k2]⟩
end

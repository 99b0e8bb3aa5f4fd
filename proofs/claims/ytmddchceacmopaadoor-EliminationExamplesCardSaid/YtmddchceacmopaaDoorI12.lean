
import Derived.Test.YtmddchceacmopaaDoorF1
import Derived.Test.YtmddchceacmopaaDoorHeldL
set_option linter.unusedVariables false
set_option linter.unusedSimpArgs false
namespace Go.Proofs.YtmddchceacmopaaDoor
open Go Go.RowKit
structure SysD where
 w : Nat
 deps : List (List Nat)
 trs : List TrD
 bnd : List Nat
def natsZ (l : List Nat) : List Int := l.map fun (n : Nat) => (n : Int)
def rowD (rs : List Nat) (k : Nat) : Nat := (rs[k]?).getD 0
theorem rowD_get {rs : List Nat} {k : Nat} (h : k < rs.length) : rowD rs k = rs[k] := by simp [rowD, h]
def trD (S : SysD) (i : Nat) : TrD := (S.trs[i]?).getD ⟨S.w, 0, 0, []⟩
theorem app_lt {t : TrD} (ho : TrOk t) {s : Nat} (hs : s < 2 ^ t.w) : applyT t s < 2 ^ t.w := applyN_lt ho hs _
def stepR (S : SysD) (vs : List Nat) (out m : Nat) : Nat := orN out (applyT (trD S m) (rowD vs m))
end Go.Proofs.YtmddchceacmopaaDoor

namespace Go.Proofs.YtmddchceacmopaaDoor
open Go Go.RowKit
structure WebD where
 w : Nat
 ins : List (List (Nat × TrD))
 bnd : List Nat
def froms (l : List (Nat × TrD)) : List Nat := l.map Prod.fst
structure WebOk (S : WebD) : Prop where
 w : S.w ≤ 256
 n1 : 1 ≤ S.ins.length
 n2 : S.ins.length ≤ 256
 lb : S.bnd.length = S.ins.length
 asc : ∀ l ∈ S.ins, (froms l).Pairwise (· < ·)
 lt : ∀ l ∈ S.ins, ∀ p ∈ l, p.1 < S.ins.length
 tot : (S.ins.map List.length).sum ≤ 1024
 trs : ∀ l ∈ S.ins, ∀ p ∈ l, TrOk p.2 ∧ p.2.w = S.w
 bnd : ∀ m ∈ S.bnd, m < 2 ^ S.w
def arcW (S : WebD) (i : Nat) : List (Nat × TrD) := (S.ins[i]?).getD []
section
variable {S : WebD}
theorem arcW_get {i : Nat} (hi : i < S.ins.length) : arcW S i = S.ins[i] := by simp [arcW, hi]
theorem arcW_mem {i : Nat} {p : Nat × TrD} (hp : p ∈ arcW S i) : ∃ h : i < S.ins.length, p ∈ S.ins[i] := by
 unfold arcW at hp
 rcases Nat.lt_or_ge i S.ins.length with h | h
 ·refine ⟨h, ?_⟩
  rw [List.getElem?_eq_getElem h] at hp
  exact hp
 rw [List.getElem?_eq_none h] at hp
 cases hp
theorem WebOk.tr (h : WebOk S) {i : Nat} {p : Nat × TrD} (hp : p ∈ arcW S i) : TrOk p.2 ∧ p.2.w = S.w := by
 obtain ⟨hi, hp⟩ := arcW_mem hp
 exact h.trs _ (List.getElem_mem hi) _ hp
theorem WebOk.dep (h : WebOk S) {i : Nat} {p : Nat × TrD} (hp : p ∈ arcW S i) : p.1 < S.ins.length := by
 obtain ⟨hi, hp⟩ := arcW_mem hp
 exact h.lt _ (List.getElem_mem hi) _ hp
theorem WebOk.bn (h : WebOk S) (i : Nat) : rowD S.bnd i < 2 ^ S.w := by
 unfold rowD
 cases e : S.bnd[i]? with
 | none => exact Nat.two_pow_pos _
 | some m => exact h.bnd m (List.mem_of_getElem? e)
end
end Go.Proofs.YtmddchceacmopaaDoor

namespace Go.Proofs.YtmddchceacmopaaDoor
open Go Go.RowKit
theorem SetsV.list {M : Nat → Prop} {W : World} {so : Value} {w : Nat} {ms : List Nat} (h : SetsV M W so w ms) : ∃ L : LS, LAt kS M W so L ∧ L.map Prod.fst = ms.map (setN w) ∧ L.length = ms.length := by
 obtain ⟨⟨L, h1, h2⟩, _, _⟩ := h
 have e := congrArg List.length h2
 simp only [List.length_map] at e
 exact ⟨L, ⟨h1.row, h1.ok⟩, h2, e⟩
theorem LAt.setsV {M : Nat → Prop} {W : World} {so : Value} {w : Nat} {ms : List Nat} {L : LS} (h : LAt kS M W so L) (he : L.map Prod.fst = ms.map (setN w)) (hw : w ≤ 256) (hm : ∀ m ∈ ms, m < 2 ^ w) : SetsV M W so w ms := ⟨⟨L, ⟨h.row, h.ok⟩, he⟩, hw, hm⟩
theorem set_of_map {w : Nat} {ms : List Nat} {L : LS} (he : L.map Prod.fst = ms.map (setN w)) (hw : w ≤ 256) (hm : ∀ m ∈ ms, m < 2 ^ w) (p : RawSet × Value) (hp : p ∈ L) : FitS (w : Int) p.1 := by
 have h1 : p.1 ∈ ms.map (setN w) := by rw [← he]; exact List.mem_map.2 ⟨p, hp, rfl⟩
 obtain ⟨m, hm2, e⟩ := List.mem_map.1 h1
 rw [← e]
 exact ⟨validB_set hw (hm m hm2), rfl⟩
theorem Apply_w (M : Nat → Prop) (t : TrD) (w s : Nat) (sg sk sc ss : Value) (W : World) (hw : t.w = w) (hM : ∀ b, M b → b < W.heap.size) (h : TrAt No W sg sk sc t) (hs : SetAt No W ss w s) :
  Calls Tryd.prog 35 #[.agg #[.int .i64 (w : Int), sg, .int .i64 (w : Int), sk, sc], .agg #[.int .i64 (w : Int), ss]] W (SetEPost M w (applyT t s) W) := by
 subst hw; exact Apply_any M t s sg sk sc ss W hM h hs
theorem SetsV.cells {M : Nat → Prop} {W : World} {so : Value} {w : Nat} {ms : List Nat} (h : SetsV M W so w ms) {i : Nat} (hi : i < ms.length) : ∃ b off cap a c, so = .slice (some ⟨b, off, none⟩) ms.length cap ∧
  (W.cell? ⟨b, off + i * 2, none⟩ = some (.int .i64 (w : Int)) ∧ W.cell? ⟨b, off + i * 2 + 1, none⟩ = some (.slice a (nw w) c)) ∧ Hid (SetAt M W (.slice a (nw w) c) w (rowD ms i)) := by
 obtain ⟨b, off, cap, a, c, h1, _, _, h4, h5, h6⟩ := h.at hi
 exact ⟨b, off, cap, a, c, h1, ⟨h4, h5⟩, Lib.hid (by rw [rowD_get hi]; exact h6.out)⟩
end Go.Proofs.YtmddchceacmopaaDoor

namespace Go.Proofs.YtmddchceacmopaaDoor
open Go Go.RowKit
theorem flat_set_get {β : Type} (K : EK β) (p : β) : ∀ (L : List β) (i n : Nat), i < L.length → ((L.set i p).flatMap K.cells)[n]? = if i * K.s ≤ n ∧ n < i * K.s + K.s then (K.cells p)[n - i * K.s]? else (L.flatMap K.cells)[n]?
 | [], _, _, h => absurd h (Nat.not_lt_zero _)
 | q :: L, 0, n, _ => by
  rw [List.set_cons_zero, List.flatMap_cons, List.flatMap_cons, List.getElem?_append, List.getElem?_append, K.len, K.len]
  by_cases h : n < K.s
  ·rw [if_pos h, if_pos ⟨by omega, by omega⟩]; simp
  rw [if_neg h, if_neg (by omega), if_neg h]
 | q :: L, i + 1, n, h => by
  have ih := flat_set_get K p L i (n - K.s) (by simpa using h)
  rw [List.set_cons_succ, List.flatMap_cons, List.flatMap_cons, List.getElem?_append, List.getElem?_append, K.len]
  have e : (i + 1) * K.s = i * K.s + K.s := Nat.succ_mul _ _
  by_cases h2 : n < K.s
  ·rw [if_pos h2, if_pos h2, if_neg (by omega)]
  rw [if_neg h2, if_neg h2, ih]
  by_cases h3 : i * K.s ≤ n - K.s ∧ n - K.s < i * K.s + K.s
  ·rw [if_pos h3, if_pos (by omega), e, show n - K.s - i * K.s = n - (i * K.s + K.s) by omega]
  rw [if_neg h3, if_neg (by omega)]
def setAll (xs : List Value) (o : Nat) : List Value → List Value
 | [] => xs
 | u :: us => setAll (xs.set o u) (o + 1) us
theorem setAll_get : ∀ (us xs : List Value) (o n : Nat), o + us.length ≤ xs.length → (setAll xs o us)[n]? = if o ≤ n ∧ n < o + us.length then us[n - o]? else xs[n]?
 | [], xs, o, n, _ => by rw [setAll, if_neg (by simp)]
 | u :: us, xs, o, n, h => by
  simp only [List.length_cons] at h ⊢
  rw [setAll, setAll_get us (xs.set o u) (o + 1) n (by rw [List.length_set]; omega)]
  by_cases h1 : o + 1 ≤ n ∧ n < o + 1 + us.length
  ·rw [if_pos h1, if_pos (by omega), show n - o = (n - (o + 1)) + 1 by omega, List.getElem?_cons_succ]
  rw [if_neg h1]
  by_cases h2 : n = o
  ·subst h2
   rw [if_pos (by omega), List.getElem?_set_self (by omega)]; simp
  rw [if_neg (by omega), List.getElem?_set_ne (by omega)]
theorem flat_len2 {β : Type} (K : EK β) : ∀ L : List β, (L.flatMap K.cells).length = L.length * K.s
 | [] => by simp
 | q :: L => by rw [List.flatMap_cons, List.length_append, K.len, flat_len2 K L, List.length_cons, Nat.succ_mul]; omega
theorem mul_in {i n s : Nat} (hi : i < n) : i * s + s ≤ n * s := by
 have := Nat.mul_le_mul_right s (Nat.succ_le_of_lt hi)
 rwa [Nat.succ_mul] at this
theorem flat_setAll {β : Type} (K : EK β) (L : List β) (i : Nat) (p : β) (hi : i < L.length) : setAll (L.flatMap K.cells) (i * K.s) (K.cells p) = (L.set i p).flatMap K.cells := by
 refine List.ext_getElem? (fun n => ?_)
 rw [flat_set_get K p L i n hi, setAll_get _ _ _ _ (by rw [K.len, flat_len2]; exact mul_in hi), K.len]
def storeAll (w : World) (g o : Nat) : List Value → World
 | [] => w
 | u :: us => storeAll (w.setCell ⟨g, o, none⟩ u) g (o + 1) us
theorem storeAll_ext : ∀ (us : List Value) (w : World) (g o : Nat), Ext (At g) w (storeAll w g o us)
 | [], w, g, o => Ext.refl _ _
 | u :: us, w, g, o => ((Ext.refl (At g) w).setAt o u).trans (storeAll_ext us _ g (o + 1))
theorem storeAll_own {e : TypeId} {size n base g cap : Nat} : ∀ (us xs : List Value) (w : World) (o : Nat), w.ownsRow base e size (.slice (some ⟨g, 0, none⟩) n cap) n xs → (storeAll w g o us).ownsRow base e size (.slice (some ⟨g, 0, none⟩) n cap) n (setAll xs o us)
 | [], _, _, _, h => h
 | u :: us, xs, w, o, h => storeAll_own us _ _ (o + 1) (World.ownsRow.stored (w := w) h o u).1
section
variable {β : Type} {K : EK β} {A : Nat → Prop} {w : World} {base g cap : Nat} {v : Value} {L : List β}
theorem LOwn.shape (h : LOwn K A w base v L) (hn : L.length ≠ 0) : ∃ g cap, v = .slice (some ⟨g, 0, none⟩) L.length cap ∧ base ≤ g ∧ g < w.heap.size := by
 obtain ⟨h1, h2⟩ := h.own
 rcases h2 with ⟨_, h3⟩ | ⟨g, cap, cur, rfl, hb, hg, _⟩
 ·exact absurd h3 hn
 exact ⟨g, cap, rfl, hb, lt_of_block hg⟩
theorem LOwn.cellAt (h : LOwn K A w base (.slice (some ⟨g, 0, none⟩) L.length cap) L) {i j : Nat} (hi : i < L.length) (hj : j < K.s) {u : Value} (hu : (K.cells L[i])[j]? = some u) : w.cell? ⟨g, i * K.s + j, none⟩ = some u := by
 have := mul_in (s := K.s) hi
 rw [World.ownsRow.cellAt h.own _ (by omega), flat_get2 K L i j hi hj]; exact hu
theorem LOwn.putAll (h : LOwn K A w base (.slice (some ⟨g, 0, none⟩) L.length cap) L) {i : Nat} (hi : i < L.length) {p : β} (hp : K.ok (fun b => A b ∨ b = g) w p) : LOwn K A (storeAll w g (i * K.s) (K.cells p)) base (.slice (some ⟨g, 0, none⟩) L.length cap) (L.set i p) := by
 refine ⟨?_, fun q hq => ?_⟩
 ·rw [List.length_set, ← flat_setAll K L i p hi]
  exact storeAll_own _ _ _ _ h.own
 have hq2 : K.ok (fun b => A b ∨ b = g) w q := by
  rcases List.mem_or_eq_of_mem_set hq with hq | rfl
  ·exact K.mono (h.ok q hq) (fun i _ e => by
    rcases e with e | rfl
    ·exact .inl e
    exact .inr rfl)
  exact hp
 refine K.mono (K.ext hq2 (storeAll_ext _ w g _) (fun i _ e => .inr e)) (fun i _ e => ?_)
 rcases e with e | e
 ·exact .inl e
 simp only [Value.ownBlock, Option.some.injEq] at e; exact .inr e.symm
end

/- Merged: K8 K9 -/
import Derived.Test.YtkdjdhflhlbelaaK7
import Derived.Test.YtkdjdhflhlbelaaF8
set_option linter.unusedVariables false
set_option linter.unusedSimpArgs false
/- K8 -/
namespace Go.Proofs.Ytkdjdhflhlbelaa
open Go Go.RowKit Tj
def passD (S : SysD) (c : List Nat) (vs : List Nat) : List Nat := c.foldl (fun v n => v.set n (rightD S v n)) vs
def passK (S : SysD) (c : List Nat) (vs : List Nat) (k : Nat) : List Nat := passD S (c.take k) vs
theorem passK_zero (S : SysD) (c vs : List Nat) : passK S c vs 0 = vs := by simp [passK, passD]
theorem passK_succ {S : SysD} {c vs : List Nat} {k : Nat} (hk : k < c.length) : passK S c vs (k + 1) = (passK S c vs k).set c[k] (rightD S (passK S c vs k) c[k]) := by
 unfold passK passD
 rw [List.take_succ_eq_append_getElem hk, List.foldl_append]
 rfl
theorem passK_all (S : SysD) (c vs : List Nat) : passK S c vs c.length = passD S c vs := by unfold passK; rw [List.take_length]
theorem row_set {vs : List Nat} {n i v : Nat} (hn : n < vs.length) : rowD (vs.set n v) i = if i = n then v else rowD vs i := by
 unfold rowD
 rw [List.getElem?_set]
 by_cases e : n = i
 ·subst e; simp [hn]
 ·rw [if_neg e, if_neg (fun e2 => e e2.symm)]
/-- every value is contained in its right side -/
def UpV (S : SysD) (vs : List Nat) : Prop := ∀ i, i < S.deps.length → LeB (rowD vs i) (rightD S vs i)
structure PassOk (S : SysD) (vs us : List Nat) : Prop where
 good : GoodV S us
 le : LeV S vs us
 up : UpV S us
section
variable {S : SysD} {vs us c : List Nat}
theorem step_ok (hS : SysOk S) (hv : GoodV S vs) (hu : UpV S vs) {n : Nat} (hn : n < S.deps.length) : PassOk S vs (vs.set n (rightD S vs n)) := by
 have hnl : n < vs.length := by rw [hv.len]; exact hn
 have hg : GoodV S (vs.set n (rightD S vs n)) := ⟨by rw [List.length_set]; exact hv.len, fun m hm => by
  rcases List.mem_or_eq_of_mem_set hm with h | h
  ·exact hv.lt m h
  ·rw [h]; exact rightD_lt hS hv n⟩
 have hle : LeV S vs (vs.set n (rightD S vs n)) := fun i hi => by
  rw [row_set hnl]
  split
  ·rename_i e; rw [e]; exact hu n hn
  ·exact LeB.refl _
 refine ⟨hg, hle, fun i hi => ?_⟩
 rw [row_set hnl]
 split
 ·rename_i e; rw [e]; exact right_mono hS hv hle n
 ·exact (hu i hi).trans (right_mono hS hv hle i)
theorem pass_ok (hS : SysOk S) (hv : GoodV S vs) (hu : UpV S vs) (hc : ∀ n ∈ c, n < S.deps.length) : ∀ k, k ≤ c.length → PassOk S vs (passK S c vs k)
 | 0, _ => by rw [passK_zero]; exact ⟨hv, LeV.refl S vs, hu⟩
 | k + 1, hk => by
  have h := pass_ok hS hv hu hc k (by omega)
  rw [passK_succ (by omega)]
  have h2 := step_ok hS h.good h.up (hc c[k] (List.getElem_mem _))
  exact ⟨h2.good, h.le.trans h2.le, h2.up⟩
theorem pass_all (hS : SysOk S) (hv : GoodV S vs) (hu : UpV S vs) (hc : ∀ n ∈ c, n < S.deps.length) : PassOk S vs (passD S c vs) := by
 rw [← passK_all]; exact pass_ok hS hv hu hc _ (Nat.le_refl _)
/-- what has changed stays changed -/
theorem pass_keep (hS : SysOk S) (hv : GoodV S vs) (hu : UpV S vs) (hc : ∀ n ∈ c, n < S.deps.length) {k : Nat} (hk : k < c.length) (h : passK S c vs k ≠ vs) : passK S c vs (k + 1) ≠ vs := fun e => h (by
 have h1 := pass_ok hS hv hu hc k (by omega)
 have h2 := step_ok hS h1.good h1.up (hc c[k] (List.getElem_mem hk))
 rw [← passK_succ hk, e] at h2
 exact LeV.anti h1.good hv h2.le h1.le)
theorem pass_same (hv : GoodV S vs) {k : Nat} (hk : k < c.length) (hc : c[k] < S.deps.length) (h : passK S c vs k = vs) : passK S c vs (k + 1) = vs ↔ rightD S vs c[k] = rowD vs c[k] := by
 rw [passK_succ hk, h]
 have hl : c[k] < vs.length := by rw [hv.len]; exact hc
 constructor
 ·intro e
  have e2 := congrArg (fun l => rowD l c[k]) e
  simp only [row_set hl, if_pos] at e2
  exact e2
 ·intro e
  rw [e, rowD_get hl]
  simp
end
def onceB (S : SysD) (c : List Nat) : Bool := (c.length == 1) && !(depD S (c.headD 0)).contains (c.headD 0)
def iterP (S : SysD) (c : List Nat) (vs : List Nat) : Nat → List Nat
 | 0 => vs
 | r + 1 => passD S c (iterP S c vs r)
/-- a component is solved by q passes -/
structure CompRun (S : SysD) (c : List Nat) (vs vs' : List Nat) (q : Nat) : Prop where
 res : vs' = iterP S c vs q
 pos : 1 ≤ q
 one : onceB S c = true → q = 1
 stop : onceB S c = false → passD S c (iterP S c vs (q - 1)) = iterP S c vs (q - 1)
 go : onceB S c = false → ∀ r, r < q - 1 → passD S c (iterP S c vs r) ≠ iterP S c vs r
theorem CompRun.uniq {S : SysD} {c vs vs' vs'' : List Nat} {q q' : Nat} (h : CompRun S c vs vs' q) (k : CompRun S c vs vs'' q') : vs' = vs'' ∧ q = q' := by
 have e : q = q' := by
  cases ho : onceB S c with
  | true => rw [h.one ho, k.one ho]
  | false =>
   have h1 := h.pos
   have h2 := k.pos
   rcases Nat.lt_trichotomy (q - 1) (q' - 1) with e | e | e
   ·exact absurd (h.stop ho) (k.go ho _ e)
   ·omega
   ·exact absurd (k.stop ho) (h.go ho _ e)
 subst e
 exact ⟨h.res.trans k.res.symm, rfl⟩
inductive SRun (S : SysD) (L : List (List Nat)) : Nat → List Nat → Nat → Prop
 | zero : SRun S L 0 (zerosD S) 0
 | succ {i : Nat} {vs vs' : List Nat} {n q : Nat} (h : SRun S L i vs n) (hi : i < L.length) (hc : CompRun S L[i] vs vs' q) : SRun S L (i + 1) vs' (n + q * L[i].length)
theorem SRun.uniq {S : SysD} {L : List (List Nat)} {i : Nat} {vs : List Nat} {n : Nat} (h : SRun S L i vs n) : ∀ {vs' : List Nat} {n' : Nat}, SRun S L i vs' n' → vs = vs' ∧ n = n' := by
 induction h with
 | zero => intro vs' n' k; cases k; exact ⟨rfl, rfl⟩
 | succ h hi hc ih =>
  intro vs' n' k
  cases k with
  | succ h' hi' hc' =>
   obtain ⟨rfl, rfl⟩ := ih h'
   obtain ⟨rfl, rfl⟩ := hc.uniq hc'
   exact ⟨rfl, rfl⟩
theorem up_zeros (S : SysD) : UpV S (zerosD S) := fun i hi => by
 rw [show rowD (zerosD S) i = 0 from by simp [rowD, zerosD, hi]]
 exact LeB.zero _
section
variable {S : SysD} {vs us c : List Nat}
theorem iterP_ok (hS : SysOk S) (hv : GoodV S vs) (hu : UpV S vs) (hc : ∀ n ∈ c, n < S.deps.length) : ∀ r, PassOk S vs (iterP S c vs r)
 | 0 => ⟨hv, LeV.refl S vs, hu⟩
 | r + 1 => by
  have h := iterP_ok hS hv hu hc r
  have h2 := pass_all hS h.good h.up hc
  exact ⟨h2.good, h.le.trans h2.le, h2.up⟩
end
end Go.Proofs.Ytkdjdhflhlbelaa

/- K9 -/
namespace Go.Proofs.Ytkdjdhflhlbelaa
open Go Go.RowKit
theorem flat_set_get {β : Type} (K : EK β) (p : β) : ∀ (L : List β) (i n : Nat), i < L.length → ((L.set i p).flatMap K.cells)[n]? = if i * K.s ≤ n ∧ n < i * K.s + K.s then (K.cells p)[n - i * K.s]? else (L.flatMap K.cells)[n]?
 | [], _, _, h => absurd h (Nat.not_lt_zero _)
 | q :: L, 0, n, _ => by
  rw [List.set_cons_zero, List.flatMap_cons, List.flatMap_cons, List.getElem?_append, List.getElem?_append, K.len, K.len]
  by_cases h : n < K.s
  ·rw [if_pos h, if_pos ⟨by omega, by omega⟩]; simp
  ·rw [if_neg h, if_neg (by omega), if_neg h]
 | q :: L, i + 1, n, h => by
  have ih := flat_set_get K p L i (n - K.s) (by simpa using h)
  rw [List.set_cons_succ, List.flatMap_cons, List.flatMap_cons, List.getElem?_append, List.getElem?_append, K.len]
  have e : (i + 1) * K.s = i * K.s + K.s := Nat.succ_mul _ _
  by_cases h2 : n < K.s
  ·rw [if_pos h2, if_pos h2, if_neg (by omega)]
  ·rw [if_neg h2, if_neg h2, ih]
   by_cases h3 : i * K.s ≤ n - K.s ∧ n - K.s < i * K.s + K.s
   ·rw [if_pos h3, if_pos (by omega), e, show n - K.s - i * K.s = n - (i * K.s + K.s) by omega]
   ·rw [if_neg h3, if_neg (by omega)]
def setAll (xs : List Value) (o : Nat) : List Value → List Value
 | [] => xs
 | u :: us => setAll (xs.set o u) (o + 1) us
theorem setAll_get : ∀ (us xs : List Value) (o n : Nat), o + us.length ≤ xs.length → (setAll xs o us)[n]? = if o ≤ n ∧ n < o + us.length then us[n - o]? else xs[n]?
 | [], xs, o, n, _ => by rw [setAll, if_neg (by simp)]
 | u :: us, xs, o, n, h => by
  simp only [List.length_cons] at h ⊢
  rw [setAll, setAll_get us (xs.set o u) (o + 1) n (by rw [List.length_set]; omega)]
  by_cases h1 : o + 1 ≤ n ∧ n < o + 1 + us.length
  ·rw [if_pos h1, if_pos (by omega), show n - o = (n - (o + 1)) + 1 by omega, List.getElem?_cons_succ]
  ·rw [if_neg h1]
   by_cases h2 : n = o
   ·subst h2
    rw [if_pos (by omega), List.getElem?_set_self (by omega)]; simp
   ·rw [if_neg (by omega), List.getElem?_set_ne (by omega)]
theorem flat_len2 {β : Type} (K : EK β) : ∀ L : List β, (L.flatMap K.cells).length = L.length * K.s
 | [] => by simp
 | q :: L => by rw [List.flatMap_cons, List.length_append, K.len, flat_len2 K L, List.length_cons, Nat.succ_mul]; omega
theorem mul_in {i n s : Nat} (hi : i < n) : i * s + s ≤ n * s := by
 have := Nat.mul_le_mul_right s (Nat.succ_le_of_lt hi)
 rwa [Nat.succ_mul] at this
theorem flat_setAll {β : Type} (K : EK β) (L : List β) (i : Nat) (p : β) (hi : i < L.length) : setAll (L.flatMap K.cells) (i * K.s) (K.cells p) = (L.set i p).flatMap K.cells := by
 refine List.ext_getElem? (fun n => ?_)
 rw [flat_set_get K p L i n hi, setAll_get _ _ _ _ (by rw [K.len, flat_len2]; exact mul_in hi), K.len]
def storeAll (w : World) (g o : Nat) : List Value → World
 | [] => w
 | u :: us => storeAll (w.setCell ⟨g, o, none⟩ u) g (o + 1) us
theorem storeAll_ext : ∀ (us : List Value) (w : World) (g o : Nat), Ext (At g) w (storeAll w g o us)
 | [], w, g, o => Ext.refl _ _
 | u :: us, w, g, o => ((Ext.refl (At g) w).setAt o u).trans (storeAll_ext us _ g (o + 1))
theorem storeAll_own {e : TypeId} {size n base g cap : Nat} : ∀ (us xs : List Value) (w : World) (o : Nat), w.ownsRow base e size (.slice (some ⟨g, 0, none⟩) n cap) n xs → (storeAll w g o us).ownsRow base e size (.slice (some ⟨g, 0, none⟩) n cap) n (setAll xs o us)
 | [], _, _, _, h => h
 | u :: us, xs, w, o, h => storeAll_own us _ _ (o + 1) (World.ownsRow.stored (w := w) h o u).1
section
variable {β : Type} {K : EK β} {A : Nat → Prop} {w : World} {base g cap : Nat} {v : Value} {L : List β}
theorem LOwn.shape (h : LOwn K A w base v L) (hn : L.length ≠ 0) : ∃ g cap, v = .slice (some ⟨g, 0, none⟩) L.length cap ∧ base ≤ g ∧ g < w.heap.size := by
 obtain ⟨h1, h2⟩ := h.own
 rcases h2 with ⟨_, h3⟩ | ⟨g, cap, cur, rfl, hb, hg, _⟩
 ·exact absurd h3 hn
 ·exact ⟨g, cap, rfl, hb, lt_of_block hg⟩
theorem LOwn.cellAt (h : LOwn K A w base (.slice (some ⟨g, 0, none⟩) L.length cap) L) {i j : Nat} (hi : i < L.length) (hj : j < K.s) {u : Value} (hu : (K.cells L[i])[j]? = some u) : w.cell? ⟨g, i * K.s + j, none⟩ = some u := by
 have := mul_in (s := K.s) hi
 rw [World.ownsRow.cellAt h.own _ (by omega), flat_get2 K L i j hi hj]; exact hu
theorem LOwn.putAll (h : LOwn K A w base (.slice (some ⟨g, 0, none⟩) L.length cap) L) {i : Nat} (hi : i < L.length) {p : β} (hp : K.ok (fun b => A b ∨ b = g) w p) : LOwn K A (storeAll w g (i * K.s) (K.cells p)) base (.slice (some ⟨g, 0, none⟩) L.length cap) (L.set i p) := by
 refine ⟨?_, fun q hq => ?_⟩
 ·rw [List.length_set, ← flat_setAll K L i p hi]
  exact storeAll_own _ _ _ _ h.own
 ·have hq2 : K.ok (fun b => A b ∨ b = g) w q := by
   rcases List.mem_or_eq_of_mem_set hq with hq | rfl
   ·exact K.mono (h.ok q hq) (fun i _ e => by
     rcases e with e | rfl
     ·exact .inl e
     ·exact .inr rfl)
   ·exact hp
  refine K.mono (K.ext hq2 (storeAll_ext _ w g _) (fun i _ e => .inr e)) (fun i _ e => ?_)
  rcases e with e | e
  ·exact .inl e
  ·simp only [Value.ownBlock, Option.some.injEq] at e; exact .inr e.symm
end
end Go.Proofs.Ytkdjdhflhlbelaa

/- K9 -/
namespace Go.Proofs.Ytkdjdhflhlbelaa
open Go Go.RowKit Tj
set_option maxRecDepth 100000 in
set_option maxHeartbeats 2000000 in
theorem indexI_no (sl : Value) (l : List Nat) (n : Nat) (W : World) (h : Ints No W .i64 sl (natsZ l)) (hn : n ∉ l) :
  Calls Try.prog 121 #[sl, .int .i64 (n : Int)] W fun e w' => e = .returned (.int .i64 (-1)) ∧ Ext No W w' := by
 have H := Lib.hid h
 obtain ⟨a, cap, rfl⟩ := IntsN.slice h
 have hlen := IntsN.len h
 have HN := Lib.hid hn
 clear h hn
 go_enter Try.func121, Try.ntmps121
 go_wp2_with fail
 go_loopw [5, 8] (fun _ i wr => ∃ k : Nat, i = .int .i64 k ∧ k ≤ l.length ∧ Hid (Ext No W wr)) (fun _ i _ => l.length + 1 - (intOf i).toNat)
 case atStart => exact ⟨0, rfl, Nat.zero_le _, Lib.hid (Ext.refl _ _)⟩
 case round =>
  obtain ⟨k, rfl, hk, hx⟩ := hrel
  rename World => wr
  by_cases hkl : k < l.length
  ·have hlz : (k : Int) < (l.length : Int) := by omega
   have HKK : Hid (Value.int .i64 ((k : Int) + 1) = .int .i64 ((k + 1 : Nat) : Int)) := Lib.hid (by rw [show ((k + 1 : Nat) : Int) = (k : Int) + 1 from by omega])
   obtain ⟨b, off, cap', hsl, hb1, _, hcell⟩ := IntsN.at H.out hkl
   simp only [Value.slice.injEq] at hsl
   obtain ⟨rfl, _, rfl⟩ := hsl
   have q0 := hx.out.keep (hcell k hkl)
   have hne0 : l[k] ≠ n := fun e => HN.out (by rw [← e]; exact List.getElem_mem hkl)
   generalize l[k] = y at *
   have hne : ¬ ((n : Int) = (y : Int)) := by omega
   have hne2 : ((n : Int) == (y : Int)) = false := by simpa using hne
   clear hcell hb1
   go_wp2_with fail
   go_roundw
   case rel => exact ⟨k + 1, HKK.out, by omega, hx⟩
   case measure => simp [intOf]; omega
  ·have hge : ¬ (k : Int) < (l.length : Int) := by omega
   go_wp2_with fail
   go_ret
   exact ⟨rfl, hx.out⟩
theorem first_split {n : Nat} : ∀ {l : List Nat}, n ∈ l → ∃ p q, l = p ++ n :: q ∧ n ∉ p
 | [], h => by cases h
 | a :: l, h => by
  by_cases e : a = n
  ·subst e; exact ⟨[], l, rfl, List.not_mem_nil⟩
  ·obtain ⟨p, q, h1, h2⟩ := first_split (n := n) (l := l) ((List.mem_cons.1 h).resolve_left (fun e2 => e e2.symm))
   exact ⟨a :: p, q, by rw [h1]; rfl, fun h3 => (List.mem_cons.1 h3).elim (fun e2 => e e2.symm) h2⟩
theorem containsI_any (sl : Value) (l : List Nat) (n : Nat) (W : World) (h : Ints No W .i64 sl (natsZ l)) :
  Calls Try.prog 87 #[sl, .int .i64 (n : Int)] W (BoolPost (l.contains n) W) := by
 by_cases hn : n ∈ l
 ·obtain ⟨p, q, hl, hp⟩ := first_split hn
  have hI := Lib.hid (indexI_any sl p q n W (by rw [← hl]; exact h) hp)
  have HC := Lib.hid (show l.contains n = true from by simpa using hn)
  obtain ⟨a, cap, rfl⟩ := IntsN.slice h
  clear h hl hp hn
  go_enter Try.func87, Try.ntmps87
  go_wp2_with fail
  refine hI.out.mono ?_
  rintro e w1 ⟨rfl, hx⟩
  go_wp2_with fail
  go_ret
  exact ⟨by rw [HC.out]; simp, hx⟩
 ·have hI := Lib.hid (indexI_no sl l n W h hn)
  have HC := Lib.hid (show l.contains n = false from by simpa using hn)
  obtain ⟨a, cap, rfl⟩ := IntsN.slice h
  clear h hn
  go_enter Try.func87, Try.ntmps87
  go_wp2_with fail
  refine hI.out.mono ?_
  rintro e w1 ⟨rfl, hx⟩
  go_wp2_with fail
  go_ret
  exact ⟨by rw [HC.out]; simp, hx⟩
/-- a row out of a list of rows -/
theorem ld_at {w : World} {so : Value} {Ld : LD} {L : List (List Nat)} (h : LAt kD No w so Ld) (he : Ld.map Prod.fst = L.map natsZ) {i : Nat} (hi : i < L.length) :
  ∃ b off cap a c, so = .slice (some ⟨b, off, none⟩) L.length cap ∧ w.cell? ⟨b, off + i, none⟩ = some (.slice a L[i].length c) ∧ Hid (Ints No w .i64 (.slice a L[i].length c) (natsZ L[i])) := by
 have hl : Ld.length = L.length := by have := congrArg List.length he; simpa using this
 have hi2 : i < Ld.length := by omega
 obtain ⟨b, off, cap, h1, -, -, h4⟩ := h.at hi2
 have h5 := h4 i hi2 0 Ld[i].2 (by decide) rfl
 have h6 : Ints No w .i64 Ld[i].2 Ld[i].1 := h.ok Ld[i] (List.getElem_mem hi2)
 have e : Ld[i].1 = natsZ L[i] := by
  have := congrArg (fun l => l[i]?) he
  simp only [List.getElem?_map, List.getElem?_eq_getElem hi2, List.getElem?_eq_getElem hi, Option.map_some, Option.some.injEq] at this
  exact this
 rw [e] at h6
 obtain ⟨a, c, e2⟩ := IntsN.slice h6
 rw [e2] at h5 h6
 refine ⟨b, off, cap, a, c, by rw [h1, hl], ?_, Lib.hid h6⟩
 rw [show i * kD.s + 0 = i from by show i * 1 + 0 = i; omega] at h5
 exact h5
/-- the values under way, in the row gv -/
structure SoM (S : SysD) (V wr : World) (sB gv : Nat) (sx : Array Value) (vs : List Nat) : Prop where
 ext : Ext No V wr
 box : wr.heap[sB]? = some (.cells sx 29 (0, 0))
 own : ∃ L : LS, LOwn kS No wr gv (.slice (some ⟨gv, 0, none⟩) L.length S.deps.length) L ∧ L.map Prod.fst = vs.map (setN S.w)
 good : GoodV S vs
 hw : S.w ≤ 256
 lo : sB < gv ∧ V.heap.size ≤ gv
section
variable {S : SysD} {V wr w' : World} {sB gv : Nat} {sx : Array Value} {vs : List Nat}
theorem SoM.stepNo (h : SoM S V wr sB gv sx vs) (hx : Ext No wr w') : SoM S V w' sB gv sx vs := by
 obtain ⟨L, h1, h2⟩ := h.own
 exact ⟨h.ext.transNo hx, hx.blk h.box no_no, ⟨L, h1.extNo hx, h2⟩, h.good, h.hw, h.lo⟩
theorem SoM.len {L : LS} (h : SoM S V wr sB gv sx vs) (he : L.map Prod.fst = vs.map (setN S.w)) : L.length = S.deps.length := by
 have := congrArg List.length he
 simp only [List.length_map] at this
 rw [this, h.good.len]
theorem SoM.sets (h : SoM S V wr sB gv sx vs) : SetsV No wr (.slice (some ⟨gv, 0, none⟩) S.deps.length S.deps.length) S.w vs := by
 obtain ⟨L, h1, h2⟩ := h.own
 have h3 := h1.list2 (M := No) (fun _ _ x => x) (fun _ x => x.elim)
 rw [h.len h2] at h3
 exact h3.setsV h2 h.hw h.good.lt
theorem SoM.lt (h : SoM S V wr sB gv sx vs) (hn : 1 ≤ S.deps.length) : gv < wr.heap.size := by
 obtain ⟨L, h1, h2⟩ := h.own
 exact (h1.lt gv rfl).2
theorem SoM.cell (h : SoM S V wr sB gv sx vs) {n : Nat} (hn : n < S.deps.length) : (∃ a c, wr.cell? ⟨gv, n * 2, none⟩ = some (.int .i64 (S.w : Int)) ∧ wr.cell? ⟨gv, n * 2 + 1, none⟩ = some (.slice a (nw S.w) c) ∧ Hid (SetAt No wr (.slice a (nw S.w) c) S.w (rowD vs n))) := by
 obtain ⟨b, off, cap, a, c, h1, ⟨h2, h3⟩, h4⟩ := h.sets.cells (i := n) (by rw [h.good.len]; exact hn)
 simp only [Value.slice.injEq, Option.some.injEq, Addr.mk.injEq] at h1
 obtain ⟨⟨rfl, rfl, -⟩, -, -⟩ := h1
 rw [Nat.zero_add] at h2 h3
 exact ⟨a, c, h2, h3, h4⟩
theorem SoM.free (h : SoM S V wr sB gv sx vs) (j : Nat) : wr.frozen? ⟨gv, j, none⟩ = false := by
 obtain ⟨L, h1, h2⟩ := h.own
 exact World.ownsRow.frozenAt h1.own j
theorem SoM.put (h : SoM S V wr sB gv sx vs) {n m : Nat} {a : Option Addr} {c : Nat} (hn : n < S.deps.length) (hs : SetAt (At gv) wr (.slice a (nw S.w) c) S.w m) :
  SoM S V ((wr.setCell ⟨gv, n * 2, none⟩ (.int .i64 (S.w : Int))).setCell ⟨gv, n * 2 + 1, none⟩ (.slice a (nw S.w) c)) sB gv sx (vs.set n m) := by
 obtain ⟨L, h1, h2⟩ := h.own
 have hl := h.len h2
 have hE : Ext (At gv) wr ((wr.setCell ⟨gv, n * 2, none⟩ (.int .i64 (S.w : Int))).setCell ⟨gv, n * 2 + 1, none⟩ (.slice a (nw S.w) c)) := ((Ext.refl (At gv) _).setAt _ _).setAt _ _
 have hlo := h.lo
 have hP : LOwn kS No ((wr.setCell ⟨gv, n * 2, none⟩ (.int .i64 (S.w : Int))).setCell ⟨gv, n * 2 + 1, none⟩ (.slice a (nw S.w) c)) gv (.slice (some ⟨gv, 0, none⟩) L.length S.deps.length) (L.set n (setN S.w m, .slice a (nw S.w) c)) := h1.putAll (i := n) (p := (setN S.w m, .slice a (nw S.w) c)) (by rw [hl]; exact hn) (hs.words.mono (fun i _ e => e.elim (fun x => x.elim) id))
 refine ⟨h.ext.trans2 hE (fun i hi e => by unfold At at e; omega), hE.blk h.box (by unfold At; omega), ⟨L.set n (setN S.w m, .slice a (nw S.w) c), by rw [List.length_set]; exact hP, by rw [List.map_set, h2, List.map_set]⟩, ⟨by rw [List.length_set]; exact h.good.len, fun k hk => ?_⟩, h.hw, hlo⟩
 rcases List.mem_or_eq_of_mem_set hk with h3 | h3
 ·exact h.good.lt k h3
 ·rw [h3]; exact hs.hm
end
theorem ordS_mem (S : SysD) (g : Nat → Nat) : ∀ r, ∀ c ∈ (ordS S g r).2, ∃ i, i < S.deps.length ∧ c = membersL S g (g i)
 | 0 => fun c hc => by cases hc
 | r + 1 => fun c hc => by
  rw [ordS] at hc
  cases hf : firstI S g (ordS S g r).1 with
  | none => rw [hf] at hc; exact ordS_mem S g r c hc
  | some i =>
   rw [hf] at hc
   rcases List.mem_append.1 hc with h | h
   ·exact ordS_mem S g r c h
   ·have hi := List.mem_of_find?_eq_some hf
    exact ⟨i, List.mem_range.1 hi, List.mem_singleton.1 h⟩
theorem ordS_lt (S : SysD) (g : Nat → Nat) (r : Nat) : ∀ c ∈ (ordS S g r).2, ∀ n ∈ c, n < S.deps.length := fun c hc n hn => by
 obtain ⟨i, hi, rfl⟩ := ordS_mem S g r c hc
 exact List.mem_range.1 (List.mem_filter.1 hn).1
theorem ordS_len (S : SysD) (g : Nat → Nat) (r : Nat) : ∀ c ∈ (ordS S g r).2, c.length ≤ S.deps.length ∧ 1 ≤ c.length := fun c hc => by
 obtain ⟨i, hi, rfl⟩ := ordS_mem S g r c hc
 refine ⟨Nat.le_trans (List.length_filter_le _ _) (by simp), List.length_pos_of_mem (List.mem_filter.2 ⟨List.mem_range.2 hi, by simp⟩)⟩
def remV (S : SysD) (vs : List Nat) : Nat := S.deps.length * S.w - cntV vs S.w S.deps.length
theorem rem_le {S : SysD} {vs us : List Nat} (h : LeV S vs us) : remV S us ≤ remV S vs := by
 have := cntV_mono (w := S.w) S.deps.length h
 unfold remV
 omega
theorem rem_lt {S : SysD} {vs us : List Nat} (hv : GoodV S vs) (hu : GoodV S us) (h : LeV S vs us) (hne : vs ≠ us) : remV S us < remV S vs := by
 have h1 := lt_cnt hv hu h hne
 have h2 := cntV_le us S.w S.deps.length
 unfold remV
 omega
def CSolvePost (M : Nat → Prop) (S : SysD) (W : World) (e : Ending) (w' : World) : Prop :=
 ∃ (g : Nat → Nat) (R : Nat) (vs : List Nat) (n : Nat) (a : Option Addr) (c : Nat), GOk S g ∧ OrdAt S g R ∧ Hid (SRun S (ordS S g R).2 (ordS S g R).2.length vs n) ∧ e = .returned (.tuple #[.slice a S.deps.length c, .int .i64 (n : Int), .int .i64 0]) ∧ Hid (SetsV M w' (.slice a S.deps.length c) S.w vs) ∧ Ext No W w'
set_option maxRecDepth 100000 in
set_option maxHeartbeats 2000000 in
theorem csolve_inv (x : Int) (vd vt vb : Value) (Ld : LD) (Lt : LT) (Lb : LS) (W : World) (h : YAt No W vd vt vb Ld Lt Lb) (hn : ¬ VS x Ld Lt Lb) :
  Calls Try.prog 38 #[.agg #[.int .i64 x, vd, vt, vb]] W fun e w' => e = .returned (.tuple #[.slice none 0 0, .int .i64 0, .int .i64 1]) ∧ Ext No W w' := by
 have H := Lib.hid h
 obtain ⟨ad, cd, rfl⟩ := h.d.slice
 obtain ⟨at1, ct, rfl⟩ := h.t.slice
 obtain ⟨ab, cb, rfl⟩ := h.b.slice
 clear h
 go_enter Try.func38, Try.ntmps38
 go_wp2_with fail
 have hx0 : Ext No W (W.alloc (.cells #[.int .i64 x, .slice ad Ld.length cd, .slice at1 Lt.length ct, .slice ab Lb.length cb] 29)) := (Ext.refl _ _).alloc _
 refine (order_inv x _ _ _ Ld Lt Lb _ (H.out.extNo hx0) hn).mono ?_
 rintro e1 w1 ⟨rfl, hx1⟩
 have hx := hx0.transNo hx1
 clear hx0 hx1
 go_wp2_with fail
 refine ret_ex rfl ?_
 simp [results, Try.results38, go_sem]
 exact hx
end Go.Proofs.Ytkdjdhflhlbelaa

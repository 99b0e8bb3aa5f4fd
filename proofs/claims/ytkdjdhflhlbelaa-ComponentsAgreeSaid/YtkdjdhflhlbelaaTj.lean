/- Tarjan's search, without a program: what a visit keeps. -/
import Derived.Test.YtkdjdhflhlbelaaFS
set_option linter.unusedVariables false
set_option linter.unusedSimpArgs false
namespace Go.Proofs.Ytkdjdhflhlbelaa.Tj
/-- there is a way from x to y -/
inductive Rch (d : Nat → List Nat) : Nat → Nat → Prop
 | refl (x : Nat) : Rch d x x
 | step {x y z : Nat} (h : y ∈ d x) (t : Rch d y z) : Rch d x z
theorem Rch.trans {d : Nat → List Nat} {x y z : Nat} (h : Rch d x y) (k : Rch d y z) : Rch d x z := by
 induction h with
 | refl _ => exact k
 | step e _ ih => exact .step e (ih k)
theorem Rch.one {d : Nat → List Nat} {x y : Nat} (h : y ∈ d x) : Rch d x y := .step h (.refl y)
/-- c is the least of all that x reaches and that reach x -/
def Comp (d : Nat → List Nat) (x : Nat) (c : Int) : Prop := ∃ k : Nat, c = (k : Int) ∧ Rch d x k ∧ Rch d k x ∧ ∀ y, Rch d x y → Rch d y x → k ≤ y
def upd {α : Type} (f : Nat → α) (n : Nat) (v : α) : Nat → α := fun i => if i = n then v else f i
theorem upd_same {α : Type} (f : Nat → α) (n : Nat) (v : α) : upd f n v n = v := if_pos rfl
theorem upd_ne {α : Type} {f : Nat → α} {n i : Nat} {v : α} (h : i ≠ n) : upd f n v i = f i := if_neg h
structure TS where
 idx : Nat → Nat
 low : Nat → Nat
 out : Nat → Int
 path : List Nat
 cnt : Nat
/-- how many are not yet discovered -/
def whites (N : Nat) (s : TS) : Nat := ((List.range N).filter (fun x => s.idx x == 0)).length
theorem filter_one {l : List Nat} {p q : Nat → Bool} {n : Nat} (hn : l.Pairwise (· ≠ ·)) (hm : n ∈ l) (hp : p n = true) (hq : q n = false) (h : ∀ x, x ≠ n → q x = p x) : (l.filter q).length + 1 = (l.filter p).length := by
 induction l with
 | nil => cases hm
 | cons a l ih =>
  rw [List.pairwise_cons] at hn
  simp only [List.filter_cons]
  rcases List.mem_cons.1 hm with e | hm2
  ·subst e
   have h1 : l.filter q = l.filter p := List.filter_congr (fun x hx => h x (fun e => hn.1 x hx e.symm))
   rw [if_pos hp, if_neg (by rw [hq]; simp), h1]
   simp
  ·have hne : a ≠ n := fun e => hn.1 n hm2 e
   have h1 := ih hn.2 hm2
   rw [h a hne]
   split
   ·simp; omega
   ·exact h1
structure TInv (N : Nat) (d : Nat → List Nat) (G : Nat → Prop) (s : TS) : Prop where
 vis : ∀ x, s.idx x ≠ 0 → x < N
 cnt : ∀ x, s.idx x ≤ s.cnt
 tot : s.cnt + whites N s = N
 path : ∀ x, x ∈ s.path ↔ s.idx x ≠ 0 ∧ s.out x < 0
 sorted : s.path.Pairwise (fun x y => s.idx x < s.idx y)
 gray : ∀ g, G g → g ∈ s.path
 down : ∀ x ∈ s.path, ∃ g, G g ∧ s.idx g ≤ s.idx x ∧ Rch d x g
 up : ∀ g x, G g → x ∈ s.path → s.idx g ≤ s.idx x → Rch d g x
 black : ∀ x, s.idx x ≠ 0 → ¬ G x → ∀ y ∈ d x, s.idx y ≠ 0
 fin : ∀ x, 0 ≤ s.out x → s.idx x ≠ 0 ∧ (∀ y ∈ d x, 0 ≤ s.out y) ∧ Comp d x (s.out x)
theorem TInv.setLow {N : Nat} {d : Nat → List Nat} {G : Nat → Prop} {s : TS} (h : TInv N d G s) (f : Nat → Nat) : TInv N d G { s with low := f } :=
 ⟨h.vis, h.cnt, h.tot, h.path, h.sorted, h.gray, h.down, h.up, h.black, h.fin⟩
structure VPre (N : Nat) (d : Nat → List Nat) (G : Nat → Prop) (s : TS) (n : Nat) : Prop where
 inv : TInv N d G s
 white : s.idx n = 0
 lt : n < N
 rch : ∀ g, G g → Rch d g n
structure VPost (N : Nat) (d : Nat → List Nat) (G : Nat → Prop) (s : TS) (n : Nat) (s' : TS) : Prop where
 inv : TInv N d G s'
 seen : s'.idx n ≠ 0
 idx : ∀ x, s.idx x ≠ 0 → s'.idx x = s.idx x
 out : ∀ x, 0 ≤ s.out x → s'.out x = s.out x
 low : ∀ x, s.idx x ≠ 0 → s'.low x = s.low x
 path : ∃ l, s'.path = s.path ++ l
 comp : 0 ≤ s'.out n → s.cnt < s'.low n
 att : 0 ≤ s'.out n ∨ ∃ y, y ∈ s'.path ∧ s'.idx y = s'.low n ∧ Rch d n y
 cross : ∀ x, s.idx x = 0 → s'.idx x ≠ 0 → ∀ y ∈ d x, y ∈ s.path → s'.low n ≤ s.idx y
def gn (G : Nat → Prop) (n : Nat) : Nat → Prop := fun x => G x ∨ x = n
/-- the visit of n has looked at the first k targets -/
structure LInv (N : Nat) (d : Nat → List Nat) (G : Nat → Prop) (s : TS) (n k : Nat) (t : TS) : Prop where
 pre : VPre N d G s n
 inv : TInv N d (gn G n) t
 idxn : t.idx n = s.cnt + 1
 idx : ∀ x, s.idx x ≠ 0 → t.idx x = s.idx x
 out : ∀ x, 0 ≤ s.out x → t.out x = s.out x
 low : ∀ x, s.idx x ≠ 0 → t.low x = s.low x
 path : ∃ l, t.path = s.path ++ n :: l
 done : ∀ j (h : j < (d n).length), j < k → t.idx (d n)[j] ≠ 0
 att : ∃ y, y ∈ t.path ∧ t.idx y = t.low n ∧ Rch d n y
 cross : ∀ x, s.idx x = 0 → t.idx x ≠ 0 → x ≠ n → ∀ y ∈ d x, y ∈ s.path → t.low n ≤ s.idx y
 crossn : ∀ j (h : j < (d n).length), j < k → (d n)[j] ∈ s.path → t.low n ≤ s.idx (d n)[j]
def start (s : TS) (n : Nat) : TS := { s with idx := upd s.idx n (s.cnt + 1), low := upd s.low n (s.cnt + 1), path := s.path ++ [n], cnt := s.cnt + 1 }
section
variable {N : Nat} {d : Nat → List Nat} {G : Nat → Prop} {s t s' : TS} {n k m : Nat}
theorem TInv.outw (h : TInv N d G s) {x : Nat} (hx : s.idx x = 0) : s.out x < 0 := by
 rcases Int.lt_or_le (s.out x) 0 with e | e
 ·exact e
 ·exact absurd hx (h.fin x e).1
theorem TInv.reach (h : TInv N d G s) {x y : Nat} (hr : Rch d x y) : 0 ≤ s.out x → 0 ≤ s.out y := by
 induction hr with
 | refl _ => exact id
 | step e _ ih => exact fun hx => ih ((h.fin _ hx).2.1 _ e)
theorem VPre.notin (h : VPre N d G s n) : n ∉ s.path := fun e => ((h.inv.path n).1 e).1 h.white
theorem VPre.ne (h : VPre N d G s n) {x : Nat} (hx : s.idx x ≠ 0) : x ≠ n := fun e => hx (by rw [e]; exact h.white)
theorem LInv.start (h : VPre N d G s n) : LInv N d G s n 0 (start s n) := by
 have hi := h.inv
 have hne : ∀ x, s.idx x ≠ 0 → (Tj.start s n).idx x = s.idx x := fun x hx => upd_ne (h.ne hx)
 have hn : (Tj.start s n).idx n = s.cnt + 1 := upd_same _ _ _
 have hp : ∀ x, x ∈ (Tj.start s n).path ↔ x ∈ s.path ∨ x = n := fun x => by simp [Tj.start]
 have hpi : ∀ x, x ∈ s.path → s.idx x ≠ 0 := fun x hx => ((hi.path x).1 hx).1
 refine ⟨h, ⟨fun x hx => ?_, fun x => ?_, ?_, fun x => ?_, ?_, fun g hg => ?_, fun x hx => ?_, fun g x hg hx hle => ?_, fun x hx hg y hy => ?_, fun x hx => ?_⟩, hn, hne, fun _ _ => rfl, fun x hx => upd_ne (h.ne hx), ⟨[], rfl⟩, fun j _ hj => absurd hj (Nat.not_lt_zero _), ⟨n, (hp n).2 (.inr rfl), ?_, .refl n⟩, fun x hx hx2 hxn => ?_, fun j _ hj => absurd hj (Nat.not_lt_zero _)⟩
 ·by_cases e : x = n
  ·rw [e]; exact h.lt
  ·have : (Tj.start s n).idx x = s.idx x := upd_ne e
   rw [this] at hx; exact hi.vis x hx
 ·by_cases e : x = n
  ·rw [e, hn]; exact Nat.le_refl _
  ·have : (Tj.start s n).idx x = s.idx x := upd_ne e
   rw [this]; exact Nat.le_succ_of_le (hi.cnt x)
 ·have h1 := hi.tot
  have h2 : whites N (Tj.start s n) + 1 = whites N s := filter_one (n := n) (List.pairwise_lt_range.imp (fun h => Nat.ne_of_lt h)) (List.mem_range.2 h.lt) (by simpa using h.white) (by rw [hn]; simp) (fun x hx => by rw [show (Tj.start s n).idx x = s.idx x from upd_ne hx])
  show s.cnt + 1 + _ = N
  omega
 ·rw [hp]
  by_cases e : x = n
  ·subst e
   refine ⟨fun _ => ⟨by rw [hn]; exact Nat.succ_ne_zero _, hi.outw h.white⟩, fun _ => .inr rfl⟩
  ·have e2 : (Tj.start s n).idx x = s.idx x := upd_ne e
   rw [e2]
   exact ⟨fun e3 => (hi.path x).1 (e3.resolve_right e), fun e3 => .inl ((hi.path x).2 e3)⟩
 ·show (s.path ++ [n]).Pairwise _
  rw [List.pairwise_append]
  refine ⟨hi.sorted.imp_of_mem (fun {x y} hx hy hlt => ?_), by simp, fun x hx y hy => ?_⟩
  ·rw [hne x (hpi x hx), hne y (hpi y hy)]; exact hlt
  ·rw [List.mem_singleton.1 hy, hn, hne x (hpi x hx)]
   exact Nat.lt_succ_of_le (hi.cnt x)
 ·exact (hp g).2 (hg.imp (hi.gray g) id)
 ·rcases (hp x).1 hx with hx | rfl
  ·obtain ⟨g, h1, h2, h3⟩ := hi.down x hx
   exact ⟨g, .inl h1, by rw [hne x (hpi x hx), hne g (hpi g (hi.gray g h1))]; exact h2, h3⟩
  ·exact ⟨x, .inr rfl, Nat.le_refl _, .refl x⟩
 ·rcases (hp x).1 hx with hx5 | rfl
  ·rcases hg with hg | rfl
   ·rw [hne x (hpi x hx5), hne g (hpi g (hi.gray g hg))] at hle
    exact hi.up g x hg hx5 hle
   ·rw [hn, hne x (hpi x hx5)] at hle
    exact absurd (hi.cnt x) (by omega)
  ·rcases hg with hg | rfl
   ·exact h.rch g hg
   ·exact .refl _
 ·have e : x ≠ n := fun e => hg (.inr e)
  have e2 : (Tj.start s n).idx x = s.idx x := upd_ne e
  rw [e2] at hx
  have := hi.black x hx (fun e => hg (.inl e)) y hy
  rw [hne y this]; exact this
 ·have h1 := hi.fin x hx
  exact ⟨by rw [hne x h1.1]; exact h1.1, h1.2⟩
 ·rw [hn]; exact (upd_same _ _ _).symm
 ·exact absurd hx (by rw [show (Tj.start s n).idx x = s.idx x from upd_ne hxn] at hx2; exact hx2)
theorem LInv.seen (h : LInv N d G s n k t) : t.idx n ≠ 0 := by rw [h.idxn]; exact Nat.succ_ne_zero _
theorem LInv.sub (h : LInv N d G s n k t) {x : Nat} (hx : x ∈ s.path) : x ∈ t.path := by
 obtain ⟨l, e⟩ := h.path
 rw [e]; exact List.mem_append_left _ hx
/-- the visit of a target that is not yet discovered may begin -/
theorem LInv.call (h : LInv N d G s n k t) (hk : k < (d n).length) (hm : m = (d n)[k]) (hN : m < N) (hw : t.idx m = 0) : VPre N d (gn G n) t m :=
 ⟨h.inv, hw, hN, fun g hg => by
  have h1 : Rch d n m := .one (by rw [hm]; exact List.getElem_mem hk)
  rcases hg with hg | rfl
  ·exact (h.pre.rch g hg).trans h1
  ·exact h1⟩
theorem LInv.back (h : LInv N d G s n k t) (hk : k < (d n).length) (hm : m = (d n)[k]) (hw : t.idx m = 0) (hp : VPost N d (gn G n) t m s') :
  LInv N d G s n (k + 1) { s' with low := upd s'.low n (min (s'.low n) (s'.low m)) } := by
 have hsn := h.seen
 have hln : s'.low n = t.low n := hp.low n hsn
 have hkeep : ∀ x, s.idx x ≠ 0 → t.idx x ≠ 0 := fun x hx => by rw [h.idx x hx]; exact hx
 obtain ⟨l, hl⟩ := h.path
 obtain ⟨l', hl'⟩ := hp.path
 have hlow : (upd s'.low n (min (s'.low n) (s'.low m))) n = min (s'.low n) (s'.low m) := upd_same _ _ _
 refine ⟨h.pre, hp.inv.setLow _, ?_, fun x hx => ?_, fun x hx => ?_, fun x hx => ?_, ⟨l ++ l', by show s'.path = _; rw [hl', hl]; simp⟩, fun j hj hjk => ?_, ?_, fun x hx hx2 hxn y hy hyp => ?_, fun j hj hjk hjp => ?_⟩
 ·show s'.idx n = _; rw [hp.idx n hsn, h.idxn]
 ·show s'.idx x = _; rw [hp.idx x (hkeep x hx), h.idx x hx]
 ·show s'.out x = _; rw [hp.out x (by rw [h.out x hx]; exact hx), h.out x hx]
 ·show upd s'.low n _ x = _
  rw [upd_ne (h.pre.ne hx), hp.low x (hkeep x hx), h.low x hx]
 ·show s'.idx _ ≠ 0
  by_cases e : j = k
  ·subst e; rw [← hm]; exact hp.seen
  ·have := h.done j hj (by omega)
   rw [hp.idx _ this]; exact this
 ·show ∃ y, y ∈ s'.path ∧ s'.idx y = upd s'.low n _ n ∧ _
  rw [hlow]
  obtain ⟨y, h1, h2, h3⟩ := h.att
  have hy : t.idx y ≠ 0 := ((h.inv.path y).1 h1).1
  by_cases e : t.low n ≤ s'.low m
  ·exact ⟨y, by rw [hl']; exact List.mem_append_left _ h1, by rw [hp.idx y hy, h2, hln]; omega, h3⟩
  ·rcases hp.att with h4 | ⟨y', h5, h6, h7⟩
   ·have := hp.comp h4
    have := h.inv.cnt y
    omega
   ·exact ⟨y', h5, by rw [h6, hln]; omega, .step (by rw [hm]; exact List.getElem_mem hk) h7⟩
 ·show upd s'.low n _ n ≤ _
  rw [hlow, hln]
  by_cases e : t.idx x = 0
  ·have h1 := hp.cross x e hx2 y hy (h.sub hyp)
   have h2 := h.idx y ((h.pre.inv.path y).1 hyp).1
   omega
  ·have := h.cross x hx e hxn y hy hyp
   omega
 ·show upd s'.low n _ n ≤ _
  rw [hlow, hln]
  by_cases e : j = k
  ·subst e
   rw [← hm] at hjp
   have h1 := ((h.pre.inv.path m).1 hjp).1
   exact absurd hw (hkeep m h1)
  ·have := h.crossn j hj (by omega) hjp
   omega
theorem LInv.on (h : LInv N d G s n k t) (hk : k < (d n).length) (hm : m = (d n)[k]) (hw : t.idx m ≠ 0) (ho : t.out m < 0) :
  LInv N d G s n (k + 1) { t with low := upd t.low n (min (t.low n) (t.idx m)) } := by
 have hlow : (upd t.low n (min (t.low n) (t.idx m))) n = min (t.low n) (t.idx m) := upd_same _ _ _
 refine ⟨h.pre, h.inv.setLow _, h.idxn, h.idx, h.out, fun x hx => ?_, h.path, fun j hj hjk => ?_, ?_, fun x hx hx2 hxn y hy hyp => ?_, fun j hj hjk hjp => ?_⟩
 ·show upd t.low n _ x = _
  rw [upd_ne (h.pre.ne hx), h.low x hx]
 ·by_cases e : j = k
  ·subst e; rw [← hm]; exact hw
  ·exact h.done j hj (by omega)
 ·show ∃ y, y ∈ t.path ∧ t.idx y = upd t.low n _ n ∧ _
  rw [hlow]
  by_cases e : t.low n ≤ t.idx m
  ·obtain ⟨y, h1, h2, h3⟩ := h.att
   exact ⟨y, h1, by rw [h2]; omega, h3⟩
  ·exact ⟨m, (h.inv.path m).2 ⟨hw, ho⟩, by omega, .one (by rw [hm]; exact List.getElem_mem hk)⟩
 ·show upd t.low n _ n ≤ _
  rw [hlow]
  have := h.cross x hx hx2 hxn y hy hyp
  omega
 ·show upd t.low n _ n ≤ _
  rw [hlow]
  by_cases e : j = k
  ·subst e
   rw [← hm] at hjp ⊢
   have := h.idx m ((h.pre.inv.path m).1 hjp).1
   omega
  ·have := h.crossn j hj (by omega) hjp
   omega
theorem LInv.off (h : LInv N d G s n k t) (hk : k < (d n).length) (hm : m = (d n)[k]) (hw : t.idx m ≠ 0) (ho : 0 ≤ t.out m) : LInv N d G s n (k + 1) t := by
 refine ⟨h.pre, h.inv, h.idxn, h.idx, h.out, h.low, h.path, fun j hj hjk => ?_, h.att, h.cross, fun j hj hjk hjp => ?_⟩
 ·by_cases e : j = k
  ·subst e; rw [← hm]; exact hw
  ·exact h.done j hj (by omega)
 ·by_cases e : j = k
  ·subst e
   rw [← hm] at hjp
   have := ((h.inv.path m).1 (h.sub hjp)).2
   omega
  ·exact h.crossn j hj (by omega) hjp
/-- the visit ends and n stays on the path -/
theorem LInv.stay (h : LInv N d G s n (d n).length t) (hlt : t.low n < t.idx n) : VPost N d G s n t := by
 have hi := h.inv
 have hblack : ∀ x, t.idx x ≠ 0 → ¬ G x → ∀ y ∈ d x, t.idx y ≠ 0 := fun x hx hg y hy => by
  by_cases e : x = n
  ·subst e
   obtain ⟨j, hj, rfl⟩ := List.getElem_of_mem hy
   exact h.done j hj hj
  ·exact hi.black x hx (fun e2 => e2.elim hg e) y hy
 obtain ⟨l, hl⟩ := h.path
 refine ⟨⟨hi.vis, hi.cnt, hi.tot, hi.path, hi.sorted, fun g hg => hi.gray g (.inl hg), fun x hx => ?_, fun g x hg => hi.up g x (.inl hg), hblack, hi.fin⟩, h.seen, h.idx, h.out, h.low, ⟨n :: l, hl⟩, fun e => ?_, .inr h.att, fun x hx hx2 y hy hyp => ?_⟩
 ·obtain ⟨g, h1, h2, h3⟩ := hi.down x hx
  rcases h1 with h1 | rfl
  ·exact ⟨g, h1, h2, h3⟩
  ·obtain ⟨y, h4, h5, h6⟩ := h.att
   obtain ⟨g', h7, h8, h9⟩ := hi.down y h4
   rcases h7 with h7 | rfl
   ·exact ⟨g', h7, by omega, (h3.trans h6).trans h9⟩
   ·omega
 ·have := ((hi.path n).1 (hi.gray n (.inr rfl))).2
  omega
 ·by_cases e : x = n
  ·subst e
   obtain ⟨j, hj, rfl⟩ := List.getElem_of_mem hy
   exact h.crossn j hj hj hyp
  ·exact h.cross x hx hx2 e y hy hyp
/-- the component of n is taken off the path -/
def finish (s t : TS) (l : List Nat) (n : Nat) (c : Int) : TS := { t with out := fun x => if x ∈ n :: l then c else t.out x, path := s.path }
theorem LInv.finish {l : List Nat} {c : Nat} (h : LInv N d G s n (d n).length t) (hlt : ¬ t.low n < t.idx n) (hl : t.path = s.path ++ n :: l) (hc : c ∈ n :: l) (hmin : ∀ x ∈ n :: l, c ≤ x) :
  VPost N d G s n (finish s t l n (c : Int)) := by
 have hi := h.inv
 have hs := h.pre.inv
 have hT : ∀ x, x ∈ n :: l → x ∈ t.path := fun x hx => by rw [hl]; exact List.mem_append_right _ hx
 have hsrt := hi.sorted
 rw [hl, List.pairwise_append, List.pairwise_cons] at hsrt
 have hdisj : ∀ x, x ∈ s.path → x ∉ n :: l := fun x hx hx2 => Nat.lt_irrefl _ (hsrt.2.2 x hx x hx2)
 have hbefore : ∀ x, x ∈ s.path → t.idx x < t.idx n := fun x hx => hsrt.2.2 x hx n (List.mem_cons_self ..)
 have hafter : ∀ x, x ∈ n :: l → t.idx n ≤ t.idx x := fun x hx => by
  rcases List.mem_cons.1 hx with rfl | hx
  ·exact Nat.le_refl _
  ·exact Nat.le_of_lt (hsrt.2.1.1 x hx)
 have hout : ∀ x, x ∈ n :: l → t.out x < 0 := fun x hx => ((hi.path x).1 (hT x hx)).2
 have hvis : ∀ x, x ∈ n :: l → ∀ y ∈ d x, t.idx y ≠ 0 := fun x hx y hy => by
  by_cases e : x = n
  ·subst e
   obtain ⟨j, hj, rfl⟩ := List.getElem_of_mem hy
   exact h.done j hj hj
  ·refine hi.black x ((hi.path x).1 (hT x hx)).1 (fun e2 => ?_) y hy
   rcases e2 with e2 | e2
   ·exact hdisj x (hs.gray x e2) hx
   ·exact e e2
 have hnew : ∀ x, x ∈ n :: l → s.idx x = 0 := fun x hx => by
  rcases Nat.eq_zero_or_pos (s.idx x) with e | e
  ·exact e
  ·exfalso
   have h1 : s.idx x ≠ 0 := by omega
   have h2 := h.idx x h1
   have h3 := hs.cnt x
   have h4 := hafter x hx
   rw [h.idxn] at h4
   omega
 -- an edge out of the component leads into it or to what is complete
 have hedge : ∀ x, x ∈ n :: l → ∀ y ∈ d x, y ∈ n :: l ∨ 0 ≤ t.out y := fun x hx y hy => by
  rcases Int.lt_or_le (t.out y) 0 with e | e
  ·have h1 : y ∈ t.path := (hi.path y).2 ⟨hvis x hx y hy, e⟩
   rw [hl] at h1
   rcases List.mem_append.1 h1 with h5 | h5
   ·exfalso
    have h2 : t.low n ≤ s.idx y := by
     by_cases e : x = n
     ·subst e
      obtain ⟨j, hj, rfl⟩ := List.getElem_of_mem hy
      exact h.crossn j hj hj h5
     ·exact h.cross x (hnew x hx) ((hi.path x).1 (hT x hx)).1 e y hy h5
    have h3 := hbefore y h5
    have h4 := h.idx y ((hs.path y).1 h5).1
    omega
   ·exact .inl h5
  ·exact .inr e
 have hreach : ∀ x y, Rch d x y → x ∈ n :: l → y ∈ n :: l ∨ 0 ≤ t.out y := fun x y hr => by
  induction hr with
  | refl _ => exact .inl
  | step e r ih =>
   intro hx
   rcases hedge _ hx _ e with h1 | h1
   ·exact ih h1
   ·exact .inr (hi.reach r h1)
 have hto : ∀ x, x ∈ n :: l → Rch d x n := fun x hx => by
  obtain ⟨g, h1, h2, h3⟩ := hi.down x (hT x hx)
  rcases h1 with h1 | rfl
  ·exfalso
   rcases hreach x g h3 hx with h4 | h4
   ·exact hdisj g (hs.gray g h1) h4
   ·have := ((hi.path g).1 (hi.gray g (.inl h1))).2
    omega
  ·exact h3
 have hfrom : ∀ x, x ∈ n :: l → Rch d n x := fun x hx => hi.up n x (.inr rfl) (hT x hx) (hafter x hx)
 have hcomp : ∀ x, x ∈ n :: l → Comp d x (c : Int) := fun x hx => ⟨c, rfl, (hto x hx).trans (hfrom c hc), (hto c hc).trans (hfrom x hx), fun y h1 h2 => by
  rcases hreach x y h1 hx with h3 | h3
  ·exact hmin y h3
  ·have h4 := hi.reach h2 h3
   have := hout x hx
   omega⟩
 have ho1 : ∀ x, x ∈ n :: l → (Tj.finish s t l n (c : Int)).out x = (c : Int) := fun x hx => if_pos hx
 have ho2 : ∀ x, x ∉ n :: l → (Tj.finish s t l n (c : Int)).out x = t.out x := fun x hx => if_neg hx
 have hc0 : (0 : Int) ≤ (c : Int) := Int.natCast_nonneg c
 have hnn : n ∈ n :: l := List.mem_cons_self ..
 refine ⟨⟨hi.vis, hi.cnt, hi.tot, fun x => ?_, ?_, hs.gray, fun x hx => ?_, fun g x hg hx hle => ?_, fun x hx hg y hy => ?_, fun x hx => ?_⟩, h.seen, h.idx, fun x hx => ?_, h.low, ⟨[], by simp [Tj.finish]⟩, fun _ => ?_, .inl (by rw [ho1 n hnn]; exact hc0), fun x hx hx2 y hy hyp => ?_⟩
 ·show x ∈ s.path ↔ t.idx x ≠ 0 ∧ _
  constructor
  ·intro hx
   rw [ho2 x (hdisj x hx)]
   exact (hi.path x).1 (h.sub hx)
  ·rintro ⟨h1, h2⟩
   by_cases e : x ∈ n :: l
   ·rw [ho1 x e] at h2; omega
   ·rw [ho2 x e] at h2
    have h3 := (hi.path x).2 ⟨h1, h2⟩
    rw [hl] at h3
    exact (List.mem_append.1 h3).resolve_right e
 ·exact hsrt.1
 ·obtain ⟨g, h1, h2, h3⟩ := hs.down x hx
  refine ⟨g, h1, ?_, h3⟩
  show t.idx g ≤ t.idx x
  rw [h.idx g ((hs.path g).1 (hs.gray g h1)).1, h.idx x ((hs.path x).1 hx).1]
  exact h2
 ·refine hs.up g x hg hx ?_
  have hle : t.idx g ≤ t.idx x := hle
  rw [h.idx g ((hs.path g).1 (hs.gray g hg)).1, h.idx x ((hs.path x).1 hx).1] at hle
  exact hle
 ·by_cases e : x = n
  ·exact hvis x (by rw [e]; exact hnn) y hy
  ·exact hi.black x hx (fun e2 => e2.elim hg e) y hy
 ·by_cases e : x ∈ n :: l
  ·refine ⟨((hi.path x).1 (hT x e)).1, fun y hy => ?_, by rw [ho1 x e]; exact hcomp x e⟩
   rcases hedge x e y hy with h1 | h1
   ·rw [ho1 y h1]; exact hc0
   ·rw [ho2 y (fun e2 => by have := hout y e2; omega)]; exact h1
  ·rw [ho2 x e] at hx ⊢
   obtain ⟨h1, h2, h3⟩ := hi.fin x hx
   refine ⟨h1, fun y hy => ?_, h3⟩
   have := h2 y hy
   rw [ho2 y (fun e2 => by have := hout y e2; omega)]
   exact this
 ·have h1 : 0 ≤ t.out x := by rw [h.out x hx]; exact hx
  rw [ho2 x (fun e2 => by have := hout x e2; omega)]
  exact h.out x hx
 ·show s.cnt < t.low n
  have := h.idxn
  omega
 ·show t.low n ≤ s.idx y
  by_cases e : x = n
  ·subst e
   obtain ⟨j, hj, rfl⟩ := List.getElem_of_mem hy
   exact h.crossn j hj hj hyp
  ·exact h.cross x hx hx2 e y hy hyp
theorem len_filter_lt {l : List Nat} {p q : Nat → Bool} (h : ∀ x ∈ l, q x = true → p x = true) : (l.filter q).length ≤ (l.filter p).length := by
 induction l with
 | nil => exact Nat.le_refl _
 | cons a l ih =>
  have h1 := ih (fun x hx => h x (List.mem_cons_of_mem _ hx))
  have h2 := h a (List.mem_cons_self ..)
  simp only [List.filter_cons]
  by_cases hq : q a = true
  ·rw [if_pos hq, if_pos (h2 hq)]; simp; exact h1
  ·rw [if_neg hq]
   split
   ·simp; omega
   ·exact h1
theorem len_filter_lt1 {l : List Nat} {p q : Nat → Bool} {n : Nat} (h : ∀ x ∈ l, q x = true → p x = true) (hn : n ∈ l) (hp : p n = true) (hq : q n = false) : (l.filter q).length < (l.filter p).length := by
 induction l with
 | nil => cases hn
 | cons a l ih =>
  have h0 := h a (List.mem_cons_self ..)
  have hsub : ∀ x ∈ l, q x = true → p x = true := fun x hx => h x (List.mem_cons_of_mem _ hx)
  simp only [List.filter_cons]
  rcases List.mem_cons.1 hn with e | hn2
  ·subst e
   have h1 := len_filter_lt hsub
   rw [if_pos hp, if_neg (by rw [hq]; simp)]
   simp; omega
  ·have h1 := ih hsub hn2
   by_cases hqa : q a = true
   ·rw [if_pos hqa, if_pos (h0 hqa)]; simp; exact h1
   ·rw [if_neg hqa]
    split
    ·simp; omega
    ·exact h1
theorem LInv.whites (h : LInv N d G s n k t) : whites N t < whites N s := len_filter_lt1 (n := n) (fun x _ hx => by
 have h1 : t.idx x = 0 := by simpa using hx
 have : s.idx x = 0 := by
  rcases Nat.eq_zero_or_pos (s.idx x) with e | e
  ·exact e
  ·exact absurd h1 (by rw [h.idx x (by omega)]; omega)
 simpa using this) (List.mem_range.2 h.pre.lt) (by simpa using h.pre.white) (by simpa using h.seen)
theorem VPre.room (h : VPre N d G s n) : s.cnt < N := by
 have h1 := h.inv.tot
 have h2 : 0 < Tj.whites N s := List.length_pos_of_mem (List.mem_filter.2 ⟨List.mem_range.2 h.lt, by simpa using h.white⟩)
 omega
theorem TInv.path_lt (h : TInv N d G s) {x : Nat} (hx : x ∈ s.path) : x < N := h.vis x ((h.path x).1 hx).1
theorem nodup_len : ∀ {l : List Nat} {n : Nat}, l.Pairwise (· ≠ ·) → (∀ x ∈ l, x < n) → l.length ≤ n := fun {l} {n} => by
 induction n generalizing l with
 | zero =>
  intro _ h
  match l, h with
  | [], _ => exact Nat.le_refl _
  | a :: l, h => exact absurd (h a (List.mem_cons_self ..)) (Nat.not_lt_zero _)
 | succ n ih =>
  intro hp h
  have h1 := ih (l := l.filter (fun x => x != n)) (hp.filter _) (fun x hx => by
   obtain ⟨h2, h3⟩ := List.mem_filter.1 hx
   have h4 := h x h2
   have h5 : x ≠ n := by simpa using h3
   omega)
  have h2 : l.length ≤ (l.filter (fun x => x != n)).length + 1 := by
   clear ih h1 h
   induction l with
   | nil => exact Nat.zero_le _
   | cons a l ih2 =>
    rw [List.pairwise_cons] at hp
    by_cases e : a = n
    ·subst e
     have : l.filter (fun x => x != a) = l := List.filter_eq_self.2 (fun x hx => by simpa using fun e => hp.1 x hx e.symm)
     simp [List.filter_cons, this]
    ·have h3 := ih2 hp.2
     simp [List.filter_cons, e]
     exact h3
  omega
theorem TInv.path_len (h : TInv N d G s) : s.path.length ≤ N := nodup_len (h.sorted.imp (fun hlt e => by rw [e] at hlt; exact Nat.lt_irrefl _ hlt)) (fun x hx => h.path_lt hx)
/-- all are discovered and no visit is open: all components are known -/
theorem TInv.all (h : TInv N d (fun _ => False) s) (hv : ∀ x, x < N → s.idx x ≠ 0) : s.path = [] ∧ ∀ x, x < N → Comp d x (s.out x) := by
 have hp : s.path = [] := by
  match hs : s.path with
  | [] => rfl
  | a :: l =>
   obtain ⟨g, hg, _⟩ := h.down a (by rw [hs]; exact List.mem_cons_self ..)
   exact hg.elim
 refine ⟨hp, fun x hx => (h.fin x ?_).2.2⟩
 rcases Int.lt_or_le (s.out x) 0 with e | e
 ·have := (h.path x).2 ⟨hv x hx, e⟩
  rw [hp] at this
  cases this
 ·exact e
theorem Comp.uniq {x : Nat} {a b : Int} (h : Comp d x a) (k : Comp d x b) : a = b := by
 obtain ⟨p, rfl, h1, h2, h3⟩ := h
 obtain ⟨q, rfl, k1, k2, k3⟩ := k
 have := h3 q k1 k2
 have := k3 p h1 h2
 omega
def init : TS := ⟨fun _ => 0, fun _ => 0, fun _ => -1, [], 0⟩
theorem init_inv (hN : whites N init = N) : TInv N d (fun _ => False) init :=
 ⟨fun x h => absurd rfl h, fun x => Nat.zero_le _, by show 0 + _ = N; omega, fun x => ⟨fun h => (by cases h), fun h => absurd rfl h.1⟩, .nil, fun _ h => h.elim, fun x h => (by cases h), fun _ _ h => h.elim, fun x h => absurd rfl h, fun x h => absurd (show (0 : Int) ≤ -1 from h) (by decide)⟩
theorem whites_init (N : Nat) : whites N init = N := by
 unfold whites
 rw [List.filter_eq_self.2 (fun x _ => by simp [init]), List.length_range]
end
end Go.Proofs.Ytkdjdhflhlbelaa.Tj


import Derived.Test.YtmddchceacmopaaGreatDoorE2
set_option linter.unusedVariables false
set_option linter.unusedSimpArgs false
namespace Go.Proofs.YtmddchceacmopaaGreatDoor
open Go Go.RowKit
structure WebOk8 (S : WebD) : Prop where
 ok : WebOk S
 w8 : S.w ≤ 8
 n8 : S.ins.length ≤ 32
theorem WebOk.row {S : WebD} (h : WebOk S) (i : Nat) : RowOkA S.w S.ins.length (arcW S i) := by
 refine ⟨?_, fun p hp => h.dep hp, fun p hp => h.tr hp⟩
 rcases Nat.lt_or_ge i S.ins.length with hi | hi
 ·rw [arcW_get hi]; exact h.asc _ (List.getElem_mem hi)
 unfold arcW
 rw [List.getElem?_eq_none hi]
 exact List.Pairwise.nil
theorem sum_small : ∀ (l : List ArcsL) (n : Nat), (∀ x ∈ l, x.length ≤ n) → (l.map List.length).sum ≤ l.length * n
 | [], _, _ => Nat.zero_le _
 | x :: l, n, h => by
  have h1 := sum_small l n (fun y hy => h y (List.mem_cons_of_mem _ hy))
  have h2 := h x (List.mem_cons_self ..)
  rw [List.map_cons, List.sum_cons, List.length_cons, Nat.succ_mul]; omega
theorem webOk8_of {w : Nat} {ins : List ArcsL} {bnd : List Nat} (h8 : w ≤ 8) (h1 : 1 ≤ ins.length) (h2 : ins.length ≤ 32) (hb : bnd.length = ins.length) (hr : ∀ l ∈ ins, RowOkA w ins.length l) (hm : ∀ m ∈ bnd, m < 2 ^ w) : WebOk8 ⟨w, ins, bnd⟩ :=
 ⟨⟨Nat.le_trans h8 (by decide), h1, Nat.le_trans h2 (by decide), hb, fun l hl => (hr l hl).asc, fun l hl => (hr l hl).lt, by
  have := sum_small ins 32 (fun x hx => Nat.le_trans (hr x hx).len h2)
  have h3 : ins.length * 32 ≤ 32 * 32 := Nat.mul_le_mul h2 (Nat.le_refl _)
  simp only
  omega, fun l hl => (hr l hl).trs, hm⟩, h8, h2⟩
theorem rowD_set {l : List Nat} {n m i : Nat} (hn : n < l.length) : rowD (l.set n m) i = if i = n then m else rowD l i := by
 unfold rowD
 rw [List.getElem?_set]
 by_cases e : n = i
 ·subst e; simp [hn]
 rw [if_neg e, if_neg (fun h => e h.symm)]
theorem arcW_set {S : WebD} {n i : Nat} {l : ArcsL} {b : List Nat} (hn : n < S.ins.length) : arcW ⟨S.w, S.ins.set n l, b⟩ i = if i = n then l else arcW S i := by
 unfold arcW
 simp only
 rw [List.getElem?_set]
 by_cases e : n = i
 ·subst e; simp [hn]
 rw [if_neg e, if_neg (fun h => e h.symm)]
theorem resS_ok {S : WebD} {n : Nat} {s : TrD} (h : WebOk8 S) (hn : n < S.ins.length) (hs : TrOk s ∧ s.w = S.w) : WebOk8 (resS S n s) := by
 refine webOk8_of h.w8 (by simpa using h.ok.n1) (by simpa using h.n8) (by simp [h.ok.lb]) (fun l hl => ?_) (fun m hm => ?_)
 ·rw [List.length_set]
  rcases List.mem_or_eq_of_mem_set hl with hl | rfl
  ·obtain ⟨i, hi, rfl⟩ := List.getElem_of_mem hl
   rw [← arcW_get hi]; exact h.ok.row i
  exact (h.ok.row n).erase.mapC h.w8 hs
 rcases List.mem_or_eq_of_mem_set hm with hm | rfl
 ·exact h.ok.bnd m hm
 have := app_lt hs.1 (s := rowD S.bnd n) (by rw [hs.2]; exact h.ok.bn n)
 rw [hs.2] at this
 exact this
theorem resolve_ok {S : WebD} {n : Nat} (h : WebOk8 S) (hn : n < S.ins.length) : WebOk8 (resolveW S n) ∧ (resolveW S n).w = S.w ∧ (resolveW S n).ins.length = S.ins.length := by
 unfold resolveW
 split
 ·rename_i hi
  exact ⟨resS_ok h hn (star_ok h.w8 ((h.ok.row n).trs _ (List.getElem_mem hi))), rfl, by simp [resS]⟩
 exact ⟨h, rfl, rfl⟩
theorem resolve_no {S : WebD} {n : Nat} (h : WebOk8 S) (hn : n < S.ins.length) : ∀ p ∈ arcW (resolveW S n) n, p.1 ≠ n := by
 unfold resolveW
 split
 ·rename_i hi
  unfold resS
  rw [arcW_set hn, if_pos rfl]
  intro p hp
  obtain ⟨q, hq, rfl⟩ := List.mem_map.1 hp
  exact erase_no (h.ok.row n).asc hi q hq
 rename_i hi
 exact ixA_none hi
theorem resolve_from {S : WebD} {n i : Nat} (hn : n < S.ins.length) : ∀ p ∈ arcW (resolveW S n) i, ∃ q ∈ arcW S i, p.1 = q.1 := by
 unfold resolveW
 split
 ·rename_i hi
  unfold resS
  rw [arcW_set hn]
  intro p hp
  by_cases e : i = n
  ·rw [if_pos e] at hp
   obtain ⟨q, hq, rfl⟩ := List.mem_map.1 hp
   exact ⟨q, by rw [e]; exact List.mem_of_mem_eraseIdx hq, rfl⟩
  rw [if_neg e] at hp
  exact ⟨p, hp, rfl⟩
 exact fun p hp => ⟨p, hp, rfl⟩
theorem arcW_map {w n i : Nat} {f : Nat → ArcsL} {b : List Nat} (hi : i < n) : arcW ⟨w, (List.range n).map f, b⟩ i = f i := by simp [arcW, hi]
theorem rowD_map {n i : Nat} {f : Nat → Nat} (hi : i < n) : rowD ((List.range n).map f) i = f i := by simp [rowD, hi]
theorem elimIns_ok {R : WebD} {n : Nat} (h : WebOk8 R) (t : Nat) : RowOkA R.w R.ins.length (elimIns R n t) := by
 unfold elimIns
 split
 ·rename_i hi
  exact elimRow_ok h.w8 ((h.ok.row t).trs _ (List.getElem_mem hi.2)) _ _ (h.ok.row n) (h.ok.row t).erase
 exact h.ok.row t
theorem elimBnd_lt {R : WebD} {n : Nat} (h : WebOk8 R) (t : Nat) : elimBnd R n t < 2 ^ R.w := by
 unfold elimBnd
 split
 ·rename_i hi
  obtain ⟨h1, h2⟩ := (h.ok.row t).trs _ (List.getElem_mem hi.2)
  have := app_lt h1 (s := rowD R.bnd n) (by rw [h2]; exact h.ok.bn n)
  rw [h2] at this
  exact orN_lt' (h.ok.bn t) this
 exact h.ok.bn t
theorem elimF_ok {R : WebD} {n : Nat} (h : WebOk8 R) : WebOk8 (elimF R n) := by
 refine webOk8_of h.w8 (by simpa using h.ok.n1) (by simpa using h.n8) (by simp) (fun l hl => ?_) (fun m hm => ?_)
 ·obtain ⟨i, _, rfl⟩ := List.mem_map.1 hl
  simp only [List.length_map, List.length_range]
  exact elimIns_ok h i
 obtain ⟨i, _, rfl⟩ := List.mem_map.1 hm
 exact elimBnd_lt h i
theorem elim_ok {S : WebD} {n : Nat} (h : WebOk8 S) (hn : n < S.ins.length) : WebOk8 (elimW S n) ∧ (elimW S n).w = S.w ∧ (elimW S n).ins.length = S.ins.length := by
 obtain ⟨h1, h2, h3⟩ := resolve_ok h hn
 exact ⟨elimF_ok h1, h2, by simp [elimW, elimF, h3]⟩
theorem elim_from {S : WebD} {n i : Nat} (h : WebOk8 S) (hn : n < S.ins.length) : ∀ p ∈ arcW (elimW S n) i, p.1 ≠ n ∧ ∃ (j : Nat) (q : Nat × TrD), q ∈ arcW S j ∧ p.1 = q.1 := by
 intro p hp
 obtain ⟨h1, h2, h3⟩ := resolve_ok h hn
 have hi : i < (resolveW S n).ins.length := by
  obtain ⟨h4, _⟩ := arcW_mem hp
  simpa [elimW, elimF] using h4
 unfold elimW elimF at hp
 rw [arcW_map hi] at hp
 unfold elimIns at hp
 split at hp
 ·rename_i hc
  rcases elimRow_from _ _ p hp with ⟨q, g1, g2⟩ | ⟨q, g1, g2⟩
  ·obtain ⟨r, g3, g4⟩ := resolve_from hn q g1
   exact ⟨by rw [g2]; exact resolve_no h hn q g1, n, r, g3, by rw [g2, g4]⟩
  obtain ⟨r, g3, g4⟩ := resolve_from hn q (List.mem_of_mem_eraseIdx g1)
  exact ⟨by rw [g2]; exact erase_no (h1.ok.row i).asc hc.2 q g1, i, r, g3, by rw [g2, g4]⟩
 rename_i hc
 obtain ⟨r, g3, g4⟩ := resolve_from hn p hp
 refine ⟨?_, i, r, g3, g4⟩
 by_cases e : i = n
 ·rw [e] at hp; exact resolve_no h hn p hp
 exact ixA_none (fun g => hc ⟨e, g⟩) p hp
def PreW (S : WebD) (vs : List Nat) : Prop := LeW S (nextW S vs) vs
theorem preW_iff {S : WebD} {vs : List Nat} : PreW S vs ↔ ∀ i, i < S.ins.length → LeB (rowD S.bnd i) (rowD vs i) ∧ ∀ p ∈ arcW S i, LeB (applyT p.2 (rowD vs p.1)) (rowD vs i) := by
 unfold PreW LeW nextW
 constructor
 ·intro h i hi
  have h1 := h i hi
  rw [nextToW_row hi] at h1
  exact ⟨fun b hb => h1 b ((rightW_bit S vs i b).2 (.inl hb)), fun p hp b hb => h1 b ((rightW_bit S vs i b).2 (.inr ⟨p, hp, hb⟩))⟩
 intro h i hi b hb
 rw [nextToW_row hi] at hb
 obtain ⟨h1, h2⟩ := h i hi
 rcases (rightW_bit S vs i b).1 hb with hb | ⟨p, hp, hb⟩
 ·exact h1 b hb
 exact h2 p hp b hb
theorem fixW_row {S : WebD} {vs : List Nat} (h : nextW S vs = vs) {i : Nat} (hi : i < S.ins.length) : rowD vs i = rightW S vs i := by
 have h1 : rowD (nextW S vs) i = rowD vs i := congrArg (fun l => rowD l i) h
 unfold nextW at h1
 rw [nextToW_row hi] at h1
 exact h1.symm
theorem fixW_pre {S : WebD} {vs : List Nat} (h : nextW S vs = vs) : PreW S vs := by unfold PreW; rw [h]; exact LeW.refl _ _
theorem same_least {S T : WebD} {r q : Nat} (hS : WebOk S) (hT : WebOk T) (hw : T.w = S.w) (hn : T.ins.length = S.ins.length) (h1 : FixW S r) (h2 : FixW T q)
  (ha : ∀ vs, GoodW S vs → PreW S vs → PreW T vs) (hb : ∀ vs, GoodW S vs → nextW T vs = vs → PreW S vs) : iterW S r = iterW T q := by
 have g1 := goodw_iter hS r
 have g2 := goodw_iter hT q
 have g2' : GoodW S (iterW T q) := ⟨by rw [g2.len, hn], fun m hm => by rw [← hw]; exact g2.lt m hm⟩
 have k1 : LeW T (iterW T q) (iterW S r) := iterW_least hT (ha _ g1 (fixW_pre h1.fix)) q
 have k2 : LeW S (iterW S r) (iterW T q) := iterW_least hS (hb _ g2' h2.fix) r
 exact LeW.anti g1 g2' k2 (fun i hi => k1 i (by rw [hn]; exact hi))
theorem sub_LeB {a b : Nat} : subN a b = true ↔ LeB a b := subN_iff
theorem resolve_pre {S : WebD} {n : Nat} (h : WebOk8 S) (hn : n < S.ins.length) {vs : List Nat} (hv : GoodW S vs) (hp : PreW S vs) : PreW (resolveW S n) vs := by
 unfold resolveW
 split
 ·rename_i hi
  have hP := preW_iff.1 hp
  have hself := (h.ok.row n).trs _ (List.getElem_mem hi)
  have hs := star_ok h.w8 hself
  have hf := ixA_from hi
  obtain ⟨hB, hA⟩ := hP n hn
  have hcl := hA _ (List.getElem_mem hi)
  rw [hf] at hcl
  have hst : ∀ x, x < 2 ^ S.w → LeB x (rowD vs n) → LeB (applyT (starT (arcW S n)[ixA (arcW S n) n].2) x) (rowD vs n) := fun x hx hle =>
   sub_LeB.1 (star_least hself.1 hs.1 (by rw [hself.2]; exact hx) (by rw [hself.2]; exact hv.row n) (sub_LeB.2 hle) (sub_LeB.2 hcl))
  refine preW_iff.2 (fun i hi2 => ?_)
  have hi3 : i < S.ins.length := by simpa [resS] using hi2
  unfold resS
  rw [arcW_set hn]
  simp only
  rw [rowD_set (by rw [h.ok.lb]; exact hn)]
  by_cases e : i = n
  ·subst e
   rw [if_pos rfl, if_pos rfl]
   refine ⟨hst _ (h.ok.bn i) hB, fun p hp => ?_⟩
   obtain ⟨q, hq, rfl⟩ := List.mem_map.1 hp
   have hq2 := List.mem_of_mem_eraseIdx hq
   have hq3 := (h.ok.row i).trs q hq2
   simp only
   rw [comp_val h.w8 hq3 hs (hv.row q.1)]
   have := app_lt hq3.1 (s := rowD vs q.1) (by rw [hq3.2]; exact hv.row q.1)
   rw [hq3.2] at this
   exact hst _ this (hA q hq2)
  rw [if_neg e, if_neg e]
  exact hP i hi3
 exact hp
theorem resolve_post {S : WebD} {n : Nat} (h : WebOk8 S) (hn : n < S.ins.length) {vs : List Nat} (hv : GoodW S vs) (hp : nextW (resolveW S n) vs = vs) : PreW S vs := by
 unfold resolveW at hp
 split at hp
 ·rename_i hi
  have hself := (h.ok.row n).trs _ (List.getElem_mem hi)
  have hs := star_ok h.w8 hself
  have hf := ixA_from hi
  obtain ⟨s, hsd⟩ : ∃ s, s = starT (arcW S n)[ixA (arcW S n) n].2 := ⟨_, rfl⟩
  obtain ⟨g, hgd⟩ : ∃ g, g = (arcW S n)[ixA (arcW S n) n].2 := ⟨_, rfl⟩
  rw [← hsd] at hp hs
  rw [← hgd] at hsd hself
  have hge : ∀ x, x < 2 ^ S.w → LeB x (applyT s x) := fun x hx => by
   rw [hsd]
   exact sub_LeB.1 (star_ge hself.1 (by rw [hself.2]; exact hx) (by rw [← hsd]; exact hs.1))
  have hfx : ∀ x, x < 2 ^ S.w → LeB (applyT g (applyT s x)) (applyT s x) := fun x hx => by
   rw [hsd]
   exact sub_LeB.1 (star_fix hself.1 (by rw [hself.2]; exact hx) (by rw [← hsd]; exact hs.1))
  have hrow : ∀ i, i < S.ins.length → rowD vs i = rightW (resS S n s) vs i := fun i hi => fixW_row hp (by simpa [resS] using hi)
  have hbn : ∀ b, (rowD vs n).testBit b = true ↔ (applyT s (rowD S.bnd n)).testBit b = true ∨ ∃ q ∈ (arcW S n).eraseIdx (ixA (arcW S n) n), (applyT s (applyT q.2 (rowD vs q.1))).testBit b = true := fun b => by
   rw [hrow n hn, rightW_bit]
   unfold resS
   rw [arcW_set hn, if_pos rfl]
   simp only
   rw [rowD_set (by rw [h.ok.lb]; exact hn), if_pos rfl]
   constructor
   ·rintro (h1 | ⟨p, h1, h2⟩)
    ·exact .inl h1
    obtain ⟨q, hq, rfl⟩ := List.mem_map.1 h1
    refine .inr ⟨q, hq, ?_⟩
    rw [← comp_val h.w8 ((h.ok.row n).trs q (List.mem_of_mem_eraseIdx hq)) hs (hv.row q.1)]
    exact h2
   rintro (h1 | ⟨q, hq, h2⟩)
   ·exact .inl h1
   refine .inr ⟨_, List.mem_map.2 ⟨q, hq, rfl⟩, ?_⟩
   simp only
   rw [comp_val h.w8 ((h.ok.row n).trs q (List.mem_of_mem_eraseIdx hq)) hs (hv.row q.1)]
   exact h2
  have hqlt : ∀ q ∈ arcW S n, applyT q.2 (rowD vs q.1) < 2 ^ S.w := fun q hq => by
   have h3 := (h.ok.row n).trs q hq
   have := app_lt h3.1 (s := rowD vs q.1) (by rw [h3.2]; exact hv.row q.1)
   rw [h3.2] at this
   exact this
  refine preW_iff.2 (fun i hi2 => ?_)
  by_cases e : i = n
  ·subst e
   refine ⟨fun b hb => (hbn b).2 (.inl (hge _ (h.ok.bn i) b hb)), fun p hp2 => ?_⟩
   rcases (mem_erase hi).1 hp2 with h1 | h1
   ·exact fun b hb => (hbn b).2 (.inr ⟨p, h1, hge _ (hqlt p hp2) b hb⟩)
   rw [h1, hf, ← hgd]
   intro b hb
   have hb2 : b < g.w := by rw [hself.2]; exact lt_of_bit (by have := app_lt hself.1 (s := rowD vs i) (by rw [hself.2]; exact hv.row i); rw [hself.2] at this; exact this) hb
   rcases (appT_bit hself.1 hb2).1 hb with h2 | ⟨a, h2, h3, h4⟩
   ·exact (hbn b).2 (.inl (hfx _ (h.ok.bn i) b ((appT_bit hself.1 hb2).2 (.inl h2))))
   rcases (hbn a).1 h3 with h5 | ⟨q, hq, h5⟩
   ·exact (hbn b).2 (.inl (hfx _ (h.ok.bn i) b ((appT_bit hself.1 hb2).2 (.inr ⟨a, h2, h5, h4⟩))))
   exact (hbn b).2 (.inr ⟨q, hq, hfx _ (hqlt q (List.mem_of_mem_eraseIdx hq)) b ((appT_bit hself.1 hb2).2 (.inr ⟨a, h2, h5, h4⟩))⟩)
  have h1 := hrow i hi2
  have hb : ∀ b, (rowD vs i).testBit b = true ↔ (rowD S.bnd i).testBit b = true ∨ ∃ q ∈ arcW S i, (applyT q.2 (rowD vs q.1)).testBit b = true := fun b => by
   rw [h1, rightW_bit]
   unfold resS
   rw [arcW_set hn, if_neg e]
   simp only
   rw [rowD_set (by rw [h.ok.lb]; exact hn), if_neg e]
  exact ⟨fun b hx => (hb b).2 (.inl hx), fun p hp2 b hx => (hb b).2 (.inr ⟨p, hp2, hx⟩)⟩
 exact fixW_pre hp
theorem elimF_bit {R : WebD} {n i b : Nat} (h : WebOk8 R) (hi : i < R.ins.length) {vs : List Nat} (hv : GoodW R vs) : (rightW (elimF R n) vs i).testBit b = true ↔ (elimBnd R n i).testBit b = true ∨ HasV vs (elimIns R n i) b := by
 rw [rightW_bit]
 unfold elimF
 rw [arcW_map hi]
 simp only
 rw [rowD_map hi]
 rfl
theorem elimF_pre {R : WebD} {n : Nat} (h : WebOk8 R) (hn : n < R.ins.length) {vs : List Nat} (hv : GoodW R vs) (hp : PreW R vs) : PreW (elimF R n) vs := by
 have hP := preW_iff.1 hp
 intro i hi b hb
 have hi2 : i < R.ins.length := by simpa [elimF] using hi
 unfold nextW at hb
 rw [nextToW_row hi, elimF_bit h hi2 hv] at hb
 unfold elimBnd elimIns at hb
 obtain ⟨h1, h2⟩ := hP i hi2
 by_cases hc : i ≠ n ∧ ixA (arcW R i) n < (arcW R i).length
 ·rw [dif_pos hc, dif_pos hc] at hb
  have hh := (h.ok.row i).trs _ (List.getElem_mem hc.2)
  have hcl := h2 _ (List.getElem_mem hc.2)
  rw [ixA_from hc.2] at hcl
  obtain ⟨hB, hA⟩ := hP n hn
  have hmono : ∀ x, x < 2 ^ R.w → LeB x (rowD vs n) → LeB (applyT (arcW R i)[ixA (arcW R i) n].2 x) (rowD vs i) := fun x hx hle =>
   (app_mono hh.1 (by rw [hh.2]; exact hx) hle).trans hcl
  rcases hb with hb | hb
  ·rcases (orN_bit _ _ b).1 hb with hb | hb
   ·exact h1 b hb
   exact hmono _ (h.ok.bn n) hB b hb
  rcases (elimRow_val h.w8 hh (fun i => hv.row i) _ _ (h.ok.row n) (h.ok.row i).erase).1 hb with ⟨p, hp2, hb⟩ | ⟨p, hp2, hb⟩
  ·exact h2 p (List.mem_of_mem_eraseIdx hp2) b hb
  have h3 := (h.ok.row n).trs p hp2
  have := app_lt h3.1 (s := rowD vs p.1) (by rw [h3.2]; exact hv.row p.1)
  rw [h3.2] at this
  exact hmono _ this (hA p hp2) b hb
 rw [dif_neg hc, dif_neg hc] at hb
 rcases hb with hb | ⟨p, hp2, hb⟩
 ·exact h1 b hb
 exact h2 p hp2 b hb
theorem elimF_post {R : WebD} {n : Nat} (h : WebOk8 R) (hn : n < R.ins.length) {vs : List Nat} (hv : GoodW R vs) (hp : nextW (elimF R n) vs = vs) : PreW R vs := by
 have hlen : (elimF R n).ins.length = R.ins.length := by simp [elimF]
 have hrow : ∀ i, i < R.ins.length → ∀ b, (rowD vs i).testBit b = true ↔ (elimBnd R n i).testBit b = true ∨ HasV vs (elimIns R n i) b := fun i hi b => by
  rw [fixW_row hp (by rw [hlen]; exact hi)]
  exact elimF_bit h hi hv
 have hnn : ∀ b, (rowD vs n).testBit b = true ↔ (rowD R.bnd n).testBit b = true ∨ HasV vs (arcW R n) b := fun b => by
  rw [hrow n hn b]
  unfold elimBnd elimIns
  rw [dif_neg (fun g => g.1 rfl), dif_neg (fun g => g.1 rfl)]
 refine preW_iff.2 (fun i hi => ?_)
 by_cases hc : i ≠ n ∧ ixA (arcW R i) n < (arcW R i).length
 ·have hh := (h.ok.row i).trs _ (List.getElem_mem hc.2)
  have hb : ∀ b, (rowD vs i).testBit b = true ↔ ((rowD R.bnd i).testBit b = true ∨ (applyT (arcW R i)[ixA (arcW R i) n].2 (rowD R.bnd n)).testBit b = true) ∨ (HasV vs ((arcW R i).eraseIdx (ixA (arcW R i) n)) b ∨ ∃ p ∈ arcW R n, (applyT (arcW R i)[ixA (arcW R i) n].2 (applyT p.2 (rowD vs p.1))).testBit b = true) := fun b => by
   rw [hrow i hi b]
   unfold elimBnd elimIns
   rw [dif_pos hc, dif_pos hc, orN_bit, elimRow_val h.w8 hh (fun i => hv.row i) _ _ (h.ok.row n) (h.ok.row i).erase]
  refine ⟨fun b hx => (hb b).2 (.inl (.inl hx)), fun p hp2 => ?_⟩
  rcases (mem_erase hc.2).1 hp2 with h1 | h1
  ·exact fun b hx => (hb b).2 (.inr (.inl ⟨p, h1, hx⟩))
  rw [h1, ixA_from hc.2]
  intro b hx
  have hb2 : b < (arcW R i)[ixA (arcW R i) n].2.w := by rw [hh.2]; exact lt_of_bit (by have := app_lt hh.1 (s := rowD vs n) (by rw [hh.2]; exact hv.row n); rw [hh.2] at this; exact this) hx
  rcases (appT_bit hh.1 hb2).1 hx with h2 | ⟨a, h2, h3, h4⟩
  ·exact (hb b).2 (.inl (.inr ((appT_bit hh.1 hb2).2 (.inl h2))))
  rcases (hnn a).1 h3 with h5 | ⟨q, hq, h5⟩
  ·exact (hb b).2 (.inl (.inr ((appT_bit hh.1 hb2).2 (.inr ⟨a, h2, h5, h4⟩))))
  exact (hb b).2 (.inr (.inr ⟨q, hq, (appT_bit hh.1 hb2).2 (.inr ⟨a, h2, h5, h4⟩)⟩))
 have hb : ∀ b, (rowD vs i).testBit b = true ↔ (rowD R.bnd i).testBit b = true ∨ HasV vs (arcW R i) b := fun b => by
  rw [hrow i hi b]
  unfold elimBnd elimIns
  rw [dif_neg hc, dif_neg hc]
 exact ⟨fun b hx => (hb b).2 (.inl hx), fun p hp2 b hx => (hb b).2 (.inr ⟨p, hp2, hx⟩)⟩
theorem elim_least {S : WebD} {n r q : Nat} (h : WebOk8 S) (hn : n < S.ins.length) (h1 : FixW S r) (h2 : FixW (elimW S n) q) : iterW S r = iterW (elimW S n) q := by
 obtain ⟨g1, g2, g3⟩ := resolve_ok h hn
 obtain ⟨k1, k2, k3⟩ := elim_ok h hn
 obtain ⟨m, hm, -⟩ := fixW_ex g1.ok
 have e1 := same_least h.ok g1.ok g2 g3 h1 hm (fun vs hv hp => resolve_pre h hn hv hp) (fun vs hv hp => resolve_post h hn hv hp)
 have e2 := same_least g1.ok k1.ok (k2.trans g2.symm) (k3.trans g3.symm) hm h2 (fun vs hv hp => elimF_pre g1 (by rw [g3]; exact hn) hv hp) (fun vs hv hp => elimF_post g1 (by rw [g3]; exact hn) hv hp)
 rw [e1, e2]
def reduceW (S : WebD) (keep : Nat → Bool) : Nat → WebD
 | 0 => S
 | k + 1 => if keep k then reduceW S keep k else elimW (reduceW S keep k) k
theorem reduce_ok {S : WebD} {keep : Nat → Bool} (h : WebOk8 S) : ∀ k, k ≤ S.ins.length → WebOk8 (reduceW S keep k) ∧ (reduceW S keep k).w = S.w ∧ (reduceW S keep k).ins.length = S.ins.length
 | 0, _ => ⟨h, rfl, rfl⟩
 | k + 1, hk => by
  obtain ⟨h1, h2, h3⟩ := reduce_ok (keep := keep) h k (by omega)
  rw [reduceW]
  split
  ·exact ⟨h1, h2, h3⟩
  obtain ⟨g1, g2, g3⟩ := elim_ok h1 (n := k) (by omega)
  exact ⟨g1, by rw [g2, h2], by rw [g3, h3]⟩
theorem reduce_from {S : WebD} {keep : Nat → Bool} (h : WebOk8 S) : ∀ k, k ≤ S.ins.length → ∀ i, ∀ p ∈ arcW (reduceW S keep k) i, p.1 < k → keep p.1 = true
 | 0, _, _, _, _, hp => absurd hp (Nat.not_lt_zero _)
 | k + 1, hk, i, p, hp, hpk => by
  obtain ⟨h1, h2, h3⟩ := reduce_ok (keep := keep) h k (by omega)
  rw [reduceW] at hp
  split at hp
  ·rename_i hkp
   by_cases e : p.1 = k
   ·rw [e]; exact hkp
   exact reduce_from h k (by omega) i p hp (by omega)
  obtain ⟨g1, j, q, g2, g3⟩ := elim_from h1 (by omega) p hp
  rw [g3]
  exact reduce_from h k (by omega) j q g2 (by omega)
theorem reduce_least {S : WebD} {keep : Nat → Bool} {r : Nat} (h : WebOk8 S) (h1 : FixW S r) : ∀ k, k ≤ S.ins.length → ∀ q, FixW (reduceW S keep k) q → iterW S r = iterW (reduceW S keep k) q
 | 0, _, q, hq => by
  obtain rfl : q = r := by
   have := h1.eq hq.first hq.fix
   exact this
  rfl
 | k + 1, hk, q, hq => by
  obtain ⟨g1, g2, g3⟩ := reduce_ok (keep := keep) h k (by omega)
  obtain ⟨m, hm, -⟩ := fixW_ex g1.ok
  have e := reduce_least h h1 k (by omega) m hm
  rw [reduceW] at hq ⊢
  by_cases hkp : keep k = true
  ·rw [if_pos hkp] at hq ⊢
   exact reduce_least h h1 k (by omega) q hq
  rw [if_neg hkp] at hq ⊢
  rw [e]
  exact elim_least g1 (by omega) hm hq
theorem reduce_all {S : WebD} {r : Nat} (h : WebOk8 S) (h1 : FixW S r) : iterW S r = (reduceW S (fun _ => false) S.ins.length).bnd := by
 obtain ⟨g1, g2, g3⟩ := reduce_ok (keep := fun _ => false) h S.ins.length (Nat.le_refl _)
 obtain ⟨m, hm, -⟩ := fixW_ex g1.ok
 rw [reduce_least h h1 _ (Nat.le_refl _) m hm]
 have hno : ∀ i, arcW (reduceW S (fun _ => false) S.ins.length) i = [] := fun i => List.eq_nil_iff_forall_not_mem.2 (fun p hp => by
  have := reduce_from h S.ins.length (Nat.le_refl _) i p hp (by rw [← g3]; exact g1.ok.dep hp)
  cases this)
 generalize reduceW S (fun _ => false) S.ins.length = T at *
 have g5 := goodw_iter g1.ok m
 refine ext_row (by rw [g5.len, g1.ok.lb]) (fun i hi => ?_)
 rw [g5.len] at hi
 rw [fixW_row hm.fix hi]
 unfold rightW
 rw [hno i]
 rfl

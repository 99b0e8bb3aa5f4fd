
import Derived.Test.YtjeohlooaiociaaGreatDoorI8
import Derived.Test.YtjeohlooaiociaaGreatDoorI14
set_option linter.unusedVariables false
set_option linter.unusedSimpArgs false
namespace Go.Proofs.YtjeohlooaiociaaGreatDoor.Tj
def upd {α : Type} (f : Nat → α) (n : Nat) (v : α) : Nat → α := fun i => if i = n then v else f i
structure TS where
 idx : Nat → Nat
 low : Nat → Nat
 out : Nat → Int
 path : List Nat
 cnt : Nat
def gn (G : Nat → Prop) (n : Nat) : Nat → Prop := fun x => G x ∨ x = n
def start (s : TS) (n : Nat) : TS := { s with idx := upd s.idx n (s.cnt + 1), low := upd s.low n (s.cnt + 1), path := s.path ++ [n], cnt := s.cnt + 1 }
end Go.Proofs.YtjeohlooaiociaaGreatDoor.Tj

namespace Go.Proofs.YtjeohlooaiociaaGreatDoor
open Go Go.RowKit Tj
def BlkF (w : World) (b : Nat) (T : TypeId) (N : Nat) (f : Nat → Value) : Prop := w.heap[b]? = some (.cells ((List.range N).map f).toArray T (0, 0))
section
variable {w w' : World} {b N : Nat} {T : TypeId} {f : Nat → Value}
theorem BlkF.cell (h : BlkF w b T N f) {i : Nat} (hi : i < N) : w.cell? ⟨b, i, none⟩ = some (f i) := by
 rw [cellOf h]
 simp [hi]
theorem BlkF.free (h : BlkF w b T N f) (j : Nat) : w.frozen? ⟨b, j, none⟩ = false := freeOf h j
theorem BlkF.ext {M : Nat → Prop} (h : BlkF w b T N f) (hx : Ext M w w') (hn : ¬ M b) : BlkF w' b T N f := hx.blk h hn
theorem map_upd (f : Nat → Value) (i : Nat) (v : Value) (N : Nat) : ((List.range N).map f).set i v = (List.range N).map (upd f i v) := by
 refine List.ext_getElem (by simp) (fun j h1 h2 => ?_)
 rw [List.getElem_set]
 simp only [List.getElem_map, List.getElem_range, upd]
 by_cases e : i = j
 ·rw [if_pos e, if_pos e.symm]
 rw [if_neg e, if_neg (fun e2 => e e2.symm)]
theorem BlkF.set (h : BlkF w b T N f) (i : Nat) (v : Value) : BlkF (w.setCell ⟨b, i, none⟩ v) b T N (upd f i v) := by
 have h1 := set_same (j := i) (u := v) h
 rw [List.setIfInBounds_toArray, map_upd] at h1
 exact h1
end
end Go.Proofs.YtjeohlooaiociaaGreatDoor

namespace Go.Proofs.YtjeohlooaiociaaGreatDoor
open Go Go.RowKit Tj
theorem nats_get {l : List Nat} {i : Nat} (hi : i < l.length) : (natsZ l)[i]'(by simpa [natsZ] using hi) = ((l[i] : Nat) : Int) := by simp [natsZ]
theorem nats_len (l : List Nat) : (natsZ l).length = l.length := by simp [natsZ]
theorem IntsN.at {M : Nat → Prop} {w : World} {sl : Value} {l : List Nat} (h : Ints M w .i64 sl (natsZ l)) {i : Nat} (hi : i < l.length) : ∃ b off cap, sl = .slice (some ⟨b, off, none⟩) l.length cap ∧ b < w.heap.size ∧ ¬ M b ∧
  ∀ k (hk : k < l.length), w.cell? ⟨b, off + k, none⟩ = some (.int .i64 ((l[k] : Nat) : Int)) := by
 obtain ⟨b, off, cap, h1, h2, h3, h4⟩ := Ints.at h (i := i) (by rw [nats_len]; exact hi)
 rw [nats_len] at h1
 exact ⟨b, off, cap, h1, h2, h3, fun k hk => by rw [h4 k (by rw [nats_len]; exact hk), nats_get hk]⟩
theorem IntsN.slice {M : Nat → Prop} {w : World} {sl : Value} {l : List Nat} (h : Ints M w .i64 sl (natsZ l)) : ∃ a c, sl = .slice a l.length c := by
 obtain ⟨a, c, e⟩ := Row.slice h
 exact ⟨a, c, by rw [e, nats_len]⟩
theorem IntsN.len {M : Nat → Prop} {w : World} {sl : Value} {l : List Nat} (h : Ints M w .i64 sl (natsZ l)) : l.length ≤ 9223372036854775807 := by
 have := h.2.1
 rw [nats_len] at this
 exact this
theorem IntsN.drop {M : Nat → Prop} {w : World} {b off n cap k : Nat} {p l : List Nat} (h : Ints M w .i64 (.slice (some ⟨b, off, none⟩) n cap) (natsZ (p ++ l))) (hk : k = p.length) (hn : n = k + l.length) :
  Ints M w .i64 (.slice (some ⟨b, off + k, none⟩) l.length (cap - k)) (natsZ l) := by
 subst hn
 subst hk
 have h1 : Row M w 1 (.slice (some ⟨b, off, none⟩) (p.length + l.length) cap) (p.length + l.length) ((natsZ (p ++ l)).map (.int .i64)) := by
  have h := h
  unfold Ints at h
  rw [nats_len, List.length_append] at h
  exact h
 have h2 := h1.drop (k := p.length) (by omega)
 unfold Ints
 rw [nats_len]
 have e : ((natsZ (p ++ l)).map (Value.int .i64)).drop (p.length * 1) = (natsZ l).map (.int .i64) := by simp [natsZ, List.drop_append]
 rw [e, Nat.mul_one, show p.length + l.length - p.length = l.length from by omega] at h2
 exact h2
end Go.Proofs.YtjeohlooaiociaaGreatDoor

namespace Go.Proofs.YtjeohlooaiociaaGreatDoor
open Go Go.RowKit
def HA (X : Nat) (vB vC : Value) : Nat → Prop := fun b => b ≤ X ∨ vB.ownBlock = some b ∨ vC.ownBlock = some b
end Go.Proofs.YtjeohlooaiociaaGreatDoor

namespace Go.Proofs.YtjeohlooaiociaaGreatDoor
open Go Go.RowKit
set_option maxRecDepth 100000 in
set_option maxHeartbeats 4000000 in
theorem pempty_any (S : SysD) (vd vt vb : Value) (W : World) (h : SysAt No W vd vt vb S) :
  Calls Tryz.prog 37 #[.agg #[.int .i64 (S.w : Int), vd, vt, vb]] W (SetsPost No S.w (List.replicate S.deps.length 0) W) := by
 have hnn := h.ok.n2
 have hww := h.ok.w
 obtain ⟨ad, cd, at1, ct, ab, cb, rfl, rfl, rfl⟩ := h.slices
 have hmk := mk_sets S.deps.length (by omega)
 clear h
 go_enter Tryz.func37, Tryz.ntmps37
 go_upto_region 1 with (fail)
 have hxw : Ext No W (W.alloc (.cells #[.int .i64 (S.w : Int), .slice ad S.deps.length cd, .slice at1 S.deps.length ct, .slice ab S.deps.length cb] 27)) := (Ext.refl _ _).alloc _
 have HA := Lib.hid (alloc_top (w := W) (o := (.cells #[.int .i64 (S.w : Int), .slice ad S.deps.length cd, .slice at1 S.deps.length ct, .slice ab S.deps.length cb] 27)) rfl)
 generalize (W.alloc (.cells #[.int .i64 (S.w : Int), .slice ad S.deps.length cd, .slice at1 S.deps.length ct, .slice ab S.deps.length cb] 27)) = V at *
 generalize W.heap.size = A at *
 have HXW := Lib.hid hxw
 clear hxw
 have cA := cellOf HA.out
 have h0 : LOwn kS No (V.alloc (.cells (zeroSets S.deps.length) 50)) V.heap.size (.slice (some ⟨V.heap.size, 0, none⟩) S.deps.length S.deps.length) (List.replicate S.deps.length (zeroS, Value.slice none 0 0)) := by
  refine ⟨?_, fun p hp => ?_⟩
  ·have h := World.ownsRow_lit (base := V.heap.size) (e := 50) (size := 2) V (zeroSets S.deps.length) S.deps.length (Nat.le_refl _) (by simp only [maxLen]; omega) (by simp [zeroSets, madeCells])
   rw [zeroSets_list] at h
   rw [List.length_replicate]
   exact h
  rw [List.eq_of_mem_replicate hp]
  exact (⟨zero_row, by simp [zeroS]⟩ : WordsAt _ _ (.slice none 0 0) zeroS.words)
 have hxz : Ext No V (V.alloc (.cells (zeroSets S.deps.length) 50)) := (Ext.refl _ _).alloc _
 have hAl := lt_of_block HA.out
 have H0 := Lib.hid h0
 have HXZ := Lib.hid hxz
 have HAZ := Lib.hid (hxz.blk HA.out no_no)
 clear h0 hxz
 go_upto_region 2 with (fail)
 clear hmk cA
 generalize (V.alloc (.cells (zeroSets S.deps.length) 50)) = v1 at *
 obtain ⟨gv, hgv⟩ : ∃ gv, gv = V.heap.size := ⟨_, rfl⟩
 rw [← hgv] at H0 ⊢
 have HGV := Lib.hid hgv
 rw [← hgv] at hAl
 clear hgv HA
 go_wp2_with fail
 go_loopw [4, 11] (fun _ i wr => ∃ (k : Nat) (Q : LS), k ≤ S.deps.length ∧ i = .int .i64 k ∧ Hid (LOwn kS No wr gv (.slice (some ⟨gv, 0, none⟩) S.deps.length S.deps.length) Q) ∧ Hid (Q.map Prod.fst = partE S.deps.length k S.w) ∧ Hid (Ext No V wr) ∧ Hid (wr.heap[A]? = some (.cells #[.int .i64 (S.w : Int), .slice ad S.deps.length cd, .slice at1 S.deps.length ct, .slice ab S.deps.length cb] 27 (0, 0)))) (fun _ i _ => S.deps.length - (intOf i).toNat)
 case atStart => exact ⟨0, _, Nat.zero_le _, rfl, H0, Lib.hid (by simp [partE]), HXZ, HAZ⟩
 clear H0 HXZ HAZ
 obtain ⟨k, Q, hk, rfl, hQ, he, hx, hA⟩ := hrel
 rename World => wr
 have hQl : Q.length = S.deps.length := by have := congrArg List.length he.out; simp [partE] at this; omega
 have HQL := Lib.hid hQl
 clear hQl
 by_cases hlt : k < S.deps.length
 ·have hlz : (k : Int) < (S.deps.length : Int) := by omega
  have HKK : Hid (Value.int .i64 ((k : Int) + 1) = .int .i64 ((k + 1 : Nat) : Int)) := Lib.hid (by rw [show ((k + 1 : Nat) : Int) = (k : Int) + 1 from by omega])
  have cA := cellOf hA.out
  go_wp2_with fail
  refine (bempty_any (At gv) S.w _ (fun b e => ?_) hww).mono ?_
  ·unfold At at e; rw [e]; exact (hQ.out.lt _ rfl).2
  rintro e1 w5 ⟨a1, c1, rfl, hs1, hx1⟩
  have hL1 := hQ.out.extNo hx1
  have hso : SetsOwn No w5 gv (.slice (some ⟨gv, 0, none⟩) S.deps.length S.deps.length) Q := ⟨hL1.own, hL1.ok⟩
  obtain ⟨gq, hgq, -, -, -, hcell, hfro⟩ := hso.ownAt (k := k) (by rw [HQL.out]; exact hlt)
  simp only [Option.some.injEq, Addr.mk.injEq, and_true] at hgq
  subst hgq
  obtain ⟨q0, q1⟩ := hcell k (by rw [HQL.out]; exact hlt)
  have hput := Lib.hid (SetsOwn.put (p := (setN S.w 0, .slice a1 (nw S.w) c1)) (by have h := hso; rw [← HQL.out] at h; exact h) (i := k) (by rw [HQL.out]; exact hlt) (hs1.out.words.mono (fun i _ e => by rcases e with e | e; exact e.elim; exact e)))
  rw [HQL.out] at hput
  have hE2 : Ext (At gv) w5 ((w5.setCell ⟨gv, k * 2, none⟩ (.int .i64 (S.w : Int))).setCell ⟨gv, k * 2 + 1, none⟩ (.slice a1 (nw S.w) c1)) := ((Ext.refl (At gv) w5).setAt _ _).setAt _ _
  have hx2 := Lib.hid ((hx.out.transNo hx1).trans2 hE2 (fun i hi e => by unfold At at e; have := HGV.out; omega))
  have hA2 := Lib.hid (hE2.blk (hx1.blk hA.out no_no) (by unfold At; omega))
  have HS := Lib.hid hs1
  clear hcell hL1 hso hx1 hs1 hE2 cA
  go_wp2_with fail
  clear q0 q1 hfro
  go_roundw
  case rel => exact ⟨k + 1, Q.set k (setN S.w 0, .slice a1 (nw S.w) c1), by omega, HKK.out, Lib.hid ⟨by rw [List.length_set, HQL.out]; have h := hput.out.own; rw [List.length_set, HQL.out] at h; exact h, hput.out.ok⟩, Lib.hid (by rw [List.map_set, he.out]; exact partE_set hlt), hx2, hA2⟩
  case measure => simp [intOf]; omega
 have hge : ¬ (k : Int) < (S.deps.length : Int) := by omega
 have hkn : k = S.deps.length := by omega
 have HK := Lib.hid hkn
 clear hkn
 go_wp2_with fail
 go_ret
 have h1 : Q.map Prod.fst = (List.replicate S.deps.length 0).map (setN S.w) := by
  rw [he.out, HK.out]
  simp [partE]
 exact ⟨_, _, by rw [List.length_replicate]; rfl, Lib.hid (by rw [List.length_replicate]; exact (hQ.out.list (fun b hb e => e.elim) (fun _ e => e)).setsV h1 hww (fun m hm => by rw [List.eq_of_mem_replicate hm]; exact Nat.two_pow_pos _)), HXW.out.transNo hx.out⟩
end Go.Proofs.YtjeohlooaiociaaGreatDoor

namespace Go.Proofs.YtjeohlooaiociaaGreatDoor
open Go Go.RowKit
def cntTo (m k : Nat) : Nat := ((List.range k).filter fun b => m.testBit b).length
theorem cntTo_congr {m m' k : Nat} (h : ∀ i, i < k → m.testBit i = m'.testBit i) : cntTo m k = cntTo m' k := by
 unfold cntTo
 rw [List.filter_congr (fun x hx => by rw [h x (List.mem_range.1 hx)])]
theorem cntTo_add (m j k : Nat) : cntTo m (j + k) = cntTo m j + cntTo (m >>> j) k := by
 unfold cntTo
 rw [List.range_add, List.filter_append, List.length_append, List.filter_map, List.length_map]
 congr 2
 refine List.filter_congr (fun x hx => ?_)
 simp [Nat.testBit_shiftRight]
theorem cntTo_high {m w k : Nat} (hm : m < 2 ^ w) (h : w ≤ k) : cntTo m k = cntTo m w := by
 obtain ⟨d, rfl⟩ : ∃ d, k = w + d := ⟨k - w, by omega⟩
 rw [cntTo_add, Nat.shiftRight_eq_div_pow, Nat.div_eq_of_lt hm]
 simp [cntTo]
theorem popB_cnt : ((List.range 256).all fun a => popB a == cntTo a 8) = true := by kernel_rfl
theorem popB_eq {a : Nat} (h : a < 256) : popB a = cntTo a 8 := by
 have h1 := List.all_eq_true.1 popB_cnt a (List.mem_range.2 h)
 simpa using h1
theorem cnt_bytes : ∀ l : List Nat, (∀ a ∈ l, a < 256) → cntTo (ofB l) (8 * l.length) = (l.map fun a => cntTo a 8).sum
 | [], _ => by simp [cntTo]
 | a :: l, h => by
  have ha := h a (List.mem_cons_self ..)
  have ih := cnt_bytes l (fun x hx => h x (List.mem_cons_of_mem _ hx))
  rw [List.length_cons, show 8 * (l.length + 1) = 8 + 8 * l.length from by omega, cntTo_add, List.map_cons, List.sum_cons]
  have e1 : ofB (a :: l) >>> 8 = ofB l := by
   rw [Nat.shiftRight_eq_div_pow]
   simp only [ofB]; omega
  have e2 : cntTo (ofB (a :: l)) 8 = cntTo a 8 := cntTo_congr (fun i hi => by
   have e3 : ofB (a :: l) % 2 ^ 8 = a := by simp only [ofB]; omega
   have e4 := Nat.testBit_mod_two_pow (ofB (a :: l)) 8 i
   rw [e3] at e4
   rw [e4, decide_eq_true hi, Bool.true_and])
  rw [e1, e2, ih]
theorem popN_cnt {x : Nat} (hx : x < 2 ^ 64) : popN x = cntTo x 64 := by
 obtain ⟨l, h1, h2, rfl⟩ := bytes_ex 8 x (by simpa using hx)
 have hb : Bytes l := ⟨h1, h2⟩
 obtain ⟨e1, e2, e3⟩ := pop_parts hb
 have e4 : popN (ofB l) = (l.map popB).sum := by
  obtain ⟨a, b, c, d, e, f, g, i, rfl⟩ := list8 h1
  have hp : ∀ z ∈ [a, b, c, d, e, f, g, i], popB z ≤ 8 := fun z hz => (b1 z (h2 z hz)).2.2.2.2.2.2.1
  simp only [List.forall_mem_cons] at hp
  obtain ⟨ha, hb', hc, hd, he, hf, hg, hi, _⟩ := hp
  have := step4 _ _ _ _ _ _ _ _ ha hb' hc hd he hf hg hi _ _ _ _ e3 rfl rfl rfl
  show popG _ % 128 = _
  unfold popG popF popE
  rw [this]
  simp only [List.map_cons, List.map_nil, List.sum_cons, List.sum_nil]
  omega
 rw [e4, show (64 : Nat) = 8 * l.length from by rw [h1], cnt_bytes l h2]
 congr 1
 exact List.map_congr_left (fun a ha => popB_eq (h2 a ha))
theorem cntN_eq (m : Nat) : ∀ k, cntN m k = cntTo m (64 * k)
 | 0 => by simp [cntN, cntTo]
 | k + 1 => by
  rw [cntN, cntN_eq m k, popN_cnt (wordN_lt m k), show 64 * (k + 1) = 64 * k + 64 from by omega, cntTo_add]
  congr 1
  refine cntTo_congr (fun i hi => ?_)
  unfold wordN
  rw [Nat.testBit_mod_two_pow, decide_eq_true hi, Bool.true_and]
theorem count_members {w m : Nat} (hm : m < 2 ^ w) : cntN m (nw w) = (membersN w m).length := by
 rw [cntN_eq, cntTo_high hm (by unfold nw; omega)]
 unfold membersN
 rw [List.length_map]; rfl
end Go.Proofs.YtjeohlooaiociaaGreatDoor

namespace Go.Proofs.YtjeohlooaiociaaGreatDoor
open Go Go.RowKit
theorem IntsP.at {M : Nat → Prop} {w : World} {sl : Value} {l : List Nat} (h : Ints M w .i64 sl (natsZ l)) {i : Nat} (hi : i < l.length) : ∃ b off cap, sl = .slice (some ⟨b, off, none⟩) l.length cap ∧ b < w.heap.size ∧ ¬ M b ∧
  ∀ k (hk : k < l.length), w.cell? ⟨b, off + k, none⟩ = some (.int .i64 ((l[k] : Nat) : Int)) := by
 have hz : (natsZ l).length = l.length := by simp [natsZ]
 obtain ⟨b, off, cap, h1, h2, h3, h4⟩ := Ints.at h (i := i) (by rw [hz]; exact hi)
 rw [hz] at h1
 exact ⟨b, off, cap, h1, h2, h3, fun k hk => by rw [h4 k (by rw [hz]; exact hk)]; simp [natsZ]⟩
def rkD (R : LD) (n : Nat) : List Int := ((R[n]?).map Prod.fst).getD []
theorem rkD_get {R : LD} {n : Nat} (h : n < R.length) : rkD R n = R[n].1 := by simp [rkD, h]
def memD (S : SysD) (vs : List Nat) (n : Nat) : List Int := membersN S.w (rowD vs n)
structure PrfAt (M : Nat → Prop) (W : World) (S : SysD) (vv vr : Value) (vs : List Nat) (R : LD) : Prop where
 vals : SetsV M W vv S.w vs
 rk : LAt kD M W vr R
 l1 : vs.length = S.deps.length
 l2 : R.length = S.deps.length
 l3 : ∀ n, n < S.deps.length → (rkD R n).length = (memD S vs n).length
section
variable {M M' : Nat → Prop} {W W' : World} {S : SysD} {vv vr : Value} {vs : List Nat} {R : LD}
theorem PrfAt.extNo (h : PrfAt M W S vv vr vs R) (hx : Ext No W W') : PrfAt M W' S vv vr vs R := ⟨h.vals.extNo hx, h.rk.extNo hx, h.l1, h.l2, h.l3⟩
theorem PrfAt.rank (h : PrfAt M W S vv vr vs R) {n : Nat} (hn : n < S.deps.length) : ∃ b off cap a c, vr = .slice (some ⟨b, off, none⟩) R.length cap ∧ W.cell? ⟨b, off + n, none⟩ = some (.slice a (rkD R n).length c) ∧ Hid (Ints M W .i64 (.slice a (rkD R n).length c) (rkD R n)) := by
 have hn2 : n < R.length := by rw [h.l2]; exact hn
 obtain ⟨b, off, cap, h1, _, _, h4⟩ := h.rk.atD hn2
 have h5 := h4 n hn2
 have h6 : Ints M W .i64 R[n].2 R[n].1 := h.rk.ok _ (List.getElem_mem hn2)
 obtain ⟨a, c, e⟩ := Row.slice h6
 rw [rkD_get hn2]
 refine ⟨b, off, cap, a, c, h1, by rw [h5, e], Lib.hid (by rw [← e]; exact h6)⟩
end
theorem Follows_w (t : TrD) (w : Nat) (sg sk sc : Value) (a b : Int) (W : World) (hw : t.w = w) (h : TrAt No W sg sk sc t) : Calls Tryz.prog 122 #[.agg #[.int .i64 (w : Int), sg, .int .i64 (w : Int), sk, sc], .int .i64 a, .int .i64 b] W (BoolPost (followsX t a b) W) := by
 subst hw; exact Follows_any t sg sk sc a b W h
def EarlP (S : SysD) (vs : List Nat) (R : LD) (m : Nat) (b rank : Int) : Prop := ∃ i, ∃ h : i < (memD S vs m).length, ∃ h2 : i < (rkD R m).length, (rkD R m)[i] < rank ∧ followsX (trD S m) (memD S vs m)[i] b = true
set_option maxRecDepth 100000 in
set_option maxHeartbeats 4000000 in
theorem earlier_any (S : SysD) (vd vt vb vv vr : Value) (vs : List Nat) (R : LD) (m : Nat) (b rank : Int) (W : World) (hT : TabW W) (h : SysAt No W vd vt vb S) (hp : PrfAt No W S vv vr vs R) (hm : m < S.deps.length) :
  Calls Tryz.prog 93 #[.agg #[.int .i64 (S.w : Int), vd, vt, vb], .agg #[vv, vr], .int .i64 (m : Int), .int .i64 b, .int .i64 rank] W (Tells (EarlP S vs R m b rank) W) := by
 have H := Lib.hid h
 have HP := Lib.hid hp
 have HT := Lib.hid hT
 have hok := h.ok
 have hnn := hok.n2
 obtain ⟨ad, cd, at1, ct, ab, cb, rfl, rfl, rfl⟩ := h.slices
 obtain ⟨av, cv, rfl⟩ := hp.vals.slice
 obtain ⟨ar, cr, rfl⟩ := hp.rk.slice
 have hmz : (m : Int) < (S.deps.length : Int) := by omega
 have hmz0 : (0 : Int) ≤ (m : Int) := by omega
 have HL1 := Lib.hid hp.l1
 have HL2 := Lib.hid hp.l2
 have HL3 := Lib.hid (hp.l3 m hm)
 clear h hp hT hok
 go_enter Tryz.func93, Tryz.ntmps93
 go_upto_region 1 with (fail)
 have hx0 : Ext No W ((W.alloc (.cells #[.int .i64 (S.w : Int), .slice ad S.deps.length cd, .slice at1 S.deps.length ct, .slice ab S.deps.length cb] 27)).alloc (.cells #[.slice av vs.length cv, .slice ar R.length cr] 29)) := ((Ext.refl _ _).alloc _).alloc _
 have HA := Lib.hid (show ((W.alloc (.cells #[.int .i64 (S.w : Int), .slice ad S.deps.length cd, .slice at1 S.deps.length ct, .slice ab S.deps.length cb] 27)).alloc (.cells #[.slice av vs.length cv, .slice ar R.length cr] 29)).heap[W.heap.size]? = some (.cells #[.int .i64 (S.w : Int), .slice ad S.deps.length cd, .slice at1 S.deps.length ct, .slice ab S.deps.length cb] 27 (0, 0)) from alloc_under (alloc_top rfl))
 have HB := Lib.hid (show ((W.alloc (.cells #[.int .i64 (S.w : Int), .slice ad S.deps.length cd, .slice at1 S.deps.length ct, .slice ab S.deps.length cb] 27)).alloc (.cells #[.slice av vs.length cv, .slice ar R.length cr] 29)).heap[W.heap.size + 1]? = some (.cells #[.slice av vs.length cv, .slice ar R.length cr] 29 (0, 0)) from alloc_top (by simp))
 generalize ((W.alloc (.cells #[.int .i64 (S.w : Int), .slice ad S.deps.length cd, .slice at1 S.deps.length ct, .slice ab S.deps.length cb] 27)).alloc (.cells #[.slice av vs.length cv, .slice ar R.length cr] 29)) = V at *
 generalize W.heap.size = A at *
 obtain ⟨b0, o0, k0, a0, c0, hve, ⟨g0, g1⟩, hset⟩ := (HP.out.extNo hx0).vals.cells (i := m) (by rw [HL1.out]; exact hm)
 simp only [Value.slice.injEq] at hve
 obtain ⟨rfl, -, rfl⟩ := hve
 have hmv : (m : Int) < (vs.length : Int) := by rw [HL1.out]; omega
 have cB := cellOf HB.out
 have HX := Lib.hid hx0
 clear hx0
 go_wp2_with fail
 refine (members_any No S.w (rowD vs m) _ _ (fun _ e => e.elim) (HT.out.ext HX.out) hset.out).mono ?_
 rintro e1 w1 ⟨a1, rfl, hrow, hx1⟩
 have HX1 := Lib.hid (HX.out.transNo hx1)
 have HA1 := Lib.hid (hx1.blk HA.out no_no)
 have HB1 := Lib.hid (hx1.blk HB.out no_no)
 obtain ⟨ms, hms⟩ : ∃ ms, ms = membersN S.w (rowD vs m) := ⟨_, rfl⟩
 rw [← hms] at hrow ⊢
 have HMS := Lib.hid (show memD S vs m = ms from hms.symm)
 have hml : ms.length ≤ 256 := by
  rw [hms]; unfold membersN
  rw [List.length_map]
  have := List.length_filter_le (fun b => (rowD vs m).testBit b) (List.range S.w)
  have hw := H.out.ok.w
  simp at this; omega
 have hl3 := HL3.out
 rw [show memD S vs m = ms from hms.symm] at hl3
 have HL4 := Lib.hid hl3
 clear hl3
 have HR := Lib.hid hrow.out
 clear hms hrow hx1 HX HA HB cB g0 g1 hset
 go_wp2_with fail
 go_loopw [11, 12, 20] (fun _ _ i wr => ∃ k : Nat, k ≤ ms.length ∧ i = .int .i64 k ∧ Hid (Ext No w1 wr) ∧ Hid (∀ j, ∀ h : j < ms.length, ∀ h2 : j < (rkD R m).length, j < k → ¬ ((rkD R m)[j] < rank ∧ followsX (trD S m) ms[j] b = true))) (fun _ _ i _ => ms.length - (intOf i).toNat)
 case atStart => exact ⟨0, Nat.zero_le _, rfl, Lib.hid (Ext.refl _ _), Lib.hid (fun j _ _ hj => absurd hj (Nat.not_lt_zero _))⟩
 obtain ⟨k, hk, rfl, hx, hno⟩ := hrel
 rename World => wr
 have HXR := Lib.hid (HX1.out.transNo hx.out)
 by_cases hlt : k < ms.length
 ·have hlz : (k : Int) < (ms.length : Int) := by omega
  have HKK : Hid (Value.int .i64 ((k : Int) + 1) = .int .i64 ((k + 1 : Nat) : Int)) := Lib.hid (by rw [show ((k + 1 : Nat) : Int) = (k : Int) + 1 from by omega])
  have hlr : k < (rkD R m).length := by rw [HL4.out]; exact hlt
  have hlrz : (k : Int) < ((rkD R m).length : Int) := by omega
  have hmr : (m : Int) < (R.length : Int) := by rw [HL2.out]; omega
  obtain ⟨bm, om, km, hme, -, -, hcm⟩ := Ints.at (show Ints No w1 .i64 _ ms from HR.out) hlt
  simp only [Value.slice.injEq] at hme
  obtain ⟨rfl, -, -⟩ := hme
  have q0 := hx.out.keep (hcm k hlt)
  obtain ⟨br, or, kr, ak, ck, hre, gr, hri⟩ := (HP.out.extNo HXR.out).rank hm
  simp only [Value.slice.injEq] at hre
  obtain ⟨rfl, -, rfl⟩ := hre
  obtain ⟨bi, oi, ki, hie, -, -, hci⟩ := Ints.at hri.out hlr
  simp only [Value.slice.injEq] at hie
  obtain ⟨rfl, -, rfl⟩ := hie
  have q1 := hci k hlr
  have hAr := Lib.hid (hx.out.blk HA1.out no_no)
  have cA := cellOf hAr.out
  have cB := cellOf (hx.out.blk HB1.out no_no)
  obtain ⟨bt, ot, kt, tg, dg, tk, dk, tc, tn, dc, hte, ⟨t0, t1, t2, t3, t4⟩, htr, htw⟩ := (H.out.extNo HXR.out).tr hm
  simp only [Value.slice.injEq] at hte
  obtain ⟨rfl, -, rfl⟩ := hte
  obtain ⟨x, hxx⟩ : ∃ x, x = ms[k] := ⟨_, rfl⟩
  obtain ⟨y, hyy⟩ : ∃ y, y = (rkD R m)[k] := ⟨_, rfl⟩
  rw [← hxx] at q0
  rw [← hyy] at q1
  have HXX := Lib.hid hxx
  have HYY := Lib.hid hyy
  clear hcm hci hxx hyy hri
  by_cases hr : y < rank
  ·have HRR := Lib.hid hr
   go_wp2_with fail
   clear q0 q1 cA cB t0 t1 t2 t3 t4 gr
   refine (Follows_w (trD S m) S.w _ _ _ x b _ htw.out htr.out).mono ?_
   rintro e5 w5 ⟨rfl, hx5⟩
   cases hf : followsX (trD S m) x b with
   | true =>
    have HF := Lib.hid hf
    clear hf
    go_wp2_with fail
    go_ret
    exact ⟨true, rfl, ⟨fun _ => ⟨k, by rw [HMS.out]; exact hlt, hlr, by rw [← HYY.out]; exact HRR.out, by simp only [HMS.out]; rw [← HXX.out]; exact HF.out⟩, fun _ => rfl⟩, HXR.out.transNo hx5⟩
   | false =>
    have HF := Lib.hid hf
    clear hf
    go_wp2_with fail
    go_roundw
    case rel => exact ⟨k + 1, by omega, HKK.out, Lib.hid (hx.out.transNo hx5), Lib.hid (fun j hj hj2 hjk => by
     by_cases e : j = k
     ·subst e
      rw [← HXX.out, HF.out]
      rintro ⟨-, h⟩; cases h
     exact hno.out j hj hj2 (by omega))⟩
    case measure => simp [intOf]; omega
  have HRR := Lib.hid hr
  go_wp2_with fail
  clear q0 q1 cA cB t0 t1 t2 t3 t4 gr
  go_roundw
  case rel => exact ⟨k + 1, by omega, HKK.out, hx, Lib.hid (fun j hj hj2 hjk => by
   by_cases e : j = k
   ·subst e
    rw [← HYY.out]
    exact fun h => HRR.out h.1
   exact hno.out j hj hj2 (by omega))⟩
  case measure => simp [intOf]; omega
 have hge : ¬ (k : Int) < (ms.length : Int) := by omega
 have hkk : k = ms.length := by omega
 go_wp2_with fail
 go_ret
 exact ⟨false, rfl, ⟨fun h => (by cases h), fun ⟨i, hi, hi2, h1, h2⟩ => by
  simp only [HMS.out] at hi h2
  exact absurd ⟨h1, h2⟩ (hno.out i hi hi2 (by omega))⟩, HXR.out⟩


import Derived.Test.YtjeohlooaiociaaGreatDoorI8
import Derived.ProofKit
import Derived.Deep.Slices
set_option linter.unusedVariables false
set_option linter.unusedSimpArgs false
namespace Go.Proofs.YtjeohlooaiociaaGreatDoor.Tj
def upd {α : Type} (f : Nat → α) (n : Nat) (v : α) : Nat → α := fun i => if i = n then v else f i
structure TS where
 idx : Nat → Nat
 low : Nat → Nat
 out : Nat → Int
 path : List Nat
 cnt : Nat
def gn (G : Nat → Prop) (n : Nat) : Nat → Prop := fun x => G x ∨ x = n
def start (s : TS) (n : Nat) : TS := { s with idx := upd s.idx n (s.cnt + 1), low := upd s.low n (s.cnt + 1), path := s.path ++ [n], cnt := s.cnt + 1 }
end Go.Proofs.YtjeohlooaiociaaGreatDoor.Tj

namespace Go.Proofs.YtjeohlooaiociaaGreatDoor
open Go Go.RowKit Tj
def BlkF (w : World) (b : Nat) (T : TypeId) (N : Nat) (f : Nat → Value) : Prop := w.heap[b]? = some (.cells ((List.range N).map f).toArray T (0, 0))
section
variable {w w' : World} {b N : Nat} {T : TypeId} {f : Nat → Value}
theorem BlkF.cell (h : BlkF w b T N f) {i : Nat} (hi : i < N) : w.cell? ⟨b, i, none⟩ = some (f i) := by
 rw [cellOf h]
 simp [hi]
theorem BlkF.free (h : BlkF w b T N f) (j : Nat) : w.frozen? ⟨b, j, none⟩ = false := freeOf h j
theorem BlkF.ext {M : Nat → Prop} (h : BlkF w b T N f) (hx : Ext M w w') (hn : ¬ M b) : BlkF w' b T N f := hx.blk h hn
theorem map_upd (f : Nat → Value) (i : Nat) (v : Value) (N : Nat) : ((List.range N).map f).set i v = (List.range N).map (upd f i v) := by
 refine List.ext_getElem (by simp) (fun j h1 h2 => ?_)
 rw [List.getElem_set]
 simp only [List.getElem_map, List.getElem_range, upd]
 by_cases e : i = j
 ·rw [if_pos e, if_pos e.symm]
 rw [if_neg e, if_neg (fun e2 => e e2.symm)]
theorem BlkF.set (h : BlkF w b T N f) (i : Nat) (v : Value) : BlkF (w.setCell ⟨b, i, none⟩ v) b T N (upd f i v) := by
 have h1 := set_same (j := i) (u := v) h
 rw [List.setIfInBounds_toArray, map_upd] at h1
 exact h1
end
end Go.Proofs.YtjeohlooaiociaaGreatDoor

namespace Go.Proofs.YtjeohlooaiociaaGreatDoor
open Go Go.RowKit Tj
theorem nats_get {l : List Nat} {i : Nat} (hi : i < l.length) : (natsZ l)[i]'(by simpa [natsZ] using hi) = ((l[i] : Nat) : Int) := by simp [natsZ]
theorem nats_len (l : List Nat) : (natsZ l).length = l.length := by simp [natsZ]
theorem IntsN.at {M : Nat → Prop} {w : World} {sl : Value} {l : List Nat} (h : Ints M w .i64 sl (natsZ l)) {i : Nat} (hi : i < l.length) : ∃ b off cap, sl = .slice (some ⟨b, off, none⟩) l.length cap ∧ b < w.heap.size ∧ ¬ M b ∧
  ∀ k (hk : k < l.length), w.cell? ⟨b, off + k, none⟩ = some (.int .i64 ((l[k] : Nat) : Int)) := by
 obtain ⟨b, off, cap, h1, h2, h3, h4⟩ := Ints.at h (i := i) (by rw [nats_len]; exact hi)
 rw [nats_len] at h1
 exact ⟨b, off, cap, h1, h2, h3, fun k hk => by rw [h4 k (by rw [nats_len]; exact hk), nats_get hk]⟩
theorem IntsN.slice {M : Nat → Prop} {w : World} {sl : Value} {l : List Nat} (h : Ints M w .i64 sl (natsZ l)) : ∃ a c, sl = .slice a l.length c := by
 obtain ⟨a, c, e⟩ := Row.slice h
 exact ⟨a, c, by rw [e, nats_len]⟩
theorem IntsN.len {M : Nat → Prop} {w : World} {sl : Value} {l : List Nat} (h : Ints M w .i64 sl (natsZ l)) : l.length ≤ 9223372036854775807 := by
 have := h.2.1
 rw [nats_len] at this
 exact this
theorem IntsN.drop {M : Nat → Prop} {w : World} {b off n cap k : Nat} {p l : List Nat} (h : Ints M w .i64 (.slice (some ⟨b, off, none⟩) n cap) (natsZ (p ++ l))) (hk : k = p.length) (hn : n = k + l.length) :
  Ints M w .i64 (.slice (some ⟨b, off + k, none⟩) l.length (cap - k)) (natsZ l) := by
 subst hn
 subst hk
 have h1 : Row M w 1 (.slice (some ⟨b, off, none⟩) (p.length + l.length) cap) (p.length + l.length) ((natsZ (p ++ l)).map (.int .i64)) := by
  have h := h
  unfold Ints at h
  rw [nats_len, List.length_append] at h
  exact h
 have h2 := h1.drop (k := p.length) (by omega)
 unfold Ints
 rw [nats_len]
 have e : ((natsZ (p ++ l)).map (Value.int .i64)).drop (p.length * 1) = (natsZ l).map (.int .i64) := by simp [natsZ, List.drop_append]
 rw [e, Nat.mul_one, show p.length + l.length - p.length = l.length from by omega] at h2
 exact h2
end Go.Proofs.YtjeohlooaiociaaGreatDoor

namespace Go.Proofs.YtjeohlooaiociaaGreatDoor
open Go Go.RowKit
def HA (X : Nat) (vB vC : Value) : Nat → Prop := fun b => b ≤ X ∨ vB.ownBlock = some b ∨ vC.ownBlock = some b
end Go.Proofs.YtjeohlooaiociaaGreatDoor

namespace Go.Proofs.YtjeohlooaiociaaGreatDoor
open Go Go.RowKit
set_option maxRecDepth 100000 in
set_option maxHeartbeats 4000000 in
theorem pempty_any (S : SysD) (vd vt vb : Value) (W : World) (h : SysAt No W vd vt vb S) :
  Calls Tryz.prog 37 #[.agg #[.int .i64 (S.w : Int), vd, vt, vb]] W (SetsPost No S.w (List.replicate S.deps.length 0) W) := by
 have hnn := h.ok.n2
 have hww := h.ok.w
 obtain ⟨ad, cd, at1, ct, ab, cb, rfl, rfl, rfl⟩ := h.slices
 have hmk := mk_sets S.deps.length (by omega)
 clear h
 go_enter Tryz.func37, Tryz.ntmps37
 go_upto_region 1 with (fail)
 have hxw : Ext No W (W.alloc (.cells #[.int .i64 (S.w : Int), .slice ad S.deps.length cd, .slice at1 S.deps.length ct, .slice ab S.deps.length cb] 27)) := (Ext.refl _ _).alloc _
 have HA := Lib.hid (alloc_top (w := W) (o := (.cells #[.int .i64 (S.w : Int), .slice ad S.deps.length cd, .slice at1 S.deps.length ct, .slice ab S.deps.length cb] 27)) rfl)
 generalize (W.alloc (.cells #[.int .i64 (S.w : Int), .slice ad S.deps.length cd, .slice at1 S.deps.length ct, .slice ab S.deps.length cb] 27)) = V at *
 generalize W.heap.size = A at *
 have HXW := Lib.hid hxw
 clear hxw
 have cA := cellOf HA.out
 have h0 : LOwn kS No (V.alloc (.cells (zeroSets S.deps.length) 50)) V.heap.size (.slice (some ⟨V.heap.size, 0, none⟩) S.deps.length S.deps.length) (List.replicate S.deps.length (zeroS, Value.slice none 0 0)) := by
  refine ⟨?_, fun p hp => ?_⟩
  ·have h := World.ownsRow_lit (base := V.heap.size) (e := 50) (size := 2) V (zeroSets S.deps.length) S.deps.length (Nat.le_refl _) (by simp only [maxLen]; omega) (by simp [zeroSets, madeCells])
   rw [zeroSets_list] at h
   rw [List.length_replicate]
   exact h
  rw [List.eq_of_mem_replicate hp]
  exact (⟨zero_row, by simp [zeroS]⟩ : WordsAt _ _ (.slice none 0 0) zeroS.words)
 have hxz : Ext No V (V.alloc (.cells (zeroSets S.deps.length) 50)) := (Ext.refl _ _).alloc _
 have hAl := lt_of_block HA.out
 have H0 := Lib.hid h0
 have HXZ := Lib.hid hxz
 have HAZ := Lib.hid (hxz.blk HA.out no_no)
 clear h0 hxz
 go_upto_region 2 with (fail)
 clear hmk cA
 generalize (V.alloc (.cells (zeroSets S.deps.length) 50)) = v1 at *
 obtain ⟨gv, hgv⟩ : ∃ gv, gv = V.heap.size := ⟨_, rfl⟩
 rw [← hgv] at H0 ⊢
 have HGV := Lib.hid hgv
 rw [← hgv] at hAl
 clear hgv HA
 go_wp2_with fail
 go_loopw [4, 11] (fun _ i wr => ∃ (k : Nat) (Q : LS), k ≤ S.deps.length ∧ i = .int .i64 k ∧ Hid (LOwn kS No wr gv (.slice (some ⟨gv, 0, none⟩) S.deps.length S.deps.length) Q) ∧ Hid (Q.map Prod.fst = partE S.deps.length k S.w) ∧ Hid (Ext No V wr) ∧ Hid (wr.heap[A]? = some (.cells #[.int .i64 (S.w : Int), .slice ad S.deps.length cd, .slice at1 S.deps.length ct, .slice ab S.deps.length cb] 27 (0, 0)))) (fun _ i _ => S.deps.length - (intOf i).toNat)
 case atStart => exact ⟨0, _, Nat.zero_le _, rfl, H0, Lib.hid (by simp [partE]), HXZ, HAZ⟩
 clear H0 HXZ HAZ
 obtain ⟨k, Q, hk, rfl, hQ, he, hx, hA⟩ := hrel
 rename World => wr
 have hQl : Q.length = S.deps.length := by have := congrArg List.length he.out; simp [partE] at this; omega
 have HQL := Lib.hid hQl
 clear hQl
 by_cases hlt : k < S.deps.length
 ·have hlz : (k : Int) < (S.deps.length : Int) := by omega
  have HKK : Hid (Value.int .i64 ((k : Int) + 1) = .int .i64 ((k + 1 : Nat) : Int)) := Lib.hid (by rw [show ((k + 1 : Nat) : Int) = (k : Int) + 1 from by omega])
  have cA := cellOf hA.out
  go_wp2_with fail
  refine (bempty_any (At gv) S.w _ (fun b e => ?_) hww).mono ?_
  ·unfold At at e; rw [e]; exact (hQ.out.lt _ rfl).2
  rintro e1 w5 ⟨a1, c1, rfl, hs1, hx1⟩
  have hL1 := hQ.out.extNo hx1
  have hso : SetsOwn No w5 gv (.slice (some ⟨gv, 0, none⟩) S.deps.length S.deps.length) Q := ⟨hL1.own, hL1.ok⟩
  obtain ⟨gq, hgq, -, -, -, hcell, hfro⟩ := hso.ownAt (k := k) (by rw [HQL.out]; exact hlt)
  simp only [Option.some.injEq, Addr.mk.injEq, and_true] at hgq
  subst hgq
  obtain ⟨q0, q1⟩ := hcell k (by rw [HQL.out]; exact hlt)
  have hput := Lib.hid (SetsOwn.put (p := (setN S.w 0, .slice a1 (nw S.w) c1)) (by have h := hso; rw [← HQL.out] at h; exact h) (i := k) (by rw [HQL.out]; exact hlt) (hs1.out.words.mono (fun i _ e => by rcases e with e | e; exact e.elim; exact e)))
  rw [HQL.out] at hput
  have hE2 : Ext (At gv) w5 ((w5.setCell ⟨gv, k * 2, none⟩ (.int .i64 (S.w : Int))).setCell ⟨gv, k * 2 + 1, none⟩ (.slice a1 (nw S.w) c1)) := ((Ext.refl (At gv) w5).setAt _ _).setAt _ _
  have hx2 := Lib.hid ((hx.out.transNo hx1).trans2 hE2 (fun i hi e => by unfold At at e; have := HGV.out; omega))
  have hA2 := Lib.hid (hE2.blk (hx1.blk hA.out no_no) (by unfold At; omega))
  have HS := Lib.hid hs1
  clear hcell hL1 hso hx1 hs1 hE2 cA
  go_wp2_with fail
  clear q0 q1 hfro
  go_roundw
  case rel => exact ⟨k + 1, Q.set k (setN S.w 0, .slice a1 (nw S.w) c1), by omega, HKK.out, Lib.hid ⟨by rw [List.length_set, HQL.out]; have h := hput.out.own; rw [List.length_set, HQL.out] at h; exact h, hput.out.ok⟩, Lib.hid (by rw [List.map_set, he.out]; exact partE_set hlt), hx2, hA2⟩
  case measure => simp [intOf]; omega
 have hge : ¬ (k : Int) < (S.deps.length : Int) := by omega
 have hkn : k = S.deps.length := by omega
 have HK := Lib.hid hkn
 clear hkn
 go_wp2_with fail
 go_ret
 have h1 : Q.map Prod.fst = (List.replicate S.deps.length 0).map (setN S.w) := by
  rw [he.out, HK.out]
  simp [partE]
 exact ⟨_, _, by rw [List.length_replicate]; rfl, Lib.hid (by rw [List.length_replicate]; exact (hQ.out.list (fun b hb e => e.elim) (fun _ e => e)).setsV h1 hww (fun m hm => by rw [List.eq_of_mem_replicate hm]; exact Nat.two_pow_pos _)), HXW.out.transNo hx.out⟩


import Derived.Test.YtmddchceacmopaaDoorE9
import Derived.Laws.OwnMore
import Derived.Laws.CopyRow
set_option linter.unusedVariables false
set_option linter.unusedSimpArgs false
namespace Go.Proofs.YtmddchceacmopaaDoor
open Go Go.RowKit
theorem run_copy_rowK {P : Program} (w : World) (dT sT ty elem : TypeId) (k : Nat) (g o dLen dCap : Nat) (a : Addr) (sLen sCap : Nat) (cur : Array Value) (t : TypeId) (cs : List Value)
  (hu : P.underlying dT = some (.slice elem)) (hs : (P.info? elem).map (·.size) = some k)
  (hg : w.heap[g]? = some (.cells cur t (0, 0))) (hn : cs.length = Nat.min sLen dLen * k)
  (hsrc : ∀ j v, cs[j]? = some v → w.cell? (a.add j) = some v) (hfit : o + cs.length ≤ cur.size) (h1 : ∀ v ∈ cs, v.oneCell' = true) :
  (Builtin.copy_ #[dT, sT] ty #[.slice (some ⟨g, o, none⟩) dLen dCap, .slice (some a) sLen sCap]).run P w =
   .ok (goInt (Nat.min sLen dLen)) (w.setRow g (cur.toList.take o ++ cs ++ cur.toList.drop (o + cs.length)).toArray) := by
 have hl := run_loadCells_list (P := P) w a cs hsrc
 have hst := run_storeCells_at P g o t cs 0 cur w hg (by simpa using hfit) h1
 cases hq : P.info? elem with
 | none => simp [hq] at hs
 | some i =>
  have hi : i.size = k := by simpa [hq] using hs
  simp [Builtin.copy_, run_underlying hu, Builtin.lenOf, Builtin.firstCells, sizeOf, typeInfo, hq, hi, ← hn, hl, hst]
theorem wp_copyK {P : Program} {o : Oper} {a : Act} {w : World} {K : Act → World → Prop} {Q : Exit → Act → World → Prop} (d s : Operand) (dT sT : TypeId) (k : Nat)
  (ho : o.op = .call { callee := .builtin .copy, args := #[d, s], argTypes := #[dT, sT] }) (elem : TypeId) (hu : P.underlying dT = some (.slice elem)) (hsz : (P.info? elem).map (·.size) = some k)
  (g off dLen dCap : Nat) (ad : Addr) (sLen sCap : Nat) (hd : a.eval d = .slice (some ⟨g, off, none⟩) dLen dCap) (hs : a.eval s = .slice (some ad) sLen sCap)
  (cur : List Value) (t : TypeId) (hg : w.heap[g]? = some (.cells cur.toArray t (0, 0))) (cs : List Value) (hn : cs.length = Nat.min sLen dLen * k)
  (hsrc : ∀ j v, cs[j]? = some v → w.cell? (ad.add j) = some v) (hfit : off + cs.length ≤ cur.length) (h1 : ∀ v ∈ cs, v.oneCell' = true)
  (h : ∀ w', w'.heap[g]? = some (.cells (cur.take off ++ (cs ++ cur.drop (off + cs.length))).toArray t (0, 0)) → Ext (At g) w w' → K (a.put o.dst (goInt (Nat.min sLen dLen))) w') :
  Oper.wp P o a w K Q := by
 have hrun := run_copy_rowK (P := P) w dT sT o.type elem k g off dLen dCap ad sLen sCap cur.toArray t cs hu hsz hg hn hsrc (by simpa using hfit) h1
 unfold Oper.wp
 simp only [execOp, ho, resolve, invoke, builtin, Sem.run_bind, Sem.run_pure, Result.andThen_ok, List.map_toArray, List.map_cons, List.map_nil, hd, hs, hrun]
 refine h _ (by simpa using setRow_heap w g _ _ t _ hg) ⟨rfl, rfl, rfl, by simp [World.setRow], fun i hi hne => setRow_other w g i _ (fun e => hne e)⟩
theorem wp_app_fits {P : Program} {o : Oper} {a : Act} {w : World} {K : Act → World → Prop} {Q : Exit → Act → World → Prop} (s x : Operand) (t : TypeId)
  (ho : o.op = .call { callee := .builtin .append, args := #[s, x], argTypes := #[t, t] })
  (base : Nat) (e : TypeId) (i : TypeInfo) (size : Nat) (ht : P.underlying t = some (.slice e)) (hi : P.info? e = some i) (hsize : i.size = size)
  (g n cap : Nat) (xs : List Value) (hs : a.eval s = .slice (some ⟨g, 0, none⟩) n cap) (hown : w.ownsRow base e size (.slice (some ⟨g, 0, none⟩) n cap) n xs)
  (A : Addr) (m c : Nat) (news : List Value) (hx : a.eval x = .slice (some A) m c) (hl : news.length = m * size) (hnews : ∀ j u, news[j]? = some u → w.cell? (A.add j) = some u) (h1 : ∀ u ∈ news, u.oneCell' = true)
  (hroom : n + m ≤ cap)
  (h : ∀ w', w'.ownsRow base e size (.slice (some ⟨g, 0, none⟩) (n + m) cap) (n + m) (xs ++ news) → w.grownBy w' (some g) → K (a.put o.dst (.slice (some ⟨g, 0, none⟩) (n + m) cap)) w') : o.wp P a w K Q := by
 obtain ⟨w', hrun, h2, h3⟩ := run_append_fits (P := P) w base t o.type e i size ht hi hsize g n cap xs hown A m c news hl hnews h1 hroom
 unfold Oper.wp execOp
 simp only [ho, resolve, invoke, builtin, Sem.run_bind, Sem.run_pure, Result.andThen_ok, List.map_toArray, List.map_cons, List.map_nil, hs, hx, hrun]
 exact h w' h2 h3
theorem setCells_own {base g cap n size : Nat} {e : TypeId} {xs : List Value} : ∀ (vs : List Value) (o : Nat) (w : World), n * size ≤ o → w.ownsRow base e size (.slice (some ⟨g, 0, none⟩) n cap) n xs → (w.setCells g o vs).ownsRow base e size (.slice (some ⟨g, 0, none⟩) n cap) n xs ∧ Ext (At g) w (w.setCells g o vs)
 | [], _, w, _, h => ⟨h, Ext.refl _ _⟩
 | v :: r, o, w, ho, h => by
  have h1 := (World.ownsRow.stored (w := w) h o v).1
  have e1 : xs.set o v = xs := List.set_eq_of_length_le (by rw [h.1]; exact ho)
  rw [e1] at h1
  obtain ⟨h2, h3⟩ := setCells_own r (o + 1) _ (by omega) h1
  exact ⟨h2, ((Ext.refl (At g) w).setAt o v).trans h3⟩
theorem run_clear_K {P : Program} (w : World) (t e ty : TypeId) (z : Value) (ht : P.underlying t = some (.slice e)) (hv : ∀ w, (zeroValue e).run P w = .ok z w) (b o n c : Nat) (hn : 0 < n)
  (h1 : ∀ v ∈ (Builtin.zeroCells z.cells n).toList, v.oneCell' = true) (hc : ∀ j, j < (Builtin.zeroCells z.cells n).size → (w.cell? ⟨b, o + j, none⟩).isSome = true) (hf : ∀ j, j < (Builtin.zeroCells z.cells n).size → w.frozen? ⟨b, o + j, none⟩ = false) :
  (Builtin.clear_ #[t] ty #[.slice (some ⟨b, o, none⟩) n c]).run P w = .ok (.tuple #[]) (w.setCells b o (Builtin.zeroCells z.cells n).toList) := by
 have hst := run_storeCells_cells (P := P) b o (Builtin.zeroCells z.cells n).toList 0 w (by simpa using hc) (by simpa using hf) h1
 simp only [Nat.add_zero] at hst
 obtain ⟨m, rfl⟩ : ∃ m, n = m + 1 := ⟨n - 1, by omega⟩
 simp [Builtin.clear_, run_underlying ht, hv, hst]
theorem own_cut {w : World} {base g n cap i size : Nat} {e : TypeId} {xs : List Value} (h : w.ownsRow base e size (.slice (some ⟨g, 0, none⟩) n cap) n xs) (hi : i ≤ n) : w.ownsRow base e size (.slice (some ⟨g, 0, none⟩) i cap) i (xs.take (i * size)) := by
 obtain ⟨h1, h2⟩ := h
 rcases h2 with ⟨h3, _⟩ | ⟨g', cap', cur, h3, hb, hg, hnc, hcm, hcs, htake⟩
 ·simp at h3
 simp only [Value.slice.injEq, Option.some.injEq, Addr.mk.injEq, and_true, true_and] at h3
 obtain ⟨rfl, rfl⟩ := h3
 have hm : i * size ≤ n * size := Nat.mul_le_mul_right _ hi
 refine ⟨by rw [List.length_take, h1]; omega, .inr ⟨g, cap, cur, rfl, hb, hg, by omega, hcm, hcs, ?_⟩⟩
 rw [← htake, List.take_take, Nat.min_eq_left hm]
theorem take_flat (K : EK (Int × RawT × Value × Value × Value)) : ∀ (L : LA) (i : Nat), (L.flatMap K.cells).take (i * K.s) = (L.take i).flatMap K.cells
 | [], _ => by simp
 | p :: L, 0 => by simp
 | p :: L, i + 1 => by
  rw [List.flatMap_cons, List.take_succ_cons, List.flatMap_cons, ← take_flat K L i, Nat.succ_mul, Nat.add_comm (i * K.s), List.take_append, K.len]
  rw [List.take_of_length_le (by rw [K.len]; omega), Nat.add_sub_cancel_left]
theorem drop_flat (K : EK (Int × RawT × Value × Value × Value)) : ∀ (L : LA) (i : Nat), (L.flatMap K.cells).drop (i * K.s) = (L.drop i).flatMap K.cells
 | [], _ => by simp
 | p :: L, 0 => by simp
 | p :: L, i + 1 => by
  rw [List.flatMap_cons, List.drop_succ_cons, ← drop_flat K L i, Nat.succ_mul, Nat.add_comm (i * K.s), List.drop_append, K.len]
  rw [List.drop_of_length_le (by rw [K.len]; omega), Nat.add_sub_cancel_left, List.nil_append]
end Go.Proofs.YtmddchceacmopaaDoor

namespace Go.Proofs.YtmddchceacmopaaDoor
open Go Go.RowKit
theorem ixA_eq {l : ArcsL} {n k : Nat} (hk : k < l.length) (h1 : l[k].1 = n) (h2 : ∀ j (hj : j < l.length), j < k → l[j].1 ≠ n) : ixA l n = k := by
 rcases Nat.lt_trichotomy (ixA l n) k with h | h | h
 ·exact absurd (ixA_from (by omega)) (h2 _ (by omega) h)
 ·exact h
 exact absurd h1 (ixA_not h hk)
theorem ixA_no {l : ArcsL} {n : Nat} (h2 : ∀ j (hj : j < l.length), l[j].1 ≠ n) : ¬ ixA l n < l.length := fun h => h2 _ h (ixA_from h)
def IxPost (l : ArcsL) (n : Nat) (W : World) (e : Ending) (w' : World) : Prop :=
 ((ixA l n < l.length ∧ e = .returned (.int .i64 (ixA l n : Int))) ∨ (¬ ixA l n < l.length ∧ e = .returned (.int .i64 (-1)))) ∧ Ext No W w'
theorem arc1_any (m n w : Nat) (ag ak ac : Option Addr) (cg ck nc cc : Nat) (g : Nat) (W : World) (h0 : W.cell? ⟨g, 0, none⟩ = some (.int .i64 (n : Int))) :
  Calls Tryd.prog 68 #[.agg #[.int .i64 (m : Int), .int .i64 (w : Int), .slice ag (nw w) cg, .int .i64 (w : Int), .slice ak (nw w) ck, .slice ac nc cc], .pointer (some ⟨g, 0, none⟩)] W (Tells (m = n) W) := by
 have hx0 : Ext No W (W.alloc (.cells #[.int .i64 (m : Int), .int .i64 (w : Int), .slice ag (nw w) cg, .int .i64 (w : Int), .slice ak (nw w) ck, .slice ac nc cc] 33)) := (Ext.refl _ _).alloc _
 have c0 := hx0.keep h0
 have hltg := World.block_lt_of_cell? W _ h0
 by_cases hmn : m = n
 ·have hz : ((m : Int) == (n : Int)) = true := by simp [hmn]
  have HMN := Lib.hid hmn
  clear hmn
  go_enter Tryd.func68, Tryd.ntmps68
  go_wp2_with fail
  go_ret
  exact tells_true HMN.out hx0
 have hz : ((m : Int) == (n : Int)) = false := by simp; omega
 have HMN := Lib.hid hmn
 clear hmn
 go_enter Tryd.func68, Tryd.ntmps68
 go_wp2_with fail
 go_ret
 exact tells_false HMN.out hx0
set_option maxRecDepth 100000 in
set_option maxHeartbeats 2000000 in
theorem indexArc_any (n w : Nat) (g : Nat) (sl : Value) (l : ArcsL) (W : World) (hr : ∀ p ∈ l, TrOk p.2 ∧ p.2.w = w) (h : ArcsW No W sl l) (hl : l.length ≤ 1024) (h0 : W.cell? ⟨g, 0, none⟩ = some (.int .i64 (n : Int))) :
  Calls Tryd.prog 66 #[sl, .func (.func 68) #[] #[.pointer (some ⟨g, 0, none⟩)]] W (IxPost l n W) := by
 have H := Lib.hid h
 have HR := Lib.hid hr
 obtain ⟨a, cap, rfl⟩ := h.slice
 clear h hr
 obtain ⟨N, hN⟩ : ∃ N, N = l.length := ⟨_, rfl⟩
 rw [← hN] at H hl ⊢
 have HNN := Lib.hid hN
 clear hN
 go_enter Tryd.func66, Tryd.ntmps66
 go_wp2_with fail
 go_loopw [5, 8] (fun _ i wr => ∃ k : Nat, k ≤ N ∧ i = .int .i64 k ∧ Hid (Ext No W wr) ∧ Hid (∀ j (hj : j < l.length), j < k → l[j].1 ≠ n)) (fun _ i _ => N - (intOf i).toNat)
 case atStart => exact ⟨0, Nat.zero_le _, rfl, Lib.hid (Ext.refl _ _), Lib.hid (fun j _ hj => absurd hj (Nat.not_lt_zero _))⟩
 obtain ⟨k, hk, rfl, hx, hm⟩ := hrel
 rename World => wr
 by_cases hlt : k < N
 ·have hlz : (k : Int) < (N : Int) := by omega
  have HKK : Hid (Value.int .i64 ((k : Int) + 1) = .int .i64 ((k + 1 : Nat) : Int)) := Lib.hid (by rw [show ((k + 1 : Nat) : Int) = (k : Int) + 1 from by omega])
  have hkl : k < l.length := by rw [← HNN.out]; exact hlt
  obtain ⟨⟨m, f⟩, hmf⟩ : ∃ q : Nat × TrD, q = l[k] := ⟨_, rfl⟩
  obtain ⟨b, off, cap', ag, cg, ak, ck, ac, nc, cc, hsl, gt, -, -⟩ := ArcsW.at HR.out (H.out.extNo hx.out) hkl hmf
  rw [← HNN.out] at hsl
  simp only [Value.slice.injEq] at hsl
  obtain ⟨rfl, -, rfl⟩ := hsl
  obtain ⟨q0, q1, q2, q3, q4, q5⟩ := gt
  have HMF := Lib.hid (show l[k].1 = m from by rw [← hmf])
  clear hmf
  go_wp2_with fail
  clear q0 q1 q2 q3 q4 q5
  go_at_call 68
  refine (arc1_any m n w ag ak ac cg ck nc cc g _ (hx.out.keep h0)).mono ?_
  rintro e1 w1 ⟨bb, rfl, hbb, hx1⟩
  cases bb with
  | true =>
   have HBB := Lib.hid (tells_yes hbb)
   clear hbb
   go_wp2_with fail
   go_ret
   have e := ixA_eq hkl (HMF.out.trans HBB.out) hm.out
   exact ⟨.inl ⟨by rw [e]; exact hkl, by rw [e]; rfl⟩, hx.out.transNo hx1⟩
  | false =>
   have HBB := Lib.hid (tells_no hbb)
   clear hbb
   go_wp2_with fail
   go_roundw
   case rel => exact ⟨k + 1, by omega, HKK.out, Lib.hid (hx.out.transNo hx1), Lib.hid (fun j hj hjk => by
    by_cases e : j = k
    ·subst e
     rw [HMF.out]
     exact HBB.out
    exact hm.out j hj (by omega))⟩
   case measure => simp [intOf]; omega
 have hge : ¬ (k : Int) < (N : Int) := by omega
 go_wp2_with fail
 go_ret
 exact ⟨.inr ⟨ixA_no (fun j hj => hm.out j hj (by have := HNN.out; omega)), rfl⟩, hx.out⟩
theorem arc_any (n w : Nat) (sl : Value) (l : ArcsL) (W : World) (hr : ∀ p ∈ l, TrOk p.2 ∧ p.2.w = w) (h : ArcsW No W sl l) (hl : l.length ≤ 1024) :
  Calls Tryd.prog 44 #[sl, .int .i64 (n : Int)] W (IxPost l n W) := by
 have H := Lib.hid h
 have HR := Lib.hid hr
 have HL := Lib.hid hl
 obtain ⟨a, cap, rfl⟩ := h.slice
 clear h hr
 obtain ⟨N, hN⟩ : ∃ N, N = l.length := ⟨_, rfl⟩
 rw [← hN] at H ⊢
 clear hN
 go_enter Tryd.func44, Tryd.ntmps44
 go_wp2_with fail
 have hx0 : Ext No W (W.alloc (.cells #[.int .i64 (n : Int)] 3)) := (Ext.refl _ _).alloc _
 have hc := cellOf (alloc_top (w := W) (o := (.cells #[.int .i64 (n : Int)] 3)) rfl) 0
 refine (indexArc_any n w W.heap.size _ l _ HR.out (H.out.extNo hx0) HL.out (by simp [hc])).mono ?_
 rintro e1 w1 ⟨hh, hx1⟩
 have HX := Lib.hid (hx0.transNo hx1)
 clear hx0 hx1 hc
 rcases hh with ⟨h1, rfl⟩ | ⟨h1, rfl⟩
 ·have H1 := Lib.hid h1
  clear h1
  go_wp2_with fail
  go_ret
  exact ⟨.inl ⟨H1.out, rfl⟩, HX.out⟩
 have H1 := Lib.hid h1
 clear h1
 go_wp2_with fail
 go_ret
 exact ⟨.inr ⟨H1.out, rfl⟩, HX.out⟩
end Go.Proofs.YtmddchceacmopaaDoor

namespace Go.Proofs.YtmddchceacmopaaDoor
open Go Go.RowKit
def posA (l : ArcsL) (x : Nat) : Nat := (l.takeWhile (fun p => p.1 < x)).length
theorem posA_le (l : ArcsL) (x : Nat) : posA l x ≤ l.length := (List.takeWhile_sublist _).length_le
theorem posA_iff {l : ArcsL} {x : Nat} (h : (froms l).Pairwise (· < ·)) {k : Nat} (hk : k < l.length) : l[k].1 < x ↔ k < posA l x := by
 have hp := List.takeWhile_append_dropWhile (p := fun p : Nat × TrD => decide (p.1 < x)) (l := l)
 constructor
 ·intro h1
  rcases Nat.lt_or_ge k (posA l x) with h2 | h2
  ·exact h2
  exfalso
  have h3 : posA l x < l.length := by omega
  have h4 : ¬ l[posA l x].1 < x := by
   have h5 : l.dropWhile (fun p => decide (p.1 < x)) ≠ [] := fun e => by
    have := congrArg List.length hp
    rw [e, List.append_nil] at this
    unfold posA at h3; omega
   have h6 := List.head_dropWhile_not (fun p : Nat × TrD => decide (p.1 < x)) h5
   have h7 : l[posA l x] = (l.dropWhile (fun p => decide (p.1 < x))).head h5 := by
    have h8 : l[posA l x]? = some ((l.dropWhile (fun p => decide (p.1 < x))).head h5) := by
     have h9 : l[posA l x]? = (l.takeWhile (fun p => decide (p.1 < x)) ++ l.dropWhile (fun p => decide (p.1 < x)))[posA l x]? := by rw [hp]
     rw [h9, List.getElem?_append_right (by unfold posA; omega)]
     unfold posA
     rw [Nat.sub_self, ← List.head?_eq_getElem?, List.head?_eq_some_head h5]
    rw [List.getElem?_eq_getElem h3] at h8
    exact Option.some.inj h8
   rw [h7]
   simpa using h6
  rcases Nat.lt_or_ge (posA l x) k with h5 | h5
  ·have := pair_get h h3 hk h5; omega
  have e : posA l x = k := by omega
  simp only [e] at h4
  exact h4 h1
 intro h1
 have h2 : l[k] = (l.takeWhile (fun p => decide (p.1 < x)))[k]'h1 := by
  have h3 : l[k]? = (l.takeWhile (fun p => decide (p.1 < x)))[k]? := by
   have h9 : l[k]? = (l.takeWhile (fun p => decide (p.1 < x)) ++ l.dropWhile (fun p => decide (p.1 < x)))[k]? := by rw [hp]
   rw [h9, List.getElem?_append_left h1]
  rw [List.getElem?_eq_getElem hk, List.getElem?_eq_getElem h1] at h3
  exact Option.some.inj h3
 rw [h2]
 exact asc_take _ (List.getElem_mem h1)
theorem insA_pos (l : ArcsL) (a : Nat × TrD) : insA l a = l.take (posA l a.1) ++ a :: l.drop (posA l a.1) := by
 have hp := List.takeWhile_append_dropWhile (p := fun p : Nat × TrD => decide (p.1 < a.1)) (l := l)
 have h1 : l.take (posA l a.1) = l.takeWhile (fun p => decide (p.1 < a.1)) := by
  have h9 : l.take (posA l a.1) = (l.takeWhile (fun p => decide (p.1 < a.1)) ++ l.dropWhile (fun p => decide (p.1 < a.1))).take (posA l a.1) := by rw [hp]
  rw [h9]
  exact List.take_left' rfl
 have h2 : l.drop (posA l a.1) = l.dropWhile (fun p => decide (p.1 < a.1)) := by
  have h9 : l.drop (posA l a.1) = (l.takeWhile (fun p => decide (p.1 < a.1)) ++ l.dropWhile (fun p => decide (p.1 < a.1))).drop (posA l a.1) := by rw [hp]
  rw [h9]
  exact List.drop_left' rfl
 unfold insA
 rw [h1, h2]
theorem join1_any (m x w : Nat) (ag ak ac : Option Addr) (cg ck nc cc : Nat) (W : World) :
  Calls Tryd.prog 74 #[.agg #[.int .i64 (m : Int), .int .i64 (w : Int), .slice ag (nw w) cg, .int .i64 (w : Int), .slice ak (nw w) ck, .slice ac nc cc], .int .i64 (x : Int)] W (fun e w' => e = .returned (.int .i64 (cmpZ (m : Int) (x : Int))) ∧ Ext No W w') := by
 have hx0 : Ext No W (W.alloc (.cells #[.int .i64 (m : Int), .int .i64 (w : Int), .slice ag (nw w) cg, .int .i64 (w : Int), .slice ak (nw w) ck, .slice ac nc cc] 33)) := (Ext.refl _ _).alloc _
 go_enter Tryd.func74, Tryd.ntmps74
 go_wp2_with fail
 refine (cmp_any (m : Int) (x : Int) _).mono ?_
 rintro e1 w1 ⟨rfl, hw⟩
 rw [← hw]
 clear hw
 go_wp2_with fail
 go_ret
 exact ⟨rfl, hx0⟩
theorem cmpZ_lt {m x : Nat} : cmpZ (m : Int) (x : Int) < 0 ↔ m < x := by
 unfold cmpZ
 split
 ·omega
 split <;> omega
def BsPost (l : ArcsL) (x : Nat) (W : World) (e : Ending) (w' : World) : Prop := ∃ b : Bool, e = .returned (.tuple #[.int .i64 (posA l x : Int), .bool b]) ∧ Ext No W w'
set_option maxRecDepth 100000 in
set_option maxHeartbeats 4000000 in
theorem bsearch_any (x w : Nat) (sl : Value) (l : ArcsL) (W : World) (hasc : (froms l).Pairwise (· < ·)) (hr : ∀ p ∈ l, TrOk p.2 ∧ p.2.w = w) (h : ArcsW No W sl l) (hl : l.length ≤ 1024) :
  Calls Tryd.prog 73 #[sl, .int .i64 (x : Int), .func (.func 74) #[] #[]] W (BsPost l x W) := by
 have H := Lib.hid h
 have HR := Lib.hid hr
 have HA := Lib.hid hasc
 obtain ⟨a, cap, rfl⟩ := h.slice
 clear h hr hasc
 have hpos := posA_le l x
 obtain ⟨N, hN⟩ : ∃ N, N = l.length := ⟨_, rfl⟩
 rw [← hN] at H hl hpos ⊢
 have HNN := Lib.hid hN
 clear hN
 obtain ⟨P, hP⟩ : ∃ P, P = posA l x := ⟨_, rfl⟩
 rw [← hP] at hpos
 have HP := Lib.hid hP
 clear hP
 go_enter Tryd.func73, Tryd.ntmps73
 go_wp2_with fail
 go_loopw [9, 10, 11] (fun s9 s10 _ wr => ∃ i j : Nat, s9 = .int .i64 (i : Int) ∧ s10 = .int .i64 (j : Int) ∧ i ≤ P ∧ P ≤ j ∧ j ≤ N ∧ Hid (Ext No W wr)) (fun s9 s10 _ _ => (intOf s10).toNat - (intOf s9).toNat)
 case atStart => exact ⟨0, N, rfl, rfl, Nat.zero_le _, hpos, Nat.le_refl _, Lib.hid (Ext.refl _ _)⟩
 obtain ⟨i, j, rfl, rfl, hi, hj, hjn, hx⟩ := hrel
 rename World => wr
 by_cases hlt : i < j
 ·have hlz : (i : Int) < (j : Int) := by omega
  obtain ⟨q, hq⟩ : ∃ q : Nat, q = (i + j) / 2 := ⟨_, rfl⟩
  have hqi : i ≤ q := by omega
  have hqj : q < j := by omega
  have HQZ := Lib.hid (show ((i : Int) + (j : Int)) / 2 = (q : Int) from by omega)
  clear hq
  have hqN : q < N := by omega
  have hqz : (q : Int) < (N : Int) := by omega
  have hql : q < l.length := by rw [← HNN.out]; exact hqN
  obtain ⟨⟨mm, f⟩, hmf⟩ : ∃ p : Nat × TrD, p = l[q] := ⟨_, rfl⟩
  obtain ⟨b, off, cap', ag, cg, ak, ck, ac, nc, cc, hsl, gt, -, -⟩ := ArcsW.at HR.out (H.out.extNo hx.out) hql hmf
  rw [← HNN.out] at hsl
  simp only [Value.slice.injEq] at hsl
  obtain ⟨rfl, -, rfl⟩ := hsl
  obtain ⟨q0, q1, q2, q3, q4, q5⟩ := gt
  have HMP := Lib.hid (show mm < x ↔ q < P from by rw [HP.out, ← posA_iff HA.out hql, ← hmf])
  have HQ1 : Hid (Value.int .i64 ((q : Int) + 1) = .int .i64 ((q + 1 : Nat) : Int)) := Lib.hid (by rw [show ((q + 1 : Nat) : Int) = (q : Int) + 1 from by omega])
  clear hmf hql
  go_upto_region 5 with (fail)
  rw [HQZ.out]
  go_wp2_with fail
  clear q0 q1 q2 q3 q4 q5
  go_at_call 74
  refine (join1_any mm x w ag ak ac cg ck nc cc _).mono ?_
  rintro e1 w1 ⟨rfl, hx1⟩
  by_cases hc : mm < x
  ·have hcz := cmpZ_lt.2 hc
   have hqP := HMP.out.1 hc
   go_wp2_with fail
   go_roundw
   case rel => exact ⟨q + 1, j, HQ1.out, rfl, by omega, hj, hjn, Lib.hid (hx.out.transNo hx1)⟩
   case measure => simp [intOf]; omega
  have hcz : ¬ cmpZ (mm : Int) (x : Int) < 0 := fun h => hc (cmpZ_lt.1 h)
  have hqP : ¬ q < P := fun h => hc (HMP.out.2 h)
  go_wp2_with fail
  go_roundw
  case rel => exact ⟨i, q, rfl, rfl, hi, by omega, by omega, Lib.hid (hx.out.transNo hx1)⟩
  case measure => simp [intOf]; omega
 have hge : ¬ (i : Int) < (j : Int) := by omega
 have hiP : i = P := by omega
 subst hiP
 have HP2 := Lib.hid (show posA l x = i from HP.out.symm)
 by_cases hlt : i < N
 ·have hlz : (i : Int) < (N : Int) := by omega
  have hql : i < l.length := by rw [← HNN.out]; exact hlt
  obtain ⟨⟨mm, f⟩, hmf⟩ : ∃ p : Nat × TrD, p = l[i] := ⟨_, rfl⟩
  obtain ⟨b, off, cap', ag, cg, ak, ck, ac, nc, cc, hsl, gt, -, -⟩ := ArcsW.at HR.out (H.out.extNo hx.out) hql hmf
  rw [← HNN.out] at hsl
  simp only [Value.slice.injEq] at hsl
  obtain ⟨rfl, -, rfl⟩ := hsl
  obtain ⟨q0, q1, q2, q3, q4, q5⟩ := gt
  clear hmf hql
  go_wp2_with fail
  clear q0 q1 q2 q3 q4 q5
  go_at_call 74
  refine (join1_any mm x w ag ak ac cg ck nc cc _).mono ?_
  rintro e1 w1 ⟨rfl, hx1⟩
  go_wp2_with fail
  refine ret_ex rfl ?_
  simp [results, Tryd.results73, go_sem]
  exact ⟨_, by rw [HP2.out], hx.out.transNo hx1⟩
 have hlz : ¬ (i : Int) < (N : Int) := by omega
 go_wp2_with fail
 refine ret_ex rfl ?_
 simp [results, Tryd.results73, go_sem]
 exact ⟨_, by rw [HP2.out], hx.out⟩

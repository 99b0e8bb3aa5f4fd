/- Merged: N10 N11 -/
import Derived.Test.YtfejidihocoboaaN9
import Derived.Test.YtfejidihocoboaaI12
import Derived.Test.YtfejidihocoboaaTrF
import Derived.Test.YtfejidihocoboaaHeld
import Derived.Test.YtfejidihocoboaaFL
import Derived.Test.YtfejidihocoboaaHeldL
import Derived.Deep.LoopGhost
import Derived.Laws.OwnMore
import Derived.Laws.CopyRow
import Derived.Laws.MakeOwn
import Derived.Lib.AppendZerosOnto
import Derived.Lib.Overlaps
import Derived.Laws.NewBlocks
import Derived.Test.YtfejidihocoboaaTrB
import Derived.Test.YtfejidihocoboaaTrC
import Derived.Test.YtfejidihocoboaaSp1
set_option linter.unusedVariables false
set_option linter.unusedSimpArgs false
/- N10 -/
namespace Go.Proofs.Ytfejidihocoboaa
open Go Go.RowKit
open Go.Maps (Keyed)
def delR (hB : Key3 → Bool) (D : List Key3) (R : Value → Value → Prop) : Value → Value → Prop := fun y v => (∀ x ∈ D, hB x = true → y ≠ keyV x) ∧ R y v
theorem delR_step (hB : Key3 → Bool) (D : List Key3) (x : Key3) (R : Value → Value → Prop) (y v : Value) : (¬ (hB x = true ∧ y = keyV x) ∧ delR hB D R y v) ↔ delR hB (D ++ [x]) R y v := by
  unfold delR
  simp only [List.mem_append, List.mem_singleton]
  constructor
  · rintro ⟨h1, h2, h3⟩
    exact ⟨fun q hq hb e => by
      rcases hq with hq | rfl
      · exact h2 q hq hb e
      · exact h1 ⟨hb, e⟩, h3⟩
  · rintro ⟨h1, h2⟩
    exact ⟨fun h3 => h1 x (.inr rfl) h3.1 h3.2, fun q hq => h1 q (.inl hq), h2⟩
theorem delR_none {hB : Key3 → Bool} {D : List Key3} (h : ∀ x ∈ D, hB x = false) (R : Value → Value → Prop) (y v : Value) : delR hB D R y v ↔ R y v := by
  unfold delR
  exact ⟨fun q => q.2, fun q => ⟨fun x hx hb => absurd hb (by rw [h x hx]; decide), q⟩⟩
def FirstD (hB : Key3 → Bool) (bm : Nat) (K : List Key3) (R : Value → Value → Prop) (W : World) (e : Ending) (w' : World) : Prop :=
  ∃ i : Nat, i ≤ K.length ∧ e = .returned (.int .i64 (if i < K.length then (i : Int) else -1)) ∧ Hid (∀ j (h : j < K.length), j < i → hB K[j] = false) ∧ Hid (∀ h : i < K.length, hB K[i] = true) ∧ Hid (MapR Try.prog 68 w' bm (delR hB (K.take (i + 1)) R)) ∧ Ext (At bm) W w'
set_option maxRecDepth 100000 in
set_option maxHeartbeats 4000000 in
theorem kindexf_any (hB : Key3 → Bool) (bm : Nat) (c1 c2 : Value) (Ok : World → Prop) (hF : DelFn hB bm c1 c2 Ok) (hOk : ∀ w w', Ok w → Ext (At bm) w w' → Ok w') (sl : Value) (K : List Key3) (R : Value → Value → Prop) (W : World) (hO : Ok W) (h : LAt kK (At bm) W sl K) (hok : ∀ x ∈ K, KeyOk x) (hR : MapR Try.prog 68 W bm R) :
    Calls Try.prog 76 #[sl, .func (.func 64) #[] #[c1, c2]] W (FirstD hB bm K R W) := by
  have H := Lib.hid h
  have HOK := Lib.hid hok
  have HO := Lib.hid hO
  have HOX := Lib.hid hOk
  have HF := Lib.hid hF
  have hlen63 := h.row.2.1
  obtain ⟨a, cap, rfl⟩ := h.slice
  obtain ⟨N, hN⟩ : ∃ N, N = K.length := ⟨_, rfl⟩
  rw [← hN] at H hlen63 ⊢
  have HN := Lib.hid hN
  have HR0 := Lib.hid hR
  clear h hN hok hO hOk hF hR
  go_enter Try.func76, Try.ntmps76
  go_wp2_with fail
  go_loopw [8] (fun i wr => ∃ k : Nat, i = .int .i64 k ∧ k ≤ N ∧ Hid (Ext (At bm) W wr) ∧ Hid (MapR Try.prog 68 wr bm R) ∧ Hid (∀ j (hj : j < K.length), j < k → hB K[j] = false)) (fun i _ => N - (intOf i).toNat)
  case atStart => exact ⟨0, rfl, Nat.zero_le _, Lib.hid (Ext.refl _ _), HR0, Lib.hid (fun j _ hj => absurd hj (Nat.not_lt_zero _))⟩
  case round =>
    clear HR0
    obtain ⟨k, rfl, hk, hx, hR, hm⟩ := hrel
    rename World => wr
    by_cases hlt : k < N
    · have hlz : (k : Int) < (N : Int) := by omega
      have hlz0 : (0 : Int) ≤ (k : Int) := by omega
      have HKK : Hid (Value.int .i64 ((k : Int) + 1) = .int .i64 ((k + 1 : Nat) : Int)) := Lib.hid (by rw [show ((k + 1 : Nat) : Int) = (k : Int) + 1 from by omega])
      have hkl : k < K.length := by have := HN.out; omega
      have HKL := Lib.hid hkl
      obtain ⟨b, off, cap', hsl, -, hnb, hc⟩ := H.out.atK hkl
      rw [← HN.out] at hsl
      simp only [Value.slice.injEq] at hsl
      obtain ⟨rfl, -, rfl⟩ := hsl
      obtain ⟨d0, d1, d2⟩ := hc k hkl
      replace d0 := hx.out.keepM d0 hnb
      replace d1 := hx.out.keepM d1 hnb
      replace d2 := hx.out.keepM d2 hnb
      obtain ⟨y, hy⟩ : ∃ y, y = K[k]'HKL.out := ⟨_, rfl⟩
      rw [← hy] at d0 d1 d2
      have HY := Lib.hid hy
      clear hy hkl hc hnb
      go_wp2_with fail
      go_at_call 64
      refine (HF.out y wr R (by rw [HY.out]; exact HOK.out _ (List.getElem_mem _)) (HOX.out _ _ HO.out hx.out) hR.out).mono ?_
      rintro e1 w1 ⟨rfl, hR1, hx1⟩
      cases hb : hB y with
      | true =>
        go_wp2_with fail
        go_ret
        refine ⟨k, by have := HN.out; omega, by rw [if_pos HKL.out]; rfl, hm, Lib.hid (fun h => by rw [← HY.out]; exact hb), Lib.hid (hR1.out.iff (fun q v => ?_)), hx.out.trans hx1⟩
        have e : K.take (k + 1) = K.take k ++ [y] := by rw [List.take_succ_eq_append_getElem HKL.out, ← HY.out]
        rw [e, ← delR_step, delR_none (fun q hq => by
          obtain ⟨j, hj, rfl⟩ := List.getElem_of_mem hq
          rw [List.length_take] at hj
          rw [List.getElem_take]
          exact hm.out j (by omega) (by omega))]
      | false =>
        go_wp2_with fail
        go_roundw
        case rel => exact ⟨k + 1, HKK.out, by omega, Lib.hid (hx.out.trans hx1), Lib.hid (hR1.out.iff (fun q v => by simp [hb])), Lib.hid (fun j hj hjk => by
          by_cases e : j = k
          · subst e; rw [← HY.out]; exact hb
          · exact hm.out j hj (by omega))⟩
        case measure => simp [intOf]; omega
    · have hge : ¬ (k : Int) < (N : Int) := by omega
      go_wp2_with fail
      go_ret
      refine ⟨k, by have := HN.out; omega, by rw [if_neg (by have := HN.out; omega)]; rfl, hm, Lib.hid (fun h => absurd h (by have := HN.out; omega)), Lib.hid (hR.out.iff (fun q v => ?_)), hx.out⟩
      rw [delR_none (fun q hq => by
        obtain ⟨j, hj, rfl⟩ := List.getElem_of_mem hq
        rw [List.length_take] at hj
        rw [List.getElem_take]
        exact hm.out j (by omega) (by have := HN.out; omega))]
end Go.Proofs.Ytfejidihocoboaa

/- N11 -/
namespace Go.Proofs.Ytfejidihocoboaa
open Go Go.RowKit
theorem run_copy_rowK {P : Program} (w : World) (dT sT ty elem : TypeId) (k : Nat) (g o dLen dCap : Nat) (a : Addr) (sLen sCap : Nat) (cur : Array Value) (t : TypeId) (cs : List Value)
    (hu : P.underlying dT = some (.slice elem)) (hs : (P.info? elem).map (·.size) = some k)
    (hg : w.heap[g]? = some (.cells cur t (0, 0))) (hn : cs.length = Nat.min sLen dLen * k)
    (hsrc : ∀ j v, cs[j]? = some v → w.cell? (a.add j) = some v) (hfit : o + cs.length ≤ cur.size) (h1 : ∀ v ∈ cs, v.oneCell' = true) :
    (Builtin.copy_ #[dT, sT] ty #[.slice (some ⟨g, o, none⟩) dLen dCap, .slice (some a) sLen sCap]).run P w =
      .ok (goInt (Nat.min sLen dLen)) (w.setRow g (cur.toList.take o ++ cs ++ cur.toList.drop (o + cs.length)).toArray) := by
  have hl := run_loadCells_list (P := P) w a cs hsrc
  have hst := run_storeCells_at P g o t cs 0 cur w hg (by simpa using hfit) h1
  cases hq : P.info? elem with
  | none => simp [hq] at hs
  | some i =>
    have hi : i.size = k := by simpa [hq] using hs
    simp [Builtin.copy_, run_underlying hu, Builtin.lenOf, Builtin.firstCells, sizeOf, typeInfo, hq, hi, ← hn, hl, hst]
/-- copy between rows: what the target's block holds behind it -/
theorem wp_copyK {P : Program} {o : Oper} {a : Act} {w : World} {K : Act → World → Prop} {Q : Exit → Act → World → Prop} (d s : Operand) (dT sT : TypeId) (k : Nat)
    (ho : o.op = .call { callee := .builtin .copy, args := #[d, s], argTypes := #[dT, sT] }) (elem : TypeId) (hu : P.underlying dT = some (.slice elem)) (hsz : (P.info? elem).map (·.size) = some k)
    (g off dLen dCap : Nat) (ad : Addr) (sLen sCap : Nat) (hd : a.eval d = .slice (some ⟨g, off, none⟩) dLen dCap) (hs : a.eval s = .slice (some ad) sLen sCap)
    (cur : List Value) (t : TypeId) (hg : w.heap[g]? = some (.cells cur.toArray t (0, 0))) (cs : List Value) (hn : cs.length = Nat.min sLen dLen * k)
    (hsrc : ∀ j v, cs[j]? = some v → w.cell? (ad.add j) = some v) (hfit : off + cs.length ≤ cur.length) (h1 : ∀ v ∈ cs, v.oneCell' = true)
    (h : ∀ w', w'.heap[g]? = some (.cells (cur.take off ++ (cs ++ cur.drop (off + cs.length))).toArray t (0, 0)) → Ext (At g) w w' → K (a.put o.dst (goInt (Nat.min sLen dLen))) w') :
    Oper.wp P o a w K Q := by
  have hrun := run_copy_rowK (P := P) w dT sT o.type elem k g off dLen dCap ad sLen sCap cur.toArray t cs hu hsz hg hn hsrc (by simpa using hfit) h1
  unfold Oper.wp
  simp only [execOp, ho, resolve, invoke, builtin, Sem.run_bind, Sem.run_pure, Result.andThen_ok, List.map_toArray, List.map_cons, List.map_nil, hd, hs, hrun]
  refine h _ (by simpa using setRow_heap w g _ _ t _ hg) ⟨rfl, rfl, rfl, by simp [World.setRow], fun i hi hne => setRow_other w g i _ (fun e => hne e)⟩
theorem setCells_own {base g cap n size : Nat} {e : TypeId} {xs : List Value} : ∀ (vs : List Value) (o : Nat) (w : World), n * size ≤ o → w.ownsRow base e size (.slice (some ⟨g, 0, none⟩) n cap) n xs → (w.setCells g o vs).ownsRow base e size (.slice (some ⟨g, 0, none⟩) n cap) n xs ∧ Ext (At g) w (w.setCells g o vs)
  | [], _, w, _, h => ⟨h, Ext.refl _ _⟩
  | v :: r, o, w, ho, h => by
    have h1 := (World.ownsRow.stored (w := w) h o v).1
    have e1 : xs.set o v = xs := List.set_eq_of_length_le (by rw [h.1]; exact ho)
    rw [e1] at h1
    obtain ⟨h2, h3⟩ := setCells_own r (o + 1) _ (by omega) h1
    exact ⟨h2, ((Ext.refl (At g) w).setAt o v).trans h3⟩
/-- clear of cells of a block -/
theorem run_clear_K {P : Program} (w : World) (t e ty : TypeId) (z : Value) (ht : P.underlying t = some (.slice e)) (hv : ∀ w, (zeroValue e).run P w = .ok z w) (b o n c : Nat) (hn : 0 < n)
    (h1 : ∀ v ∈ (Builtin.zeroCells z.cells n).toList, v.oneCell' = true) (hc : ∀ j, j < (Builtin.zeroCells z.cells n).size → (w.cell? ⟨b, o + j, none⟩).isSome = true) (hf : ∀ j, j < (Builtin.zeroCells z.cells n).size → w.frozen? ⟨b, o + j, none⟩ = false) :
    (Builtin.clear_ #[t] ty #[.slice (some ⟨b, o, none⟩) n c]).run P w = .ok (.tuple #[]) (w.setCells b o (Builtin.zeroCells z.cells n).toList) := by
  have hst := run_storeCells_cells (P := P) b o (Builtin.zeroCells z.cells n).toList 0 w (by simpa using hc) (by simpa using hf) h1
  simp only [Nat.add_zero] at hst
  obtain ⟨m, rfl⟩ : ∃ m, n = m + 1 := ⟨n - 1, by omega⟩
  simp [Builtin.clear_, run_underlying ht, hv, hst]
/-- a row cut short -/
theorem own_cut {w : World} {base g n cap i size : Nat} {e : TypeId} {xs : List Value} (h : w.ownsRow base e size (.slice (some ⟨g, 0, none⟩) n cap) n xs) (hi : i ≤ n) : w.ownsRow base e size (.slice (some ⟨g, 0, none⟩) i cap) i (xs.take (i * size)) := by
  obtain ⟨h1, h2⟩ := h
  rcases h2 with ⟨h3, _⟩ | ⟨g', cap', cur, h3, hb, hg, hnc, hcm, hcs, htake⟩
  · simp at h3
  · simp only [Value.slice.injEq, Option.some.injEq, Addr.mk.injEq, and_true, true_and] at h3
    obtain ⟨rfl, rfl⟩ := h3
    have hm : i * size ≤ n * size := Nat.mul_le_mul_right _ hi
    refine ⟨by rw [List.length_take, h1]; omega, .inr ⟨g, cap, cur, rfl, hb, hg, by omega, hcm, hcs, ?_⟩⟩
    rw [← htake, List.take_take, Nat.min_eq_left hm]
end Go.Proofs.Ytfejidihocoboaa

/- N11 -/
namespace Go.Proofs.Ytfejidihocoboaa
open Go Go.RowKit
theorem spl_take {l cs : List Value} {o k : Nat} (h : o ≤ l.length) (hk : k ≤ o) : (l.take o ++ (cs ++ l.drop (o + cs.length))).take k = l.take k := by
  rw [List.take_append_of_le_length (by rw [List.length_take]; omega), List.take_take, Nat.min_eq_left hk]
theorem spl_get {l cs : List Value} {o : Nat} (h : o ≤ l.length) : (l.take o ++ (cs ++ l.drop (o + cs.length))).take (o + cs.length) = l.take o ++ cs := by
  rw [← List.append_assoc]
  exact List.take_left' (by rw [List.length_append, List.length_take, Nat.min_eq_left h])
theorem spl_len {l cs : List Value} {o : Nat} (h : o + cs.length ≤ l.length) : (l.take o ++ (cs ++ l.drop (o + cs.length))).length = l.length := by
  simp only [List.length_append, List.length_take, List.length_drop]; omega
theorem run_copy_atK {P : Program} {w : World} (dT sT ty elem : TypeId) (k : Nat) (hu : P.underlying dT = some (.slice elem)) (hsz : (P.info? elem).map (·.size) = some k)
    (g off dLen dCap : Nat) (ad : Addr) (sLen sCap : Nat) (cur : List Value) (t : TypeId) (hg : w.heap[g]? = some (.cells cur.toArray t (0, 0))) (cs : List Value) (hn : cs.length = Nat.min sLen dLen * k)
    (hsrc : ∀ j v, cs[j]? = some v → w.cell? (ad.add j) = some v) (hfit : off + cs.length ≤ cur.length) (h1 : ∀ v ∈ cs, v.oneCell' = true) :
    ∃ w', (Builtin.copy_ #[dT, sT] ty #[.slice (some ⟨g, off, none⟩) dLen dCap, .slice (some ad) sLen sCap]).run P w = .ok (goInt (Nat.min sLen dLen)) w' ∧ Hid (w'.heap[g]? = some (.cells (cur.take off ++ (cs ++ cur.drop (off + cs.length))).toArray t (0, 0))) ∧ Hid (Ext (At g) w w') := by
  have hrun := run_copy_rowK (P := P) w dT sT ty elem k g off dLen dCap ad sLen sCap cur.toArray t cs hu hsz hg hn hsrc (by simpa using hfit) h1
  exact ⟨_, hrun, Lib.hid (by simpa using setRow_heap w g _ _ t _ hg), Lib.hid ⟨rfl, rfl, rfl, by simp [World.setRow], fun i hi hne => setRow_other w g i _ (fun e => hne e)⟩⟩
end Go.Proofs.Ytfejidihocoboaa

/- E40 -/
namespace Go.Proofs.Ytfejidihocoboaa
open Go Go.RowKit
theorem Row.or {M M' : Nat → Prop} {w : World} {s n : Nat} {sl : Value} {vs : List Value} (h1 : Row M w s sl n vs) (h2 : Row M' w s sl n vs) : Row (fun b => M b ∨ M' b) w s sl n vs := by
  obtain ⟨e1, e2, a, cap, rfl, e4, h1⟩ := h1
  obtain ⟨-, -, a', cap', e5, -, h2⟩ := h2
  simp only [Value.slice.injEq, true_and] at e5
  obtain ⟨rfl, rfl⟩ := e5
  refine ⟨e1, e2, a, cap, rfl, e4, ?_⟩
  rcases h1 with h1 | ⟨b, off, rfl, q1, q2, q3⟩
  · exact .inl h1
  · rcases h2 with h2 | ⟨b', off', e6, -, q4, -⟩
    · exact .inl h2
    · simp only [Option.some.injEq, Addr.mk.injEq, and_true] at e6
      obtain ⟨rfl, rfl⟩ := e6
      exact .inr ⟨b, off, rfl, q1, fun e => e.elim q2 q4, q3⟩
theorem SetAt.or {M M' : Nat → Prop} {w : World} {sl : Value} {x m : Nat} (h1 : SetAt M w sl x m) (h2 : SetAt M' w sl x m) : SetAt (fun b => M b ∨ M' b) w sl x m := ⟨⟨h1.words.row.or h2.words.row, h1.words.lt⟩, h1.hw, h1.hm⟩
end Go.Proofs.Ytfejidihocoboaa

/- E40 -/
namespace Go.Proofs.Ytfejidihocoboaa
open Go Go.RowKit
theorem Ints.slice {M : Nat → Prop} {w : World} {sl : Value} {l : List Int} (h : Ints M w .i64 sl l) : ∃ a c, sl = .slice a l.length c := Row.slice h
theorem Ints.len {M : Nat → Prop} {w : World} {sl : Value} {l : List Int} (h : Ints M w .i64 sl l) : l.length ≤ 9223372036854775807 := by
  exact h.2.1
end Go.Proofs.Ytfejidihocoboaa

/- E40 -/
namespace Go.Proofs.Ytfejidihocoboaa
open Go Go.RowKit
theorem flat_take {β : Type} (K : EK β) (L : List β) (i : Nat) : (L.flatMap K.cells).take (i * K.s) = (L.take i).flatMap K.cells := by
  induction L generalizing i with
  | nil => simp
  | cons b L ih =>
    cases i with
    | zero => simp
    | succ i =>
      rw [List.flatMap_cons, List.take_succ_cons, List.flatMap_cons, List.take_append, K.len, show (i + 1) * K.s - K.s = i * K.s from by rw [Nat.add_mul]; omega, ih, List.take_of_length_le (by rw [K.len, Nat.add_mul]; omega)]
theorem flat_drop {β : Type} (K : EK β) (L : List β) (i : Nat) : (L.flatMap K.cells).drop (i * K.s) = (L.drop i).flatMap K.cells := by
  induction L generalizing i with
  | nil => simp
  | cons b L ih =>
    cases i with
    | zero => simp
    | succ i =>
      rw [List.flatMap_cons, List.drop_succ_cons, List.drop_append, K.len, show (i + 1) * K.s - K.s = i * K.s from by rw [Nat.add_mul]; omega, ih, List.drop_of_length_le (by rw [K.len, Nat.add_mul]; omega), List.nil_append]
end Go.Proofs.Ytfejidihocoboaa

/- N11 -/
namespace Go.Proofs.Ytfejidihocoboaa
open Go Go.RowKit
open Go.Maps (Keyed)
theorem KOwn.ext {M : Nat → Prop} {w w' : World} {v : Value} {K : List Key3} (h : LOwn kK No w 0 v K) (hx : Ext M w w') (h1 : ∀ i, v.ownBlock = some i → ¬ M i) : LOwn kK No w' 0 v K := ⟨row_keep2 h.own hx h1, fun _ _ => trivial⟩
theorem KOwn.list {M : Nat → Prop} {w : World} {v : Value} {K : List Key3} (h : LOwn kK No w 0 v K) (hb : ∀ b, v.ownBlock = some b → ¬ M b) : LAt kK M w v K := (⟨h.own, fun _ _ => trivial⟩ : LOwn kK M w 0 v K).list2 hb (fun _ e => e)
theorem KOwn.cells {w : World} {g c i n : Nat} {K : List Key3} (hn : n = K.length) (h : LOwn kK No w 0 (.slice (some ⟨g, 0, none⟩) n c) K) (hi : i < K.length) : w.cell? ⟨g, i * 3, none⟩ = some (.int .i64 K[i].1) ∧ w.cell? ⟨g, i * 3 + 1, none⟩ = some (.int .i64 K[i].2.1) ∧ w.cell? ⟨g, i * 3 + 2, none⟩ = some (.int .i64 K[i].2.2) := by
  subst hn
  exact ⟨h.cellAt (j := 0) hi (by decide) rfl, h.cellAt (j := 1) hi (by decide) rfl, h.cellAt (j := 2) hi (by decide) rfl⟩
theorem KOwn.free {w : World} {g c n : Nat} {K : List Key3} (hn : n = K.length) (h : LOwn kK No w 0 (.slice (some ⟨g, 0, none⟩) n c) K) (j : Nat) : w.frozen? ⟨g, j, none⟩ = false := by
  subst hn
  exact World.ownsRow.frozenAt h.own j
theorem KOwn.put {w : World} {g c i n : Nat} {K : List Key3} (hn : n = K.length) (h : LOwn kK No w 0 (.slice (some ⟨g, 0, none⟩) n c) K) (hi : i < K.length) (x : Key3) : LOwn kK No (((w.setCell ⟨g, i * 3, none⟩ (.int .i64 x.1)).setCell ⟨g, i * 3 + 1, none⟩ (.int .i64 x.2.1)).setCell ⟨g, i * 3 + 2, none⟩ (.int .i64 x.2.2)) 0 (.slice (some ⟨g, 0, none⟩) n c) (K.set i x) := by
  subst hn
  have h1 := h.putAll hi (p := x) trivial
  exact h1
def zK : Value := .agg #[.int .i64 0, .int .i64 0, .int .i64 0]
theorem zK_one (n : Nat) : ∀ v ∈ (Builtin.zeroCells zK.cells n).toList, v.oneCell' = true := fun v hv => by
  simp only [Builtin.zeroCells, Array.toList_map, List.mem_map] at hv
  obtain ⟨j, _, rfl⟩ := hv
  have h : j % zK.cells.size < 3 := Nat.mod_lt _ (by decide)
  generalize j % zK.cells.size = m at h
  match m, h with
  | 0, _ => rfl
  | 1, _ => rfl
  | 2, _ => rfl
theorem take_set_succ {α : Type} {l : List α} {i : Nat} (y : α) (hi : i < l.length) : (l.set i y).take (i + 1) = l.take i ++ [y] := by
  rw [List.take_succ_eq_append_getElem (by rw [List.length_set]; exact hi), List.getElem_set_self, List.take_set_of_le (Nat.le_refl _)]
theorem drop_set_gt {α : Type} {l : List α} {i k : Nat} (y : α) (hi : i < k) : (l.set i y).drop k = l.drop k := List.drop_set_of_lt hi
theorem set3r {w : World} (g o : Nat) (a b c : Value) : Ext (At g) w (((w.setCell ⟨g, o, none⟩ a).setCell ⟨g, o + 1, none⟩ b).setCell ⟨g, o + 2, none⟩ c) := (((Ext.refl (At g) w).setAt _ a).setAt _ b).setAt _ c
def DelPost (hB : Key3 → Bool) (bm : Nat) (vk : Value) (K : List Key3) (R : Value → Value → Prop) (W : World) (e : Ending) (w' : World) : Prop :=
  ∃ v', e = .returned v' ∧ Hid (LOwn kK No w' 0 v' (K.filter (fun x => !hB x))) ∧ Hid (MapR Try.prog 68 w' bm (delR hB K R)) ∧ Ext (fun b => b = bm ∨ vk.ownBlock = some b) W w' ∧ v'.ownBlock = vk.ownBlock
theorem filter_step {hB : Key3 → Bool} {K : List Key3} {j : Nat} (hj : j < K.length) : (K.take (j + 1)).filter (fun x => !hB x) = (K.take j).filter (fun x => !hB x) ++ (if hB K[j] = true then [] else [K[j]]) := by
  rw [List.take_succ_eq_append_getElem hj, List.filter_append]
  congr 1
  cases h : hB K[j] <;> simp [List.filter_cons, h]
set_option maxRecDepth 100000 in
set_option maxHeartbeats 4000000 in
theorem kdelete_any (hB : Key3 → Bool) (bm : Nat) (c1 c2 vk : Value) (Ok : World → Prop) (hF : DelFn hB bm c1 c2 Ok) (hOk : ∀ w w', Ok w → Ext (fun b => b = bm ∨ vk.ownBlock = some b) w w' → Ok w') (K : List Key3) (R : Value → Value → Prop) (W : World) (hO : Ok W) (h : LOwn kK No W 0 vk K) (hok : ∀ x ∈ K, KeyOk x) (hR : MapR Try.prog 68 W bm R) (hn : K.length ≤ 1000) :
    Calls Try.prog 63 #[vk, .func (.func 64) #[] #[c1, c2]] W (DelPost hB bm vk K R W) := by
  obtain ⟨i0, hi, hz0, hz1, hz2⟩ := info_parts infoKey
  have hL : LAt kK (At bm) W vk K := KOwn.list h (fun b hb e => by
    obtain ⟨cur, hc⟩ := h.blk hb
    exact ne_map hc hR e)
  go_enter Try.func63, Try.ntmps63
  go_wp2_with fail
  refine (kindexf_any hB bm c1 c2 Ok hF (fun w w' ho hx => hOk w w' ho (hx.mono (fun i _ e => .inl e))) vk K R W hO hL hok hR).mono ?_
  rintro e1 w1 ⟨q, hq, rfl, hfst, hat, hR1, hx1⟩
  by_cases hql : q < K.length
  · rw [if_pos hql]
    obtain ⟨g, c, rfl, -, -⟩ := h.shape (by omega)
    obtain ⟨N, hN⟩ : ∃ N, N = K.length := ⟨_, rfl⟩
    rw [← hN] at h hn hql hOk
    unfold DelPost
    rw [← hN]
    have hgb : g ≠ bm := by
      obtain ⟨cur, hc⟩ := h.blk (g := g) rfl
      exact ne_map hc hR
    have HN := Lib.hid hN
    have HF := Lib.hid hF
    have HOK := Lib.hid hok
    have HOX := Lib.hid (show ∀ w w', Ok w → Ext (fun b => b = bm ∨ b = g) w w' → Ok w' from fun w w' ho hx => hOk w w' ho (hx.mono (fun i _ e => e.imp id (fun e => by rw [e]; rfl))))
    have HO := Lib.hid hO
    have HS := Lib.hid (show LOwn kK No w1 0 (.slice (some ⟨g, 0, none⟩) N c) K from KOwn.ext h hx1 (fun b hb e => hgb (by simp only [Value.ownBlock, Option.some.injEq] at hb; rw [hb]; exact e)))
    have HX := Lib.hid (show Ext (fun b => b = bm ∨ b = g) W w1 from hx1.mono (fun i _ e => .inl e))
    have HFT := Lib.hid (show K.take q = (K.take (q + 1)).filter (fun x => !hB x) from by
      have hqk : q < K.length := by omega
      rw [filter_step hqk, if_pos (hat.out hqk), List.append_nil, List.filter_eq_self.2 (fun x hx => by
        obtain ⟨j, hj, rfl⟩ := List.getElem_of_mem hx
        rw [List.length_take] at hj
        rw [List.getElem_take, hfst.out j (by omega) (by omega)]; rfl)])
    clear hL h hO hOk hF hok hR hfst hat hx1 hN
    have hqe : ((q : Int) == -1) = false := by rw [beq_eq_false_iff_ne]; omega
    go_wp2_with fail
    go_loopw [5, 6] (fun s5 s6 wr => ∃ (i j : Nat) (cur : List Key3), s5 = .int .i64 i ∧ s6 = .int .i64 j ∧ i < j ∧ j ≤ N ∧ Hid (cur.length = N) ∧ Hid (LOwn kK No wr 0 (.slice (some ⟨g, 0, none⟩) N c) cur) ∧ Hid (cur.take i = (K.take j).filter (fun x => !hB x)) ∧ Hid (cur.drop j = K.drop j) ∧ Hid (MapR Try.prog 68 wr bm (delR hB (K.take j) R)) ∧ Hid (Ext (fun b => b = bm ∨ b = g) W wr)) (fun _ s6 _ => N - (intOf s6).toNat)
    case atStart => exact ⟨q, q + 1, K, rfl, by rw [show ((q + 1 : Nat) : Int) = (q : Int) + 1 from by omega], by omega, by omega, Lib.hid HN.out.symm, HS, HFT, Lib.hid rfl, hR1, HX⟩
    case round =>
      clear HS HFT hR1 HX hql
      obtain ⟨i, j, cur, rfl, rfl, hij, hjN, hcl, hS, hFT, hDR, hR, hX⟩ := hrel
      rename World => wr
      by_cases hlt : j < N
      · have hlz : (j : Int) < (N : Int) := by omega
        have hiz : (i : Int) < (N : Int) := by omega
        have HII : Hid (Value.int .i64 ((i : Int) + 1) = .int .i64 ((i + 1 : Nat) : Int)) := Lib.hid (by rw [show ((i + 1 : Nat) : Int) = (i : Int) + 1 from by omega])
        have HJJ : Hid (Value.int .i64 ((j : Int) + 1) = .int .i64 ((j + 1 : Nat) : Int)) := Lib.hid (by rw [show ((j + 1 : Nat) : Int) = (j : Int) + 1 from by omega])
        have hjk : j < K.length := by have := HN.out; omega
        have HJK := Lib.hid hjk
        have hjc : j < cur.length := by have := hcl.out; omega
        have HIC := Lib.hid (show i < cur.length from by omega)
        have hcur : cur[j]'hjc = K[j]'hjk := by
          have e := congrArg (fun l => l[0]?) hDR.out
          simp only [List.getElem?_drop, Nat.add_zero, List.getElem?_eq_getElem hjc, List.getElem?_eq_getElem hjk, Option.some.injEq] at e
          exact e
        obtain ⟨d0, d1, d2⟩ := KOwn.cells hcl.out.symm hS.out hjc
        rw [hcur] at d0 d1 d2
        obtain ⟨y, hy⟩ : ∃ y, y = K[j]'HJK.out := ⟨_, rfl⟩
        rw [← hy] at d0 d1 d2
        have HY := Lib.hid hy
        clear hy hjk hjc hcur
        have hx0 : Ext No wr (wr.alloc (.cells #[.int .i64 y.1, .int .i64 y.2.1, .int .i64 y.2.2] 68)) := (Ext.refl _ _).alloc _
        have HVB := Lib.hid (alloc_top (w := wr) (o := .cells #[.int .i64 y.1, .int .i64 y.2.1, .int .i64 y.2.2] 68) rfl)
        have HVN := Lib.hid (show wr.heap.size ≠ g ∧ wr.heap.size ≠ bm from ⟨fun e => by have := (hS.out.lt g rfl).2; omega, fun e => by have := hR.out.lt; omega⟩)
        go_upto_region 8 with (fail)
        clear d0 d1 d2
        have HX0 := Lib.hid hx0
        clear hx0
        generalize (wr.alloc (.cells #[.int .i64 y.1, .int .i64 y.2.1, .int .i64 y.2.2] 68)) = V at *
        have cV := cellOf HVB.out
        have hXV := hX.out.transNo HX0.out
        go_wp2_with fail
        go_at_call 64
        refine (HF.out y V _ (by rw [HY.out]; exact HOK.out _ (List.getElem_mem _)) (HOX.out _ _ HO.out hXV) (hR.out.ext HX0.out no_no)).mono ?_
        rintro e3 w3 ⟨rfl, hR3, hx3⟩
        have HSV := Lib.hid (KOwn.ext hS.out (HX0.out.ofNo.trans hx3) (fun b hb e => hgb (by simp only [Value.ownBlock, Option.some.injEq] at hb; rw [hb]; exact e)))
        have HX3 := Lib.hid (hXV.trans (hx3.mono (fun i _ e => .inl e)))
        have HV3 := Lib.hid (hx3.blk HVB.out (fun e => HVN.out.2 e))
        have hR4 := Lib.hid (hR3.out.iff (fun u v => delR_step hB (K.take j) y R u v))
        have hTK : K.take (j + 1) = K.take j ++ [y] := by rw [List.take_succ_eq_append_getElem HJK.out, ← HY.out]
        rw [← hTK] at hR4
        have hFS := filter_step (hB := hB) HJK.out
        rw [← HY.out] at hFS
        have hDJ : cur.drop (j + 1) = K.drop (j + 1) := by
          have e := congrArg (List.drop 1) hDR.out
          rw [List.drop_drop, List.drop_drop] at e
          exact e
        have HTK := Lib.hid hTK
        have HFS := Lib.hid hFS
        have HDJ := Lib.hid hDJ
        clear cV hXV hR3 hx3 hTK hFS hDJ
        cases hb : hB y with
        | true =>
          go_wp2_with fail
          go_roundw
          case rel => exact ⟨i, j + 1, cur, rfl, HJJ.out, by omega, by omega, hcl, HSV, Lib.hid (by rw [HFS.out, if_pos hb, List.append_nil]; exact hFT.out), HDJ, hR4, HX3⟩
          case measure => simp [intOf]; omega
        | false =>
          obtain ⟨f0, f1, f2⟩ := KOwn.cells hcl.out.symm HSV.out HIC.out
          have fr := KOwn.free hcl.out.symm HSV.out
          have cV := cellOf HV3.out
          have hput := Lib.hid (KOwn.put hcl.out.symm HSV.out HIC.out y)
          have hE9 := set3r (w := w3) g (i * 3) (.int .i64 y.1) (.int .i64 y.2.1) (.int .i64 y.2.2)
          go_wp2_with fail
          clear f0 f1 f2 fr cV
          generalize (((w3.setCell ⟨g, i * 3, none⟩ (.int .i64 y.1)).setCell ⟨g, i * 3 + 1, none⟩ (.int .i64 y.2.1)).setCell ⟨g, i * 3 + 2, none⟩ (.int .i64 y.2.2)) = w9 at *
          go_roundw
          case rel => exact ⟨i + 1, j + 1, cur.set i y, HII.out, HJJ.out, by omega, by omega, Lib.hid (by rw [List.length_set]; exact hcl.out), hput, Lib.hid (by
            rw [HFS.out, if_neg (by rw [hb]; decide), ← hFT.out]
            exact take_set_succ y HIC.out), Lib.hid (by
            rw [← HDJ.out]
            exact drop_set_gt y (by omega)), Lib.hid (hR4.out.ext hE9 (fun e => hgb (show bm = g from e).symm)), Lib.hid (HX3.out.trans (hE9.mono (fun i _ e => .inr e)))⟩
          case measure => simp [intOf]; omega
      · have hge : ¬ (j : Int) < (N : Int) := by omega
        have hjN2 : j = N := by omega
        subst hjN2
        have HJN := Lib.hid (show K.take j = K from List.take_of_length_le (by have := HN.out; omega))
        have hcc : j ≤ c := by
          rcases hS.out.own.2 with ⟨h3, _⟩ | ⟨g', cap', cur', h3, hb, hg, hnc, hcm, hcs, htake⟩
          · simp at h3
          · simp only [Value.slice.injEq, Option.some.injEq, Addr.mk.injEq, and_true, true_and] at h3
            obtain ⟨rfl, -, rfl⟩ := h3
            have := hcl.out
            omega
        have hcz : (j : Int) ≤ (c : Int) := by omega
        have hqc : ¬ c = i := by omega
        have c1 : (0 : Int) ≤ (i : Int) := by omega
        have c2 : (i : Int) ≤ (j : Int) := by omega
        have hzv : ∀ w, (zeroValue 68).run Try.prog w = .ok zK w := fun w => by simp [zeroValue, typeInfo, hi, hz0]; rfl
        have hCut : wr.ownsRow 0 68 3 (.slice (some ⟨g, 0, none⟩) i c) i ((cur.take i).flatMap keyC) := by
          have h9 := own_cut (i := i) (by have h9 := hS.out.own; rw [hcl.out] at h9; exact h9) (by omega)
          rw [flat_take kK] at h9
          exact h9
        have HCL := Lib.hid (setCells_own (Builtin.zeroCells zK.cells (j - i)).toList (i * 3) wr (Nat.le_refl _) hCut)
        obtain ⟨blk, hcur, hsz⟩ : ∃ blk, wr.heap[g]? = some (.cells blk 68 (0, 0)) ∧ blk.size = c * 3 := by
          rcases hS.out.own.2 with ⟨h3, _⟩ | ⟨g', cap', cur', h3, hb, hg, hnc, hcm, hcs, htake⟩
          · simp at h3
          · simp only [Value.slice.injEq, Option.some.injEq, Addr.mk.injEq, and_true, true_and] at h3
            obtain ⟨rfl, -, rfl⟩ := h3
            exact ⟨cur', hg, hcs⟩
        have hzc : (Builtin.zeroCells zK.cells (j - i)).size = (j - i) * 3 := by simp [Builtin.zeroCells, zK, Value.cells]
        have hqm : i * 3 + (j - i) * 3 ≤ c * 3 := by omega
        have hrun := run_clear_K (P := Try.prog) wr 63 68 0 zK Try.underlying63 hzv g (i * 3) (j - i) (c - i) (by omega) (zK_one _) (fun m hm => by
          rw [hzc] at hm
          have h1 : i * 3 + m < blk.size := by rw [hsz]; omega
          rw [cellOf hcur (i * 3 + m), Array.getElem?_eq_getElem h1]; rfl) (fun m _ => freeOf hcur (i * 3 + m))
        obtain ⟨w6, hw6⟩ : ∃ w6, w6 = wr.setCells g (i * 3) (Builtin.zeroCells zK.cells (j - i)).toList := ⟨_, rfl⟩
        rw [← hw6] at hrun HCL
        clear hw6 hzc hqm hcur hsz hCut
        go_wp2_with fail
        go_ret
        have hR6 := hR.out.ext HCL.out.2 (fun e => hgb (show bm = g from e).symm)
        rw [HJN.out] at hR6
        have e1 : K.filter (fun x => !hB x) = cur.take i := by rw [hFT.out, HJN.out]
        refine ⟨_, rfl, Lib.hid ⟨?_, fun _ _ => trivial⟩, Lib.hid hR6, (hX.out.mono (fun i _ e => e.imp id (fun e => by rw [e]; rfl))).trans (HCL.out.2.mono (fun i _ e => .inr (by rw [show i = g from e]; rfl))), rfl⟩
        rw [e1]
        have e2 : (cur.take i).length = i := by rw [List.length_take]; have := hcl.out; omega
        rw [e2]
        exact HCL.out.1
  · rw [if_neg hql]
    go_wp2_with fail
    go_ret
    have hall : ∀ x ∈ K, hB x = false := fun x hx => by
      obtain ⟨j, hj, rfl⟩ := List.getElem_of_mem hx
      exact hfst.out j hj (by omega)
    refine ⟨vk, rfl, Lib.hid ?_, Lib.hid (hR1.out.iff (fun y v => by rw [List.take_of_length_le (by omega)])), hx1.mono (fun i _ e => .inl e), rfl⟩
    rw [List.filter_eq_self.2 (fun x hx => by rw [hall x hx]; rfl)]
    exact KOwn.ext h hx1 (fun b hb e => by
      obtain ⟨cur, hc⟩ := h.blk hb
      exact ne_map hc hR e)
end Go.Proofs.Ytfejidihocoboaa

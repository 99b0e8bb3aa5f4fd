/- Order. -/
import Derived.Test.YtkdjdhflhlbelaaK5
import Derived.Deep.LoopGhost
set_option linter.unusedVariables false
set_option linter.unusedSimpArgs false
namespace Go.Proofs.Ytkdjdhflhlbelaa
open Go Go.RowKit Tj
theorem infoII : (Try.prog.info? 22).map (fun i => (i.zero, i.size, i.bytes)) = some (some (.slice none 0 0), 1, 24) := by kernel_rfl
theorem infoBo : (Try.prog.info? 4).map (fun i => (i.zero, i.size, i.bytes)) = some (some (.bool false), 1, 1) := by kernel_rfl
theorem zeroB_eq (n : Nat) : madeCells (Value.cells (.bool false)) (n * 1) = rowF n (fun _ => .bool false) := by
 refine Array.ext (by simp [madeCells, rowF]) (fun i h1 h2 => ?_)
 simp [madeCells, rowF, Value.cells, Nat.mod_one]
theorem mk_bools (n : Nat) (hn : n ≤ 1000) (w : World) : (Instr.makeSlice 99 (.int .i64 (n : Int)) (.int .i64 (n : Int))).run Try.prog w = .ok (.slice (some ⟨w.heap.size, 0, none⟩) n n) (w.alloc (.cells (rowF n (fun _ => .bool false)) 4)) := by
 obtain ⟨i, hi, hz0, hz1, hz2⟩ := info_parts infoBo
 have h := run_makeSlice (P := Try.prog) w 99 4 i _ Try.underlying99 hi hz0 .i64 .i64 n n (by omega) (Int.le_refl _) (by rw [hz1]; simp; omega) (by rw [hz2]; omega) (by omega)
 simp only [Int.toNat_natCast, hz1, zeroB_eq] at h
 exact h
theorem BlkF.congr {w : World} {b N : Nat} {T : TypeId} {f f' : Nat → Value} (h : BlkF w b T N f) (he : ∀ i, i < N → f i = f' i) : BlkF w b T N f' := by
 unfold BlkF at h ⊢
 rw [← List.map_congr_left (f := f) (g := f') (fun i hi => he i (List.mem_range.1 hi))]
 exact h
theorem store_new {P : Program} (w : World) (T : TypeId) (u v : Value) (hv : v.oneCell' = true) : (store ⟨w.heap.size, 0, none⟩ v).run P (w.alloc (.cells #[u] T)) = .ok () (w.alloc (.cells #[v] T)) := by
 have h := alloc_top (w := w) (o := .cells #[u] T) rfl
 rw [run_store P _ _ _ _ hv, cellOf h, freeOf h]
 simp [go_sem]
/-- g gives the least of each one's component -/
def GOk (S : SysD) (g : Nat → Nat) : Prop := ∀ x, x < S.deps.length → Comp (depD S) x (g x : Int)
theorem rch_lt {S : SysD} (hS : SysOk S) {x y : Nat} (h : Rch (depD S) x y) : x < S.deps.length → y < S.deps.length := by
 induction h with
 | refl _ => exact id
 | step e _ ih => exact fun _ => ih (hS.dep e)
theorem GOk.lt {S : SysD} {g : Nat → Nat} (hS : SysOk S) (h : GOk S g) {x : Nat} (hx : x < S.deps.length) : g x < S.deps.length := by
 obtain ⟨k, e, h1, -, -⟩ := h x hx
 have : g x = k := by omega
 rw [this]
 exact rch_lt hS h1 hx
theorem GOk.same {S : SysD} {g : Nat → Nat} (h : GOk S g) {x y : Nat} (hx : x < S.deps.length) (hy : y < S.deps.length) : g x = g y ↔ Rch (depD S) x y ∧ Rch (depD S) y x := by
 obtain ⟨k, e, h1, h2, h3⟩ := h x hx
 obtain ⟨m, e', k1, k2, k3⟩ := h y hy
 obtain rfl : g x = k := by omega
 obtain rfl : g y = m := by omega
 constructor
 ·intro e2
  rw [e2] at h1 h2
  exact ⟨h1.trans k2, k1.trans h2⟩
 ·rintro ⟨r1, r2⟩
  have := h3 (g y) (r1.trans k1) (k2.trans r2)
  have := k3 (g x) (r2.trans h1) (h2.trans r1)
  omega
theorem GOk.idem {S : SysD} {g : Nat → Nat} (hS : SysOk S) (h : GOk S g) {x : Nat} (hx : x < S.deps.length) : g (g x) = g x := by
 refine (h.same (h.lt hS hx) hx).2 ?_
 obtain ⟨k, e, h1, h2, h3⟩ := h x hx
 obtain rfl : g x = k := by omega
 exact ⟨h2, h1⟩
def membersL (S : SysD) (g : Nat → Nat) (c : Nat) : List Nat := (List.range S.deps.length).filter (fun n => g n == c)
def firstI (S : SysD) (g : Nat → Nat) (D : Nat → Bool) : Option Nat := (List.range S.deps.length).find? (fun i => goodB S g D (g i))
def ordS (S : SysD) (g : Nat → Nat) : Nat → (Nat → Bool) × List (List Nat)
 | 0 => (fun _ => false, [])
 | r + 1 => match firstI S g (ordS S g r).1 with
  | none => ordS S g r
  | some i => (upd (ordS S g r).1 (g i) true, (ordS S g r).2 ++ [membersL S g (g i)])
theorem ordS_some {S : SysD} {g : Nat → Nat} {r i : Nat} (h : firstI S g (ordS S g r).1 = some i) : ordS S g (r + 1) = (upd (ordS S g r).1 (g i) true, (ordS S g r).2 ++ [membersL S g (g i)]) := by
 rw [ordS, h]
structure OrdAt (S : SysD) (g : Nat → Nat) (R : Nat) : Prop where
 stop : firstI S g (ordS S g R).1 = none
 go : ∀ r, r < R → firstI S g (ordS S g r).1 ≠ none
theorem OrdAt.uniq {S : SysD} {g : Nat → Nat} {R R' : Nat} (h : OrdAt S g R) (h' : OrdAt S g R') : R = R' := by
 rcases Nat.lt_trichotomy R R' with e | e | e
 ·exact absurd h.stop (h'.go R e)
 ·exact e
 ·exact absurd h'.stop (h.go R' e)
theorem first_find {S : SysD} {g : Nat → Nat} {D : Nat → Bool} {z : Int}
  (h : (z = -1 ∧ ∀ x ∈ (List.range S.deps.length).map g, goodB S g D x = false) ∨ ∃ (k : Nat) (hk : k < ((List.range S.deps.length).map g).length), z = (k : Int) ∧ goodB S g D ((List.range S.deps.length).map g)[k] = true ∧ ∀ j (hj : j < k), goodB S g D (((List.range S.deps.length).map g)[j]'(by omega)) = false) :
  (z = -1 ∧ firstI S g D = none) ∨ ∃ k : Nat, z = (k : Int) ∧ k < S.deps.length ∧ goodB S g D (g k) = true ∧ firstI S g D = some k := by
 rcases h with ⟨h1, h2⟩ | ⟨k, hk, h1, h2, h3⟩
 ·refine .inl ⟨h1, ?_⟩
  unfold firstI
  rw [List.find?_eq_none]
  exact fun x hx => by rw [h2 (g x) (List.mem_map.2 ⟨x, hx, rfl⟩)]; simp
 ·have hk2 : k < S.deps.length := by simpa using hk
  simp only [List.getElem_map, List.getElem_range] at h2 h3
  refine .inr ⟨k, h1, hk2, h2, ?_⟩
  unfold firstI
  rw [List.find?_range_eq_some]
  exact ⟨h2, List.mem_range.2 hk2, fun j hj => by rw [h3 j hj]; rfl⟩
def undone (S : SysD) (g : Nat → Nat) (D : Nat → Bool) : Nat := ((List.range S.deps.length).filter (fun x => !D (g x))).length
theorem undone_lt {S : SysD} {g : Nat → Nat} {D : Nat → Bool} {i : Nat} (hi : i < S.deps.length) (hd : D (g i) = false) : undone S g (upd D (g i) true) < undone S g D :=
 len_filter_lt1 (n := i) (fun x _ hx => by
  by_cases e : g x = g i
  ·rw [e]; simp [hd]
  ·rw [upd_ne e] at hx; exact hx) (List.mem_range.2 hi) (by simp [hd]) (by simp [upd_same])
/-- the call's own things -/
structure OrM (S : SysD) (W wr : World) (sB oB bo dB bD rB P : Nat) (sx : Array Value) (g : Nat → Nat) (D : Nat → Bool) (vo : Value) (Ld : LD) : Prop where
 ext : Ext No W wr
 env : OeM S.deps.length oB bo dB bD g D wr
 sbox : wr.heap[sB]? = some (.cells sx 29 (0, 0))
 rbox : wr.heap[rB]? = some (.cells #[.func (.func 81) #[] #[.pointer (some ⟨oB, 0, none⟩), .pointer (some ⟨sB, 0, none⟩), .pointer (some ⟨dB, 0, none⟩)]] 101 (0, 0))
 out : LOwn kD (At bD) wr P vo Ld
 lo : (W.heap.size ≤ bD ∧ W.heap.size ≤ P) ∧ (sB < P ∧ oB < P ∧ bo < P ∧ dB < P ∧ bD < P ∧ rB < P) ∧ sB ≠ bD ∧ oB ≠ bD ∧ bo ≠ bD ∧ dB ≠ bD ∧ rB ≠ bD
 top : P ≤ wr.heap.size
section
variable {S : SysD} {W wr w' : World} {sB oB bo dB bD rB P : Nat} {sx : Array Value} {g : Nat → Nat} {D : Nat → Bool} {vo v' : Value} {Ld : LD}
theorem OrM.stepNo (h : OrM S W wr sB oB bo dB bD rB P sx g D vo Ld) (hx : Ext No wr w') : OrM S W w' sB oB bo dB bD rB P sx g D vo Ld :=
 ⟨h.ext.transNo hx, h.env.extNo hx, hx.blk h.sbox no_no, hx.blk h.rbox no_no, h.out.extNo hx, h.lo, Nat.le_trans h.top hx.size⟩
theorem OrM.mark (h : OrM S W wr sB oB bo dB bD rB P sx g D vo Ld) (c : Nat) : OrM S W (wr.setCell ⟨bD, c, none⟩ (.bool true)) sB oB bo dB bD rB P sx g (upd D c true) vo Ld := by
 have hE : Ext (At bD) wr (wr.setCell ⟨bD, c, none⟩ (.bool true)) := (Ext.refl _ _).setAt _ _
 obtain ⟨⟨a1, a0⟩, ⟨a2, a3, a4, a5, a6, a7⟩, a8, a9, a10, a11, a12⟩ := h.lo
 have h1 := h.env.db.set c (.bool true)
 rw [upd_map (fun (q : Bool) => Value.bool q)] at h1
 exact ⟨h.ext.trans2 hE (fun i hi e => by unfold At at e; omega), ⟨hE.blk h.env.o (by unfold At; omega), hE.blk h.env.ob (by unfold At; omega), hE.blk h.env.d (by unfold At; omega), h1⟩, hE.blk h.sbox (by unfold At; omega), hE.blk h.rbox (by unfold At; omega), h.out.ext hE (fun i hi e => by unfold At at e; omega) (fun _ e => e), h.lo, Nat.le_trans h.top hE.size⟩
theorem OrM.push {l : List Nat} {sl : Value} (h : OrM S W wr sB oB bo dB bD rB P sx g D vo Ld) (hp : Ints (fun b => At bD b ∨ vo.ownBlock = some b) wr .i64 sl (natsZ l)) (hown : w'.ownsRow P 22 1 v' (Ld.length + 1) (Ld.flatMap kD.cells ++ [sl])) (hg : wr.grownBy w' vo.ownBlock) (hv : v'.ownBlock = vo.ownBlock ∨ ∀ k, v'.ownBlock = some k → wr.heap.size ≤ k) :
  OrM S W w' sB oB bo dB bD rB P sx g D v' (Ld ++ [(natsZ l, sl)]) := by
 have hE : Ext (fun k => vo.ownBlock = some k) wr w' := (Ext.refl _ wr).grown hg (fun k hk _ => hk)
 obtain ⟨⟨a1, a0⟩, ⟨a2, a3, a4, a5, a6, a7⟩, a8, a9, a10, a11, a12⟩ := h.lo
 have hl : ∀ k, vo.ownBlock = some k → P ≤ k := fun k hk => (h.out.lt k hk).1
 exact ⟨h.ext.trans2 hE (fun i hi e => by have := hl i e; omega), ⟨hE.blk h.env.o (fun e => by have := hl _ e; omega), hE.blk h.env.ob (fun e => by have := hl _ e; omega), hE.blk h.env.d (fun e => by have := hl _ e; omega), hE.blk h.env.db (fun e => by have := hl _ e; omega)⟩, hE.blk h.sbox (fun e => by have := hl _ e; omega), hE.blk h.rbox (fun e => by have := hl _ e; omega),
  h.out.app (p := (natsZ l, sl)) hp hown hE (fun _ e => e) hv, h.lo, Nat.le_trans h.top hE.size⟩
end
theorem BlkF.ints {w : World} {b N : Nat} {g : Nat → Nat} (h : BlkF w b 3 N (fun i => .int .i64 (g i : Int))) (hN : N ≤ 1000) : Ints No w .i64 (.slice (some ⟨b, 0, none⟩) N N) (natsZ ((List.range N).map g)) := by
 have h1 : w.ownsRow 0 3 1 (.slice (some ⟨b, 0, none⟩) N N) N ((natsZ ((List.range N).map g)).map (.int .i64)) :=
  ⟨by simp [natsZ], .inr ⟨b, N, _, rfl, Nat.zero_le _, h, Nat.le_refl _, by simp only [maxLen]; omega, by simp, by
   rw [List.take_of_length_le (by simp)]
   simp [natsZ, Function.comp_def]⟩⟩
 have h2 := Row.ofOwns (M := No) h1 (fun _ _ x => x)
 unfold Ints
 rw [nats_len, List.length_map, List.length_range]
 exact h2
def memL (g : Nat → Nat) (c j : Nat) : List Nat := (List.range j).filter (fun n => g n == c)
theorem memL_yes {g : Nat → Nat} {c j : Nat} (h : g j = c) : memL g c (j + 1) = memL g c j ++ [j] := by
 unfold memL
 rw [List.range_succ, List.filter_append]
 simp [h]
theorem memL_no {g : Nat → Nat} {c j : Nat} (h : ¬ g j = c) : memL g c (j + 1) = memL g c j := by
 unfold memL
 rw [List.range_succ, List.filter_append]
 simp [h]
theorem memL_le (g : Nat → Nat) (c j : Nat) : (memL g c j).length ≤ j := Nat.le_trans (List.length_filter_le _ _) (by simp)
theorem good_not {S : SysD} {g : Nat → Nat} {D : Nat → Bool} {c : Nat} (h : goodB S g D c = true) : D c = false := by
 unfold goodB at h
 simp only [Bool.and_eq_true, Bool.not_eq_true'] at h
 exact h.1
/-- the components in their order -/
def OrdPost (S : SysD) (W : World) (e : Ending) (w' : World) : Prop :=
 ∃ (g : Nat → Nat) (R : Nat) (a : Option Addr) (c : Nat) (Ld : LD), GOk S g ∧ OrdAt S g R ∧ e = .returned (.tuple #[.slice a Ld.length c, .int .i64 0]) ∧ Hid (Ld.map Prod.fst = (ordS S g R).2.map natsZ) ∧ Hid (LAt kD No w' (.slice a Ld.length c) Ld) ∧ Ld.length ≤ S.deps.length ∧ Ext No W w'
set_option maxRecDepth 100000 in
set_option maxHeartbeats 2000000 in
theorem order_inv (x : Int) (vd vt vb : Value) (Ld : LD) (Lt : LT) (Lb : LS) (W : World) (h : YAt No W vd vt vb Ld Lt Lb) (hn : ¬ VS x Ld Lt Lb) :
  Calls Try.prog 36 #[.agg #[.int .i64 x, vd, vt, vb]] W (ErrPost (.slice none 0 0) 1 W) := by
 have H := Lib.hid h
 obtain ⟨ad, cd, rfl⟩ := h.d.slice
 obtain ⟨at1, ct, rfl⟩ := h.t.slice
 obtain ⟨ab, cb, rfl⟩ := h.b.slice
 clear h
 go_enter Try.func36, Try.ntmps36
 go_wp2_with fail
 have hx0 : Ext No W (W.alloc (.cells #[.int .i64 x, .slice ad Ld.length cd, .slice at1 Lt.length ct, .slice ab Lb.length cb] 29)) := (Ext.refl _ _).alloc _
 refine (cof_inv x _ _ _ Ld Lt Lb _ (H.out.extNo hx0) hn).mono ?_
 rintro e1 w1 ⟨rfl, hx1⟩
 have hx := hx0.transNo hx1
 clear hx0 hx1
 go_wp2_with fail
 refine ret_ex rfl ?_
 simp [results, Try.results36, go_sem]
 exact ⟨rfl, hx.alloc _⟩
set_option maxRecDepth 100000 in
set_option maxHeartbeats 8000000 in
theorem order_any (S : SysD) (vd vt vb : Value) (W : World) (h : SysAt No W vd vt vb S) :
  Calls Try.prog 36 #[.agg #[.int .i64 (S.w : Int), vd, vt, vb]] W (OrdPost S W) := by
 obtain ⟨i0, hi0, hz0, hz1, hz2⟩ := info_parts infoInt2
 obtain ⟨j0, hj0, hy0, hy1, hy2⟩ := info_parts infoII
 have H := Lib.hid h
 have hok := h.ok
 have HOK := Lib.hid hok
 have hnn := hok.n2
 have hn1 := hok.n1
 obtain ⟨ad, cd, at1, ct, ab, cb, rfl, rfl, rfl⟩ := h.slices
 have hmk := mk_bools S.deps.length (by omega)
 obtain ⟨sB, hsB⟩ : ∃ sB, sB = W.heap.size := ⟨_, rfl⟩
 clear h hok
 go_enter Try.func36, Try.ntmps36
 go_upto_region 1 with (fail)
 have hx0 : Ext No W (W.alloc (.cells #[.int .i64 (S.w : Int), .slice ad S.deps.length cd, .slice at1 S.deps.length ct, .slice ab S.deps.length cb] 29)) := (Ext.refl _ _).alloc _
 have HA := Lib.hid (alloc_top (w := W) (o := (.cells #[.int .i64 (S.w : Int), .slice ad S.deps.length cd, .slice at1 S.deps.length ct, .slice ab S.deps.length cb] 29)) rfl)
 generalize (W.alloc (.cells #[.int .i64 (S.w : Int), .slice ad S.deps.length cd, .slice at1 S.deps.length ct, .slice ab S.deps.length cb] 29)) = w1 at *
 rw [← hsB] at HA ⊢
 have HSB := Lib.hid hsB
 have hsl := lt_of_block HA.out
 have cA := cellOf HA.out
 clear hsB
 go_wp2_with fail
 refine (cof_any S _ _ _ _ (H.out.extNo hx0)).mono ?_
 rintro e2 w2 ⟨bo, f, rfl, hbo, hbf, hcf, hx2⟩
 obtain ⟨g, hg⟩ : ∃ g : Nat → Nat, g = fun x => (f x).toNat := ⟨_, rfl⟩
 have HGO := Lib.hid (show GOk S g from fun x hx => by
  have h := hcf.out x hx
  have h9 := h
  obtain ⟨k, e, -, -, -⟩ := h9
  rw [hg]
  show Comp (depD S) x (((f x).toNat : Nat) : Int)
  rw [show (((f x).toNat : Nat) : Int) = f x from by rw [e]; simp]
  exact h)
 have HBO := Lib.hid (show BlkF w2 bo 3 S.deps.length (fun i => .int .i64 (g i : Int)) from hbf.out.congr (fun i hi => by
  obtain ⟨k, e, -, -, -⟩ := hcf.out i hi
  rw [hg]
  show Value.int .i64 (f i) = .int .i64 (((f i).toNat : Nat) : Int)
  rw [e]; simp))
 have HA2 := Lib.hid (hx2.blk HA.out no_no)
 have hob := lt_of_block HBO.out
 have hsl2 := lt_of_block HA2.out
 have HX2 := Lib.hid (hx0.transNo hx2)
 clear cA hx0 hx2 HA hbf hcf hg
 have hxo : Ext No w2 (w2.alloc (.cells #[.slice (some ⟨bo, 0, none⟩) S.deps.length S.deps.length] 22)) := (Ext.refl _ _).alloc _
 have HO3 := Lib.hid (alloc_top (w := w2) (o := (.cells #[.slice (some ⟨bo, 0, none⟩) S.deps.length S.deps.length] 22)) rfl)
 have HA3 := Lib.hid (hxo.blk HA2.out no_no)
 have HB3 := Lib.hid (HBO.out.ext hxo no_no)
 have HX3 := Lib.hid (HX2.out.transNo hxo)
 go_upto_region 4 with (fail)
 clear HA2 HBO HX2 hxo
 generalize (w2.alloc (.cells #[.slice (some ⟨bo, 0, none⟩) S.deps.length S.deps.length] 22)) = w3 at *
 generalize w2.heap.size = oB at *
 have hol := lt_of_block HO3.out
 have cO := cellOf HO3.out
 have MB := Lib.hid (show BlkF (w3.alloc (.cells (rowF S.deps.length (fun _ => .bool false)) 4)) w3.heap.size 4 S.deps.length (fun i => .bool ((fun _ => false : Nat → Bool) i)) from blk_made)
 have hxm : Ext No w3 (w3.alloc (.cells (rowF S.deps.length (fun _ => .bool false)) 4)) := (Ext.refl _ _).alloc _
 have hms : (w3.alloc (.cells (rowF S.deps.length (fun _ => .bool false)) 4)).heap.size = w3.heap.size + 1 := by simp
 go_upto_region 5 with (fail)
 clear cO hmk
 have HA4 := Lib.hid (hxm.blk HA3.out no_no)
 have HO4 := Lib.hid (hxm.blk HO3.out no_no)
 have HB4 := Lib.hid (HB3.out.ext hxm no_no)
 have HX4 := Lib.hid (HX3.out.transNo hxm)
 have hbl4 := lt_of_block MB.out
 have hbo4 := lt_of_block HB3.out
 have hsz4 := HX3.out.size
 clear HA3 HO3 HB3 HX3 hxm
 generalize (w3.alloc (.cells (rowF S.deps.length (fun _ => .bool false)) 4)) = w4 at *
 generalize w3.heap.size = bD at *
 have hxd : Ext No w4 (w4.alloc (.cells #[.slice (some ⟨bD, 0, none⟩) S.deps.length S.deps.length] 99)) := (Ext.refl _ _).alloc _
 have HD5 := Lib.hid (show (w4.alloc (.cells #[.slice (some ⟨bD, 0, none⟩) S.deps.length S.deps.length] 99)).heap[bD + 1]? = some (.cells #[.slice (some ⟨bD, 0, none⟩) S.deps.length S.deps.length] 99) from by rw [← hms]; exact alloc_top rfl)
 have HA5 := Lib.hid (hxd.blk HA4.out no_no)
 have HO5 := Lib.hid (hxd.blk HO4.out no_no)
 have HB5 := Lib.hid (HB4.out.ext hxd no_no)
 have MB5 := Lib.hid (MB.out.ext hxd no_no)
 have HX5 := Lib.hid (HX4.out.transNo hxd)
 clear HA4 HO4 HB4 MB HX4 hxd
 generalize (w4.alloc (.cells #[.slice (some ⟨bD, 0, none⟩) S.deps.length S.deps.length] 99)) = w5 at *
 obtain ⟨dB, hdB⟩ : ∃ dB, dB = bD + 1 := ⟨_, rfl⟩
 rw [← hdB] at HD5 ⊢
 have hbdd : bD < dB := by omega
 have hdl := lt_of_block HD5.out
 clear hdB hms
 have hst := store_new (P := Try.prog) w5 101 .nilFunc (.func (.func 81) #[] #[.pointer (some ⟨oB, 0, none⟩), .pointer (some ⟨sB, 0, none⟩), .pointer (some ⟨dB, 0, none⟩)]) rfl
 have hxr : Ext No w5 (w5.alloc (.cells #[.func (.func 81) #[] #[.pointer (some ⟨oB, 0, none⟩), .pointer (some ⟨sB, 0, none⟩), .pointer (some ⟨dB, 0, none⟩)]] 101)) := (Ext.refl No w5).alloc _
 have HR6 := Lib.hid (show (w5.alloc (.cells #[.func (.func 81) #[] #[.pointer (some ⟨oB, 0, none⟩), .pointer (some ⟨sB, 0, none⟩), .pointer (some ⟨dB, 0, none⟩)]] 101)).heap[w5.heap.size]? = some (.cells #[.func (.func 81) #[] #[.pointer (some ⟨oB, 0, none⟩), .pointer (some ⟨sB, 0, none⟩), .pointer (some ⟨dB, 0, none⟩)]] 101 (0, 0)) from alloc_top rfl)
 go_upto_region 6 with (fail)
 clear hst
 have HA6 := Lib.hid (hxr.blk HA5.out no_no)
 have HO6 := Lib.hid (hxr.blk HO5.out no_no)
 have HB6 := Lib.hid (HB5.out.ext hxr no_no)
 have MB6 := Lib.hid (MB5.out.ext hxr no_no)
 have HD6 := Lib.hid (hxr.blk HD5.out no_no)
 have HX6 := Lib.hid (HX5.out.transNo hxr)
 clear HA5 HO5 HB5 MB5 HX5 HD5 hxr
 generalize (w5.alloc (.cells #[.func (.func 81) #[] #[.pointer (some ⟨oB, 0, none⟩), .pointer (some ⟨sB, 0, none⟩), .pointer (some ⟨dB, 0, none⟩)]] 101)) = w6 at *
 generalize w5.heap.size = rB at *
 have hrl := lt_of_block HR6.out
 have hsbW := HSB.out
 obtain ⟨P, hP⟩ : ∃ P, P = w6.heap.size := ⟨_, rfl⟩
 have hm0 := Lib.hid (show OrM S W w6 sB oB bo dB bD rB P #[.int .i64 (S.w : Int), .slice ad S.deps.length cd, .slice at1 S.deps.length ct, .slice ab S.deps.length cb] g (fun _ => false) (.slice none 0 0) [] from ⟨HX6.out, ⟨HO6.out, HB6.out, HD6.out, MB6.out⟩, HA6.out, HR6.out, LOwn.nil _ _ _ _, ⟨⟨by omega, by have := HX6.out.size; omega⟩, ⟨by omega, by omega, by omega, by omega, by omega, by omega⟩, by omega, by omega, by omega, by omega, by omega⟩, by omega⟩)
 clear HX6 HO6 HB6 HD6 MB6 HA6 HR6 hP hsbW hrl hdl hbl4 hbo4 hsz4 hol hsl2 hob hbo hsl
 go_wp2_with fail
 go_loopg [8] (undone S g (fun _ => false)) (fun q s8 wr => ∃ (r : Nat) (D : Nat → Bool) (vo : Value) (Ld : LD), s8 = vo ∧ Ld.length = r ∧ r + q ≤ S.deps.length ∧ Hid (D = (ordS S g r).1) ∧ Hid (q = undone S g D) ∧ Hid (∀ r', r' < r → firstI S g (ordS S g r').1 ≠ none) ∧ Hid (OrM S W wr sB oB bo dB bD rB P #[.int .i64 (S.w : Int), .slice ad S.deps.length cd, .slice at1 S.deps.length ct, .slice ab S.deps.length cb] g (D) (vo) Ld) ∧ Hid (Ld.map Prod.fst = (ordS S g r).2.map natsZ))
 case atStart => exact ⟨0, fun _ => false, _, [], rfl, rfl, by have : undone S g (fun _ => false) ≤ S.deps.length := Nat.le_trans (List.length_filter_le _ _) (by simp); omega, Lib.hid rfl, Lib.hid rfl, Lib.hid (fun r' h => absurd h (Nat.not_lt_zero _)), hm0, Lib.hid rfl⟩
 case round =>
  clear hm0
  obtain ⟨r, D, vo, Ld, rfl, hLr, hrq, hD, hq, hgo, hm, hLd⟩ := hrel
  obtain ⟨ao, co, hvo⟩ := hm.out.out.slice
  obtain ⟨nl, hnl⟩ : ∃ nl, nl = Ld.length := ⟨_, rfl⟩
  rw [← hnl] at hvo hLr
  subst hvo
  have HNL := Lib.hid hnl
  clear hnl
  have cO := cellOf hm.out.env.o
  have hnr : nl + gk ≤ S.deps.length := by omega
  have HLR := Lib.hid hLr
  clear hLr hrq
  go_wp2_with fail
  clear cO
  have hSx := H.out.extNo hm.out.ext
  refine (index2_any S S.deps.length oB bo dB bD sB rB g D _ _ _ wr rfl hm.out.env (fun x hx => HGO.out.lt HOK.out hx) hSx hm.out.sbox hm.out.rbox _ ((List.range S.deps.length).map g) (fun x hx => by
   obtain ⟨y, hy, rfl⟩ := List.mem_map.1 hx
   exact HGO.out.lt HOK.out (List.mem_range.1 hy)) (hm.out.env.ob.ints (by omega))).mono ?_
  rintro e1 w7 ⟨z, rfl, hz, hx7⟩
  have hm7 := Lib.hid (hm.out.stepNo hx7)
  clear hm hx7 hSx
  rcases first_find hz.out with ⟨rfl, hnone⟩ | ⟨k, rfl, hk, hgood, hsome⟩
  ·have HN := Lib.hid hnone
   clear hz hnone
   go_wp2_with fail
   refine ret_ex rfl ?_
   simp [results, Try.results36, go_sem]
   exact ⟨g, r, ao, co, Ld, HGO.out, ⟨by rw [← hD.out]; exact HN.out, hgo.out⟩, by rw [HNL.out], hLd, Lib.hid (by have h := hm7.out.out.list (M := No) (fun _ _ x => x) (fun _ x => x.elim); rw [HNL.out] at h; exact h), by have := HNL.out; omega, hm7.out.ext⟩
  ·have HGD := Lib.hid hgood
   have HSM := Lib.hid hsome
   obtain ⟨c, hc⟩ : ∃ c, c = g k := ⟨_, rfl⟩
   have HC := Lib.hid hc
   have hcN : c < S.deps.length := by rw [hc]; exact HGO.out.lt HOK.out hk
   have hkz : (k : Int) < (S.deps.length : Int) := by omega
   have hkz0 : (0 : Int) ≤ (k : Int) := by omega
   have hk1 : ¬ ((k : Int) < 0) := by omega
   have hcz : (c : Int) < (S.deps.length : Int) := by omega
   have hcz0 : (0 : Int) ≤ (c : Int) := by omega
   have q0 := hm7.out.env.ob.cell hk
   rw [← hc] at q0
   have cO := cellOf hm7.out.env.o
   have cD := cellOf hm7.out.env.d
   have qD := hm7.out.env.db.cell hcN
   have fD := hm7.out.env.db.free c
   clear hgood hsome hz hc
   go_upto_region 12 with (fail)
   clear q0 cO cD qD fD
   have hm8 := Lib.hid (hm7.out.mark c)
   clear hm7
   generalize (w7.setCell ⟨bD, c, none⟩ (.bool true)) = w8 at *
   have cO := cellOf hm8.out.env.o
   go_wp2_with fail
   clear cO
   have hP8 := hm8.out.top
   go_loopw [11, 12, 13, 41] (fun s11 _ _ i wx => ∃ j : Nat, i = .int .i64 j ∧ j ≤ S.deps.length ∧ Hid (wx.ownsRow w8.heap.size 3 1 s11 (memL g c j).length ((natsZ (memL g c j)).map (.int .i64))) ∧ Hid (Ext No w8 wx)) (fun _ _ _ i _ => S.deps.length - (intOf i).toNat)
   case atStart => exact ⟨0, rfl, Nat.zero_le _, Lib.hid (World.ownsRow_nil _ _ _ _), Lib.hid (Ext.refl _ _)⟩
   case round =>
    obtain ⟨j, rfl, hj, hown, hx⟩ := hrel
    rename World => wx
    obtain ⟨s1, t1, hs11⟩ := (Row.ofOwns (M := No) hown.out (fun _ _ x => x)).slice
    obtain ⟨ml, hml⟩ : ∃ ml, ml = (memL g c j).length := ⟨_, rfl⟩
    rw [← hml] at hs11 hown
    subst hs11
    have hmle : ml ≤ j := by rw [hml]; exact memL_le _ _ _
    have HML := Lib.hid hml
    clear hml
    have hw8 := hx.out.size
    by_cases hlt : j < S.deps.length
    ·have hjz : (j : Int) < (S.deps.length : Int) := by omega
     have HJJ : Hid (Value.int .i64 ((j : Int) + 1) = .int .i64 ((j + 1 : Nat) : Int)) := Lib.hid (by rw [show ((j + 1 : Nat) : Int) = (j : Int) + 1 from by omega])
     have q0 := (hm8.out.env.extNo hx.out).ob.cell hlt
     by_cases hgc : g j = c
     ·have hg1 : ((g j : Int) == (c : Int)) = true := by simp [hgc]
      have hg2 : (g j : Int) = (c : Int) := by omega
      have HS := Lib.hid (memL_yes hgc)
      clear hgc
      go_wp2_with (at_builtin; (refine wpList_app _ rfl (.tmp 49) (.tmp 51) 22 rfl w8.heap.size 3 i0 _ 1 8 Try.underlying22 hi0 hz0 hz1 hz2 rfl (by omega) (.slice s1 ml t1) ml ((natsZ (memL g c j)).map (.int .i64)) rfl (row_keep hown.out ((Ext.refl No _).alloc _) (fun _ _ x => x)) No (some ⟨wx.heap.size, 0, none⟩) 1 1 [.int .i64 (j : Int)] rfl (Row.block (alloc_top rfl) rfl no_no (by omega)) (by simp [Value.oneCell']) (by omega) (by omega) (by simp; omega) ?_); (intro v1 w9 hown1 hg9 hv9); (have hm9 := Lib.hid (own_ext hx.out hg9 (fun b hb => (World.ownsRow.lt hown.out b hb).1) (Nat.le_refl _))); (have ho9 := Lib.hid hown1); (clear hown1 hg9 hv9))
      go_roundw
      case rel => exact ⟨j + 1, HJJ.out, by omega, Lib.hid (by
       rw [HS.out, List.length_append, ← HML.out, show natsZ (memL g c j ++ [j]) = natsZ (memL g c j) ++ [(j : Int)] from by simp [natsZ], List.map_append]
       exact ho9.out), hm9⟩
      case measure => simp [intOf]; omega
     ·have hg1 : ((g j : Int) == (c : Int)) = false := by simp; omega
      have hg2 : ¬ ((g j : Int) = (c : Int)) := by omega
      have HS := Lib.hid (memL_no hgc)
      clear hgc
      go_wp2_with fail
      go_roundw
      case rel => exact ⟨j + 1, HJJ.out, by omega, Lib.hid (by rw [HS.out, ← HML.out]; exact hown.out), hx⟩
      case measure => simp [intOf]; omega
    ·have hge : ¬ (j : Int) < (S.deps.length : Int) := by omega
     obtain rfl : j = S.deps.length := by omega
     have hmx := Lib.hid (hm8.out.stepNo hx.out)
     have hPx := hmx.out.top
     have hIA := Lib.hid (show Ints (fun b => At bD b ∨ (Value.slice ao nl co).ownBlock = some b) wx .i64 (.slice s1 ml t1) (natsZ (memL g c S.deps.length)) from by
      have h1 := Row.ofOwns (M := fun b => At bD b ∨ (Value.slice ao nl co).ownBlock = some b) hown.out (fun b hb e => by
       have h2 := hm8.out.lo
       rcases e with e | e
       ·unfold At at e; omega
       ·have := (hm8.out.out.lt b e).2; omega)
      unfold Ints
      rw [nats_len, ← HML.out]
      exact h1)
     have hOW := Lib.hid (show wx.ownsRow P 22 1 (.slice ao nl co) nl (Ld.flatMap kD.cells) from by have h := hmx.out.out.own; rw [← HNL.out] at h; exact h)
     have hxa : Ext No wx (wx.alloc (.cells #[.slice s1 ml t1] 22)) := (Ext.refl _ _).alloc _
     go_wp2_with (at_builtin; (refine wpList_app _ rfl (.tmp 54) (.tmp 56) 25 rfl P 22 j0 _ 1 24 Try.underlying25 hj0 hy0 hy1 hy2 rfl (by omega) (.slice ao nl co) nl (Ld.flatMap kD.cells) rfl (row_keep hOW.out hxa (fun _ _ x => x)) No (some ⟨wx.heap.size, 0, none⟩) 1 1 [.slice s1 ml t1] rfl (Row.block (alloc_top rfl) rfl no_no (by omega)) (by simp [Value.oneCell']) (by omega) (by omega) (by simp; omega) ?_); (intro v1 w9 hown1 hg9 hv9); (have hO9 := Lib.hid hown1); (have hG9 := Lib.hid hg9); (have hV9 := Lib.hid hv9); (clear hown1 hg9 hv9))
     have hmB := Lib.hid ((hmx.out.stepNo hxa).push (Row.extNo hIA.out hxa) (by have h := hO9.out; have e := HNL.out; subst e; exact h) hG9.out (hV9.out.imp id (fun e k hk => by rw [e] at hk; simp only [Option.some.injEq] at hk; omega)))
     have HSS := Lib.hid (ordS_some (by rw [← hD.out]; exact HSM.out))
     have hlt9 : undone S g (upd D c true) < gk := by
      rw [hq.out, HC.out]
      exact undone_lt hk (good_not HGD.out)
     go_roundg (undone S g (upd D c true))
     case rel => exact ⟨r + 1, upd D c true, _, Ld ++ [(natsZ (memL g c S.deps.length), .slice s1 ml t1)], rfl, by rw [List.length_append, ← HNL.out, HLR.out]; rfl, by have := HLR.out; omega, Lib.hid (by rw [HSS.out, hD.out, HC.out]), Lib.hid rfl, Lib.hid (fun r' hr' => by
      by_cases e : r' = r
      ·subst e; rw [← hD.out, HSM.out]; simp
      ·exact hgo.out r' (by omega)), hmB, Lib.hid (by rw [List.map_append, hLd.out, HSS.out, List.map_append, HC.out]; rfl)⟩
     case measure => exact hlt9
end Go.Proofs.Ytkdjdhflhlbelaa

/- Rows of words that a call makes: cloning, empty sets, setting a bit in place. -/
import Derived.Test.YtgakojgkkdmabaaSet3
import Derived.Deep.DeepCutAuto
import Derived.Deep.RegionHeld3
import Derived.Deep.Onto
namespace Go.Proofs.Ytgakojgkkdmabaa
open Go Go.RowKit

theorem ret_ex {P : Program} {fn : Func} {R : Ending → World → Prop} {a : Act} {w : World}
    (hd : a.defers = []) (h : ∃ v, (results fn a.tmps).run P w = .ok v w ∧ R (.returned v) w) : bodyPost P fn R .ret a w := by
  obtain ⟨v, hr, hR⟩ := h; exact ⟨hd, v, hr, hR⟩
theorem info_parts {P : Program} {e : TypeId} {z : Value} {s b : Nat} (h : (P.info? e).map (fun i => (i.zero, i.size, i.bytes)) = some (some z, s, b)) : ∃ i, P.info? e = some i ∧ i.zero = some z ∧ i.size = s ∧ i.bytes = b := by
  cases hi : P.info? e with
  | none => rw [hi] at h; simp at h
  | some i => rw [hi] at h; simp at h; exact ⟨i, rfl, h.1, h.2.1, h.2.2⟩
theorem infoW : (Try.prog.info? 50).map (fun i => (i.zero, i.size, i.bytes)) = some (some (.int .u64 0), 1, 8) := by kernel_rfl
/-- a row of words that the call itself made -/
structure OwnW (W : World) (base : Nat) (v : Value) (l : List Nat) : Prop where
  own : W.ownsRow base 50 1 v l.length (u64s l)
  lt : ∀ n ∈ l, n < 2 ^ 64
def OwnPost (l : List Nat) (W : World) (e : Ending) (w' : World) : Prop := ∃ v, e = .returned v ∧ OwnW w' W.heap.size v l ∧ Ext No W w'

set_option maxHeartbeats 400000 in
theorem clone_any (sl : Value) (l : List Nat) (W : World) (h : WordsAt No W sl l) (hn : l.length ≤ 1048576) :
    Calls Try.prog 41 #[sl] W (OwnPost l W) := by
  obtain ⟨i0, hi, hz0, hz1, hz2⟩ := info_parts infoW
  have H := Lib.hid h
  obtain ⟨a, cap, rfl⟩ := h.slice
  clear h
  have ke := fun (w : World) (a : Option Addr) (n c : Nat) => Lib.run_eql_slice_nil (P := Try.prog) w 26 50 a n c 0 0 Try.underlying26
  cases a with
  | none =>
    have h0 : l.length = 0 := by
      rcases H.out.row.2.2 with ⟨a, c, h1, _, h2 | ⟨b, off, h2, _⟩⟩
      · exact h2
      · simp only [Value.slice.injEq] at h1; rw [h2] at h1; exact absurd h1.1 (by simp)
    have HL := Lib.hid (List.eq_nil_of_length_eq_zero h0)
    clear h0
    go_enter Try.func41, Try.ntmps41
    go_wp2
    go_ret
    exact ⟨_, rfl, by rw [HL.out]; exact ⟨World.ownsRow_nil _ _ _ _, by simp⟩, Ext.refl _ _⟩
  | some ad =>
    go_enter Try.func41, Try.ntmps41
    go_wp2_with (at_builtin; refine wpList_app _ rfl (.tmp 5) (.tmp 6) 26 rfl W.heap.size 50 i0 _ 1 8 Try.underlying26 hi hz0 hz1 hz2 rfl (by omega) _ 0 [] rfl (World.ownsRow_made W #[] 0 (Nat.le_refl _) (Nat.zero_le _) rfl) No (some ad) l.length cap (u64s l) rfl (Row.extNo H.out.row ((Ext.refl _ _).alloc _)) (u64s_one l) (by omega) (by omega) (by simp) ?_; intro v1 w1 hown hg hat)
    go_ret
    simp only [Nat.zero_add, List.nil_append] at hown
    exact ⟨_, rfl, ⟨hown, H.out.lt⟩, ((Ext.refl _ _).alloc _).grown hg (fun k hk hlt => by cases hk; exact absurd hlt (Nat.lt_irrefl _))⟩

theorem OwnW.shape {W : World} {base : Nat} {v : Value} {l : List Nat} (h : OwnW W base v l) (hn : l.length ≠ 0) : ∃ g cap, v = .slice (some ⟨g, 0, none⟩) l.length cap ∧ base ≤ g ∧ g < W.heap.size := by
  obtain ⟨h1, h2⟩ := h.own
  rcases h2 with ⟨_, h3⟩ | ⟨g, cap, cur, rfl, hb, hg, _⟩
  · omega
  · exact ⟨g, cap, rfl, hb, lt_of_block hg⟩
theorem OwnW.slice {W : World} {base : Nat} {v : Value} {l : List Nat} (h : OwnW W base v l) : ∃ a cap, v = .slice a l.length cap := (Row.ofOwns (M := No) h.own (fun _ _ x => x)).slice
theorem OwnW.at {W : World} {base g cap : Nat} {l : List Nat} (h : OwnW W base (.slice (some ⟨g, 0, none⟩) l.length cap) l) {i : Nat} (hi : i < l.length) : W.cell? ⟨g, i, none⟩ = some (.int .u64 (l[i] : Int)) := by
  rw [World.ownsRow.cellAt h.own i (by omega), u64s_get l i hi]
theorem OwnW.free {W : World} {base g cap : Nat} {l : List Nat} (h : OwnW W base (.slice (some ⟨g, 0, none⟩) l.length cap) l) (i : Nat) : W.frozen? ⟨g, i, none⟩ = false := World.ownsRow.frozenAt h.own i
theorem u64s_set (l : List Nat) (i n : Nat) : u64s (l.set i n) = (u64s l).set i (.int .u64 (n : Int)) := by simp [u64s, List.map_set]
theorem OwnW.set {W : World} {base g cap : Nat} {l : List Nat} (h : OwnW W base (.slice (some ⟨g, 0, none⟩) l.length cap) l) (i n : Nat) (hn : n < 2 ^ 64) : OwnW (W.setCell ⟨g, i, none⟩ (.int .u64 (n : Int))) base (.slice (some ⟨g, 0, none⟩) l.length cap) (l.set i n) :=
  ⟨by rw [List.length_set, u64s_set]; exact (World.ownsRow.stored (w := W) h.own i (.int .u64 (n : Int))).1, fun k hk => by
    rcases List.mem_or_eq_of_mem_set hk with h1 | rfl
    · exact h.lt k h1
    · exact hn⟩
theorem OwnW.ext {M : Nat → Prop} {W W' : World} {base : Nat} {v : Value} {l : List Nat} (h : OwnW W base v l) (hx : Ext M W W') (hM : ∀ i, base ≤ i → ¬ M i) : OwnW W' base v l := by
  refine ⟨?_, h.lt⟩
  obtain ⟨h1, h2⟩ := h.own
  refine ⟨h1, ?_⟩
  rcases h2 with h2 | ⟨g, cap, cur, hv, hb, hg, hr⟩
  · exact .inl h2
  · exact .inr ⟨g, cap, cur, hv, hb, (hx.block g (lt_of_block hg) (hM g hb)).trans hg, hr⟩
/-- as a set of its own, in a later world -/
theorem OwnW.fin {M : Nat → Prop} {W0 W W' : World} {base w m : Nat} {v : Value} (h : OwnW W base v (wordsN w m)) (hb : W0.heap.size ≤ base) (hM : ∀ b, M b → b < W0.heap.size) (hx : Ext (Lo base) W W') (hw : w ≤ 256) (hm : m < 2 ^ w) : SetAt M W' v w m :=
  ⟨⟨Row.fin h.own hb hM hx, h.lt⟩, hw, hm⟩
theorem wordsN_zero (w : Nat) : wordsN w 0 = List.replicate (nw w) 0 := by
  refine List.ext_getElem (by simp [wordsN_len]) (fun i h1 h2 => ?_)
  rw [wordsN_get, wordN_zero, List.getElem_replicate]
theorem wordsN_with (w m b : Nat) (hb : b < w) : (wordsN w m).set (b / 64) (wordN m (b / 64) ||| 2 ^ (b % 64)) = wordsN w (m ||| 2 ^ b) := by
  refine List.ext_getElem (by simp [wordsN_len]) (fun i h1 h2 => ?_)
  rw [List.getElem_set, wordsN_get, wordsN_get, wordN_or, wordN_bit2]
  by_cases h : b / 64 = i
  · rw [if_pos h, if_pos h.symm, h]
  · rw [if_neg h, if_neg (Ne.symm h), Nat.or_zero]
theorem wordsN_without (w m b : Nat) (hb : b < w) : (wordsN w m).set (b / 64) (diffN (wordN m (b / 64)) (2 ^ (b % 64))) = wordsN w (diffN m (2 ^ b)) := by
  refine List.ext_getElem (by simp [wordsN_len]) (fun i h1 h2 => ?_)
  rw [List.getElem_set, wordsN_get, wordsN_get, wordN_diff, wordN_bit2]
  by_cases h : b / 64 = i
  · rw [if_pos h, if_pos h.symm, h]
  · rw [if_neg h, if_neg (Ne.symm h)]
    unfold diffN; simp

/-! ### setting a bit in place -/
/-- a power of two, not to be opened by the walk -/
def p2 (k : Nat) : Nat := 2 ^ k
theorem p2_lt {k : Nat} (h : k < 64) : p2 k < 2 ^ 64 := Nat.pow_lt_pow_right (by decide) h
theorem shl_p2 {k : Nat} (h : k < 64) : IntKind.u64.wrap (2 ^ k) = (p2 k : Int) := by
  have := shl_one k h
  rw [Int.one_mul] at this
  exact this
theorem bitU {k : Nat} (h : k < 64) : 2 ^ k < 2 ^ 64 := Nat.pow_lt_pow_right (by decide) h
def PutPost (base : Nat) (v : Value) (w m b : Nat) (g : Nat) (W : World) (e : Ending) (w' : World) : Prop := e = .returned (.tuple #[]) ∧ OwnW w' base v (wordsN w (m ||| 2 ^ b)) ∧ Ext (At g) W w' ∧ W.heap.size ≤ w'.heap.size
set_option maxHeartbeats 400000 in
theorem put_any (base g cap w m b : Nat) (hb : b < w) (hw : w ≤ 256) (W : World) (h : OwnW W base (.slice (some ⟨g, 0, none⟩) (nw w) cap) (wordsN w m)) (hg : g < W.heap.size) (hbg : base ≤ g) :
    Calls Try.prog 42 #[.agg #[.int .i64 (w : Int), .slice (some ⟨g, 0, none⟩) (nw w) cap], .int .i64 (b : Int)] W (PutPost base (.slice (some ⟨g, 0, none⟩) (nw w) cap) w m b g W) := by
  have hn : b / 64 < nw w := by unfold nw; omega
  have hl := wordsN_len w m
  rw [← hl] at h
  have hc := h.at (i := b / 64) (by rw [hl]; exact hn)
  have hf := h.free (b / 64)
  rw [wordsN_get] at hc
  have HS := Lib.hid (h.set (b / 64) (wordN m (b / 64) ||| p2 (b % 64)) (Nat.or_lt_two_pow (wordN_lt _ _) (p2_lt (Nat.mod_lt _ (by decide)))))
  rw [hl, show wordN m (b / 64) ||| p2 (b % 64) = wordN m (b / 64) ||| 2 ^ (b % 64) from rfl, wordsN_with w m b hb] at HS
  clear h hl
  have hk0 : (0 : Int) ≤ (b : Int) := by omega
  have hk2 : (b : Int) ≤ 256 := by omega
  have hu : IntKind.u64.wrap (b : Int) = b := wrapU b (by omega)
  have h64 : b % 64 < 64 := Nat.mod_lt _ (by decide)
  have hor := bits_or (wordN m (b / 64)) (p2 (b % 64)) (wordN_lt _ _) (p2_lt h64)
  have hsh := shl_p2 h64
  go_enter Try.func42, Try.ntmps42
  go_wp2_with fail
  go_end0
  exact ⟨rfl, OwnW.ext HS.out ((Ext.refl No _).alloc _) (fun _ _ x => x), ((Ext.refl (At g) _).setCell (p := ⟨g, _, none⟩) (fun _ => rfl) _).alloc _, by simp [World.setCell]⟩

/-- and the two blocks that a function with two results lays first -/
def Also (M : Nat → Prop) (b : Nat) : Nat → Prop := fun k => M k ∨ k = b ∨ k = b + 1
theorem also_lt {M : Nat → Prop} {W : World} {o o' : Obj} (hM : ∀ b, M b → b < W.heap.size) : ∀ b, Also M W.heap.size b → b < ((W.alloc o).alloc o').heap.size := fun b h => by
  have e : ((W.alloc o).alloc o').heap.size = W.heap.size + 2 := by simp
  rcases h with h | rfl | rfl
  · have := hM b h; omega
  · omega
  · omega
def Two (b : Nat) : Nat → Prop := fun k => k = b ∨ k = b + 1
theorem ext_set2 {W w1 : World} {u0 u1 : Value} (_ : Ext No W w1) : Ext (Two W.heap.size) w1 ((w1.setCell ⟨W.heap.size + 1, 0, none⟩ u0).setCell ⟨W.heap.size + 1, 1, none⟩ u1) :=
  ((Ext.refl (Two W.heap.size) _).setCell (p := ⟨W.heap.size + 1, 0, none⟩) (fun _ => .inr rfl) _).setCell (p := ⟨W.heap.size + 1, 1, none⟩) (fun _ => .inr rfl) _
theorem ext_two {W w1 : World} {u0 u1 : Value} (_ : Ext No W w1) (C : Nat) : Ext (At C) w1 ((w1.setCell ⟨C, 0, none⟩ u0).setCell ⟨C, 1, none⟩ u1) :=
  ((Ext.refl (At C) _).setCell (p := ⟨C, 0, none⟩) (fun _ => rfl) _).setCell (p := ⟨C, 1, none⟩) (fun _ => rfl) _
theorem SetAt.alsoBack {M : Nat → Prop} {W w' : World} {b w m : Nat} {sl : Value} (h : SetAt (Also M b) W sl w m) (hx : Ext (Two b) W w') : SetAt M w' sl w m :=
  (h.ext hx (fun i _ e => .inr e)).mono (fun i _ e => .inl e)
/-! ### a set with a bit, and without -/
theorem alloc_lt {w : World} {o : Obj} {g : Nat} (h : (w.alloc o).drew.heap.size ≤ g) : w.heap.size < g := by
  have e : (w.alloc o).drew.heap.size = w.heap.size + 1 := by simp
  omega
theorem no_no {k : Nat} : ¬ No k := fun x => x
theorem keepA {w : World} {a : Addr} {v : Value} {o : Obj} (h : w.cell? a = some v) : (w.alloc o).cell? a = some v := ((Ext.refl No w).alloc o).keep h
theorem keepD {w : World} {a : Addr} {v : Value} (h : w.cell? a = some v) : w.drew.cell? a = some v := h
theorem keepS {w : World} {a b : Addr} {v u : Value} (hne : a.block ≠ b.block) (h : w.cell? a = some v) : (w.setCell b u).cell? a = some v := ((Ext.refl (At b.block) w).setCell (fun _ => rfl) u).keepM h hne
theorem keepS2 {w : World} {a : Addr} {v u0 u1 : Value} {D : Nat} (h : w.cell? a = some v) (hne : a.block ≠ D) : ((w.setCell ⟨D, 0, none⟩ u0).setCell ⟨D, 1, none⟩ u1).cell? a = some v := keepS hne (keepS hne h)
theorem ext2 {M : Nat → Prop} {a w : World} {u0 u1 : Value} {D : Nat} (h : Ext M a w) (hD : a.heap.size ≤ D) : Ext M a ((w.setCell ⟨D, 0, none⟩ u0).setCell ⟨D, 1, none⟩ u1) := (h.own hD _).own hD _
theorem keepN {w w' : World} {a : Addr} {v : Value} (hx : Ext No w w') (h : w.cell? a = some v) : w'.cell? a = some v := hx.keep h
theorem OwnW.shapeN {W : World} {base w m : Nat} {v : Value} (h : OwnW W base v (wordsN w m)) (hn : 0 < w) : ∃ g cap, v = .slice (some ⟨g, 0, none⟩) (nw w) cap ∧ base ≤ g ∧ g < W.heap.size := by
  obtain ⟨g, cap, h1, h2, h3⟩ := h.shape (by rw [wordsN_len]; unfold nw; omega)
  exact ⟨g, cap, by rw [h1, wordsN_len], h2, h3⟩
def ChMem (W : World) (w m : Nat) (s8 : Value) (wx : World) : Prop :=
  ∃ D g cap, s8 = .pointer (some ⟨D, 0, none⟩) ∧ wx.heap[D]? = some (.cells #[.int .i64 (w : Int), .slice (some ⟨g, 0, none⟩) (nw w) cap] 28 (0, 0)) ∧ OwnW wx (W.heap.size + 2) (.slice (some ⟨g, 0, none⟩) (nw w) cap) (wordsN w m) ∧ Ext No W wx ∧ W.heap.size + 1 < D ∧ D ≠ g ∧
    wx.heap[W.heap.size + 1]? = some (.cells #[.int .i64 0, .slice none 0 0] 28 (0, 0))
def SetEPost (M : Nat → Prop) (w m : Nat) (W : World) (e : Ending) (w' : World) : Prop :=
  ∃ a c, e = .returned (.tuple #[.agg #[.int .i64 (w : Int), .slice a (nw w) c], .int .i64 0]) ∧ Hid (SetAt M w' (.slice a (nw w) c) w m) ∧ Ext No W w'
def SetPost (M : Nat → Prop) (w m : Nat) (W : World) (e : Ending) (w' : World) : Prop :=
  ∃ a c, e = .returned (.agg #[.int .i64 (w : Int), .slice a (nw w) c]) ∧ Hid (SetAt M w' (.slice a (nw w) c) w m) ∧ Ext No W w'
theorem ChMem.late {W w3 : World} {w m base g cap : Nat} (hx : Ext No W w3) (ho : OwnW w3 base (.slice (some ⟨g, 0, none⟩) (nw w) cap) (wordsN w m)) (hb : W.heap.size + 2 ≤ base) (hC : w3.heap[W.heap.size + 1]? = some (.cells #[.int .i64 0, .slice none 0 0] 28 (0, 0))) (hg : g < w3.heap.size) :
    ChMem W w m (.pointer (some ⟨w3.heap.size, 0, none⟩)) (w3.alloc (.cells #[.int .i64 (w : Int), .slice (some ⟨g, 0, none⟩) (nw w) cap] 28)) := by
  have hc := lt_of_block hC
  refine ⟨_, g, cap, rfl, alloc_top rfl, ?_, hx.alloc _, hc, by omega, alloc_under hC⟩
  have h2 := ho.ext (M := No) ((Ext.refl _ _).alloc (.cells #[.int .i64 (w : Int), .slice (some ⟨g, 0, none⟩) (nw w) cap] 28)) (fun _ _ x => x)
  exact ⟨World.ownsRow.mono h2.own hb, h2.lt⟩
theorem ChMem.early {W w2 w3 : World} {w m base g cap : Nat} (hx : Ext No W w3) (ho : OwnW w3 base (.slice (some ⟨g, 0, none⟩) (nw w) cap) (wordsN w m)) (hD : W.heap.size + 1 < w2.heap.size) (hC : w3.heap[W.heap.size + 1]? = some (.cells #[.int .i64 0, .slice none 0 0] 28 (0, 0))) (hz : w3.heap[w2.heap.size]? = some (.cells #[.int .i64 0, .slice none 0 0] 28 (0, 0))) (hg : w2.heap.size < g) :
    ChMem W w m (.pointer (some ⟨w2.heap.size, 0, none⟩)) ((w3.setCell ⟨w2.heap.size, 0, none⟩ (.int .i64 (w : Int))).setCell ⟨w2.heap.size, 1, none⟩ (.slice (some ⟨g, 0, none⟩) (nw w) cap)) := by
  have e1 := set_same (j := 1) (u := .slice (some ⟨g, 0, none⟩) (nw w) cap) (set_same (j := 0) (u := .int .i64 (w : Int)) hz)
  have hx2 : Ext (At w2.heap.size) w3 ((w3.setCell ⟨w2.heap.size, 0, none⟩ (.int .i64 (w : Int))).setCell ⟨w2.heap.size, 1, none⟩ (.slice (some ⟨g, 0, none⟩) (nw w) cap)) := ((Ext.refl (At w2.heap.size) _).setCell (p := ⟨w2.heap.size, 0, none⟩) (fun _ => rfl) _).setCell (p := ⟨w2.heap.size, 1, none⟩) (fun _ => rfl) _
  refine ⟨_, g, cap, rfl, e1.trans rfl, ?_, (hx.own (by simp only; omega) _).own (by simp only; omega) _, hD, by omega, hx2.blk hC (by unfold At; omega)⟩
  have hbase : base ≤ g := (World.ownsRow.lt ho.own g rfl).1
  have h2 : OwnW w3 g (.slice (some ⟨g, 0, none⟩) (nw w) cap) (wordsN w m) := by
    refine ⟨?_, ho.lt⟩
    obtain ⟨h1, h2⟩ := ho.own
    refine ⟨h1, ?_⟩
    rcases h2 with ⟨h2, _⟩ | ⟨g', cap', cur, hv, hb, hg', hr⟩
    · simp at h2
    · simp only [Value.slice.injEq, Option.some.injEq, Addr.mk.injEq] at hv
      obtain ⟨⟨rfl, _⟩, _, rfl⟩ := hv
      exact .inr ⟨g, cap, cur, by rw [wordsN_len], Nat.le_refl _, hg', hr⟩
  have h3 := h2.ext hx2 (fun i hi => by unfold At; omega)
  exact ⟨World.ownsRow.mono h3.own (by omega), h3.lt⟩
section
variable {W : World} {base g cap w m : Nat}
theorem OwnW.at' (h : OwnW W base (.slice (some ⟨g, 0, none⟩) (nw w) cap) (wordsN w m)) {i : Nat} (hi : i < nw w) : W.cell? ⟨g, i, none⟩ = some (.int .u64 (wordN m i : Int)) := by
  have hl := wordsN_len w m
  rw [← hl] at h
  rw [h.at (i := i) (by rw [hl]; exact hi), wordsN_get]
theorem OwnW.free' (h : OwnW W base (.slice (some ⟨g, 0, none⟩) (nw w) cap) (wordsN w m)) (i : Nat) : W.frozen? ⟨g, i, none⟩ = false := by
  rw [← wordsN_len w m] at h
  exact h.free i
theorem OwnW.set' (h : OwnW W base (.slice (some ⟨g, 0, none⟩) (nw w) cap) (wordsN w m)) (i n : Nat) (hn : n < 2 ^ 64) : OwnW (W.setCell ⟨g, i, none⟩ (.int .u64 (n : Int))) base (.slice (some ⟨g, 0, none⟩) (nw w) cap) ((wordsN w m).set i n) := by
  rw [← wordsN_len w m] at h ⊢
  exact h.set i n hn
theorem OwnW.low (h : OwnW W base (.slice (some ⟨g, 0, none⟩) (nw w) cap) (wordsN w m)) : base ≤ g := (World.ownsRow.lt h.own g rfl).1
theorem OwnW.lt' (h : OwnW W base (.slice (some ⟨g, 0, none⟩) (nw w) cap) (wordsN w m)) : g < W.heap.size := (World.ownsRow.lt h.own g rfl).2
end
theorem ext_at {W wx : World} (_ : Ext No W wx) (g o : Nat) (u : Value) : Ext (At g) wx (wx.setCell ⟨g, o, none⟩ u) := (Ext.refl (At g) _).setCell (p := ⟨g, o, none⟩) (fun _ => rfl) _
theorem with_without (m b : Nat) : diffN m (2 ^ b) ||| 2 ^ b = m ||| 2 ^ b := Nat.eq_of_testBit_eq fun j => by
  rw [Nat.testBit_or, Nat.testBit_or, diffN_bit]
  cases m.testBit j <;> cases (2 ^ b).testBit j <;> rfl

set_option maxRecDepth 100000 in
set_option maxHeartbeats 2000000 in
theorem changed_any (M : Nat → Prop) (w m b : Nat) (sl : Value) (W : World) (hM : ∀ b, M b → b < W.heap.size) (hb : b < w) (h : SetAt No W sl w m) :
    Calls Try.prog 37 #[.agg #[.int .i64 (w : Int), sl], .int .i64 (b : Int), .bool true] W (SetEPost M w (m ||| 2 ^ b) W) := by
  have H := Lib.hid h
  obtain ⟨a, c, rfl⟩ := h.slice
  have hv := validB_set h.hw h.hm
  have hw := h.hw
  have hm := h.hm
  clear h
  have hpos : 0 < w := by omega
  have hin : inB (setN w m).width b = true := decide_eq_true ⟨by omega, by show (b : Int) < (w : Int); omega⟩
  go_enter Try.func37, Try.ntmps37
  go_wp2_with fail
  refine (valid_any _ (setN w m) _ (H.out.raw.extNo (((Ext.refl _ _).alloc _).alloc _))).mono ?_
  rintro e1 w1 ⟨rfl, hx1⟩
  rw [hv]
  have hB := hx1.blk (alloc_under (alloc_top (w := W) rfl)) (fun x => x.elim)
  have hC := hx1.blk (n := W.heap.size + 1) (alloc_top (by simp)) (fun x => x.elim)
  have hxa : Ext No W w1 := (((Ext.refl _ _).alloc _).alloc _).transNo hx1
  have cB := cellOf hB
  clear hx1
  go_wp2_with fail
  refine (within_any _ (setN w m) b _ (H.out.raw.extNo hxa)).mono ?_
  rintro e2 w2 ⟨rfl, hx2⟩
  rw [hin]
  replace hB := hx2.blk hB (fun x => x.elim)
  replace hC := hx2.blk hC (fun x => x.elim)
  replace hxa := hxa.transNo hx2
  clear hx2 cB
  have cB := cellOf hB
  have hszC := lt_of_block hC
  go_wp2_with fail
  go_cut [8] (fun s8 wx => ChMem W w m s8 wx)
  case first =>
    have l0 : w2.cell? ⟨W.heap.size, 0, none⟩ = some (.int .i64 (w : Int)) := cB 0
    have l1 : w2.cell? ⟨W.heap.size, 1, none⟩ = some (.slice a (nw w) c) := cB 1
    have l2 : Ext No w2 w2 := Ext.refl _ _
    have HSD : Hid (w2.heap.size = w2.drew.heap.size) := Lib.hid rfl
    have hltB : W.heap.size < w2.heap.size := by omega
    have hszE : W.heap.size + 2 ≤ w2.drew.heap.size := hszC
    go_region_held3 (fun w' => w'.cell? ⟨W.heap.size, 0, none⟩ = some (.int .i64 (w : Int)) ∧ w'.cell? ⟨W.heap.size, 1, none⟩ = some (.slice a (nw w) c) ∧ Ext No w2 w')
      ((go_split_ands; refine ⟨?_, ?_, ?_⟩; (first | ((with_reducible refine keepS2 ?_ ?_); (first | (with_reducible assumption) | (with_reducible exact keepN hyA (by with_reducible assumption))); (exact Nat.ne_of_lt hltB)) | (with_reducible assumption) | (with_reducible exact keepD (by with_reducible assumption)) | (with_reducible exact keepA (by with_reducible assumption)) | (with_reducible exact keepD (keepA (by with_reducible assumption))) | (with_reducible exact keepA (keepD (by with_reducible assumption))) | (with_reducible exact keepN hyA (by with_reducible assumption)) | (with_reducible exact keepA (keepN hyA (by with_reducible assumption)))); (first | ((with_reducible refine keepS2 ?_ ?_); (first | (with_reducible assumption) | (with_reducible exact keepN hyA (by with_reducible assumption))); (exact Nat.ne_of_lt hltB)) | (with_reducible assumption) | (with_reducible exact keepD (by with_reducible assumption)) | (with_reducible exact keepA (by with_reducible assumption)) | (with_reducible exact keepD (keepA (by with_reducible assumption))) | (with_reducible exact keepA (keepD (by with_reducible assumption))) | (with_reducible exact keepN hyA (by with_reducible assumption)) | (with_reducible exact keepA (keepN hyA (by with_reducible assumption)))); (first | ((with_reducible refine ext2 ?_ ?_); (first | (with_reducible assumption) | (with_reducible exact Ext.transNo (by with_reducible assumption) hyA)); (exact Nat.le_refl _)) | (with_reducible assumption) | (with_reducible exact Ext.drew (by with_reducible assumption)) | (with_reducible exact Ext.alloc (by with_reducible assumption) _) | (with_reducible exact Ext.drew (Ext.alloc (by with_reducible assumption) _)) | (with_reducible exact Ext.transNo (by with_reducible assumption) hyA) | (with_reducible exact Ext.alloc (Ext.transNo (by with_reducible assumption) hyA) _))))
      (first | ((go_at_call 41); (try go_split_ands); (with_reducible refine (clone_any _ (wordsN w m) _ ?_ ?_).mono ?_); (exact H.out.words.extNo (hxa.transNo (by with_reducible assumption))); (rw [wordsN_len]; unfold nw; omega); (rintro e3 w3 ⟨v3, rfl, hown, hyA⟩); (obtain ⟨g, gcap, hsl, hbg, hgw⟩ := hown.shapeN hpos); (subst hsl); (have hx3 := Lib.hid (Ext.transNo (show Ext No w2 _ from by with_reducible assumption) hyA)); (first | ((with_reducible have hi := hyA.blk (alloc_top (n := w2.heap.size) (w := w2.drew) (o := .cells #[.int .i64 0, .slice none 0 0] 28) HSD.out) no_no); (have HD := Lib.hid hi); (have cD := cellOf hi); (have fD := freeOf hi); (clear hi); (have hbg2 := alloc_lt hbg)) | skip)))
    all_goals
      go_wp2_with fail
      go_meet
      first
      | (with_reducible exact ChMem.late (hxa.transNo hx3.out) hown hszE (Ext.blk hx3.out hC no_no) hgw)
      | (with_reducible exact ChMem.early (hxa.transNo hx3.out) hown hszC (Ext.blk hx3.out hC no_no) HD.out hbg2)
  case rest =>
    obtain ⟨D, g, cap, rfl, hD, hown, hx, hBD, hDg, hC3⟩ := hcut
    clear hxa hB hC hszC cB
    have hl := wordsN_len w m
    have hn : b / 64 < nw w := by unfold nw; omega
    have HO := Lib.hid (hown.set' (b / 64) (diffN (wordN m (b / 64)) (p2 (b % 64))) (diffN_lt (wordN_lt _ _)))
    rw [show diffN (wordN m (b / 64)) (p2 (b % 64)) = diffN (wordN m (b / 64)) (2 ^ (b % 64)) from rfl, wordsN_without w m b hb] at HO
    have hc := hown.at' hn
    have hf := hown.free' (b / 64)
    have hbg : W.heap.size + 2 ≤ g := hown.low
    have hgw := hown.lt'
    clear hown
    have hk0 : (0 : Int) ≤ (b : Int) := by omega
    have hk2 : (b : Int) ≤ 256 := by omega
    have hu : IntKind.u64.wrap (b : Int) = b := wrapU b (by omega)
    have h64 : b % 64 < 64 := Nat.mod_lt _ (by decide)
    have hsh := shl_p2 h64
    have hand := bits_andNot (wordN m (b / 64)) (p2 (b % 64)) (wordN_lt _ _)
    have cD := cellOf hD
    have hDg' : ¬ D = g := hDg
    have hgD' : ¬ g = D := fun e => hDg e.symm
    go_wp2_with fail
    have hx4 := ext_at hx g (b / 64) (.int .u64 (diffN (wordN m (b / 64)) (p2 (b % 64)) : Nat))
    refine (put_any (W.heap.size + 2) g cap w (diffN m (2 ^ b)) b hb hw _ HO.out (by simp [World.setCell]; exact hgw) hbg).mono ?_
    rintro e5 w5 ⟨rfl, ho5, hx5, hs5⟩
    rw [with_without] at ho5
    have hx6 := hx4.trans hx5
    have hD5 := hx6.blk hD hDg
    have hC5 := hx6.blk hC3 (by unfold At; omega)
    have hx7 : Ext No W w5 := hx.trans2 hx6 (fun i hi e => by unfold At at e; omega)
    have HO5 := Lib.hid ho5
    have hm2 : m ||| 2 ^ b < 2 ^ w := orN_lt hm (bitN_lt hb)
    clear cD hD hC3 hx hx4 hx5 hx6 ho5 HO hc hf hs5
    have cD := cellOf hD5
    have cC := cellOf hC5
    have fC := freeOf hC5
    go_wp2_with fail
    refine ret_ex rfl ?_
    simp [results, Try.results37, go_sem, cC]
    refine ⟨_, _, rfl, Lib.hid (HO5.out.fin (W0 := W) (by omega) hM ?_ hw hm2), ?_⟩
    · exact ((Ext.refl (Lo (W.heap.size + 2)) _).setCell (p := ⟨W.heap.size + 1, 0, none⟩) (fun _ => Nat.lt_succ_self _) _).setCell (p := ⟨W.heap.size + 1, 1, none⟩) (fun _ => Nat.lt_succ_self _) _
    · exact ext2 hx7 (by omega)
end Go.Proofs.Ytgakojgkkdmabaa

/- Merged: TrA TrB -/
import Derived.Test.YtfejidihocoboaaSetA
import Derived.Laws.StructEq
import Derived.Test.YtfejidihocoboaaHeld
import Derived.Laws.CopyOwn
set_option linter.unusedVariables false
set_option linter.unusedSimpArgs false
/- TrA -/
namespace Go.Proofs.Ytfejidihocoboaa
open Go Go.RowKit
def cmpZ (a b : Int) : Int := if a < b then -1 else if b < a then 1 else 0
theorem isNaN_any (a : Int) (W : World) : Calls Try.prog 66 #[.int .i64 a] W fun e w' => e = .returned (.bool false) ∧ W = w' := by
  go_enter Try.func66, Try.ntmps66
  go_wp2
  go_ret
  exact ⟨rfl, rfl⟩
theorem cmp_any (a b : Int) (W : World) : Calls Try.prog 40 #[.int .i64 a, .int .i64 b] W fun e w' => e = .returned (.int .i64 (cmpZ a b)) ∧ W = w' := by
  unfold cmpZ
  by_cases h1 : a < b
  · rw [if_pos h1]
    go_enter Try.func40, Try.ntmps40
    go_wp2_with (go_at_call 66; refine (isNaN_any _ _).mono ?_; rintro e' w1 ⟨rfl, rfl⟩)
    go_ret
    exact ⟨rfl, rfl⟩
  · by_cases h2 : b < a
    · rw [if_neg h1, if_pos h2]
      go_enter Try.func40, Try.ntmps40
      go_wp2_with (go_at_call 66; refine (isNaN_any _ _).mono ?_; rintro e' w1 ⟨rfl, rfl⟩)
      go_ret
      exact ⟨rfl, rfl⟩
    · rw [if_neg h1, if_neg h2]
      go_enter Try.func40, Try.ntmps40
      go_wp2_with (go_at_call 66; refine (isNaN_any _ _).mono ?_; rintro e' w1 ⟨rfl, rfl⟩)
      go_ret
      exact ⟨rfl, rfl⟩
end Go.Proofs.Ytfejidihocoboaa
/- Tr2 -/
namespace Go.Proofs.Ytfejidihocoboaa
open Go Go.RowKit
theorem flat_get {α : Type} (f : α → List Value) (n : Nat) (hf : ∀ a, (f a).length = n) : ∀ (l : List α) (i j : Nat) (hi : i < l.length), j < n → (l.flatMap f)[n * i + j]? = (f l[i])[j]? := by
  intro l
  induction l with
  | nil => intro i j hi; simp at hi
  | cons a l ih =>
    intro i j hi hj
    rw [List.flatMap_cons]
    cases i with
    | zero => simp only [Nat.mul_zero, Nat.zero_add, List.getElem_cons_zero]; rw [List.getElem?_append_left (by rw [hf]; exact hj)]
    | succ i =>
      rw [List.getElem?_append_right (by rw [hf, Nat.mul_add]; omega), hf]
      rw [show n * (i + 1) + j - n = n * i + j by rw [Nat.mul_add]; omega]
      rw [ih i j (by simpa using hi) hj]; rfl
end Go.Proofs.Ytfejidihocoboaa
/- Tr4 -/
namespace Go.Proofs.Ytfejidihocoboaa
open Go Go.RowKit
/-- a valid function: its width, the bits of its two sets, its copies -/
structure TrD where
  w : Nat
  gen : Nat
  kill : Nat
  copies : List (Int × Int)
end Go.Proofs.Ytfejidihocoboaa
/- Tr5 -/
namespace Go.Proofs.Ytfejidihocoboaa
open Go Go.RowKit
structure RawT where
  gen : RawSet
  kill : RawSet
  copies : List (Int × Int)
end Go.Proofs.Ytfejidihocoboaa

/- TrB -/
namespace Go.Proofs.Ytfejidihocoboaa
open Go Go.RowKit
/-- the value so far: the first k copies followed -/
def applyN (t : TrD) (s : Nat) : Nat → Nat
  | 0 => orN (diffN s t.kill) t.gen
  | k + 1 => match t.copies[k]? with
    | none => applyN t s k
    | some c => if hasZ t.w s c.1 then applyN t s k ||| 2 ^ c.2.toNat else applyN t s k
def applyT (t : TrD) (s : Nat) : Nat := applyN t s t.copies.length
end Go.Proofs.Ytfejidihocoboaa
/- Tr10 -/
namespace Go.Proofs.Ytfejidihocoboaa
open Go Go.RowKit
/-- a block that holds the words of a set and nothing else -/
def BlkW (W : World) (g w m : Nat) : Prop := W.heap[g]? = some (.cells (u64s (wordsN w m)).toArray 86 (0, 0))
theorem BlkW.own {W : World} {g w m : Nat} (h : BlkW W g w m) (hw : w ≤ 256) {base : Nat} (hb : base ≤ g) : OwnW W base (.slice (some ⟨g, 0, none⟩) (nw w) (nw w)) (wordsN w m) := by
  have hn : (wordsN w m).length = nw w := wordsN_len w m
  have hk : (u64s (wordsN w m)).length = nw w := by rw [u64s_len, hn]
  refine ⟨?_, wordsN_lt w m⟩
  rw [hn]
  refine ⟨by rw [hk, Nat.mul_one], .inr ⟨g, nw w, _, rfl, hb, h, Nat.le_refl _, by simp only [maxLen]; unfold nw; omega, by simp [hk], ?_⟩⟩
  rw [Nat.mul_one, ← hk]
  simp
theorem BlkW.set {M : Nat → Prop} {W : World} {g w m : Nat} (h : BlkW W g w m) (hw : w ≤ 256) (hm : m < 2 ^ w) (hg : ¬ M g) : SetAt M W (.slice (some ⟨g, 0, none⟩) (nw w) (nw w)) w m := by
  have hn : (wordsN w m).length = nw w := wordsN_len w m
  refine ⟨⟨⟨by rw [u64s_len, Nat.mul_one], by rw [hn]; unfold nw; omega, some ⟨g, 0, none⟩, nw w, by rw [hn], ⟨by rw [hn]; exact Nat.le_refl _, by unfold nw; omega⟩, .inr ⟨g, 0, rfl, lt_of_block h, hg, fun j u hj => ?_⟩⟩, wordsN_lt w m⟩, hw, hm⟩
  have h' : W.heap[g]? = some (.cells (u64s (wordsN w m)).toArray 86 (0, 0)) := h
  simp [World.cell?, h', hj]
theorem BlkW.zero {W : World} {w : Nat} : BlkW (W.alloc (.cells (zeroW (nw w)) 86)) W.heap.size w 0 := by
  have e : zeroW (nw w) = (u64s (wordsN w 0)).toArray := by rw [wordsN_zero, ← zeroW_list]
  rw [e]
  exact alloc_top rfl
/-- a set that the reference made -/
def ROwn (w m : Nat) (W : World) (e : Ending) (w' : World) : Prop :=
  ∃ g, e = .returned (.agg #[.int .i64 (w : Int), .slice (some ⟨g, 0, none⟩) (nw w) (nw w)]) ∧ Hid (BlkW w' g w m) ∧ W.heap.size ≤ g ∧ Ext No W w'
set_option maxHeartbeats 400000 in
theorem rempty_any (w : Nat) (W : World) (hw : w ≤ 256) : Calls Try.prog 60 #[.int .i64 (w : Int)] W (ROwn w 0 W) := by
  have hmk := mk_words (nw w) (by unfold nw; omega)
  have hn : ((w : Int) + 63) / 64 = (nw w : Int) := by unfold nw; omega
  have hw' : (w : Int) ≤ 256 := by omega
  go_enter Try.func60, Try.ntmps60
  go_wp2_with fail
  have hC : ((W.alloc (.cells #[.int .i64 (w : Int), .slice (some ⟨W.heap.size + 1, 0, none⟩) (nw w) (nw w)] 40)).alloc (.cells (zeroW (nw w)) 86)).heap[W.heap.size]? = some (.cells #[.int .i64 (w : Int), .slice (some ⟨W.heap.size + 1, 0, none⟩) (nw w) (nw w)] 40 (0, 0)) := alloc_under (alloc_top rfl)
  have cC := cellOf hC
  refine ret_ex rfl ?_
  simp [results, Try.results60, go_sem, cC]
  refine ⟨_, rfl, Lib.hid ?_, by omega, ((Ext.refl _ _).alloc _).alloc _⟩
  have h := BlkW.zero (W := W.alloc (.cells #[.int .i64 (w : Int), .slice (some ⟨W.heap.size + 1, 0, none⟩) (nw w) (nw w)] 40)) (w := w)
  simpa using h
/-- Put's memory: the argument's box, the result's, the new set's and its words -/
structure PMem (W : World) (sl : Value) (w m D g : Nat) (wx : World) : Prop where
  ext : Ext No W wx
  boxA : wx.heap[W.heap.size]? = some (.cells #[.int .i64 (w : Int), sl] 40 (0, 0))
  boxC : wx.heap[W.heap.size + 1]? = some (.cells #[.int .i64 0, .slice none 0 0] 40 (0, 0))
  boxD : wx.heap[D]? = some (.cells #[.int .i64 (w : Int), .slice (some ⟨g, 0, none⟩) (nw w) (nw w)] 40 (0, 0))
  blk : BlkW wx g w m
  bigD : W.heap.size + 2 ≤ D
  big : W.heap.size + 2 ≤ g
  ne : D ≠ g
theorem PMem.late {W w3 : World} {sl : Value} {w m g : Nat} (hx : Ext No W w3) (hA : w3.heap[W.heap.size]? = some (.cells #[.int .i64 (w : Int), sl] 40 (0, 0))) (hC : w3.heap[W.heap.size + 1]? = some (.cells #[.int .i64 0, .slice none 0 0] 40 (0, 0))) (hb : BlkW w3 g w m) (hg : W.heap.size + 2 ≤ g) :
    PMem W sl w m w3.heap.size g (w3.alloc (.cells #[.int .i64 (w : Int), .slice (some ⟨g, 0, none⟩) (nw w) (nw w)] 40)) := by
  have h1 := lt_of_block hb
  exact ⟨hx.alloc _, alloc_under hA, alloc_under hC, alloc_top rfl, alloc_under hb, by omega, hg, by omega⟩
theorem ext_setRow (w : World) (g : Nat) (cs : Array Value) : Ext (At g) w (w.setRow g cs) := ⟨rfl, rfl, rfl, by simp [World.setRow], fun k _ h => setRow_other w g k cs h⟩
theorem PMem.copy {W wx : World} {sl : Value} {w m m' D g : Nat} (h : PMem W sl w m' D g wx) : PMem W sl w m D g (wx.setRow g (((u64s (wordsN w m')).toArray).toList.take 0 ++ (u64s (wordsN w m) ++ ((u64s (wordsN w m')).toArray).toList.drop (0 + (u64s (wordsN w m)).length))).toArray) := by
  have h1 := h.big
  have hy := ext_setRow wx g (((u64s (wordsN w m')).toArray).toList.take 0 ++ (u64s (wordsN w m) ++ ((u64s (wordsN w m')).toArray).toList.drop (0 + (u64s (wordsN w m)).length))).toArray
  refine ⟨h.ext.trans2 hy (fun i hi e => by unfold At at e; omega), hy.blk h.boxA (by unfold At; omega), hy.blk h.boxC (by unfold At; omega), hy.blk h.boxD h.ne, ?_, h.bigD, h1, h.ne⟩
  have e : (((u64s (wordsN w m')).toArray).toList.take 0 ++ (u64s (wordsN w m) ++ ((u64s (wordsN w m')).toArray).toList.drop (0 + (u64s (wordsN w m)).length))).toArray = (u64s (wordsN w m)).toArray := by
    simp [u64s_len, wordsN_len]
  rw [e]
  exact setRow_heap wx g _ _ _ _ h.blk
theorem PMem.put {W wx : World} {sl : Value} {w m D g b : Nat} (h : PMem W sl w m D g wx) (hb : b < w) : PMem W sl w (m ||| 2 ^ b) D g (wx.setCell ⟨g, b / 64, none⟩ (.int .u64 ((wordN m (b / 64) ||| p2 (b % 64) : Nat) : Int))) := by
  have h1 := h.big
  have h2 := h.ne
  have h3 := h.ext
  refine ⟨h3.own (by simp only; omega) _, set_other h.boxA (by simp only; omega), set_other h.boxC (by simp only; omega), set_other h.boxD (by simpa using h2), ?_, h.bigD, h1, h2⟩
  have e := set_same (j := b / 64) (u := .int .u64 ((wordN m (b / 64) ||| p2 (b % 64) : Nat) : Int)) h.blk
  unfold BlkW
  rw [e, ← wordsN_with w m b hb, u64s_set]
  simp [p2]
theorem infoW1 : (Try.prog.info? 86).map (·.size) = some 1 := by kernel_rfl
set_option maxHeartbeats 1000000 in
theorem rput_any (w m b : Nat) (sl : Value) (W : World) (hb : b < w) (h : SetAt No W sl w m) :
    Calls Try.prog 61 #[.agg #[.int .i64 (w : Int), sl], .int .i64 (b : Int)] W (ROwn w (m ||| 2 ^ b) W) := by
  have H := Lib.hid h
  have hw := h.hw
  have hnn : b / 64 < nw w := by unfold nw; omega
  obtain ⟨bs, off, c, hsl, _, _, hcell⟩ := h.words.row.shape (by rw [wordsN_len]; omega)
  rw [wordsN_len] at hsl
  subst hsl
  have HCE := Lib.hid hcell
  have HN := Lib.hid (show (u64s (wordsN w m)).length = Nat.min (nw w) (nw w) by rw [u64s_len, wordsN_len]; exact (Nat.min_self _).symm)
  have HF := Lib.hid (show 0 + (u64s (wordsN w m)).length ≤ (u64s (wordsN w 0)).toArray.size by simp [u64s_len, wordsN_len])
  have hk0 : (0 : Int) ≤ (b : Int) := by omega
  have hk2 : (b : Int) ≤ 256 := by omega
  have hu : IntKind.u64.wrap (b : Int) = b := wrapU b (by omega)
  have h64 : b % 64 < 64 := Nat.mod_lt _ (by decide)
  have hsh := shl_p2 h64
  have hor := bits_or (wordN m (b / 64)) (p2 (b % 64)) (wordN_lt _ _) (p2_lt h64)
  clear h hcell
  go_enter Try.func61, Try.ntmps61
  go_wp2_with fail
  have hxa : Ext No W ((W.alloc (.cells #[.int .i64 (w : Int), .slice (some ⟨bs, off, none⟩) (nw w) c] 40)).alloc (.cells #[.int .i64 0, .slice none 0 0] 40)) := ((Ext.refl _ _).alloc _).alloc _
  have hA : ((W.alloc (.cells #[.int .i64 (w : Int), .slice (some ⟨bs, off, none⟩) (nw w) c] 40)).alloc (.cells #[.int .i64 0, .slice none 0 0] 40)).heap[W.heap.size]? = some (.cells #[.int .i64 (w : Int), .slice (some ⟨bs, off, none⟩) (nw w) c] 40 (0, 0)) := alloc_under (alloc_top rfl)
  have hC : ((W.alloc (.cells #[.int .i64 (w : Int), .slice (some ⟨bs, off, none⟩) (nw w) c] 40)).alloc (.cells #[.int .i64 0, .slice none 0 0] 40)).heap[W.heap.size + 1]? = some (.cells #[.int .i64 0, .slice none 0 0] 40 (0, 0)) := alloc_top (by simp)
  have HSZ : Hid (((W.alloc (.cells #[.int .i64 (w : Int), .slice (some ⟨bs, off, none⟩) (nw w) c] 40)).alloc (.cells #[.int .i64 0, .slice none 0 0] 40)).heap.size = W.heap.size + 2) := Lib.hid (by simp)
  refine (rempty_any w _ hw).mono ?_
  rintro e1 w1 ⟨g, rfl, hb1, hg, hx1⟩
  have HG := Lib.hid (show W.heap.size + 2 ≤ g by rw [← HSZ.out]; exact hg)
  have hm1 := Lib.hid (PMem.late (hxa.transNo hx1) (hx1.blk hA no_no) (hx1.blk hC no_no) hb1.out HG.out)
  have cA := cellOf (hm1.out.boxA)
  have cD := cellOf (hm1.out.boxD)
  have HS := Lib.hid (show ∀ j v, (u64s (wordsN w m))[j]? = some v → (w1.alloc (.cells #[.int .i64 (w : Int), .slice (some ⟨g, 0, none⟩) (nw w) (nw w)] 40)).cell? (Addr.add ⟨bs, off, none⟩ j) = some v from fun j v hj => hm1.out.ext.keep (by rw [show Addr.add ⟨bs, off, none⟩ j = ⟨bs, off + j, none⟩ from by unfold Addr.add; by_cases h0 : j = 0 <;> simp [h0]]; exact HCE.out j v hj))
  have HB := Lib.hid (show (w1.alloc (.cells #[.int .i64 (w : Int), .slice (some ⟨g, 0, none⟩) (nw w) (nw w)] 40)).heap[g]? = some (.cells (u64s (wordsN w 0)).toArray 86 (0, 0)) from hm1.out.blk)
  clear hxa hA hC HSZ hg hx1 hb1
  go_wp2_with ((with_reducible refine wpList_copy_own (o := Oper.mk (some 13) _ _ _ _ none) ?_ (.tmp 10) (.tmp 12) 38 38 ?_ 86 Try.underlying38 infoW1 g 0 (nw w) (nw w) ⟨bs, off, none⟩ (nw w) c ?_ ?_ _ 86 HB.out (u64s (wordsN w m)) HN.out HS.out HF.out (u64s_one _) ?_); (rfl); (rfl); (rfl); (rfl); (have hm2 := Lib.hid (PMem.copy (m := m) hm1.out)); (clear hm1 cA cD HS HN HF HB); (generalize (World.setRow _ g _) = W3 at *); (generalize w1.heap.size = D at *); (have cD := cellOf (hm2.out.boxD)); (have hc := (hm2.out.blk.own hw (Nat.le_refl g)).at' hnn); (have hf := freeOf hm2.out.blk (b / 64)); (have hm3 := Lib.hid (hm2.out.put hb)); (have cD3 := cellOf (hm3.out.boxD)); (have cC3 := cellOf (hm3.out.boxC)); (have fC3 := freeOf (hm3.out.boxC)); (have hgD : ¬ g = D := fun e => hm2.out.ne e.symm))
  clear hm2 cD hc hf cD3
  generalize (World.setCell W3 _ _) = W4 at *
  refine ret_ex rfl ?_
  simp [results, Try.results61, go_sem, cC3]
  have hx5 := ext_two hm3.out.ext (u0 := .int .i64 (w : Int)) (u1 := .slice (some ⟨g, 0, none⟩) (nw w) (nw w)) (W.heap.size + 1)
  have hbig := hm3.out.big
  exact ⟨_, rfl, Lib.hid (hx5.blk hm3.out.blk (by unfold At; omega)), by omega, ext2 hm3.out.ext (by omega)⟩
end Go.Proofs.Ytfejidihocoboaa
/- Tr11 -/
namespace Go.Proofs.Ytfejidihocoboaa
open Go Go.RowKit
/-- a set that a function builds: the result's box C, the set's box D, its words in g -/
structure RMem (E : Nat → Prop) (W : World) (C D w m g : Nat) (wx : World) : Prop where
  ext : Ext E W wx
  boxC : wx.heap[C]? = some (.cells #[.int .i64 0, .slice none 0 0] 40 (0, 0))
  boxD : wx.heap[D]? = some (.cells #[.int .i64 (w : Int), .slice (some ⟨g, 0, none⟩) (nw w) (nw w)] 40 (0, 0))
  blk : BlkW wx g w m
  lowC : W.heap.size ≤ C
  lowD : W.heap.size ≤ D
  low : W.heap.size ≤ g
  neCD : C ≠ D
  neC : C ≠ g
  neD : D ≠ g
  hE : ∀ i, E i → i < W.heap.size
section
variable {E : Nat → Prop} {W wx wy : World} {C D w m g g2 m2 : Nat}
theorem RMem.step (h : RMem E W C D w m g wx) (hx : Ext E wx wy) : RMem E W C D w m g wy := by
  have h1 := h.lowC
  have h2 := h.lowD
  have h3 := h.low
  exact ⟨h.ext.trans hx, hx.blk h.boxC (fun e => by have := h.hE _ e; omega), hx.blk h.boxD (fun e => by have := h.hE _ e; omega), hx.blk h.blk (fun e => by have := h.hE _ e; omega), h1, h2, h3, h.neCD, h.neC, h.neD, h.hE⟩
theorem RMem.stepNo (h : RMem E W C D w m g wx) (hx : Ext No wx wy) : RMem E W C D w m g wy := h.step (hx.mono (fun _ _ x => x.elim))
theorem RMem.drew (h : RMem E W C D w m g wx) : RMem E W C D w m g wx.drew := h.stepNo (Ext.refl _ _).drew
theorem RMem.drewN (h : RMem E W C D w m g wx) (n : Nat) : RMem E W C D w m g (wx.drewN n) := h.stepNo ((Ext.refl _ _).drewN n)
theorem RMem.put (h : RMem E W C D w m g wx) (hb : BlkW wy g2 w m2) (hx : Ext No wx wy) (hg : wx.heap.size ≤ g2) : RMem E W C D w m2 g2 ((wy.setCell ⟨D, 0, none⟩ (.int .i64 (w : Int))).setCell ⟨D, 1, none⟩ (.slice (some ⟨g2, 0, none⟩) (nw w) (nw w))) := by
  have h1 := h.lowC
  have h2 := h.lowD
  have h3 := lt_of_block h.boxC
  have h4 := lt_of_block h.boxD
  have hs := h.stepNo hx
  have hy := ext_two (w1 := wy) hx (u0 := .int .i64 (w : Int)) (u1 := .slice (some ⟨g2, 0, none⟩) (nw w) (nw w)) D
  have hn := h.neCD
  refine ⟨hs.ext.trans2 hy (fun i hi e => by unfold At at e; omega), hy.blk hs.boxC (by unfold At; exact hn), (set_same (j := 1) (set_same (j := 0) hs.boxD)).trans rfl, hy.blk hb (by unfold At; omega), h1, h2, by omega, hn, by omega, by omega, h.hE⟩
theorem RMem.set {M : Nat → Prop} (h : RMem E W C D w m g wx) (hw : w ≤ 256) (hm : m < 2 ^ w) (hM : ∀ b, M b → b < W.heap.size) : SetAt M wx (.slice (some ⟨g, 0, none⟩) (nw w) (nw w)) w m := h.blk.set hw hm (fun e => by have := hM _ e; have := h.low; omega)
end
end Go.Proofs.Ytfejidihocoboaa

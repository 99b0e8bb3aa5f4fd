/- Merged: N2 N3 -/
import Derived.Test.YtfejidihocoboaaN1
import Derived.Test.YtfejidihocoboaaFL
import Derived.Test.YtfejidihocoboaaI12
set_option linter.unusedVariables false
set_option linter.unusedSimpArgs false
/- N2 -/
namespace Go.Proofs.Ytfejidihocoboaa
open Go Go.RowKit
open Go.Maps (Keyed)
abbrev Key3 := Int × Int × Int
def KeyOk (x : Key3) : Prop := (-9223372036854775808 ≤ x.1 ∧ x.1 ≤ 9223372036854775807) ∧ (-9223372036854775808 ≤ x.2.1 ∧ x.2.1 ≤ 9223372036854775807) ∧ (-9223372036854775808 ≤ x.2.2 ∧ x.2.2 ≤ 9223372036854775807)
def keyV (x : Key3) : Value := .agg #[.int .i64 x.1, .int .i64 x.2.1, .int .i64 x.2.2]
def keyC (x : Key3) : List Value := [.int .i64 x.1, .int .i64 x.2.1, .int .i64 x.2.2]
theorem keyV_inj {x y : Key3} (h : keyV x = keyV y) : x = y := by
  obtain ⟨a, b, c⟩ := x
  obtain ⟨d, e, f⟩ := y
  simpa [keyV] using h
def kK : EK Key3 where
  s := 3
  T := 68
  cells := keyC
  ok := fun _ _ _ => True
  len := fun _ => rfl
  ext := fun _ _ _ => trivial
  mono := fun _ _ => trivial
theorem undMap : Try.prog.underlying 62 = some (.map 68 69) := by kernel_rfl
theorem undKey : Try.prog.underlying 68 = some (.struct #[⟨ "program", 3, 0, false, "", "flowquery/memo", 0⟩, ⟨ "kind", 3, 1, false, "", "flowquery/memo", 8⟩, ⟨ "node", 3, 2, false, "", "flowquery/memo", 16⟩]) := by kernel_rfl
theorem undInt : Try.prog.underlying 3 = some (.int .i64) := by kernel_rfl
theorem laidK : laidOutB Try.prog = true := by kernel_rfl
theorem rowK : (68 : TypeId) < Try.prog.types.size := of_decide_eq_true (by kernel_rfl)
theorem cellsK : Try.prog.cellsOf 68 = 3 := by kernel_rfl
theorem cellsI : Try.prog.cellsOf 3 = 1 := by kernel_rfl
theorem deepK : Try.prog.keyType 68 = true := by kernel_rfl
theorem deepK2 : Try.prog.keyTypeAt 2 68 = true := by kernel_rfl
theorem two_small : 2 + 1 ≤ 10000 := by omega
theorem lawK : Keyed Try.prog 68 := Keyed.of_law (deep_law_laid laidK (m := 2) two_small rowK deepK2 (by rw [undKey]))
theorem infoPI : (Try.prog.info? 69).map (fun i => (i.zero, i.size, i.bytes)) = some (some (.pointer none), 1, 8) := by kernel_rfl
theorem zeroItem (w : World) : (zeroValue 69).run Try.prog w = .ok (.pointer none) w := by
  obtain ⟨i, h1, h2, _⟩ := info_parts infoPI
  simp [zeroValue, typeInfo, h1, h2]
theorem formedK (x : Key3) : (keyV x).formed Try.prog 68 = true := by simp [keyV, Value.formed, undKey, cellsK]
theorem intLits {d : Nat} {a : Int} (h : -9223372036854775808 ≤ a ∧ a ≤ 9223372036854775807) : Try.prog.keyLits (d + 1) 3 [.int .i64 a] = some [.int .i64 a] := by
  simp [Program.keyLits, undInt, WalkArith.wf_i64 h]
theorem keyOfK {x : Key3} (h : KeyOk x) : ∃ l, keyOf Try.prog 68 (keyV x) = some l := by
  obtain ⟨h1, h2, h3⟩ := h
  obtain ⟨d, hd⟩ : ∃ d, Try.prog.types.size = d + 1 := Nat.exists_eq_succ_of_ne_zero (Nat.ne_of_gt (Nat.lt_of_le_of_lt (Nat.zero_le _) rowK))
  have e : Try.prog.keyLits (Try.prog.types.size + 1) 68 (keyC x) = some [.int .i64 x.1, .int .i64 x.2.1, .int .i64 x.2.2] := by
    rw [hd]
    have i1 := intLits (d := d) h1
    have i2 := intLits (d := d) h2
    have i3 := intLits (d := d) h3
    simp [Program.keyLits, undKey, keyC, cellsK, cellsI] at i1 i2 i3 ⊢
    simp [i1, i2, i3]
  have e2 : Try.prog.keyLits (Try.prog.types.size + 1) 68 (keyV x).cells.toList = some [.int .i64 x.1, .int .i64 x.2.1, .int .i64 x.2.2] := by rw [← e]; rfl
  refine ⟨.string (keyBytes [.int .i64 x.1, .int .i64 x.2.1, .int .i64 x.2.2]), ?_⟩
  unfold keyOf
  rw [undKey]
  simp only [deepK, formedK, Bool.and_self, if_true]
  rw [e2]
  rfl
end Go.Proofs.Ytfejidihocoboaa

/- N3 -/
namespace Go.Proofs.Ytfejidihocoboaa
open Go Go.RowKit
open Go.Maps (Keyed)
theorem nodup_inj {α β : Type} {f : α → β} : ∀ {L : List α} {a b : α}, (L.map f).Nodup → a ∈ L → b ∈ L → f a = f b → a = b
  | x :: L, a, b, h, ha, hb, e => by
    rw [List.map_cons, List.nodup_cons] at h
    rcases List.mem_cons.1 ha with ha1 | ha1
    · rcases List.mem_cons.1 hb with hb1 | hb1
      · rw [ha1, hb1]
      · exact absurd (by rw [← ha1, e]; exact List.mem_map_of_mem hb1) h.1
    · rcases List.mem_cons.1 hb with hb1 | hb1
      · exact absurd (by rw [← hb1, ← e]; exact List.mem_map_of_mem ha1) h.1
      · exact nodup_inj h.2 ha1 hb1 e
structure Ent where
  key : Key3
  s : RawSet
  t : Int
abbrev PE := Ent × Nat × Value
def keysOf (L : List PE) : List Key3 := L.map (fun e => e.1.key)
def addrsOf (L : List PE) : List Nat := L.map (fun e => e.2.1)
def ptrV (a : Nat) : Value := .pointer (some ⟨a, 0, none⟩)
def POwn (T bm : Nat) (vk : Value) (L : List PE) : Nat → Prop := fun b => b = T ∨ b = bm ∨ vk.ownBlock = some b ∨ ∃ e ∈ L, e.2.1 = b
def itemC (e : PE) : Array Value := #[.int .i64 e.1.s.width, e.2.2, .int .i64 e.1.t]
/-- the table without its map -/
structure PTab0 (M : Nat → Prop) (w : World) (T : Nat) (cap clk : Int) (bm : Nat) (vk : Value) (L : List PE) : Prop where
  box : w.heap[T]? = some (.cells #[.int .i64 cap, .int .i64 clk, .map (some bm), vk] 65 (0, 0))
  keys : LOwn kK No w 0 vk (keysOf L)
  it : ∀ e ∈ L, w.heap[e.2.1]? = some (.cells (itemC e) 71 (0, 0))
  wd : ∀ e ∈ L, WordsAt (fun b => M b ∨ POwn T bm vk L b) w e.2.2 e.1.s.words
  ok : ∀ e ∈ L, KeyOk e.1.key
  nd : (addrsOf L).Nodup
  uk : (keysOf L).Nodup
  out : ∀ b, POwn T bm vk L b → ¬ M b
def itemR (L : List PE) : Value → Value → Prop := fun x v => ∃ e ∈ L, x = keyV e.1.key ∧ v = ptrV e.2.1
structure PTab (M : Nat → Prop) (w : World) (T : Nat) (cap clk : Int) (bm : Nat) (vk : Value) (L : List PE) : Prop where
  t : PTab0 M w T cap clk bm vk L
  map : MapR Try.prog 68 w bm (itemR L)
theorem ne_type {w : World} {a b : Nat} {cs cs' : Array Value} {T T' : TypeId} {f f' : Nat × Nat} (h : w.heap[a]? = some (.cells cs T f)) (h' : w.heap[b]? = some (.cells cs' T' f')) (hT : T ≠ T') : a ≠ b := fun e => by
  subst e
  rw [h] at h'
  simp only [Option.some.injEq, Obj.cells.injEq] at h'
  exact hT h'.2.1
theorem ne_map {w : World} {a b : Nat} {cs : Array Value} {T : TypeId} {f : Nat × Nat} {P : Program} {k : TypeId} {R : Value → Value → Prop} (h : w.heap[a]? = some (.cells cs T f)) (h' : MapR P k w b R) : a ≠ b := fun e => by
  subst e
  obtain ⟨es, c, hb, _⟩ := h'
  rw [h] at hb
  cases hb
theorem LOwn.blk {β : Type} {K : EK β} {A : Nat → Prop} {w : World} {base g : Nat} {v : Value} {L : List β} (h : LOwn K A w base v L) (hk : v.ownBlock = some g) : ∃ cur, w.heap[g]? = some (.cells cur K.T (0, 0)) := by
  rcases h.own.2 with ⟨rfl, _⟩ | ⟨g', c, cur, rfl, hb, hg, _⟩
  · cases hk
  · cases hk
    exact ⟨cur, hg⟩
section
variable {M M' : Nat → Prop} {w w' : World} {T bm : Nat} {cap clk : Int} {vk : Value} {L : List PE}
theorem PTab0.keyBlk (h : PTab0 M w T cap clk bm vk L) {g : Nat} (hk : vk.ownBlock = some g) : ∃ cur, w.heap[g]? = some (.cells cur 68 (0, 0)) := h.keys.blk hk
theorem PTab0.neTK (h : PTab0 M w T cap clk bm vk L) {g : Nat} (hk : vk.ownBlock = some g) : T ≠ g := by
  obtain ⟨cur, hg⟩ := h.keyBlk hk
  exact ne_type h.box hg (by decide)
theorem PTab0.neTI (h : PTab0 M w T cap clk bm vk L) {e : PE} (he : e ∈ L) : T ≠ e.2.1 := ne_type h.box (h.it e he) (by decide)
theorem PTab0.neKI (h : PTab0 M w T cap clk bm vk L) {g : Nat} (hk : vk.ownBlock = some g) {e : PE} (he : e ∈ L) : g ≠ e.2.1 := by
  obtain ⟨cur, hg⟩ := h.keyBlk hk
  exact ne_type hg (h.it e he) (by decide)
theorem PTab.neTM (h : PTab M w T cap clk bm vk L) : T ≠ bm := ne_map h.t.box h.map
theorem PTab.neKM (h : PTab M w T cap clk bm vk L) {g : Nat} (hk : vk.ownBlock = some g) : g ≠ bm := by
  obtain ⟨cur, hg⟩ := h.t.keyBlk hk
  exact ne_map hg h.map
theorem PTab.neIM (h : PTab M w T cap clk bm vk L) {e : PE} (he : e ∈ L) : e.2.1 ≠ bm := ne_map (h.t.it e he) h.map
theorem PTab.ownLt (h : PTab M w T cap clk bm vk L) {b : Nat} (hb : POwn T bm vk L b) : b < w.heap.size := by
  rcases hb with rfl | rfl | hb | ⟨e, he, rfl⟩
  · exact lt_of_block h.t.box
  · exact h.map.lt
  · exact (h.t.keys.lt b hb).2
  · exact lt_of_block (h.t.it e he)
theorem PTab0.ext (h : PTab0 M w T cap clk bm vk L) (hx : Ext M' w w') (hm : ∀ i, i < w.heap.size → M' i → M i) : PTab0 M w' T cap clk bm vk L := by
  have hT : ¬ M' T := fun e => h.out T (.inl rfl) (hm T (lt_of_block h.box) e)
  have hI : ∀ e ∈ L, ¬ M' e.2.1 := fun e he e2 => h.out _ (.inr (.inr (.inr ⟨e, he, rfl⟩))) (hm _ (lt_of_block (h.it e he)) e2)
  have hK : ∀ g, vk.ownBlock = some g → ¬ M' g := fun g hg e2 => h.out _ (.inr (.inr (.inl hg))) (hm _ (h.keys.lt g hg).2 e2)
  exact ⟨hx.blk h.box hT, ⟨row_keep2 h.keys.own hx hK, fun _ _ => trivial⟩, fun e he => hx.blk (h.it e he) (hI e he), fun e he => (h.wd e he).ext hx (fun i hi e2 => .inl (hm i hi e2)), h.ok, h.nd, h.uk, h.out⟩
theorem PTab.ext (h : PTab M w T cap clk bm vk L) (hx : Ext M' w w') (hm : ∀ i, i < w.heap.size → M' i → M i) : PTab M w' T cap clk bm vk L :=
  ⟨h.t.ext hx hm, h.map.ext hx (fun e => h.t.out bm (.inr (.inl rfl)) (hm _ h.map.lt e))⟩
theorem PTab.stepNo (h : PTab M w T cap clk bm vk L) (hx : Ext No w w') : PTab M w' T cap clk bm vk L := h.ext hx (fun _ _ x => x.elim)
theorem PTab.mono (h : PTab M w T cap clk bm vk L) (hm : ∀ i, i < w.heap.size → M' i → M i) : PTab M' w T cap clk bm vk L :=
  ⟨⟨h.t.box, h.t.keys, h.t.it, fun e he => (h.t.wd e he).mono (fun i hi e2 => e2.elim (fun e2 => .inl (hm i hi e2)) .inr), h.t.ok, h.t.nd, h.t.uk, fun b hb e2 => h.t.out b hb (hm b (h.ownLt hb) e2)⟩, h.map⟩
theorem PTab.look (h : PTab M w T cap clk bm vk L) {e : PE} (he : e ∈ L) : (Instr.lookup 62 (.map (some bm)) (keyV e.1.key) false).run Try.prog w = .ok (ptrV e.2.1) w := by
  obtain ⟨l, hl⟩ := keyOfK (h.t.ok e he)
  exact h.map.look lawK undMap hl ⟨e, he, rfl, rfl⟩
theorem PTab.lookNo (h : PTab M w T cap clk bm vk L) {x : Key3} (hx : KeyOk x) (hn : x ∉ keysOf L) : (Instr.lookup 62 (.map (some bm)) (keyV x) false).run Try.prog w = .ok (.pointer none) w := by
  obtain ⟨l, hl⟩ := keyOfK hx
  refine h.map.lookNo lawK undMap hl (fun v => ?_) (zeroItem w)
  rintro ⟨e, he, e1, _⟩
  exact hn (by rw [keyV_inj e1]; exact List.mem_map_of_mem he)
/-- the clock, and the slice of keys -/
theorem PTab.setT (h : PTab M w T cap clk bm vk L) (hx : Ext (At T) w w') {clk' : Int} (hb : w'.heap[T]? = some (.cells #[.int .i64 cap, .int .i64 clk', .map (some bm), vk] 65 (0, 0))) : PTab M w' T cap clk' bm vk L := by
  refine ⟨⟨hb, ⟨row_keep2 h.t.keys.own hx (fun g hg e => h.t.neTK hg (show g = T from e).symm), fun _ _ => trivial⟩, fun e he => hx.blk (h.t.it e he) (fun e2 => h.t.neTI he (show _ = T from e2).symm), fun e he => (h.t.wd e he).ext hx (fun i _ e2 => .inr (.inl e2)), h.t.ok, h.t.nd, h.t.uk, h.t.out⟩, h.map.ext hx (fun e => h.neTM (show bm = T from e).symm)⟩
def updL (x : Key3) (s' : RawSet) (t' : Int) (sl' : Value) (L : List PE) : List PE := L.map (fun e => if e.1.key = x then (⟨x, s', t'⟩, e.2.1, sl') else e)
theorem updL_keys (x : Key3) (s' : RawSet) (t' : Int) (sl' : Value) (L : List PE) : keysOf (updL x s' t' sl' L) = keysOf L := by
  unfold keysOf updL
  rw [List.map_map]
  refine List.map_congr_left (fun e _ => ?_)
  simp only [Function.comp]
  split
  · next h => exact h.symm
  · rfl
theorem updL_addrs (x : Key3) (s' : RawSet) (t' : Int) (sl' : Value) (L : List PE) : addrsOf (updL x s' t' sl' L) = addrsOf L := by
  unfold addrsOf updL
  rw [List.map_map]
  refine List.map_congr_left (fun e _ => ?_)
  simp only [Function.comp]
  split <;> rfl
theorem updL_mem {x : Key3} {s' : RawSet} {t' : Int} {sl' : Value} {L : List PE} {q : PE} (h : q ∈ updL x s' t' sl' L) : ∃ e ∈ L, e.2.1 = q.2.1 ∧ e.1.key = q.1.key ∧ ((e.1.key = x ∧ q = (⟨x, s', t'⟩, e.2.1, sl')) ∨ (e.1.key ≠ x ∧ q = e)) := by
  obtain ⟨e, he, rfl⟩ := List.mem_map.1 h
  by_cases hk : e.1.key = x
  · simp only [if_pos hk]
    exact ⟨e, he, rfl, hk, .inl ⟨hk, rfl⟩⟩
  · simp only [if_neg hk]
    exact ⟨e, he, rfl, rfl, .inr ⟨hk, rfl⟩⟩
theorem updL_own (x : Key3) (s' : RawSet) (t' : Int) (sl' : Value) (b : Nat) : POwn T bm vk (updL x s' t' sl' L) b ↔ POwn T bm vk L b := by
  unfold POwn
  have e : (∃ q ∈ updL x s' t' sl' L, q.2.1 = b) ↔ ∃ q ∈ L, q.2.1 = b := by
    have h1 := updL_addrs x s' t' sl' L
    unfold addrsOf at h1
    have h2 : b ∈ (updL x s' t' sl' L).map (fun e => e.2.1) ↔ b ∈ L.map (fun e => e.2.1) := by rw [h1]
    simpa [List.mem_map] using h2
  rw [e]
/-- an item is written -/
theorem PTab.setI (h : PTab M w T cap clk bm vk L) {e0 : PE} (he0 : e0 ∈ L) (hx : Ext (At e0.2.1) w w') {s' : RawSet} {t' : Int} {sl' : Value} (hb : w'.heap[e0.2.1]? = some (.cells #[.int .i64 s'.width, sl', .int .i64 t'] 71 (0, 0)))
    (hw : WordsAt (fun b => M b ∨ POwn T bm vk L b) w sl' s'.words) : PTab M w' T cap clk bm vk (updL e0.1.key s' t' sl' L) := by
  have hown : ∀ b, POwn T bm vk (updL e0.1.key s' t' sl' L) b ↔ POwn T bm vk L b := fun b => updL_own _ _ _ _ b
  have hA : ∀ i, At e0.2.1 i → POwn T bm vk L i := fun i e => .inr (.inr (.inr ⟨e0, he0, (show i = _ from e).symm⟩))
  refine ⟨⟨hx.blk h.t.box (fun e => h.t.neTI he0 e), ?_, fun q hq => ?_, fun q hq => ?_, fun q hq => ?_, ?_, ?_, fun b hb => h.t.out b ((hown b).1 hb)⟩, (h.map.ext hx (fun e => h.neIM he0 (show bm = _ from e).symm)).iff (fun x v => ?_)⟩
  · rw [updL_keys]
    exact ⟨row_keep2 h.t.keys.own hx (fun g hg e => h.t.neKI hg he0 e), fun _ _ => trivial⟩
  · obtain ⟨e, he, e1, e2, ⟨e3, rfl⟩ | ⟨e3, rfl⟩⟩ := updL_mem hq
    · obtain rfl := nodup_inj h.t.uk he he0 e3
      exact hb
    · exact hx.blk (h.t.it _ he) (fun e4 => e3 (by rw [nodup_inj h.t.nd he he0 e4]))
  · obtain ⟨e, he, e1, e2, ⟨e3, rfl⟩ | ⟨e3, rfl⟩⟩ := updL_mem hq
    · exact (hw.ext hx (fun i _ e4 => .inr (hA i e4))).mono (fun i _ e4 => e4.elim .inl (fun e4 => .inr ((hown i).1 e4)))
    · exact ((h.t.wd _ he).ext hx (fun i _ e4 => .inr (hA i e4))).mono (fun i _ e4 => e4.elim .inl (fun e4 => .inr ((hown i).1 e4)))
  · obtain ⟨e, he, e1, e2, _⟩ := updL_mem hq
    rw [← e2]; exact h.t.ok e he
  · rw [updL_addrs]; exact h.t.nd
  · rw [updL_keys]; exact h.t.uk
  · unfold itemR
    constructor
    · rintro ⟨e, he, rfl, rfl⟩
      by_cases hk : e.1.key = e0.1.key
      · exact ⟨(⟨e0.1.key, s', t'⟩, e.2.1, sl'), List.mem_map.2 ⟨e, he, by rw [if_pos hk]⟩, by rw [hk], rfl⟩
      · exact ⟨e, List.mem_map.2 ⟨e, he, by rw [if_neg hk]⟩, rfl, rfl⟩
    · rintro ⟨q, hq, rfl, rfl⟩
      obtain ⟨e, he, e1, e2, _⟩ := updL_mem hq
      exact ⟨e, he, by rw [e2], by rw [e1]⟩
end
end Go.Proofs.Ytfejidihocoboaa

/- Put: the model, and a new entry in memory. -/
import Derived.Test.YtfejidihocoboaaN19
set_option linter.unusedVariables false
set_option linter.unusedSimpArgs false
namespace Go.Proofs.Ytfejidihocoboaa
open Go Go.RowKit
open Go.Maps (Keyed)
def putL (x : Key3) (s : RawSet) (t : Int) (es : List Ent) : List Ent := es.map (fun e => if e.key = x then ⟨x, s, t⟩ else e)
def insE (es : List Ent) (e : Ent) : List Ent := es.take (posK (keysE es) e.key) ++ e :: es.drop (posK (keysE es) e.key)
def fullE (cap : Int) (es : List Ent) : List Ent := if (es.length : Int) = cap then evE 1 es else es
def badK (x : Key3) : Prop := x.1 < 0 ∨ x.2.1 < 0 ∨ x.2.2 < 0
instance decBadK (x : Key3) : Decidable (badK x) := by unfold badK; infer_instance
structure PutR where
  err : Int
  clk : Int
  es : List Ent
def putM (cap clk : Int) (es : List Ent) (x : Key3) (s : RawSet) : PutR :=
  if validB s = false then ⟨1, clk, es⟩ else if badK x then ⟨3, clk, es⟩ else if cap = 0 then ⟨0, clk, es⟩
  else if x ∈ keysE es then ⟨0, addZ clk 1, putL x s (addZ clk 1) es⟩ else ⟨0, addZ clk 1, insE (fullE cap es) ⟨x, s, addZ clk 1⟩⟩
theorem updL_fst (x : Key3) (s : RawSet) (t : Int) (sl : Value) (L : List PE) : (updL x s t sl L).map Prod.fst = putL x s t (L.map Prod.fst) := by
  unfold updL putL
  rw [List.map_map, List.map_map]
  refine List.map_congr_left (fun e _ => ?_)
  simp only [Function.comp]
  by_cases h : e.1.key = x
  · rw [if_pos h, if_pos h]
  · rw [if_neg h, if_neg h]
theorem putL_twice (x : Key3) (s s' : RawSet) (t t' : Int) (es : List Ent) : putL x s t (putL x s' t' es) = putL x s t es := by
  unfold putL
  rw [List.map_map]
  refine List.map_congr_left (fun e _ => ?_)
  simp only [Function.comp]
  by_cases h : e.key = x
  · simp [h]
  · simp [h]
theorem putL_ins {x : Key3} {s s' : RawSet} {t t' : Int} {A B : List Ent} (hA : x ∉ keysE A) (hB : x ∉ keysE B) : putL x s t (A ++ ⟨x, s', t'⟩ :: B) = A ++ ⟨x, s, t⟩ :: B := by
  have hno : ∀ C : List Ent, x ∉ keysE C → C.map (fun e => if e.key = x then (⟨x, s, t⟩ : Ent) else e) = C := fun C hC => by
    have h1 : C.map (fun e => if e.key = x then (⟨x, s, t⟩ : Ent) else e) = C.map id := List.map_congr_left (fun e he => by
      rw [if_neg (fun h => hC (by rw [← h]; exact List.mem_map_of_mem he))]; rfl)
    rw [h1, List.map_id]
  unfold putL
  rw [List.map_append, List.map_cons, hno A hA, hno B hB, if_pos rfl]
def newP (x : Key3) (a : Nat) : PE := (⟨x, zS, 0⟩, a, .slice none 0 0)
theorem tab_insert {M : Nat → Prop} {W w' : World} {T bm a i : Nat} {cap clk : Int} {vk v' : Value} {L : List PE} {x : Key3} (h : PTab M W T cap clk bm vk L) (hx : KeyOk x) (hn : x ∉ keysOf L) (hM : ∀ b, M b → b < W.heap.size) (ha : W.heap.size ≤ a)
    (hit : w'.heap[a]? = some (.cells #[.int .i64 0, .slice none 0 0, .int .i64 0] 71 (0, 0))) (hX : Ext (fun b => b = T ∨ b = bm ∨ vk.ownBlock = some b) W w')
    (hb : w'.heap[T]? = some (.cells #[.int .i64 cap, .int .i64 clk, .map (some bm), v'] 65 (0, 0))) (hk : LOwn kK No w' 0 v' ((keysOf L).take i ++ x :: (keysOf L).drop i))
    (hm : MapR Try.prog 68 w' bm (fun y v => (y = keyV x ∧ v = ptrV a) ∨ (y ≠ keyV x ∧ itemR L y v))) (ho : ∀ g, v'.ownBlock = some g → vk.ownBlock = some g ∨ W.heap.size ≤ g) :
    PTab M w' T cap clk bm v' (L.take i ++ newP x a :: L.drop i) ∧ ∀ b, POwn T bm v' (L.take i ++ newP x a :: L.drop i) b → POwn T bm vk L b ∨ W.heap.size ≤ b := by
  have hmem : ∀ e, e ∈ L.take i ++ newP x a :: L.drop i ↔ e = newP x a ∨ e ∈ L := fun e => by
    rw [List.mem_append, List.mem_cons]
    constructor
    · rintro (h1 | h1 | h1)
      · exact .inr (List.mem_of_mem_take h1)
      · exact .inl h1
      · exact .inr (List.mem_of_mem_drop h1)
    · rintro (h1 | h1)
      · exact .inr (.inl h1)
      · rw [← List.take_append_drop i L, List.mem_append] at h1
        exact h1.imp id .inr
  have hown : ∀ b, POwn T bm v' (L.take i ++ newP x a :: L.drop i) b → POwn T bm vk L b ∨ W.heap.size ≤ b := fun b hb => by
    rcases hb with h1 | h1 | h1 | ⟨e, he, h1⟩
    · exact .inl (.inl h1)
    · exact .inl (.inr (.inl h1))
    · exact (ho b h1).imp (fun e => .inr (.inr (.inl e))) id
    · rcases (hmem e).1 he with rfl | he
      · exact .inr (by rw [← h1]; exact ha)
      · exact .inl (.inr (.inr (.inr ⟨e, he, h1⟩)))
  have hkeys : keysOf (L.take i ++ newP x a :: L.drop i) = (keysOf L).take i ++ x :: (keysOf L).drop i := by
    unfold keysOf
    rw [List.map_append, List.map_cons, List.map_take, List.map_drop]
    rfl
  refine ⟨⟨⟨hb, by rw [hkeys]; exact hk, fun e he => ?_, fun e he => ?_, fun e he => ?_, ?_, ?_, fun b hb e => ?_⟩, hm.iff (fun y v => ?_)⟩, hown⟩
  · rcases (hmem e).1 he with rfl | he
    · exact hit
    · refine hX.blk (h.t.it e he) (fun e3 => ?_)
      rcases e3 with e3 | e3 | e3
      · exact h.t.neTI he e3.symm
      · exact h.neIM he e3
      · exact h.t.neKI e3 he rfl
  · rcases (hmem e).1 he with rfl | he
    · exact ⟨Row.nil _ _ _ _ _ (by omega), fun n hn => by cases hn⟩
    · refine ((h.t.wd e he).mono (M' := fun b => M b ∨ POwn T bm v' (L.take i ++ newP x a :: L.drop i) b ∨ vk.ownBlock = some b) (fun j hj e3 => ?_)).ext hX (fun j _ e3 => ?_) |>.mono (fun j _ e3 => e3.elim .inl (fun e3 => .inr (.inl e3)))
      · rcases e3 with e3 | e3 | e3
        · exact .inl e3
        · rcases hown j e3 with e3 | e3
          · exact .inr e3
          · omega
        · exact .inr (.inr (.inr (.inl e3)))
      · rcases e3 with e3 | e3 | e3
        · exact .inr (.inl (.inl e3))
        · exact .inr (.inl (.inr (.inl e3)))
        · exact .inr (.inr e3)
  · rcases (hmem e).1 he with rfl | he
    · exact hx
    · exact h.t.ok e he
  · have e1 : addrsOf (L.take i ++ newP x a :: L.drop i) = (addrsOf L).take i ++ a :: (addrsOf L).drop i := by
      unfold addrsOf
      rw [List.map_append, List.map_cons, List.map_take, List.map_drop]
      rfl
    rw [e1]
    have hna : a ∉ addrsOf L := fun h1 => by
      obtain ⟨e, he, h2⟩ := List.mem_map.1 h1
      have := lt_of_block (h.t.it e he)
      omega
    have hp : ((addrsOf L).take i ++ a :: (addrsOf L).drop i).Perm (a :: addrsOf L) := List.perm_middle.trans (by rw [List.take_append_drop])
    exact (hp.nodup_iff).2 (List.nodup_cons.2 ⟨hna, h.t.nd⟩)
  · rw [hkeys]
    have hp : ((keysOf L).take i ++ x :: (keysOf L).drop i).Perm (x :: keysOf L) := List.perm_middle.trans (by rw [List.take_append_drop])
    exact (hp.nodup_iff).2 (List.nodup_cons.2 ⟨hn, h.t.uk⟩)
  · rcases hown b hb with h1 | h1
    · exact h.t.out b h1 e
    · have := hM b e; omega
  · unfold itemR
    constructor
    · rintro (⟨rfl, rfl⟩ | ⟨_, e, he, rfl, rfl⟩)
      · exact ⟨newP x a, (hmem _).2 (.inl rfl), rfl, rfl⟩
      · exact ⟨e, (hmem _).2 (.inr he), rfl, rfl⟩
    · rintro ⟨e, he, rfl, rfl⟩
      rcases (hmem e).1 he with rfl | he
      · exact .inl ⟨rfl, rfl⟩
      · refine .inr ⟨fun e3 => hn ?_, e, he, rfl, rfl⟩
        rw [← keyV_inj e3]
        exact List.mem_map_of_mem he
end Go.Proofs.Ytfejidihocoboaa

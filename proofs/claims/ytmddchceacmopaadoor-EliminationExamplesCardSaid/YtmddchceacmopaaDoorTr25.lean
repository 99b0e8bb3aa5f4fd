
import Derived.Test.YtmddchceacmopaaDoorTr24
set_option linter.unusedVariables false
set_option linter.unusedSimpArgs false
namespace Go.Proofs.YtmddchceacmopaaDoor
open Go Go.RowKit
def imgL (rs : List Nat) (l : List Int) : Nat := l.foldl (fun m b => orN m ((rs[b.toNat]?).getD 0)) 0
theorem imgL_snoc {rs : List Nat} {l : List Int} {b : Nat} (hb : b < rs.length) : imgL rs (l ++ [(b : Int)]) = orN (imgL rs l) rs[b] := by simp [imgL, hb]
def imgN (rs : List Nat) (w s : Nat) : Nat := imgL rs (membersN w s)
theorem imgL_bit (rs : List Nat) (j : Nat) : ∀ l : List Int, (imgL rs l).testBit j = l.any fun b => ((rs[b.toNat]?).getD 0).testBit j := by
 have key : ∀ (l : List Int) (m : Nat), (l.foldl (fun m b => orN m ((rs[b.toNat]?).getD 0)) m).testBit j = (m.testBit j || l.any fun b => ((rs[b.toNat]?).getD 0).testBit j) := by
  intro l
  induction l with
  | nil => intro m; simp
  | cons b l ih => intro m; rw [List.foldl_cons, ih, orN, Nat.testBit_or, List.any_cons, Bool.or_assoc]
 intro l
 have := key l 0
 simpa [imgL] using this
theorem imgN_bit (rs : List Nat) (w s j : Nat) : (imgN rs w s).testBit j = true ↔ ∃ b, b < w ∧ s.testBit b = true ∧ ((rs[b]?).getD 0).testBit j = true := by
 unfold imgN
 rw [imgL_bit, List.any_eq_true]
 constructor
 ·rintro ⟨x, hx, h⟩
  obtain ⟨b, rfl, h1, h2⟩ := membersN_mem.1 hx
  exact ⟨b, h1, h2, by simpa using h⟩
 rintro ⟨b, h1, h2, h3⟩
 exact ⟨(b : Int), membersN_mem.2 ⟨b, rfl, h1, h2⟩, by simpa using h3⟩
theorem imgL_lt {rs : List Nat} {w : Nat} (h : ∀ m ∈ rs, m < 2 ^ w) : ∀ l : List Int, imgL rs l < 2 ^ w := by
 intro l
 refine Nat.lt_pow_two_of_testBit _ (fun i hi => ?_)
 rw [imgL_bit]
 rw [List.any_eq_false]
 intro x _
 cases e : rs[x.toNat]? with
 | none => simp
 | some m => simp only [Option.getD_some]; rw [bit_high (h m (List.mem_of_getElem? e)) hi]; simp
structure ImM (M : Nat → Prop) (W wr : World) (w m D : Nat) (sg so ss s1 : Value) : Prop where
 ext : Ext No W wr
 boxA : wr.heap[W.heap.size]? = some (.cells #[.int .i64 (w : Int), sg, so] 113 (0, 0))
 boxB : wr.heap[W.heap.size + 1]? = some (.cells #[.int .i64 (w : Int), ss] 24 (0, 0))
 boxC : wr.heap[W.heap.size + 2]? = some (.cells #[.int .i64 0, .slice none 0 0] 24 (0, 0))
 boxD : wr.heap[D]? = some (.cells #[.int .i64 (w : Int), s1] 24 (0, 0))
 set : SetAt (fun b => M b ∨ b = W.heap.size + 2 ∨ b = D) wr s1 w m
 big : W.heap.size + 2 < D
section
variable {M : Nat → Prop} {W wr w' : World} {w m m' D : Nat} {sg so ss s1 s2 : Value}
theorem ImM.stepNo (h : ImM M W wr w m D sg so ss s1) (hx : Ext No wr w') : ImM M W w' w m D sg so ss s1 :=
 ⟨h.ext.transNo hx, hx.blk h.boxA no_no, hx.blk h.boxB no_no, hx.blk h.boxC no_no, hx.blk h.boxD no_no, h.set.extNo hx, h.big⟩
theorem ImM.hM (hM : ∀ b, M b → b < W.heap.size) (h : ImM M W wr w m D sg so ss s1) : ∀ b, (M b ∨ b = W.heap.size + 2 ∨ b = D) → b < wr.heap.size := fun b hb => by
 have h1 := lt_of_block h.boxD
 have h2 := h.big
 rcases hb with hb | rfl | rfl
 ·have := hM b hb; omega
 ·omega
 exact h1
theorem ImM.put (h : ImM M W wr w m D sg so ss s1) (hs : SetAt (fun b => M b ∨ b = W.heap.size + 2 ∨ b = D) wr s2 w m') : ImM M W ((wr.setCell ⟨D, 0, none⟩ (.int .i64 (w : Int))).setCell ⟨D, 1, none⟩ s2) w m' D sg so ss s2 := by
 have h1 := h.big
 have hE : Ext (At D) wr ((wr.setCell ⟨D, 0, none⟩ (.int .i64 (w : Int))).setCell ⟨D, 1, none⟩ s2) := ((Ext.refl (At D) _).setAt _ _).setAt _ _
 exact ⟨h.ext.trans2 hE (fun i hi e => by unfold At at e; omega), hE.blk h.boxA (by unfold At; omega), hE.blk h.boxB (by unfold At; omega), hE.blk h.boxC (by unfold At; omega), (set_same (j := 1) (set_same (j := 0) h.boxD)).trans rfl, hs.ext hE (fun i _ e => .inr (.inr e)), h1⟩
end
set_option maxRecDepth 100000 in
set_option maxHeartbeats 4000000 in
theorem image_any (M : Nat → Prop) (w s : Nat) (rs : List Nat) (sg so ss : Value) (W : World) (hM : ∀ b, M b → b < W.heap.size) (hT : TabW W) (hg : shaped sg) (hr : SetsV No W so w rs) (hl : rs.length = w) (hs : SetAt No W ss w s) :
  Calls Tryd.prog 71 #[.agg #[.int .i64 (w : Int), sg, so], .agg #[.int .i64 (w : Int), ss]] W (SetPost M w (imgN rs w s) W) := by
 have HR := Lib.hid hr
 have HS := Lib.hid hs
 have HM := Lib.hid hM
 have HT := Lib.hid hT
 have HLR := Lib.hid hl
 obtain ⟨ag, ng, cg, rfl⟩ := hg
 obtain ⟨ao, co, rfl⟩ := hr.slice
 obtain ⟨a1, c1, rfl⟩ := hs.slice
 have hw := hs.hw
 clear hr hs hM hT hl
 go_enter Tryd.func71, Tryd.ntmps71
 go_wp2_with fail
 have hx0 : Ext No W (((W.alloc (.cells #[.int .i64 (w : Int), .slice ag ng cg, .slice ao rs.length co] 113)).alloc (.cells #[.int .i64 (w : Int), .slice a1 (nw w) c1] 24)).alloc (.cells #[.int .i64 0, .slice none 0 0] 24)) := (((Ext.refl _ _).alloc _).alloc _).alloc _
 have hA : (((W.alloc (.cells #[.int .i64 (w : Int), .slice ag ng cg, .slice ao rs.length co] 113)).alloc (.cells #[.int .i64 (w : Int), .slice a1 (nw w) c1] 24)).alloc (.cells #[.int .i64 0, .slice none 0 0] 24)).heap[W.heap.size]? = some (.cells #[.int .i64 (w : Int), .slice ag ng cg, .slice ao rs.length co] 113 (0, 0)) := alloc_under (alloc_under (alloc_top rfl))
 have hB : (((W.alloc (.cells #[.int .i64 (w : Int), .slice ag ng cg, .slice ao rs.length co] 113)).alloc (.cells #[.int .i64 (w : Int), .slice a1 (nw w) c1] 24)).alloc (.cells #[.int .i64 0, .slice none 0 0] 24)).heap[W.heap.size + 1]? = some (.cells #[.int .i64 (w : Int), .slice a1 (nw w) c1] 24 (0, 0)) := alloc_under (alloc_top (by simp))
 have hC : (((W.alloc (.cells #[.int .i64 (w : Int), .slice ag ng cg, .slice ao rs.length co] 113)).alloc (.cells #[.int .i64 (w : Int), .slice a1 (nw w) c1] 24)).alloc (.cells #[.int .i64 0, .slice none 0 0] 24)).heap[W.heap.size + 2]? = some (.cells #[.int .i64 0, .slice none 0 0] 24 (0, 0)) := alloc_top (by simp)
 generalize (((W.alloc (.cells #[.int .i64 (w : Int), .slice ag ng cg, .slice ao rs.length co] 113)).alloc (.cells #[.int .i64 (w : Int), .slice a1 (nw w) c1] 24)).alloc (.cells #[.int .i64 0, .slice none 0 0] 24)) = W2 at *
 have hC1 := lt_of_block hC
 refine (bempty_any (fun b => M b ∨ b = W.heap.size + 2) w _ (fun b hb => ?_) hw).mono ?_
 ·rcases hb with hb | rfl
  ·exact Nat.lt_of_lt_of_le (HM.out b hb) hx0.size
  exact hC1
 rintro e1 w1 ⟨a2, c2, rfl, hs2, hx1⟩
 have hszC := lt_of_block (hx1.blk hC no_no)
 have hm1 := Lib.hid (show ImM M W (w1.alloc (.cells #[.int .i64 (w : Int), .slice a2 (nw w) c2] 24)) w 0 w1.heap.size (.slice ag ng cg) (.slice ao rs.length co) (.slice a1 (nw w) c1) (.slice a2 (nw w) c2) from
  ⟨(hx0.transNo hx1).alloc _, alloc_under (hx1.blk hA no_no), alloc_under (hx1.blk hB no_no), alloc_under (hx1.blk hC no_no), alloc_top rfl, (hs2.out.mono (fun i hi e => by
   rcases e with e | e | e
   ·exact .inl e
   ·exact .inr e
   omega)).extNo ((Ext.refl _ _).alloc _), hszC⟩)
 have cB := cellOf hm1.out.boxB
 clear hx0 hA hB hC hC1 hs2 hx1 hszC
 go_wp2_with fail
 generalize (w1.alloc (.cells #[.int .i64 (w : Int), .slice a2 (nw w) c2] 24)) = W1 at *
 generalize w1.heap.size = D at *
 clear cB
 refine (members_any (fun b => b = D) w s _ _ (fun b hb => ?_) (HT.out.ext hm1.out.ext) (HS.out.extNo hm1.out.ext)).mono ?_
 ·cases hb; exact lt_of_block hm1.out.boxD
 rintro e3 w3 ⟨am, rfl, hmem, hx3⟩
 have hm2 := Lib.hid (hm1.out.stepNo hx3)
 have HME := Lib.hid hmem.out
 clear hx3 hm1 hmem
 have hml : (membersN w s).length ≤ 256 := Nat.le_trans (membersN_len w s) hw
 go_wp2_with fail
 go_loopw [18] (fun i wr => ∃ (j : Nat) (a' : Option Addr) (c' : Nat), j ≤ (membersN w s).length ∧ i = .int .i64 j ∧ Hid (ImM M W wr w (imgL rs ((membersN w s).take j)) D (.slice ag ng cg) (.slice ao rs.length co) (.slice a1 (nw w) c1) (.slice a' (nw w) c')) ∧ Hid (Row (fun b => b = D) wr 1 (.slice am (membersN w s).length (membersN w s).length) (membersN w s).length (ints (membersN w s)))) (fun i _ => (membersN w s).length - (intOf i).toNat)
 case atStart => exact ⟨0, _, _, Nat.zero_le _, rfl, hm2, HME⟩
 clear hm2 HME
 obtain ⟨j, a', c', hj, rfl, hm, hme⟩ := hrel
 rename World => wr
 have hpos : (0 : Int) ≤ (j : Int) := by omega
 by_cases hlt : j < (membersN w s).length
 ·obtain ⟨mb, mo, mc, hsl, _, _, hcell⟩ := hme.out.shape (by omega)
  simp only [Value.slice.injEq] at hsl
  obtain ⟨rfl, _, rfl⟩ := hsl
  obtain ⟨b, hb, hbw, hbs⟩ := membersN_mem.1 (List.getElem_mem hlt)
  have q0 := hcell j _ (show (ints (membersN w s))[j]? = some (.int .i64 (b : Int)) from by simp [ints, hlt, hb])
  have hbr : b < rs.length := by have := HLR.out; omega
  have HST : Hid (imgL rs ((membersN w s).take (j + 1)) = orN (imgL rs ((membersN w s).take j)) rs[b]) := Lib.hid (by rw [List.take_succ_eq_append_getElem hlt, hb, imgL_snoc hbr])
  have HKK : Hid (Value.int .i64 ((j : Int) + 1) = .int .i64 ((j + 1 : Nat) : Int)) := Lib.hid (by rw [show ((j + 1 : Nat) : Int) = (j : Int) + 1 from by omega])
  have hlz : (j : Int) < ((membersN w s).length : Int) := by omega
  clear hcell hb
  go_wp2_with fail
  obtain ⟨gg, go, gc, ae, ce, hsr, hgl, _, z0, z1, hE⟩ := (HR.out.extNo hm.out.ext).at hbr
  simp only [Value.slice.injEq] at hsr
  obtain ⟨rfl, _, rfl⟩ := hsr
  have HE := Lib.hid hE.out
  have hDg : D ≠ gg := fun e => by
   subst e
   have h1 := hm.out.boxD
   have h2 := (HR.out).at hbr
   obtain ⟨g2, o2, _, _, _, e2, hl2, _⟩ := h2
   simp only [Value.slice.injEq, Option.some.injEq, Addr.mk.injEq] at e2
   obtain ⟨⟨rfl, _⟩, _⟩ := e2
   have := hm.out.big
   omega
  have hgD : gg ≠ D := fun e => hDg e.symm
  have hDA : W.heap.size ≠ D := by have := hm.out.big; omega
  have l0 : wr.cell? ⟨W.heap.size, 2, none⟩ = some (.slice (some ⟨gg, go, none⟩) rs.length co) := cellOf hm.out.boxA 2
  have hle : W.heap.size ≤ D := by have := hm.out.big; omega
  have l3 : Ext No W wr := hm.out.ext
  have cD := cellOf hm.out.boxD
  have hbz : (0 : Int) ≤ (b : Int) := by omega
  have hbl : (b : Int) < (rs.length : Int) := by omega
  clear hE q0 hgl
  refine wp_region_held_drew (S := (fun w' => w'.cell? ⟨W.heap.size, 2, none⟩ = some (.slice (some ⟨gg, go, none⟩) rs.length co) ∧ w'.cell? ⟨gg, go + b * 2, none⟩ = some (.int .i64 (w : Int)) ∧ w'.cell? ⟨gg, go + b * 2 + 1, none⟩ = some (.slice ae (nw w) ce) ∧ Ext No W w')) (by kernel_rfl) ?_ (fun hHeld => ?_)
  ·(go_split_ands; refine ⟨?_, ?_, ?_, ?_⟩ <;> (repeat (first | (with_reducible assumption) | (with_reducible exact Ext.refl _ _) | (with_reducible refine keepD ?_) | (with_reducible refine keepA ?_) | (with_reducible refine Ext.drew ?_) | (with_reducible refine Ext.alloc ?_ _) | (with_reducible refine BoxR.drew ?_) | (with_reducible refine BoxR.alloc ?_ _) | (with_reducible refine BoxR.set ?_ _ _) | ((with_reducible refine keepS ?_ ?_); (first | (with_reducible assumption) | omega | (simp; omega) | (exact Nat.le_refl _))) | (with_reducible refine Ext.setAt ?_ _ _) | ((with_reducible refine Ext.own ?_ ?_ _); rotate_left; (first | (with_reducible assumption) | omega | (simp; omega) | (exact Nat.le_refl _))) | (with_reducible refine keepN hyA ?_) | (with_reducible refine Ext.transNo ?_ hyA) | (with_reducible refine BoxR.ext ?_ hyA))))
  refine hHs [1, 2, 3, 4, 5] ?_
  iterate 5
   refine hTn ?_ hHeld (fun w hSw => ?_) ?_
   rotate_left
   ·(try dsimp only at hSw); go_simp; (try with_reducible rfl)
   simp only [Act.put, nzA, nzB, nzC]
  refine hHe ?_
  refine hHc 0 fun K hK => ?_
  go_simp
  refine hK.out _ _ ?_ ?_
  ·(go_split_ands; refine ⟨?_, ?_, ?_, ?_⟩ <;> (repeat (first | (with_reducible assumption) | (with_reducible exact Ext.refl _ _) | (with_reducible refine keepD ?_) | (with_reducible refine keepA ?_) | (with_reducible refine Ext.drew ?_) | (with_reducible refine Ext.alloc ?_ _) | (with_reducible refine BoxR.drew ?_) | (with_reducible refine BoxR.alloc ?_ _) | (with_reducible refine BoxR.set ?_ _ _) | ((with_reducible refine keepS ?_ ?_); (first | (with_reducible assumption) | omega | (simp; omega) | (exact Nat.le_refl _))) | (with_reducible refine Ext.setAt ?_ _ _) | ((with_reducible refine Ext.own ?_ ?_ _); rotate_left; (first | (with_reducible assumption) | omega | (simp; omega) | (exact Nat.le_refl _))) | (with_reducible refine keepN hyA ?_) | (with_reducible refine Ext.transNo ?_ hyA) | (with_reducible refine BoxR.ext ?_ hyA))))
  clear hK K hHeld
  intro hHeld
  try simp only [Act.put, nzA, nzB, nzC]
  refine hHc 6 fun K hK => ?_
  (go_simp; go_at_call 34; (with_reducible refine (union_any (fun b => M b ∨ b = W.heap.size + 2 ∨ b = D) w (imgL rs ((membersN w s).take j)) rs[b] _ _ _ ?_ ?_ ?_).mono ?_); (first | exact hm.out.hM HM.out | exact (hm.out.stepNo (Ext.refl No wr).drew).hM HM.out); (first | exact hm.out.set.no | exact hm.out.set.no.extNo (Ext.refl No wr).drew); (first | exact HE.out | exact HE.out.extNo (Ext.refl No wr).drew); (rintro e3 w3 ⟨a3, c3, rfl, hs3, hyA⟩); (have hyB : Ext No wr w3 := by first | exact hyA | exact (Ext.refl No wr).drew.transNo hyA); (have hm3 := Lib.hid (hm.out.stepNo hyB)); (have hs4 := Lib.hid hs3.out); (have c3D := cellOf hm3.out.boxD); (have f3D := freeOf hm3.out.boxD); go_simp)
  refine hK.out _ _ ?_ ?_
  ·(go_split_ands; refine ⟨?_, ?_, ?_, ?_⟩ <;> (repeat (first | (with_reducible assumption) | (with_reducible exact Ext.refl _ _) | (with_reducible refine keepD ?_) | (with_reducible refine keepA ?_) | (with_reducible refine Ext.drew ?_) | (with_reducible refine Ext.alloc ?_ _) | (with_reducible refine BoxR.drew ?_) | (with_reducible refine BoxR.alloc ?_ _) | (with_reducible refine BoxR.set ?_ _ _) | ((with_reducible refine keepS ?_ ?_); (first | (with_reducible assumption) | omega | (simp; omega) | (exact Nat.le_refl _))) | (with_reducible refine Ext.setAt ?_ _ _) | ((with_reducible refine Ext.own ?_ ?_ _); rotate_left; (first | (with_reducible assumption) | omega | (simp; omega) | (exact Nat.le_refl _))) | (with_reducible refine keepN hyA ?_) | (with_reducible refine Ext.transNo ?_ hyA) | (with_reducible refine BoxR.ext ?_ hyA))))
  clear hK K hHeld
  intro hHeld
  refine hHs [7, 8, 9] ?_
  iterate 3
   refine hTn ?_ hHeld (fun w hSw => ?_) ?_
   rotate_left
   ·(try dsimp only at hSw); go_simp; (try with_reducible rfl)
   simp only [Act.put, nzA, nzB, nzC]
  refine hHe ?_
  refine hHc 10 fun K hK => ?_
  go_simp
  refine hK.out _ _ ?_ ?_
  ·(go_split_ands; refine ⟨?_, ?_, ?_, ?_⟩ <;> (repeat (first | (with_reducible assumption) | (with_reducible exact Ext.refl _ _) | (with_reducible refine keepD ?_) | (with_reducible refine keepA ?_) | (with_reducible refine Ext.drew ?_) | (with_reducible refine Ext.alloc ?_ _) | (with_reducible refine BoxR.drew ?_) | (with_reducible refine BoxR.alloc ?_ _) | (with_reducible refine BoxR.set ?_ _ _) | ((with_reducible refine keepS ?_ ?_); (first | (with_reducible assumption) | omega | (simp; omega) | (exact Nat.le_refl _))) | (with_reducible refine Ext.setAt ?_ _ _) | ((with_reducible refine Ext.own ?_ ?_ _); rotate_left; (first | (with_reducible assumption) | omega | (simp; omega) | (exact Nat.le_refl _))) | (with_reducible refine keepN hyA ?_) | (with_reducible refine Ext.transNo ?_ hyA) | (with_reducible refine BoxR.ext ?_ hyA))))
  clear hK K hHeld
  intro hHeld
  try simp only [Act.put, nzA, nzB, nzC]
  refine wpAnyH_done (by kernel_rfl) ?_ _
  go_wp2_with fail
  have hput := hm3.out.put hs4.out
  have hme3 := Lib.hid (((hme.out.extNo hyB).ext (((Ext.refl (At D) _).setAt 0 (.int .i64 (w : Int))).setAt 1 (.slice a3 (nw w) c3)) (fun i _ e => e)))
  go_roundw
  case rel => exact ⟨j + 1, a3, c3, by omega, HKK.out, Lib.hid (by rw [HST.out]; exact hput), hme3⟩
  case measure => simp [intOf]; omega
 obtain rfl : j = (membersN w s).length := by omega
 have cD := cellOf hm.out.boxD
 have cC := cellOf hm.out.boxC
 have fC := freeOf hm.out.boxC
 have hne : ¬ W.heap.size + 2 = D := by have := hm.out.big; omega
 go_wp2_with fail
 have hE : Ext (At (W.heap.size + 2)) wr ((wr.setCell ⟨W.heap.size + 2, 0, none⟩ (.int .i64 (w : Int))).setCell ⟨W.heap.size + 2, 1, none⟩ (.slice a' (nw w) c')) := ((Ext.refl (At (W.heap.size + 2)) _).setAt _ _).setAt _ _
 have hbF := (set_same (j := 1) (u := .slice a' (nw w) c') (set_same (j := 0) (u := .int .i64 (w : Int)) hm.out.boxC)).trans rfl
 clear cD cC fC
 generalize ((wr.setCell ⟨W.heap.size + 2, 0, none⟩ (.int .i64 (w : Int))).setCell ⟨W.heap.size + 2, 1, none⟩ (.slice a' (nw w) c')) = WF at *
 have cF := cellOf hbF
 refine ret_ex rfl ?_
 simp [results, Tryd.results71, go_sem, cF]
 rw [List.take_length] at hm
 exact ⟨_, _, rfl, Lib.hid ((hm.out.set.ext hE (fun i _ e => .inr (.inl e))).mono (fun i _ e => .inl e)), hm.out.ext.trans2 hE (fun i hi e => by unfold At at e; omega)⟩

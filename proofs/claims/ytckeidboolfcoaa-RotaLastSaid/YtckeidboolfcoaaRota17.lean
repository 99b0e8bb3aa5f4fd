/- The reference: Pick. -/
import Derived.Test.YtckeidboolfcoaaRota13
import Derived.Test.YtckeidboolfcoaaRota16
import Derived.Test.YtckeidboolfcoaaRota5
import Derived.Test.YtckeidboolfcoaaRota9b
import Derived.Test.YtckeidboolfcoaaRota12
namespace Go.Proofs.Ytckeidboolfcoaa
open Go Go.RowKit

set_option maxRecDepth 100000 in
set_option maxHeartbeats 2000000 in
theorem rpick_no (M : Nat → Prop) (v : Value) (r : Ring) (w : World) (h : RingV M w v r) (hf : ringOk r = false ∨ r.seats.length = 0) :
    Calls Try.prog 11 #[v] w (PickPost M r w) := by
  have HW := Lib.hid h
  have HV := Lib.hid h.toNo
  have HA := Lib.hid (ringPick_no hf)
  obtain ⟨sl, rfl, hs⟩ := h
  obtain ⟨a, cap, rfl⟩ := hs.slice
  have hlen := hs.2.1
  clear hs
  have hp : ringOk r = false ∨ (ringOk r = true ∧ r.seats.length = 0) := by
    cases h1 : ringOk r with
    | false => exact .inl rfl
    | true => exact .inr ⟨rfl, hf.resolve_left (by simp [h1])⟩
  clear hf
  rcases hp with gk | ⟨gk, g0⟩
  all_goals
    try (have g4 : ((r.seats.length : Int) == 0) = true := by simp [g0])
    try clear g0
    go_enter Try.func11, Try.ntmps11
    go_wp2_with fail
    have hx0 : Ext No w ((w.alloc (.cells #[.int .i64 r.base, .int .i64 r.per, .slice a r.seats.length cap, .int .i64 r.cur, .bool r.opn] 25)).alloc (.cells #[.int .i64 0, .int .i64 0, .slice none 0 0, .int .i64 0, .bool false] 25)) := ((Ext.refl _ _).alloc _).alloc _
    refine (rvalid_any _ r _ (HV.out.extNo hx0)).mono ?_
    rintro e1 w1 ⟨rfl, hx1⟩
    rw [gk]
    have hB := hx1.blk (alloc_under (alloc_top (w := w) rfl)) (fun x => x.elim)
    have hC := hx1.blk (n := w.heap.size + 1) (alloc_top (by simp)) (fun x => x.elim)
    have hx := hx0.transNo hx1
    have cB := cellOf hB
    have cC := cellOf hC
    have fC := freeOf hC
    clear hx0 hx1
    go_wp2_with fail
    refine ret_ex rfl ?_
    simp [results, Try.results11, go_sem, cC]
    have hxe : Ext No w _ := hx
    refine PickPost.mk HA.out rfl (HW.out.extNo (w' := _) ?_) (Row.nil _ _ _ _ _ (by omega)) ?_
    all_goals repeat (first | (with_reducible assumption) | ((with_reducible refine Ext.own ?_ ?_ _); rotate_left; first | exact Nat.le_refl _ | exact Nat.le_succ _))

theorem PickMem.alloc {w0 wr : World} {B g cap base1 n : Nat} {base per : Int} {l : List Seat} {c : Nat} {ts : List Turn} {opn : Bool} {o : Value}
    (h : PickMem w0 wr B g cap base1 n base per l c ts opn o) (ob : Obj) : PickMem w0 (wr.alloc ob) B g cap base1 n base per l c ts opn o :=
  ⟨h.ext.alloc ob, h.top, alloc_under h.hB, alloc_under h.hC, World.ownsRow.alloc h.own ob, World.ownsRow.alloc h.turns ob, by have := h.big; simp; omega, h.gb, h.bg, h.len⟩
/-- the box of the ring is written anew -/
theorem PickMem.rebox {w0 wr w' : World} {B g cap base1 n : Nat} {base per : Int} {l l' : List Seat} {c c' : Nat} {ts : List Turn} {opn b : Bool} {o : Value}
    (h : PickMem w0 wr B g cap base1 n base per l c ts opn o) (hx : Ext (At g) wr w') (hS : OwnSeats w' (B + 2) (.slice (some ⟨g, 0, none⟩) l'.length cap) l') (hl : l'.length = n) :
    PickMem w0 (((((w'.setCell ⟨B, 0, none⟩ (.int .i64 base)).setCell ⟨B, 1, none⟩ (.int .i64 per)).setCell ⟨B, 2, none⟩ (.slice (some ⟨g, 0, none⟩) n cap)).setCell ⟨B, 3, none⟩ (.int .i64 c')).setCell ⟨B, 4, none⟩ (.bool b)) B g cap base1 n base per l' c' ts b o := by
  have hlt := World.ownsRow.lt h.turns
  have hgb := h.gb
  have hbg := h.bg
  have htop := h.top
  have hbig := h.big
  have hsz := hx.size
  have hB : w'.heap[B]? = _ := (hx.block B (lt_of_block h.hB) (by unfold At; omega)).trans h.hB
  have hC : w'.heap[B + 1]? = _ := (hx.block (B + 1) (lt_of_block h.hC) (by unfold At; omega)).trans h.hC
  have hT : w'.ownsRow base1 51 5 o ts.length (flatT ts) := ownsRow_blk h.turns (fun k hk hs => hx.block k hs (by have := (hlt k hk).1; unfold At; omega))
  refine ⟨(((((h.ext.trans2 hx (fun i hi e => by cases e; exact absurd hi (by omega))).own htop _).own htop _).own htop _).own htop _).own htop _, htop, ?_, ?_, ?_, ?_, ?_, hgb, hbg, hl⟩
  · exact set_all5 _ _ _ _ _ hB
  · exact set_none5 _ _ _ _ _ hC (by omega)
  · have ho : ∀ j, (Value.slice (some ⟨g, 0, none⟩) l'.length cap).ownBlock ≠ some (⟨B, j, none⟩ : Addr).block := fun j e => by simp [Value.ownBlock] at e; omega
    exact ownsRow_setCell_other (ownsRow_setCell_other (ownsRow_setCell_other (ownsRow_setCell_other (ownsRow_setCell_other hS (ho 0) _) (ho 1) _) (ho 2) _) (ho 3) _) (ho 4) _
  · have ho : ∀ j, o.ownBlock ≠ some (⟨B, j, none⟩ : Addr).block := fun j e => by have := (hlt _ e).1; simp only at this; omega
    exact ownsRow_setCell_other (ownsRow_setCell_other (ownsRow_setCell_other (ownsRow_setCell_other (ownsRow_setCell_other hT (ho 0) _) (ho 1) _) (ho 2) _) (ho 3) _) (ho 4) _
  · simp [World.setCell]; omega
end Go.Proofs.Ytckeidboolfcoaa

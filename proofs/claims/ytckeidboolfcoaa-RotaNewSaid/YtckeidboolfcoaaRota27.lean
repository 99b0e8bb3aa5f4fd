/- The law RotaNew: the walk. -/
import Derived.Test.YtckeidboolfcoaaRota25
namespace Go.Proofs.Ytckeidboolfcoaa
open Go Go.RowKit

set_option maxRecDepth 100000 in
set_option maxHeartbeats 2000000 in
theorem rotaNew_any (base per : Int) (w : World) : Calls Try.prog 4 #[.int .i64 base, .int .i64 per] w fun e w' => e = .returned (.bool true) ∧ Ext No w w' := by
  go_enter Try.func4, Try.ntmps4
  go_wp2
  go_loopw [0, 1, 5, 6, 7, 8, 9] (fun b p i _ _ _ _ wr => ∃ (k : Nat) (zb zp : Int), k ≤ 4 ∧ i = .int .i64 k ∧ b = .int .i64 zb ∧ p = .int .i64 zp ∧ Ext No w wr) (fun _ _ i _ _ _ _ _ => 4 - (intOf i).toNat)
  case atStart => exact ⟨0, base, per, by omega, rfl, rfl, rfl, Ext.refl _ _⟩
  case round =>
    obtain ⟨k, zb, zp, hk, rfl, rfl, rfl, hx⟩ := hrel
    by_cases hlt : k < 4
    · obtain ⟨p, hp⟩ : ∃ p, ringNew zb zp = p := ⟨_, rfl⟩
      obtain ⟨rN, eN⟩ := p
      replace hp := Lib.hid hp
      go_wp2_with fail
      refine (newR_any zb zp _).mono ?_
      rintro e1 w1 ⟨v1, rfl, hv1, hx1⟩
      rw [hp.out] at hv1 ⊢
      obtain ⟨a1, n1, c1, hve1, hs1⟩ := (hv1 No).opens
      obtain rfl : v1 = .agg #[.int .i64 rN.base, .int .i64 rN.per, .slice a1 n1 c1, .int .i64 rN.cur, .bool rN.opn] := hve1
      have h1 := Lib.hid (hv1 No)
      have hxa := (hx.transNo hx1).alloc (.cells #[.int .i64 rN.base, .int .i64 rN.per, .slice a1 n1 c1, .int .i64 rN.cur, .bool rN.opn] 25)
      clear hv1 hs1 hx1
      go_wp2_with fail
      refine (rnewR_any zb zp _).mono ?_
      rintro e2 w2 ⟨v2, rfl, hv2, hx2⟩
      rw [hp.out] at hv2 ⊢
      obtain ⟨a2, n2, c2, hve2, hs2⟩ := (hv2 No).opens
      obtain rfl : v2 = .agg #[.int .i64 rN.base, .int .i64 rN.per, .slice a2 n2 c2, .int .i64 rN.cur, .bool rN.opn] := hve2
      have hb := hx2.blk (alloc_top (w := w1) (o := .cells #[.int .i64 rN.base, .int .i64 rN.per, .slice a1 n1 c1, .int .i64 rN.cur, .bool rN.opn] 25) rfl) (fun x => x.elim)
      have cb := cellOf hb
      have lb := lt_of_block hb
      have hyy : Ext No w2 (w2.alloc (.cells #[.int .i64 rN.base, .int .i64 rN.per, .slice a2 n2 c2, .int .i64 rN.cur, .bool rN.opn] 25)) := (Ext.refl _ _).alloc _
      have h1' := Lib.hid ((h1.out.extNo ((Ext.refl No w1).alloc _)).extNo (hx2.transNo hyy))
      have h2 := Lib.hid ((hv2 No).extNo hyy)
      have hxb := (hxa.transNo hx2).transNo hyy
      clear hv2 hs2 hx2 hyy hb
      go_wp2_with fail
      refine (sameR_any _ _ rN _ h1'.out h2.out).mono ?_
      rintro e3 w3 ⟨rfl, hx3⟩
      have hxc := hxb.transNo hx3
      clear hxb hx3 hxa hx
      go_wp2_with (go_at_call 18; refine (mod_any _ _ (by omega) (by omega) _).mono ?_; rintro e' w' ⟨rfl, rfl⟩)
      go_roundw
      case rel => exact ⟨k + 1, _, _, by omega, by go_num, rfl, rfl, hxc⟩
      case measure => simp [intOf]; omega
    · go_wp2_with fail
      refine (sane_any _).mono ?_
      rintro e1 w1 ⟨rfl, hx1⟩
      go_wp2
      go_ret
      exact ⟨rfl, hx.transNo hx1⟩
end Go.Proofs.Ytckeidboolfcoaa

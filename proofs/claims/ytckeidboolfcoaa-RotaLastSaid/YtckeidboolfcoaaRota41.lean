/- The law RotaLast: the walk. -/
import Derived.Test.YtckeidboolfcoaaRota40
import Derived.BigQuiet
namespace Go.Proofs.Ytckeidboolfcoaa
open Go Go.RowKit

theorem rowNo {M : Nat → Prop} {w : World} {sl : Value} {l : List Seat} (h : Seats M w sl l) : Seats No w sl l := Row.mono h (fun _ _ x => x.elim)
theorem infoInt : (Try.prog.info? 3).map (fun i => (i.zero, i.size, i.bytes)) = some (some (.int .i64 0), 1, 8) := by kernel_rfl
theorem ints_one (l : List Int) : ∀ u ∈ l.map (Value.int .i64), u.oneCell' = true := by
  intro u hu; obtain ⟨z, _, rfl⟩ := List.mem_map.1 hu; rfl

set_option maxRecDepth 100000 in
set_option maxHeartbeats 8000000 in
theorem rotaLast_any (tl : Value) (zs : List Int) (w : World) (ht : Ints No w .i64 tl zs) : Calls Try.prog 7 #[tl] w fun e w' => e = .returned (.bool true) ∧ Ext No w w' := by
  obtain ⟨i0, hi0, hz0, hz1, hz2⟩ := info_parts infoInt
  have HT := Lib.hid ht
  obtain ⟨at', ct', rfl⟩ := ht.slice
  clear ht
  go_enter Try.func7, Try.ntmps7
  go_wp2_with fail
  refine (new_any _ zs _ HT.out).mono ?_
  rintro e0 w0 ⟨rfl, ht0, hx0, hs0⟩
  obtain ⟨tb, htb⟩ : ∃ tb, tb = w.heap.size := ⟨_, rfl⟩
  rw [← htb] at ht0 ⊢
  have HT0 := Lib.hid ht0
  have HX0 := Lib.hid hx0
  have htb2 : w.heap.size ≤ tb := by omega
  have htb3 : tb < w0.heap.size := by omega
  clear ht0 hx0 htb hs0
  go_wp2_with fail
  refine (ring_any tb _ HT0.out).mono ?_
  rintro e1 w1 ⟨r, a, n, c, hsm, rfl, hs1, ht1, hx1⟩
  have HSM := Lib.hid hsm
  have HX1 := Lib.hid (HX0.out.trans2 hx1 (fun i hi e => by cases e; exact absurd hi (by omega)))
  have HS1 := Lib.hid (rowNo hs1)
  have hn := Seats.num hs1
  have hln : n ≤ 16 := by rw [hn]; exact hsm.ok.len
  have HN := Lib.hid hn
  have hwl : w.heap.size ≤ w1.heap.size := HX1.out.size
  clear hsm hs1 ht1 hx1 hn HT0 HX0
  go_wp2_with fail
  refine (ringAdd_any No _ r 50 0 _ No.any ⟨_, rfl, Row.extNo HS1.out ((Ext.refl _ _).alloc _)⟩).mono ?_
  rintro e2 w2 ⟨v2, rfl, hv2, hx2⟩
  have hb1 := hx2.blk (alloc_top (w := w1) (o := (.cells #[.int .i64 r.base, .int .i64 r.per, .slice a n c, .int .i64 r.cur, .bool r.opn] 25)) rfl) (fun x => x.elim)
  have hx2' : Ext No w1 w2 := ((Ext.refl _ _).alloc (.cells #[.int .i64 r.base, .int .i64 r.per, .slice a n c, .int .i64 r.cur, .bool r.opn] 25)).transNo hx2
  have HX2 := Lib.hid (HX1.out.transNo hx2')
  have HS2 := Lib.hid (Row.extNo HS1.out hx2')
  have hB2 : w1.heap.size < w2.heap.size := lt_of_block hb1
  clear hx2 hx2' HX1
  rw [add_50 HSM.out] at hv2 ⊢
  by_cases h16 : r.seats.length = 16
  · rw [if_pos h16] at hv2 ⊢
    have hn16 : n = 16 := by rw [HN.out]; exact h16
    obtain ⟨a2, n2, c2, rfl, hs2⟩ := hv2.opens
    subst hn16
    clear h16 hv2 hs2
    have cB := cellOf (alloc_under (o := .cells #[.int .i64 0, .int .i64 0, .slice a2 n2 c2, .int .i64 0, .bool false] 25) hb1)
    clear hb1
    go_wp2_with fail
    refine (sane_any _).mono ?_
    rintro e3 w3 ⟨rfl, hx3⟩
    clear cB
    go_wp2_with fail
    go_ret
    exact ⟨rfl, (HX2.out.alloc _).transNo hx3⟩
  · rw [if_neg h16] at hv2 ⊢
    obtain ⟨hLC, hCY, hql, hpl, hq16, hso⟩ := last_start HSM.out h16
    have hn16 : ((n : Int) == 16) = false := beq_eq_false_iff_ne.2 (by have := HN.out; omega)
    have HLC := Lib.hid hLC
    clear hLC h16
    obtain ⟨a2, n2, c2, rfl, hs2⟩ := hv2.opens
    have hn2 : n2 = n + 1 := by rw [Seats.num hs2, HN.out]; exact hql
    subst hn2
    have hq1 : opnN r ≤ 1 := by unfold opnN; split <;> omega
    have HBU := Lib.hid (show Budget ((added r 50 0).seats.map Seat.id) (addAt r) (addAt r + 1 + opnN r) 0 8 (added r 50 0) from
      ⟨hCY, by rw [List.length_map]; omega, fun ho cc hc hcc => by have := (hCY.ok.on cc hc ho hcc.symm).2; omega, by rw [List.length_map]; omega⟩)
    have HSE := Lib.hid (show Seen ((added r 50 0).seats.map Seat.id) (addAt r) (opnN r) (addAt r + 1 + opnN r) [] from ⟨rfl, fun k hk => by simp at hk⟩)
    have hLl : ((added r 50 0).seats.map Seat.id).length = n + 1 := by rw [List.length_map, hql, HN.out]
    have HLL := Lib.hid hLl
    have hxa : Ext No w2 (w2.alloc (.cells #[.int .i64 (added r 50 0).base, .int .i64 (added r 50 0).per, .slice a2 (n + 1) c2, .int .i64 (added r 50 0).cur, .bool (added r 50 0).opn] 25)) := (Ext.refl _ _).alloc _
    have HL := Lib.hid (show LMem w (w2.alloc (.cells #[.int .i64 (added r 50 0).base, .int .i64 (added r 50 0).per, .slice a2 (n + 1) c2, .int .i64 (added r 50 0).cur, .bool (added r 50 0).opn] 25)) w1.heap.size w2.heap.size r a n c (added r 50 0) a2 (n + 1) c2 (w2.heap.size + 1) (.slice none 0 0) [] from
      ⟨hxa.blk hb1 (fun x => x.elim), Row.newAt HS2.out hxa _ (fun i hi e => e.elim (fun e => absurd hi (by omega)) (fun e => by cases e)), alloc_top rfl, Row.newAt hs2 hxa _ (fun i hi e => e.elim (fun e => absurd hi (by omega)) (fun e => by cases e)), World.ownsRow_nil _ _ _ _, HX2.out.transNo hxa, hwl, hB2, Nat.lt_succ_self _, by simp⟩)
    have cB := cellOf HL.out.boxR
    have cD := cellOf HL.out.boxQ
    go_wp2_with fail
    clear cB cD
    generalize (added r 50 0).seats.map Seat.id = L at *
    generalize addAt r = p at *
    generalize added r 50 0 = q0 at *
    generalize (w2.alloc (.cells #[.int .i64 q0.base, .int .i64 q0.per, .slice a2 (n + 1) c2, .int .i64 q0.cur, .bool q0.opn] 25)) = W at *
    clear hxa hv2 hs2 hb1 hCY hql HS2 HX2 hLl
    generalize w1.heap.size = B at *
    generalize w2.heap.size = D at *
    go_loopw [6, 7, 8] (fun e sv i wr => ∃ (i' next b : Nat) (q : Ring) (aq : Option Addr) (nq' cq : Nat) (seen : List Int), i' ≤ 200 ∧ e = .int .i64 0 ∧ i = .int .i64 i' ∧ Hid (LMem w wr B D r a n c q aq nq' cq (D + 1) sv seen) ∧ Hid (Budget L p next i' b q) ∧ Hid (Seen L p (opnN r) next seen)) (fun _ _ i _ => 400 - (intOf i).toNat)
    case atStart => exact ⟨0, _, _, q0, _, _, _, [], by omega, rfl, rfl, HL, HBU, HSE⟩
    case round =>
      clear HL HBU HSE
      obtain ⟨i', next, b, q, aq, nq', cq, seen, hi', rfl, rfl, hm, hbu, hse⟩ := hrel
      obtain ⟨gs, gc, rfl⟩ := hm.out.shape
      have cD := cellOf hm.out.boxQ
      have hd4 : decide ((i' : Int) < 400) = true := by simp; omega
      have HK : Hid (Value.int .i64 ((i' : Int) + 1) = .int .i64 ((i' + 1 : Nat) : Int)) := Lib.hid (by rw [show ((i' + 1 : Nat) : Int) = (i' : Int) + 1 from by omega])
      go_wp2_with fail
      refine (ppick_M hm.out.hM hm.out.seatsQ).mono ?_
      rintro e1 w3 ⟨a1, n1, c1, ta, tc, rfl, hs1, ht1, hy1⟩
      have hp := Lib.hid (cyc_pick hbu.out.cyc)
      have hLR := Lib.hid (fun h => last_round hbu.out h)
      have hql : Hid (q.seats.length = L.length) := Lib.hid (map_len hbu.out.cyc.ids)
      have hT := Lib.hid (fun j (h : j < (ringPick q).turns.length) => (show L[(next + j) % L.length]? = some (ringPick q).turns[j].q from by have := (hp.out.turn j h).1; rw [hql.out] at this; exact this))
      have hhi := hbu.out.hi
      have hle := hp.out.le
      have hok := Lib.hid hp.out.ok
      have hid0 : 0 ≤ (ringPick q).id := by
        have h1 := hp.out.id
        have hk := hp.out.cyc.ids
        rw [← hk, List.getElem?_map, Option.map_eq_some_iff] at h1
        obtain ⟨s1, h2, h3⟩ := h1
        obtain ⟨h4, h5⟩ := List.getElem?_eq_some_iff.1 h2
        rw [← h3, ← h5]
        exact (hp.out.cyc.ok.id _ h4).1
      obtain ⟨hmx, hxx⟩ := XMem.made hm.out hy1 hs1.out ht1.out
      have HMX := Lib.hid hmx
      have HXX := Lib.hid hxx
      clear hm hbu hp hy1 hs1 ht1 hmx hxx cD hql
      generalize ringPick q = pk at *
      obtain ⟨x, idx, ts, okb⟩ := pk
      obtain rfl : okb = true := hok.out
      simp only at HMX HXX hLR hT hle hid0 ⊢
      clear hok
      go_wp2_with fail
      generalize (w3.alloc (.cells #[.int .i64 x.base, .int .i64 x.per, .slice a1 n1 c1, .int .i64 x.cur, .bool x.opn] 25)) = W1 at *
      generalize w3.heap.size = E at *
      go_loopw [7, 13] (fun sv j wr => ∃ (jj : Nat) (seen' : List Int), jj ≤ ts.length ∧ j = .int .i64 jj ∧ next + jj ≤ p + L.length ∧ Hid (LMem w wr B D r a n c q aq nq' cq (D + 1) sv seen') ∧ Hid (XMem wr D E x a1 n1 c1 (.slice ta ts.length tc) ts sv) ∧ Hid (Seen L p (opnN r) (next + jj) seen')) (fun _ j _ => ts.length - (intOf j).toNat)
      case atStart => exact ⟨0, seen, by omega, rfl, by omega, HMX, HXX, hse⟩
      case round =>
        clear HMX HXX hse
        obtain ⟨jj, seen', hjl, rfl, hjp, hm, hx, hse⟩ := hrel
        obtain ⟨gs, gc, rfl⟩ := hm.out.shape
        by_cases hjt : jj < ts.length
        · obtain ⟨b0, off, cap', hsl, hb1, _, t0, t1, t2, t3, t4⟩ := Turns.lt hx.out.turns hjt
          simp only [Value.slice.injEq] at hsl
          obtain ⟨rfl, _, rfl⟩ := hsl
          clear t1 t2 t3 t4
          have hTj := Lib.hid (hT.out jj hjt)
          have HJ : Hid (Value.int .i64 ((jj : Int) + 1) = .int .i64 ((jj + 1 : Nat) : Int)) := Lib.hid (by rw [show ((jj + 1 : Nat) : Int) = (jj : Int) + 1 from by omega])
          by_cases h50 : next + jj = p + L.length
          · have ht50 := turn_50 HLC.out h50 hTj.out
            rw [ht50] at t0
            have H50 := Lib.hid h50
            clear ht50 h50 hTj
            have cB := cellOf hm.out.boxR
            go_wp2_with fail
            clear cB t0
            have hsb : seen'.length ≤ 20 := by have := hse.out.len; have := HLL.out; have := H50.out; omega
            go_loopw [14, 15] (fun lf nv wr => ∃ (left : Int) (nn : Nat), nn ≤ n ∧ nv = .int .i64 nn ∧ lf = .int .i64 left ∧ (n : Int) - nn ≤ left ∧ left ≤ (n : Int) - nn + (extra L p (opnN r) nn : Nat) ∧ Hid (LMem w wr B D r a n c q aq nq' cq (D + 1) (.slice gs seen'.length gc) seen')) (fun _ nv _ => n - (intOf nv).toNat)
            case atStart => exact ⟨n, 0, by omega, rfl, rfl, by omega, by omega, hm⟩
            case round =>
              clear hm hx
              obtain ⟨left, nn, hnl, rfl, rfl, hl1, hl2, hm⟩ := hrel
              have hex1 := extra_le L p (opnN r) nn
              have cB := cellOf hm.out.boxR
              by_cases hnn : nn < n
              · have hnr : nn < r.seats.length := by have := HN.out; omega
                have hex2 := extra_mono L p (opnN r) nn
                have HNN : Hid (Value.int .i64 ((nn : Int) + 1) = .int .i64 ((nn + 1 : Nat) : Int)) := Lib.hid (by rw [show ((nn + 1 : Nat) : Int) = (nn : Int) + 1 from by omega])
                clear cB
                have cB : ∀ j, _ := cellOf hm.out.boxR
                go_wp2_with fail
                clear cB
                go_loopw [14, 16] (fun lv mv wr => ∃ mm : Nat, mm ≤ seen'.length ∧ lv = .int .i64 left ∧ mv = .int .i64 mm ∧ Hid (∀ k (hk : k < seen'.length), k < mm → seen'[k] ≠ r.seats[nn].id) ∧ Hid (LMem w wr B D r a n c q aq nq' cq (D + 1) (.slice gs seen'.length gc) seen')) (fun _ mv _ => seen'.length - (intOf mv).toNat)
                case atStart => exact ⟨0, by omega, rfl, rfl, Lib.hid (fun k hk h => absurd h (Nat.not_lt_zero _)), hm⟩
                case round =>
                  clear hm
                  obtain ⟨mm, hml, rfl, rfl, hno, hm⟩ := hrel
                  by_cases hmm : mm < seen'.length
                  · obtain ⟨g4, cap4, hsv, s4⟩ := hm.out.seenAt hmm
                    simp only [Value.slice.injEq] at hsv
                    obtain ⟨rfl, _, rfl⟩ := hsv
                    obtain ⟨b5, off5, cap5, hsv, _, _, p0, p1, p2, p3⟩ := Seats.lt hm.out.seatsR hnr
                    simp only [Value.slice.injEq] at hsv
                    obtain ⟨rfl, hnv, rfl⟩ := hsv
                    clear p1 p2 p3 hnv
                    have c2' : _ = some (Value.slice (some ⟨b5, off5, none⟩) n c) := cellOf hm.out.boxR 2
                    have HMM : Hid (Value.int .i64 ((mm : Int) + 1) = .int .i64 ((mm + 1 : Nat) : Int)) := Lib.hid (by rw [show ((mm + 1 : Nat) : Int) = (mm : Int) + 1 from by omega])
                    by_cases heq : seen'[mm] = r.seats[nn].id
                    · have hbe : (seen'[mm] == r.seats[nn].id) = true := beq_iff_eq.2 heq
                      clear heq
                      go_wp2_with fail
                      go_quiet (fail)
                      go_wp2_with fail
                      go_roundw
                      case rel => exact ⟨left - 1, nn + 1, by omega, HNN.out, rfl, by omega, by omega, Lib.hid (hm.out.drewN _)⟩
                      case measure => simp [intOf]; omega
                    · have hbe : (seen'[mm] == r.seats[nn].id) = false := beq_eq_false_iff_ne.2 heq
                      have HNO := Lib.hid (show ∀ k (hk : k < seen'.length), k < mm + 1 → seen'[k] ≠ r.seats[nn].id from fun k hk h => by
                        rcases Nat.lt_or_ge k mm with h6 | h6
                        · exact hno.out k hk h6
                        · have : k = mm := by omega
                          subst this; exact heq)
                      clear heq
                      go_wp2_with fail
                      go_quiet (fail)
                      go_wp2_with fail
                      go_roundw
                      case rel => exact ⟨mm + 1, by omega, rfl, HMM.out, HNO, Lib.hid (hm.out.drewN _)⟩
                      case measure => simp [intOf]; omega
                  · obtain ⟨hs1', hsh⟩ := seen_all HLC.out hse.out H50.out hnr (fun k hk => hno.out k hk (by omega)) hq1
                    have hex3 := extra_here L p (opnN r) nn hs1' hsh
                    clear hs1' hsh
                    go_wp2_with fail
                    go_roundw
                    case rel => exact ⟨left, nn + 1, by omega, HNN.out, rfl, by omega, by omega, hm⟩
                    case measure => simp [intOf]; omega
              · obtain rfl : nn = n := by omega
                have HL2 : Hid (left ≤ opnN r) := Lib.hid (by omega)
                cases hop : r.opn with
                | true =>
                  have hs1' : (opnN r : Int) = 1 := by unfold opnN; rw [hop]; rfl
                  have hl3 : left - 1 ≤ 0 := by have := HL2.out; omega
                  rw [hop] at cB
                  clear hs1'
                  go_wp2_with fail
                  refine (sane_any _).mono ?_
                  rintro e5 w5 ⟨rfl, hx5⟩
                  go_wp2_with fail
                  go_ret
                  exact ⟨rfl, hm.out.ext.transNo hx5⟩
                | false =>
                  have hs1' : (opnN r : Int) = 0 := by unfold opnN; rw [hop]; rfl
                  have hl3 : left ≤ 0 := by have := HL2.out; omega
                  rw [hop] at cB
                  clear hs1'
                  go_wp2_with fail
                  refine (sane_any _).mono ?_
                  rintro e5 w5 ⟨rfl, hx5⟩
                  go_wp2_with fail
                  go_ret
                  exact ⟨rfl, hm.out.ext.transNo hx5⟩
          · have hn50 := turn_no HLC.out (by have := hse.out.len; omega) (by omega) hTj.out
            have hne : (ts[jj].q == 50) = false := beq_eq_false_iff_ne.2 hn50
            have HSN := Lib.hid (hse.out.snoc hTj.out)
            have hsl := hse.out.len
            have hll := HLL.out
            go_wp2_with (at_builtin; (refine wpList_app _ rfl (.tmp 110) (.tmp 116) 22 rfl (D + 1) 3 i0 _ 1 8 Try.underlying22 hi0 hz0 hz1 hz2 rfl (by omega) (.slice gs seen'.length gc) seen'.length (seen'.map (.int .i64)) rfl (World.ownsRow.alloc hm.out.own _) No (some ⟨_, 0, none⟩) 1 1 [.int .i64 ts[jj].q] rfl (Row.block (alloc_top rfl) rfl (fun x => x.elim) (by omega)) (by simp [Value.oneCell']) (by omega) (by omega) (by have := hm.out.bw; simp; omega) ?_); (intro v1 w1 hown1 hg1 hb1'); (have hm1 := Lib.hid (hm.out.app hown1 hg1 hb1')); (have hx1 := Lib.hid (hx.out.app hg1 hb1')))
            go_roundw
            case rel => exact ⟨jj + 1, _, by omega, HJ.out, by omega, hm1, hx1, HSN⟩
            case measure => simp [intOf]; omega
        · obtain rfl : jj = ts.length := by omega
          have hLS := Lib.hid (hLR.out hjp)
          have cX := cellOf hx.out.boxX
          have cD := cellOf hm.out.boxQ
          have fD := freeOf hm.out.boxQ
          go_wp2_with fail
          refine (pspend_M hm.out.hM hx.out.seatsX 8 false).mono ?_
          rintro e9 w9 ⟨a9, n9, c9, rfl, hs9, hy9⟩
          have hm9 := Lib.hid (hm.out.stepNo hy9)
          clear hy9 cX cD fD
          have hok9 := Lib.hid hLS.out.ok
          obtain ⟨b9, hb9⟩ := hLS.out.bud
          have HB9 := Lib.hid hb9
          clear hLS hb9 hLR
          generalize ringSpend x 8 false = p9 at *
          obtain ⟨r9, bb9, er9⟩ := p9
          obtain rfl : er9 = 0 := hok9.out
          simp only at HB9 hs9 ⊢
          have hi2 : i' + 1 ≤ 200 := by have := HB9.out.sum; omega
          have cB := cellOf hm9.out.boxQ
          have fB := freeOf hm9.out.boxQ
          have hmZ := Lib.hid (hm9.out.set hs9.out rfl)
          have hid1 : decide (idx < 0) = false := by simpa using hid0
          go_wp2_with fail
          go_roundw
          case rel => exact ⟨i' + 1, _, _, r9, a9, n9, c9, seen', hi2, rfl, HK.out, hmZ, HB9, hse⟩
          case measure => simp [intOf]; omega
end Go.Proofs.Ytckeidboolfcoaa

/- Components of the reference. -/
import Derived.Test.YtkdjdhflhlbelaaK20
import Derived.Test.YtkdjdhflhlbelaaK6
set_option linter.unusedVariables false
set_option linter.unusedSimpArgs false
namespace Go.Proofs.Ytkdjdhflhlbelaa
open Go Go.RowKit Tj
def RCmpPost (M : Nat → Prop) (S : SysD) (W : World) (e : Ending) (w' : World) : Prop :=
 ∃ (gl : List Nat) (a : Option Addr) (c : Nat), gl.length = S.deps.length ∧ Hid (GOk S (rowD gl)) ∧ e = .returned (.tuple #[.slice a S.deps.length c, .int .i64 0]) ∧ Hid (Ints M w' .i64 (.slice a S.deps.length c) (natsZ gl)) ∧ Ext No W w'
/-- the lists of what each one reaches -/
def ReachD (S : SysD) (Ld : LD) : Prop := ∀ j (h : j < Ld.length), ∃ l, Ld[j].1 = natsZ l ∧ RchL S j l
theorem ReachD.snoc {S : SysD} {Ld : LD} {l : List Nat} {v : Value} (h : ReachD S Ld) (hl : RchL S Ld.length l) : ReachD S (Ld ++ [(natsZ l, v)]) := fun j hj => by
 rcases Nat.lt_or_ge j Ld.length with h2 | h2
 ·rw [List.getElem_append_left h2]; exact h j h2
 ·obtain rfl : j = Ld.length := by simp only [List.length_append, List.length_singleton] at hj; omega
  exact ⟨l, by simp, hl⟩
theorem reach_at {S : SysD} {w : World} {sl : Value} {Ld : LD} (h : LAt kD No w sl Ld) (hr : ReachD S Ld) {j : Nat} (hj : j < Ld.length) :
  ∃ b off cap a c l, sl = .slice (some ⟨b, off, none⟩) Ld.length cap ∧ w.cell? ⟨b, off + j, none⟩ = some (.slice a (List.length l) c) ∧ Hid (Ints No w .i64 (.slice a (List.length l) c) (natsZ l)) ∧ RchL S j l := by
 obtain ⟨b, off, cap, h1, _, _, h2⟩ := h.atD hj
 obtain ⟨l, e, hl⟩ := hr j hj
 have h3 : Ints No w .i64 Ld[j].2 Ld[j].1 := h.ok _ (List.getElem_mem hj)
 obtain ⟨a, c, h5⟩ := Row.slice h3
 have h4 := h2 j hj
 rw [h5, e, nats_len] at h3 h4
 exact ⟨b, off, cap, a, c, l, h1, h4, Lib.hid h3, hl⟩
theorem lown_push {w w9 : World} {base : Nat} {v v9 sl : Value} {Ld : LD} {l : List Int} (h : LOwn kD No w base v Ld) (hI : Ints (fun b => v.ownBlock = some b) w .i64 sl l) (hown : w9.ownsRow base 22 1 v9 (Ld.length + 1) (Ld.flatMap kD.cells ++ [sl])) (hg : w.grownBy w9 v.ownBlock) (hv : v9.ownBlock = v.ownBlock ∨ v9.ownBlock = some w.heap.size) : LOwn kD No w9 base v9 (Ld ++ [(l, sl)]) :=
 h.app (p := (l, sl)) (Row.mono hI (fun i _ e => e.elim (fun x => x.elim) id)) hown (E := fun k => v.ownBlock = some k) ((Ext.refl _ w).grown hg (fun k hk _ => hk)) (fun _ e => e) (hv.imp id (fun e k hk => by rw [e] at hk; simp only [Option.some.injEq] at hk; omega))
theorem rcomps_inv (x : Int) (vd vt vb : Value) (Ld : LD) (Lt : LT) (Lb : LS) (W : World) (h : YAt No W vd vt vb Ld Lt Lb) (hn : ¬ VS x Ld Lt Lb) :
  Calls Try.prog 75 #[.agg #[.int .i64 x, vd, vt, vb]] W (ErrPost (.slice none 0 0) 1 W) := by
 have H := Lib.hid h
 have HN := Lib.hid hn
 clear h hn
 go_enter Try.func75, Try.ntmps75
 go_upto_region 1 with (fail)
 have hx0 : Ext No W (W.alloc (.cells #[.int .i64 x, vd, vt, vb] 29)) := (Ext.refl _ _).alloc _
 have HA := Lib.hid (alloc_top (w := W) (o := (.cells #[.int .i64 x, vd, vt, vb] 29)) rfl)
 generalize (W.alloc (.cells #[.int .i64 x, vd, vt, vb] 29)) = w1 at *
 have cA := cellOf HA.out
 go_wp2_with fail
 refine (rvalidSys_any x _ _ _ Ld Lt Lb w1 (H.out.extNo hx0)).mono ?_
 rintro e w2 ⟨b, rfl, hb, hx⟩
 obtain rfl : b = false := by
  cases b with
  | false => rfl
  | true => exact absurd (hb.1 rfl) HN.out
 go_wp2_with fail
 refine ret_ex rfl ?_
 simp [results, Try.results75, go_sem]
 exact ⟨rfl, hx0.transNo hx⟩
set_option maxRecDepth 100000 in
set_option maxHeartbeats 16000000 in
theorem rcomps_any (M : Nat → Prop) (S : SysD) (vd vt vb : Value) (W : World) (hM : ∀ b, M b → b < W.heap.size) (h : SysAt No W vd vt vb S) :
  Calls Try.prog 75 #[.agg #[.int .i64 (S.w : Int), vd, vt, vb]] W (RCmpPost M S W) := by
 obtain ⟨i0, hi0, hz0, hz1, hz2⟩ := info_parts infoInt2
 obtain ⟨j0, hj0, hy0, hy1, hy2⟩ := info_parts infoII
 have H := Lib.hid h
 have HM := Lib.hid hM
 have hok := h.ok
 have HOK := Lib.hid hok
 have hnn := hok.n2
 obtain ⟨ad, cd, at1, ct, ab, cb, rfl, rfl, rfl⟩ := h.slices
 clear h hok hM
 go_enter Try.func75, Try.ntmps75
 go_upto_region 1 with (fail)
 have hx0 : Ext No W (W.alloc (.cells #[.int .i64 (S.w : Int), .slice ad S.deps.length cd, .slice at1 S.deps.length ct, .slice ab S.deps.length cb] 29)) := (Ext.refl _ _).alloc _
 have HA := Lib.hid (alloc_top (w := W) (o := (.cells #[.int .i64 (S.w : Int), .slice ad S.deps.length cd, .slice at1 S.deps.length ct, .slice ab S.deps.length cb] 29)) rfl)
 have hAw : W.heap.size < (W.alloc (.cells #[.int .i64 (S.w : Int), .slice ad S.deps.length cd, .slice at1 S.deps.length ct, .slice ab S.deps.length cb] 29)).heap.size := lt_of_block HA.out
 generalize (W.alloc (.cells #[.int .i64 (S.w : Int), .slice ad S.deps.length cd, .slice at1 S.deps.length ct, .slice ab S.deps.length cb] 29)) = w1 at *
 have cA := cellOf HA.out
 go_wp2_with fail
 refine (rvalidSys_yes S _ _ _ w1 (H.out.extNo hx0)).mono ?_
 rintro e1 V ⟨rfl, hx1⟩
 have hVs := hx1.size
 have HAV := Lib.hid (hx1.blk HA.out no_no)
 have HSV := Lib.hid ((H.out.extNo hx0).extNo hx1)
 have HXV := Lib.hid (hx0.transNo hx1)
 clear cA H HA hx0 hx1
 go_wp2_with fail
 go_loopw [4, 5] (fun v i wr => ∃ (k : Nat) (Ld : LD), i = .int .i64 k ∧ k ≤ S.deps.length ∧ Ld.length = k ∧ Hid (LOwn kD No wr V.heap.size v Ld) ∧ Hid (ReachD S Ld) ∧ Hid (Ext No V wr)) (fun _ i _ => S.deps.length - (intOf i).toNat)
 case atStart => exact ⟨0, [], rfl, Nat.zero_le _, rfl, Lib.hid (LOwn.nil _ _ _ _), Lib.hid (fun j hj => absurd hj (Nat.not_lt_zero _)), Lib.hid (Ext.refl _ _)⟩
 case round =>
  obtain ⟨k, Ld, rfl, hk, hlk, hR, hD, hx⟩ := hrel
  rename World => wr
  obtain ⟨aR, cR, hs4⟩ := hR.out.slice
  rw [hlk] at hs4
  subst hs4
  have HLK := Lib.hid hlk
  clear hlk
  have cA := cellOf (hx.out.blk HAV.out no_no)
  by_cases hlt : k < S.deps.length
  ·have hlz : (k : Int) < (S.deps.length : Int) := by omega
   have HKK : Hid (Value.int .i64 ((k : Int) + 1) = .int .i64 ((k + 1 : Nat) : Int)) := Lib.hid (by rw [show ((k + 1 : Nat) : Int) = (k : Int) + 1 from by omega])
   go_wp2_with fail
   clear cA
   refine (rabove_any (fun b => (Value.slice aR k cR).ownBlock = some b) S _ _ _ k wr (fun b e => (hR.out.lt b e).2) (HSV.out.extNo hx.out) hlt).mono ?_
   rintro e3 w3 ⟨l, al, cl, rfl, hlN, hRL, hIl, hx3⟩
   have hsz3 := hx3.size
   have hsz2 := hx.out.size
   have hxa : Ext No w3 (w3.alloc (.cells #[.slice al l.length cl] 22)) := (Ext.refl _ _).alloc _
   have hO3 := Lib.hid ((hR.out.extNo hx3).extNo hxa)
   have hOW := Lib.hid (show (w3.alloc (.cells #[.slice al l.length cl] 22)).ownsRow V.heap.size 22 1 (.slice aR k cR) k (Ld.flatMap kD.cells) from by have h := hO3.out.own; rw [HLK.out] at h; exact h)
   have hI3 := Lib.hid (Row.extNo hIl.out hxa)
   go_wp2_with (at_builtin; (refine wpList_app _ rfl (.tmp 19) (.tmp 23) 25 rfl V.heap.size 22 j0 _ 1 24 Try.underlying25 hj0 hy0 hy1 hy2 rfl (by omega) (.slice aR k cR) k (Ld.flatMap kD.cells) rfl hOW.out No (some ⟨w3.heap.size, 0, none⟩) 1 1 [.slice al l.length cl] rfl (Row.block (alloc_top rfl) rfl no_no (by omega)) (by simp [Value.oneCell']) (by omega) (by omega) (by simp; omega) ?_); (intro v9 w9 hown1 hg9 hv9); (have hP9 := Lib.hid (lown_push hO3.out (by exact hI3.out) (by rw [HLK.out]; exact hown1) hg9 hv9)); (have hx9 := Lib.hid ((Ext.refl (fun b => (Value.slice aR k cR).ownBlock = some b) (w3.alloc (.cells #[.slice al l.length cl] 22))).grown hg9 (fun b hb _ => hb))); (clear hown1 hg9 hv9))
   go_roundw
   case rel => exact ⟨k + 1, _, HKK.out, by omega, by rw [List.length_append, HLK.out]; rfl, hP9, Lib.hid (hD.out.snoc (by rw [HLK.out]; exact hRL.out)), Lib.hid (((hx.out.transNo hx3).transNo hxa).trans2 hx9.out (fun i hi e => by have := (hR.out.lt i e).1; omega))⟩
   case measure => simp [intOf]; omega
  ·have hge : ¬ (k : Int) < (S.deps.length : Int) := by omega
   obtain rfl : k = S.deps.length := by omega
   have HLA := Lib.hid (hR.out.list2 (M := No) (fun _ _ x => x) (fun _ x => x.elim))
   have HAR := Lib.hid (hx.out.blk HAV.out no_no)
   have hsz := hx.out.size
   go_wp2_with fail
   clear cA
   go_loopw [6, 7, 8] (fun v i _ wx => ∃ (n : Nat) (gl : List Nat), i = .int .i64 n ∧ n ≤ S.deps.length ∧ gl.length = n ∧ Hid (∀ j (h : j < gl.length), Comp (depD S) j (gl[j] : Int)) ∧ Hid (wx.ownsRow wr.heap.size 3 1 v n ((natsZ gl).map (.int .i64))) ∧ Hid (Ext No wr wx)) (fun _ i _ _ => S.deps.length - (intOf i).toNat)
   case atStart => exact ⟨0, [], rfl, Nat.zero_le _, rfl, Lib.hid (fun j hj => absurd hj (Nat.not_lt_zero _)), Lib.hid (World.ownsRow_nil _ _ _ _), Lib.hid (Ext.refl _ _)⟩
   case round =>
    obtain ⟨n, gl, rfl, hn, hgl, hG, hown, hx2⟩ := hrel
    rename World => wx
    obtain ⟨aS, cs, hs6⟩ := (Row.ofOwns (M := No) hown.out (fun _ _ x => x)).slice
    subst hs6
    have HGL := Lib.hid hgl
    clear hgl
    have cA := cellOf (hx2.out.blk HAR.out no_no)
    by_cases hlt2 : n < S.deps.length
    ·have hlz : (n : Int) < (S.deps.length : Int) := by omega
     have hn0 : (0 : Int) ≤ (n : Int) := by omega
     have HNN : Hid (Value.int .i64 ((n : Int) + 1) = .int .i64 ((n + 1 : Nat) : Int)) := Lib.hid (by rw [show ((n + 1 : Nat) : Int) = (n : Int) + 1 from by omega])
     obtain ⟨br, or, kr, an, cn, ln, hve, gn, hin, hrn⟩ := reach_at (HLA.out.extNo hx2.out) hD.out (j := n) (by rw [HLK.out]; exact hlt2)
     rw [HLK.out] at hve
     simp only [Value.slice.injEq] at hve
     obtain ⟨rfl, -, rfl⟩ := hve
     have HGN := Lib.hid gn
     have HRN := Lib.hid hrn
     clear gn hrn
     go_wp2_with fail
     clear cA
     go_loopw [8] (fun i wy => ∃ c : Nat, i = .int .i64 c ∧ c ≤ n ∧ Hid (∀ y, y < c → ¬ (Rch (depD S) n y ∧ Rch (depD S) y n)) ∧ Hid (Ext No wx wy)) (fun i _ => n - (intOf i).toNat)
     case atStart => exact ⟨0, rfl, Nat.zero_le _, Lib.hid (fun y hy => absurd hy (Nat.not_lt_zero _)), Lib.hid (Ext.refl _ _)⟩
     case round =>
      obtain ⟨c, rfl, hcn, hno, hx3⟩ := hrel
      rename World => wy
      have hcz : (c : Int) < (S.deps.length : Int) := by omega
      have hc0 : (0 : Int) ≤ (c : Int) := by omega
      have gn := hx3.out.keep HGN.out
      have HCC : Hid (Value.int .i64 ((c : Int) + 1) = .int .i64 ((c + 1 : Nat) : Int)) := Lib.hid (by rw [show ((c + 1 : Nat) : Int) = (c : Int) + 1 from by omega])
      go_wp2_with fail
      clear gn
      refine (rhasI_any _ ln c wy (Row.extNo hin.out hx3.out)).mono ?_
      rintro e4 w4 ⟨rfl, hx4⟩
      by_cases hm1 : c ∈ ln
      ·rw [decide_eq_true hm1]
       have HC1 := Lib.hid ((HRN.out c).1 hm1)
       clear hm1
       obtain ⟨br2, or2, kr2, ac, cc, lc, hve, gc, hic, hrc⟩ := reach_at (HLA.out.extNo (hx2.out.transNo (hx3.out.transNo hx4))) hD.out (j := c) (by rw [HLK.out]; omega)
       rw [HLK.out] at hve
       simp only [Value.slice.injEq, Option.some.injEq, Addr.mk.injEq] at hve
       obtain ⟨⟨rfl, rfl, -⟩, -, -⟩ := hve
       have HRC := Lib.hid hrc
       clear hrc
       go_wp2_with fail
       clear gc
       refine (rhasI_any _ lc n w4 hic.out).mono ?_
       rintro e5 w5 ⟨rfl, hx5⟩
       have HX5 := Lib.hid (hx3.out.transNo (hx4.transNo hx5))
       by_cases hm2 : n ∈ lc
       ·rw [decide_eq_true hm2]
        have HC2 := Lib.hid ((HRC.out n).1 hm2)
        clear hm2
        have HOW := Lib.hid (row_keep hown.out HX5.out (fun _ _ x => x))
        have hsz5 := HX5.out.size
        have hszx := hx2.out.size
        go_wp2_with (at_builtin; (refine wpList_app _ rfl (.tmp 50) (.tmp 52) 22 rfl wr.heap.size 3 i0 _ 1 8 Try.underlying22 hi0 hz0 hz1 hz2 rfl (by omega) (.slice aS n cs) n ((natsZ gl).map (.int .i64)) rfl (row_keep HOW.out ((Ext.refl No _).alloc _) (fun _ _ x => x)) No (some ⟨w5.heap.size, 0, none⟩) 1 1 [.int .i64 (c : Int)] rfl (Row.block (alloc_top rfl) rfl no_no (by omega)) (by simp [Value.oneCell']) (by omega) (by omega) (by simp; omega) ?_); (intro v9 w9 hown1 hg9 hv9); (have hx9 := Lib.hid (((Ext.refl (fun b => (Value.slice aS n cs).ownBlock = some b) w5).alloc _).grown hg9 (fun b hb _ => hb))); (have ho9 := Lib.hid hown1); (clear hown1 hg9 hv9))
        go_roundw
        case rel => exact ⟨n + 1, gl ++ [c], HNN.out, by omega, by rw [List.length_append, HGL.out]; rfl, Lib.hid (fun j hj => by
         rcases Nat.lt_or_ge j gl.length with h2 | h2
         ·rw [List.getElem_append_left h2]; exact hG.out j h2
         ·obtain rfl : j = gl.length := by simp only [List.length_append, List.length_singleton] at hj; omega
          rw [show ((gl ++ [c])[gl.length] : Nat) = c from by simp, HGL.out]
          exact comp_of HC1.out HC2.out hno.out), Lib.hid (by
         have h := ho9.out
         rw [show natsZ (gl ++ [c]) = natsZ gl ++ natsZ [c] from by simp [natsZ], List.map_append]
         exact h), Lib.hid ((hx2.out.transNo HX5.out).trans2 hx9.out (fun i hi e => by have := (World.ownsRow.lt HOW.out i e).1; omega))⟩
        case measure => simp [intOf]; omega
       ·rw [decide_eq_false hm2]
        have hcn2 : c ≠ n := fun e => hm2 (by subst e; exact (HRC.out c).2 (.refl c))
        have HC2 := Lib.hid (fun r => hm2 ((HRC.out n).2 r))
        clear hm2
        go_wp2_with fail
        go_roundw
        case rel => exact ⟨c + 1, HCC.out, by omega, Lib.hid (fun y hy => by
         rcases Nat.lt_or_ge y c with h2 | h2
         ·exact hno.out y h2
         ·obtain rfl : y = c := by omega
          exact fun h => HC2.out h.2), HX5⟩
        case measure => simp [intOf]; omega
      ·rw [decide_eq_false hm1]
       have hcn2 : c ≠ n := fun e => hm1 (by subst e; exact (HRN.out c).2 (.refl c))
       have HC2 := Lib.hid (fun r => hm1 ((HRN.out c).2 r))
       clear hm1
       go_wp2_with fail
       go_roundw
       case rel => exact ⟨c + 1, HCC.out, by omega, Lib.hid (fun y hy => by
        rcases Nat.lt_or_ge y c with h2 | h2
        ·exact hno.out y h2
        ·obtain rfl : y = c := by omega
         exact fun h => HC2.out h.1), Lib.hid (hx3.out.transNo hx4)⟩
       case measure => simp [intOf]; omega
    ·have hge2 : ¬ (n : Int) < (S.deps.length : Int) := by omega
     obtain rfl : n = S.deps.length := by omega
     go_wp2_with fail
     refine ret_ex rfl ?_
     simp [results, Try.results75, go_sem]
     exact ⟨gl, aS, cs, HGL.out, Lib.hid (fun x hx9 => by
      have h1 : x < gl.length := by rw [HGL.out]; exact hx9
      rw [rowD_get h1]
      exact hG.out x h1), rfl, Lib.hid (by
      have h := Row.ofOwns (M := M) hown.out (fun b hb e => by have := HM.out b e; omega)
      unfold Ints
      rw [nats_len, HGL.out]
      exact h), (HXV.out.transNo hx.out).transNo hx2.out⟩
end Go.Proofs.Ytkdjdhflhlbelaa


import Derived.Test.YtmddchceacmopaaGreatDoorE51
set_option linter.unusedVariables false
set_option linter.unusedSimpArgs false
namespace Go.Proofs.YtmddchceacmopaaGreatDoor
open Go Go.RowKit
theorem LJ {x:Int} {LB:LS} {Li:fe} {ks:List Int} {E:Int} {Q:bD} (h:xD x LB Li ks E Q):Q.bnd.length≤1048576:=by
 rcases h with ⟨-,-,rfl⟩|⟨S,-,h8,⟨-,-,rfl⟩|⟨-,-,rfl⟩⟩
 ·exact Nat.zero_le _
 ·exact Nat.zero_le _
 have h1:=(ny h8 (keep:=fun t:Nat=>decide ((t:Int)∈ks)) S.ins.length (Nat.le_refl _)).1.ok
 have:=h1.lb
 have:=h1.n2
 omega
set_option maxRecDepth 100000 in
set_option maxHeartbeats 8000000 in
theorem kR (x:Int) (vb vi sl:Value) (LB:LS) (Li:fe) (n:Int) (ks:List Int) (W:World) (h:YW No W vb vi LB Li) (hre:mD Li) (hs:uX x LB Li) (hT:iQ W) (hk:Ints No W .i64 sl ks):
  Calls Tryz.prog 8 #[.agg #[.int .i64 x,vb,vi],.int .i64 n,sl] W (bZ true W):=by
 obtain ⟨E1,Q1,h1⟩:=Ea dN n hs h
 obtain ⟨E2,Q2,h2⟩:=Ea jK n hs h
 obtain ⟨E3,Q3,h3⟩:=Eb ks hs h
 obtain ⟨E4,Q4,h4⟩:=Eb [] hs h
 have HA1:=aa h1
 have HA2:=aa h2
 have HA3:=aa h3
 have KV:=aa h4
 have H:=aa h
 have HT:=aa hT
 have IK:=aa hre
 have Zu:=aa hk
 obtain ⟨ab,cb,rfl⟩:=h.b.slice
 obtain ⟨ai,ci,rfl⟩:=h.i.slice
 obtain ⟨ak,ck,rfl⟩:=Ints.slice hk
 clear h hT hre hk hs h1 h2 h3 h4
 go_enter Tryz.func8,Tryz.ntmps8
 go_upto_region 1 with (fail)
 have HX:=aa (show Ext No W (W.alloc (.cells #[.int .i64 x,.slice ab LB.length cb,.slice ai Li.length ci] 26)) from (Ext.refl _ _).alloc _)
 have HA:=aa (ah (w:=W) (o:= .cells #[.int .i64 x,.slice ab LB.length cb,.slice ai Li.length ci] 26) rfl)
 generalize World.alloc W _=V at*
 generalize hqa:W.heap.size=qa at HA ⊢
 clear hqa
 have cA:=cellOf HA.out
 go_wp2_with fail
 clear cA
 refine (Ii x _ _ LB Li n E1 Q1 _ (H.aj HX) IK (HT.ext HX) HA1).mono ?_
 rintro e1 w1 ⟨vb1,Tx,rfl,HW1,hx1⟩
 obtain ⟨NQ,NR,hvb⟩:=HW1.bnd.slice
 subst hvb
 obtain ⟨IL,hL,-,-⟩:=HW1.ex
 obtain ⟨NS,NT,zU⟩:=hL.slice
 subst zU
 clear hL
 go_upto_region 2 with (fail)
 have hx:Ext No V (w1.alloc (.cells #[.int .i64 (Q1.w:Int),.slice NQ Q1.bnd.length NR,.slice NS IL.length NT] 26)):=hx1.alloc _
 have hx2:Ext No w1 (w1.alloc (.cells #[.int .i64 (Q1.w:Int),.slice NQ Q1.bnd.length NR,.slice NS IL.length NT] 26)):=(Ext.refl _ _).alloc _
 have HB1:=aa (ah (w:=w1) (o:=(.cells #[.int .i64 (Q1.w:Int),.slice NQ Q1.bnd.length NR,.slice NS IL.length NT] 26)) rfl)
 replace HA:=aa (hx.blk HA ax)
 replace HX:=aa (HX.af hx)
 replace HW1:=aa (HW1.aj hx2)
 clear hx hx2 hx1
 generalize World.alloc w1 _=VN at*
 generalize w1.heap.size=q1 at*
 clear V
 rename World=>V
 have cA:=cellOf HA.out
 go_wp2_with fail
 clear cA
 refine (Ij x _ _ LB Li n E1 Q1 _ (H.aj HX) HA1).mono ?_
 rintro e1 w1 ⟨vb2,vi2,rfl,HW2,hx1⟩
 obtain ⟨Zo,Zp,hvb⟩:=HW2.bnd.slice
 subst hvb
 obtain ⟨VB,hL,-,-⟩:=HW2.ex
 obtain ⟨Zr,Zt,zU⟩:=hL.slice
 subst zU
 clear hL
 go_upto_region 3 with (fail)
 have hx:Ext No V (w1.alloc (.cells #[.int .i64 (Q1.w:Int),.slice Zo Q1.bnd.length Zp,.slice Zr VB.length Zt] 26)):=hx1.alloc _
 have hx2:Ext No w1 (w1.alloc (.cells #[.int .i64 (Q1.w:Int),.slice Zo Q1.bnd.length Zp,.slice Zr VB.length Zt] 26)):=(Ext.refl _ _).alloc _
 have HB2:=aa (ah (w:=w1) (o:=(.cells #[.int .i64 (Q1.w:Int),.slice Zo Q1.bnd.length Zp,.slice Zr VB.length Zt] 26)) rfl)
 replace HA:=aa (hx.blk HA ax)
 replace HX:=aa (HX.af hx)
 replace HW2:=aa (HW2.aj hx2)
 replace HB1:=aa (hx.blk HB1 ax)
 replace HW1:=aa (HW1.aj hx)
 clear hx hx2 hx1
 generalize World.alloc w1 _=VN at*
 generalize w1.heap.size=q2 at*
 clear V
 rename World=>V
 have cA:=cellOf HA.out
 go_wp2_with fail
 clear cA
 refine (BQ x _ _ LB Li n E2 Q2 _ (H.aj HX) IK (HT.ext HX) HA2).mono ?_
 rintro e1 w1 ⟨vb3,vi3,rfl,HW3,hx1⟩
 obtain ⟨ab3,cb3,hvb⟩:=HW3.bnd.slice
 subst hvb
 obtain ⟨Li3,hL,-,-⟩:=HW3.ex
 obtain ⟨ai3,ci3,zU⟩:=hL.slice
 subst zU
 clear hL
 go_upto_region 4 with (fail)
 have hx:Ext No V (w1.alloc (.cells #[.int .i64 (Q2.w:Int),.slice ab3 Q2.bnd.length cb3,.slice ai3 Li3.length ci3] 26)):=hx1.alloc _
 have hx2:Ext No w1 (w1.alloc (.cells #[.int .i64 (Q2.w:Int),.slice ab3 Q2.bnd.length cb3,.slice ai3 Li3.length ci3] 26)):=(Ext.refl _ _).alloc _
 have HB3:=aa (ah (w:=w1) (o:=(.cells #[.int .i64 (Q2.w:Int),.slice ab3 Q2.bnd.length cb3,.slice ai3 Li3.length ci3] 26)) rfl)
 replace HA:=aa (hx.blk HA ax)
 replace HX:=aa (HX.af hx)
 replace HW3:=aa (HW3.aj hx2)
 replace HB1:=aa (hx.blk HB1 ax)
 replace HW1:=aa (HW1.aj hx)
 replace HB2:=aa (hx.blk HB2 ax)
 replace HW2:=aa (HW2.aj hx)
 clear hx hx2 hx1
 generalize World.alloc w1 _=VN at*
 generalize w1.heap.size=q3 at*
 clear V
 rename World=>V
 have cA:=cellOf HA.out
 go_wp2_with fail
 clear cA
 refine (BS x _ _ LB Li n E2 Q2 _ (H.aj HX) HA2).mono ?_
 rintro e1 w1 ⟨vb4,vi4,rfl,CG,hx1⟩
 obtain ⟨ab4,cb4,hvb⟩:=CG.bnd.slice
 subst hvb
 obtain ⟨Li4,hL,-,-⟩:=CG.ex
 obtain ⟨ai4,ci4,zU⟩:=hL.slice
 subst zU
 clear hL
 go_upto_region 5 with (fail)
 have hx:Ext No V (w1.alloc (.cells #[.int .i64 (Q2.w:Int),.slice ab4 Q2.bnd.length cb4,.slice ai4 Li4.length ci4] 26)):=hx1.alloc _
 have hx2:Ext No w1 (w1.alloc (.cells #[.int .i64 (Q2.w:Int),.slice ab4 Q2.bnd.length cb4,.slice ai4 Li4.length ci4] 26)):=(Ext.refl _ _).alloc _
 have qG:=aa (ah (w:=w1) (o:=(.cells #[.int .i64 (Q2.w:Int),.slice ab4 Q2.bnd.length cb4,.slice ai4 Li4.length ci4] 26)) rfl)
 replace HA:=aa (hx.blk HA ax)
 replace HX:=aa (HX.af hx)
 replace CG:=aa (CG.aj hx2)
 replace HB1:=aa (hx.blk HB1 ax)
 replace HW1:=aa (HW1.aj hx)
 replace HB2:=aa (hx.blk HB2 ax)
 replace HW2:=aa (HW2.aj hx)
 replace HB3:=aa (hx.blk HB3 ax)
 replace HW3:=aa (HW3.aj hx)
 clear hx hx2 hx1
 generalize World.alloc w1 _=VN at*
 generalize w1.heap.size=q4 at*
 clear V
 rename World=>V
 have cA:=cellOf HA.out
 go_wp2_with fail
 clear cA
 refine (zm x _ _ _ LB Li ks E3 Q3 _ (H.aj HX) IK (HT.ext HX) (Row.aj Zu HX) HA3).mono ?_
 rintro e1 w1 ⟨vb5,vi5,rfl,IM,hx1⟩
 obtain ⟨ab5,cb5,hvb⟩:=IM.bnd.slice
 subst hvb
 obtain ⟨Li5,hL,-,-⟩:=IM.ex
 obtain ⟨ai5,ci5,zU⟩:=hL.slice
 subst zU
 clear hL
 go_upto_region 6 with (fail)
 have hx:Ext No V (w1.alloc (.cells #[.int .i64 (Q3.w:Int),.slice ab5 Q3.bnd.length cb5,.slice ai5 Li5.length ci5] 26)):=hx1.alloc _
 have hx2:Ext No w1 (w1.alloc (.cells #[.int .i64 (Q3.w:Int),.slice ab5 Q3.bnd.length cb5,.slice ai5 Li5.length ci5] 26)):=(Ext.refl _ _).alloc _
 have uo:=aa (ah (w:=w1) (o:=(.cells #[.int .i64 (Q3.w:Int),.slice ab5 Q3.bnd.length cb5,.slice ai5 Li5.length ci5] 26)) rfl)
 replace HA:=aa (hx.blk HA ax)
 replace HX:=aa (HX.af hx)
 replace IM:=aa (IM.aj hx2)
 replace HB1:=aa (hx.blk HB1 ax)
 replace HW1:=aa (HW1.aj hx)
 replace HB2:=aa (hx.blk HB2 ax)
 replace HW2:=aa (HW2.aj hx)
 replace HB3:=aa (hx.blk HB3 ax)
 replace HW3:=aa (HW3.aj hx)
 replace qG:=aa (hx.blk qG ax)
 replace CG:=aa (CG.aj hx)
 clear hx hx2 hx1
 generalize World.alloc w1 _=VN at*
 generalize w1.heap.size=q5 at*
 clear V
 rename World=>V
 have cA:=cellOf HA.out
 go_wp2_with fail
 clear cA
 refine (zo x _ _ _ LB Li ks E3 Q3 _ (H.aj HX) (Row.aj Zu HX) HA3).mono ?_
 rintro e1 w1 ⟨vb6,vi6,rfl,Kw,hx1⟩
 obtain ⟨ab6,cb6,hvb⟩:=Kw.bnd.slice
 subst hvb
 obtain ⟨Li6,hL,-,-⟩:=Kw.ex
 obtain ⟨ai6,ci6,zU⟩:=hL.slice
 subst zU
 clear hL
 go_upto_region 7 with (fail)
 have hx:Ext No V (w1.alloc (.cells #[.int .i64 (Q3.w:Int),.slice ab6 Q3.bnd.length cb6,.slice ai6 Li6.length ci6] 26)):=hx1.alloc _
 have hx2:Ext No w1 (w1.alloc (.cells #[.int .i64 (Q3.w:Int),.slice ab6 Q3.bnd.length cb6,.slice ai6 Li6.length ci6] 26)):=(Ext.refl _ _).alloc _
 have KW:=aa (ah (w:=w1) (o:=(.cells #[.int .i64 (Q3.w:Int),.slice ab6 Q3.bnd.length cb6,.slice ai6 Li6.length ci6] 26)) rfl)
 replace HA:=aa (hx.blk HA ax)
 replace HX:=aa (HX.af hx)
 replace Kw:=aa (Kw.aj hx2)
 replace HB1:=aa (hx.blk HB1 ax)
 replace HW1:=aa (HW1.aj hx)
 replace HB2:=aa (hx.blk HB2 ax)
 replace HW2:=aa (HW2.aj hx)
 replace HB3:=aa (hx.blk HB3 ax)
 replace HW3:=aa (HW3.aj hx)
 replace qG:=aa (hx.blk qG ax)
 replace CG:=aa (CG.aj hx)
 replace uo:=aa (hx.blk uo ax)
 replace IM:=aa (IM.aj hx)
 clear hx hx2 hx1
 generalize World.alloc w1 _=VN at*
 generalize w1.heap.size=q6 at*
 clear V
 rename World=>V
 have cA:=cellOf HA.out
 go_wp2_with fail
 clear cA
 refine (Ls x _ _ LB Li E4 Q4 _ (H.aj HX) IK (HT.ext HX) KV).mono ?_
 rintro e1 w1 ⟨sl7,rfl,NP,hx1⟩
 obtain ⟨ab7,cb7,hvb⟩:=NP.slice
 subst hvb
 replace HA:=aa (hx1.blk HA ax)
 replace HX:=aa (HX.af hx1)
 replace HB1:=aa (hx1.blk HB1 ax)
 replace HW1:=aa (HW1.aj hx1)
 replace HB2:=aa (hx1.blk HB2 ax)
 replace HW2:=aa (HW2.aj hx1)
 replace HB3:=aa (hx1.blk HB3 ax)
 replace HW3:=aa (HW3.aj hx1)
 replace qG:=aa (hx1.blk qG ax)
 replace CG:=aa (CG.aj hx1)
 replace uo:=aa (hx1.blk uo ax)
 replace IM:=aa (IM.aj hx1)
 replace KW:=aa (hx1.blk KW ax)
 replace Kw:=aa (Kw.aj hx1)
 clear hx1
 go_upto_region 8 with (fail)
 clear V
 rename World=>V
 have cA:=cellOf HA.out
 go_wp2_with fail
 clear cA
 refine (LH x _ _ LB Li E4 Q4 _ (H.aj HX) KV).mono ?_
 rintro e1 w1 ⟨sl8,rfl,Ch,hx1⟩
 obtain ⟨ab8,cb8,hvb⟩:=Ch.slice
 subst hvb
 replace HA:=aa (hx1.blk HA ax)
 replace HX:=aa (HX.af hx1)
 replace HB1:=aa (hx1.blk HB1 ax)
 replace HW1:=aa (HW1.aj hx1)
 replace HB2:=aa (hx1.blk HB2 ax)
 replace HW2:=aa (HW2.aj hx1)
 replace HB3:=aa (hx1.blk HB3 ax)
 replace HW3:=aa (HW3.aj hx1)
 replace qG:=aa (hx1.blk qG ax)
 replace CG:=aa (CG.aj hx1)
 replace uo:=aa (hx1.blk uo ax)
 replace IM:=aa (IM.aj hx1)
 replace KW:=aa (hx1.blk KW ax)
 replace Kw:=aa (Kw.aj hx1)
 replace NP:=aa (NP.aj hx1)
 clear hx1
 go_upto_region 9 with (fail)
 clear V
 rename World=>V
 clear HA
 have e1:((E1:Int)==E1)=true:=by simp
 have e2:((E2:Int)==E2)=true:=by simp
 have e3:((E3:Int)==E3)=true:=by simp
 have e4:((E4:Int)==E4)=true:=by simp
 have cA:=cellOf HB1.out
 have cB:=cellOf HB2.out
 go_wp2_with fail
 clear cA cB
 refine (adR Q1 _ _ _ _ _ HW1 HW2).mono ?_
 rintro e1 w1 ⟨rfl,hx1⟩
 replace HX:=aa (HX.af hx1)
 replace HB1:=aa (hx1.blk HB1 ax)
 replace HW1:=aa (HW1.aj hx1)
 replace HB2:=aa (hx1.blk HB2 ax)
 replace HW2:=aa (HW2.aj hx1)
 replace HB3:=aa (hx1.blk HB3 ax)
 replace HW3:=aa (HW3.aj hx1)
 replace qG:=aa (hx1.blk qG ax)
 replace CG:=aa (CG.aj hx1)
 replace uo:=aa (hx1.blk uo ax)
 replace IM:=aa (IM.aj hx1)
 replace KW:=aa (hx1.blk KW ax)
 replace Kw:=aa (Kw.aj hx1)
 replace NP:=aa (NP.aj hx1)
 replace Ch:=aa (Ch.aj hx1)
 clear hx1 V
 rename World=>V
 have cA:=cellOf HB3.out
 have cB:=cellOf qG.out
 go_wp2_with fail
 clear cA cB
 refine (adR Q2 _ _ _ _ _ HW3 CG).mono ?_
 rintro e1 w1 ⟨rfl,hx1⟩
 replace HX:=aa (HX.af hx1)
 replace HB1:=aa (hx1.blk HB1 ax)
 replace HW1:=aa (HW1.aj hx1)
 replace HB2:=aa (hx1.blk HB2 ax)
 replace HW2:=aa (HW2.aj hx1)
 replace HB3:=aa (hx1.blk HB3 ax)
 replace HW3:=aa (HW3.aj hx1)
 replace qG:=aa (hx1.blk qG ax)
 replace CG:=aa (CG.aj hx1)
 replace uo:=aa (hx1.blk uo ax)
 replace IM:=aa (IM.aj hx1)
 replace KW:=aa (hx1.blk KW ax)
 replace Kw:=aa (Kw.aj hx1)
 replace NP:=aa (NP.aj hx1)
 replace Ch:=aa (Ch.aj hx1)
 clear hx1 V
 rename World=>V
 have cA:=cellOf uo.out
 have cB:=cellOf KW.out
 go_wp2_with fail
 clear cA cB
 refine (adR Q3 _ _ _ _ _ IM Kw).mono ?_
 rintro e1 w1 ⟨rfl,hx1⟩
 replace HX:=aa (HX.af hx1)
 replace HB1:=aa (hx1.blk HB1 ax)
 replace HW1:=aa (HW1.aj hx1)
 replace HB2:=aa (hx1.blk HB2 ax)
 replace HW2:=aa (HW2.aj hx1)
 replace HB3:=aa (hx1.blk HB3 ax)
 replace HW3:=aa (HW3.aj hx1)
 replace qG:=aa (hx1.blk qG ax)
 replace CG:=aa (CG.aj hx1)
 replace uo:=aa (hx1.blk uo ax)
 replace IM:=aa (IM.aj hx1)
 replace KW:=aa (hx1.blk KW ax)
 replace Kw:=aa (Kw.aj hx1)
 replace NP:=aa (NP.aj hx1)
 replace Ch:=aa (Ch.aj hx1)
 clear hx1 V
 rename World=>V
 have cA:=cellOf HB1.out
 have cB:=cellOf HB2.out
 go_wp2_with fail
 refine (uR Q4.w Q4.bnd Q4.bnd _ _ _ NP Ch (LJ KV)).mono ?_
 rintro e1 w1 ⟨rfl,hx1⟩
 rw [show decide (Q4.bnd=Q4.bnd)=true from decide_eq_true rfl]
 go_wp2_with fail
 go_ret
 exact ⟨rfl,HX.af hx1⟩


import Derived.Test.YtmddchceacmopaaGreatDoorE49
set_option linter.unusedVariables false
set_option linter.unusedSimpArgs false
namespace Go.Proofs.YtmddchceacmopaaGreatDoor
open Go Go.RowKit
theorem EF {p:Prop} (h:p:=by intro w hSw;(have fG:Ext No wq _:=hSw);(have q0:=cellOf (fG.blk KT ax));go_simp;(try with_reducible rfl)):p:=h
theorem EG {p:Prop} (h:p:=by intro w hSw;(have fG:Ext No wq _:=hSw);(have q0:=fG.keep Yz);go_simp;(try with_reducible rfl)):p:=h
theorem EH {p:Prop} (h:p:=by intro w hSw;(have fG:Ext No wq _:=hSw);(have q0:=cellOf (fG.blk TC ax));go_simp;(try with_reducible rfl)):p:=h
theorem EI {p:Prop} (h:p:=by intro w hSw;(have fG:Ext No wq _:=hSw);(have q0:=fG.keep Ti);go_simp;(try with_reducible rfl)):p:=h
theorem EJ {p:Prop} (h:p:=by
 have h3:=xe x vb vi LB Li n W h (by rw [h2];decide)
 rw [h2] at h3
 exact h3.mono (fun _ _ h=>lV h)):p:=h
theorem EL {p:Prop} (h:p:=by
 have h3:=BR x vb vi LB Li n W h (by rw [h2];decide)
 rw [h2] at h3
 exact h3.mono (fun _ _ h=>lV h)):p:=h
theorem Hg.ans {N:Nat} {Q:bD} {W w':World} {e:Ending} (h:Hg N Q W e w'):GR 0 Q W e w':=by
 obtain ⟨gB,cB,gI,cI,lim,LB,RL,rfl,hq,hM⟩:=h
 exact ⟨_,_,rfl,je.c (hM.at.mono (fun _ _ e=>e.elim)),hq.ext⟩
theorem CW.vw {S:bD} {x:Int} {LB:LS} {Li:fe} (h:CW S x LB Li) (h8:eY S):VW x LB Li:=by
 have h1:=V3 h8 h.bnd h.len h.rows
 rw [←h.w] at h1
 exact h1
theorem Ij (x:Int) (vb vi:Value) (LB:LS) (Li:fe) (n E:Int) (Q:bD) (W:World) (h:YW No W vb vi LB Li) (ha:Ap dN x LB Li n E Q):
  Calls Tryz.prog 24 #[.agg #[.int .i64 x,vb,vi],.int .i64 n] W (GR E Q W):=by
 rcases ha with ⟨h1,rfl,rfl⟩|⟨S,hS,h8,⟨h1,rfl,rfl⟩|⟨k,rfl,hk,rfl,rfl⟩⟩
 ·have h2:iP x LB Li n=1:=by unfold iP;rw [if_neg h1]
  exact EJ
 ·have h2:iP x LB Li n=9:=by unfold iP;rw [if_pos (hS.vw h8),if_neg (by rw [hS.len];exact h1)]
  exact EJ
 have hv:=hS.vw h8
 have hw:=hS.w
 subst hw
 exact (zn S k _ vb vi LB Li W hS h8 hv h rfl hk).mono (fun _ _ h=>h.ans)
theorem BS (x:Int) (vb vi:Value) (LB:LS) (Li:fe) (n E:Int) (Q:bD) (W:World) (h:YW No W vb vi LB Li) (ha:Ap jK x LB Li n E Q):
  Calls Tryz.prog 26 #[.agg #[.int .i64 x,vb,vi],.int .i64 n] W (GR E Q W):=by
 rcases ha with ⟨h1,rfl,rfl⟩|⟨S,hS,h8,⟨h1,rfl,rfl⟩|⟨k,rfl,hk,rfl,rfl⟩⟩
 ·have h2:iP x LB Li n=1:=by unfold iP;rw [if_neg h1]
  exact EL
 ·have h2:iP x LB Li n=9:=by unfold iP;rw [if_pos (hS.vw h8),if_neg (by rw [hS.len];exact h1)]
  exact EL
 have hv:=hS.vw h8
 have hw:=hS.w
 subst hw
 exact (uQ S k _ vb vi LB Li W hS h8 hv h rfl hk).mono (fun _ _ h=>h.ans)
theorem zo (x:Int) (vb vi sl:Value) (LB:LS) (Li:fe) (ks:List Int) (E:Int) (Q:bD) (W:World) (h:YW No W vb vi LB Li) (hk:Ints No W .i64 sl ks) (ha:xD x LB Li ks E Q):
  Calls Tryz.prog 27 #[.agg #[.int .i64 x,vb,vi],sl] W (GR E Q W):=by
 rcases ha with ⟨h1,rfl,rfl⟩|⟨S,hS,h8,⟨h1,rfl,rfl⟩|⟨h1,rfl,rfl⟩⟩
 ·exact (JW x vb vi sl LB Li ks W h hk h1).mono (fun _ _ h=>lV h)
 ·exact (JX x vb vi sl LB Li ks W (hS.vw h8) h hk (by rw [hS.len];exact h1)).mono (fun _ _ h=>lV h)
 have hv:=hS.vw h8
 have hw:=hS.w
 subst hw
 exact (LG S _ vb vi sl LB Li ks W hS h8 hv h rfl hk (by rw [hS.len];exact h1)).mono (fun _ _ h=>h.ans)
set_option maxRecDepth 100000 in
set_option maxHeartbeats 4000000 in
theorem LH (x:Int) (vb vi:Value) (LB:LS) (Li:fe) (E:Int) (Q:bD) (W:World) (h:YW No W vb vi LB Li) (ha:xD x LB Li [] E Q):
  Calls Tryz.prog 28 #[.agg #[.int .i64 x,vb,vi]] W (aac E Q W):=by
 have H:=aa h
 have HAN:=aa ha
 obtain ⟨ab,cb,rfl⟩:=h.b.slice
 obtain ⟨ai,ci,rfl⟩:=h.i.slice
 clear h ha
 go_enter Tryz.func28,Tryz.ntmps28
 go_upto_region 1 with (fail)
 have hx0:Ext No W (W.alloc (.cells #[.int .i64 x,.slice ab LB.length cb,.slice ai Li.length ci] 26)):=(Ext.refl _ _).alloc _
 have cA:=cellOf (ah (w:=W) (o:= .cells #[.int .i64 x,.slice ab LB.length cb,.slice ai Li.length ci] 26) rfl)
 go_wp2_with fail
 refine (zo x _ _ _ LB Li [] E Q _ (H.aj hx0) (Row.nil _ _ _ _ _ (by omega)) HAN).mono ?_
 rintro e1 w1 ⟨vb1,Tx,rfl,hW,hx1⟩
 obtain ⟨NQ,NR,hvb⟩:=hW.bnd.slice
 subst hvb
 obtain ⟨IL,hL1,-,-⟩:=hW.ex
 obtain ⟨NS,NT,zU⟩:=hL1.slice
 subst zU
 have HX:=aa (hx0.af hx1)
 have HWB:=aa hW.bnd
 have acd:=HAN
 clear hx0 hx1 hL1 cA hW
 by_cases hE:E=0
 ·subst hE
  go_wp2_with fail
  refine aW rfl ?_
  simp [results,Tryz.results28,go_sem]
  exact ⟨_,rfl,HWB.aj ((Ext.refl _ _).alloc _),HX.alloc _⟩
 have hq:Q=zW:=by
  rcases acd.out with ⟨-,-,h⟩|⟨S,-,-,⟨-,-,h⟩|⟨-,h,-⟩⟩
  ·exact h
  ·exact h
  exact absurd h hE
 subst hq
 have hne:(E != 0)=true:=by rw [bne_iff_ne];exact hE
 clear hE
 go_wp2_with fail
 refine aW rfl ?_
 simp [results,Tryz.results28,go_sem]
 exact ⟨_,rfl,aa (VX _).bnd,HX.alloc _⟩
end Go.Proofs.YtmddchceacmopaaGreatDoor

namespace Go.Proofs.YtmddchceacmopaaGreatDoor
open Go Go.RowKit
theorem Ik (f:cK) (w:Nat) (g1 k1 c1 g2 k2 c2:Value) (W:World) (hw:f.w=w) (h1:dF No W g1 k1 c1 f) (h2:dF No W g2 k2 c2 f):
  Calls Tryz.prog 73 #[.agg #[.int .i64 (w:Int),g1,.int .i64 (w:Int),k1,c1],.agg #[.int .i64 (w:Int),g2,.int .i64 (w:Int),k2,c2]] W (bZ true W):=by
 subst hw
 have h:=JY (bM f) (bM f) g1 k1 c1 g2 k2 c2 W h1.raw h2.raw
 rw [show KU (bM f) (bM f)=true from by simp [KU,kW]] at h
 exact h
set_option maxRecDepth 100000 in
set_option maxHeartbeats 8000000 in
theorem adR (Q:bD) (vb1 Tx vb2 vi2:Value) (W:World) (h1:Vv W vb1 Tx Q) (h2:Vv W vb2 vi2 Q):
  Calls Tryz.prog 29 #[.agg #[.int .i64 (Q.w:Int),vb1,Tx],.agg #[.int .i64 (Q.w:Int),vb2,vi2]] W (bZ true W):=by
 obtain ⟨NQ,NR,rfl⟩:=h1.bnd.slice
 obtain ⟨Zo,Zp,rfl⟩:=h2.bnd.slice
 have HB1:=aa h1.bnd
 have HB2:=aa h2.bnd
 have BF:=aa h1.tr
 have hbs:=h1.small.2.1
 obtain ⟨IL,hL1,hn1,hr1⟩:=h1.ex
 obtain ⟨VB,hL2,hn2,hr2⟩:=h2.ex
 obtain ⟨N,hN⟩:∃N,N=Q.ins.length:=⟨_,rfl⟩
 obtain ⟨NB,qB⟩:∃NB,NB=Q.bnd.length:=⟨_,rfl⟩
 have aa4:=h1.small.1
 have Zq:=aa h1.small.2.2
 rw [←hN] at hn1 hn2 aa4
 rw [←qB] at HB1 HB2 hbs ⊢
 obtain ⟨NS,NT,rfl⟩:=hL1.slice
 obtain ⟨Zr,Zt,rfl⟩:=hL2.slice
 rw [hn1] at hL1 ⊢
 rw [hn2] at hL2 ⊢
 have xu:=aa hL1
 have HL2:=aa hL2
 have HN1:=aa hn1
 have HN2:=aa hn2
 have HR1:=aa hr1
 have HR2:=aa hr2
 have qF:=aa qB
 clear h1 h2 hL1 hL2 hn1 hn2 hr1 hr2 hN qB
 go_enter Tryz.func29,Tryz.ntmps29
 go_upto_region 1 with (fail)
 have hx0:Ext No W ((W.alloc (.cells #[.int .i64 (Q.w:Int),.slice NQ NB NR,.slice NS N NT] 26)).alloc (.cells #[.int .i64 (Q.w:Int),.slice Zo NB Zp,.slice Zr N Zt] 26)):=((Ext.refl _ _).alloc _).alloc _
 have HA:=aa (zK hx0)
 have HB:=aa (zM hx0)
 have HX0:=aa hx0
 clear hx0
 generalize World.alloc (World.alloc W _) _=V at*
 have cA:=cellOf HA.out
 have cB:=cellOf HB.out
 have eww:((Q.w:Int) != (Q.w:Int))=false:=by simp
 have enn:((N:Int) != (N:Int))=false:=by simp
 go_wp2_with fail
 refine (uR Q.w Q.bnd Q.bnd _ _ V (HB1.aj HX0) (HB2.aj HX0) (by have:=qF.out;omega)).mono ?_
 rintro e1 w1 ⟨rfl,hx1⟩
 rw [show decide (Q.bnd=Q.bnd)=true from decide_eq_true rfl]
 have nK:=aa hx1
 have cA:=cellOf (hx1.blk HA ax)
 have cB:=cellOf (hx1.blk HB ax)
 clear hx1
 go_wp2_with fail
 clear cA cB
 go_loopw [5,6] (fun s5 _ wr=>∃k:Nat,s5= .int .i64 k∧k≤N∧Hid (Ext No V wr)) (fun s5 _ _=>N - (intOf s5).toNat)
 case atStart=>exact ⟨0,rfl,Nat.zero_le _,nK⟩
 clear nK
 obtain ⟨k,rfl,hk,hX⟩:=hrel
 rename World=>wr
 have KT:=aa (hX.blk HA ax)
 have TC:=aa (hX.blk HB ax)
 by_cases hlt:k < N
 ·have hlz:(k:Int) < (N:Int):=by omega
  have IW:(0:Int)≤(k:Int):=by omega
  have HKK:Hid (Value.int .i64 ((k:Int)+1)= .int .i64 ((k+1:Nat):Int)):=aa (by rw [show ((k+1:Nat):Int)=(k:Int)+1 from by omega])
  have hk1:k < IL.length:=by have:=HN1.out;omega
  have hk2:k < VB.length:=by have:=HN2.out;omega
  obtain ⟨m,hm⟩:∃m,m=(aR Q k).length:=⟨_,rfl⟩
  have HM:=aa hm
  have aad:=Zq.out k
  rw [←hm] at aad
  obtain ⟨x1,y1,z1,hs1,-,-,hc1⟩:=(xu.aj (HX0.af hX)).at hk1
  rw [HN1] at hs1
  simp only [Value.slice.injEq] at hs1
  obtain ⟨rfl,-,rfl⟩:=hs1
  obtain ⟨x2,y2,z2,hs2,-,-,hc2⟩:=(HL2.aj (HX0.af hX)).at hk2
  rw [HN2] at hs2
  simp only [Value.slice.injEq] at hs2
  obtain ⟨rfl,-,rfl⟩:=hs2
  have q1:=hc1 k hk1 0 _ (by decide) rfl
  have q2:=hc2 k hk2 0 _ (by decide) rfl
  have r1:jb kA No W IL[k].2 IL[k].1:=xu.ok _ (List.getElem_mem hk1)
  have r2:jb kA No W VB[k].2 VB[k].1:=HL2.ok _ (List.getElem_mem hk2)
  have hm1:=HR1.out k hk1
  have hm2:=HR2.out k hk2
  obtain ⟨⟨L1,s1⟩,hp1⟩:∃p1,p1=IL[k]'hk1:=⟨_,rfl⟩
  obtain ⟨⟨L2,s2⟩,hp2⟩:∃p2,p2=VB[k]'hk2:=⟨_,rfl⟩
  rw [←hp1] at q1 r1 hm1
  rw [←hp2] at q2 r2 hm2
  simp only [kL,Nat.mul_one,Nat.add_zero] at q1 q2 r1 r2 hm1 hm2
  have hl1:L1.length=m:=by have h9:=congrArg List.length hm1;rw [List.length_map,dK,←hm] at h9;exact h9
  have hl2:L2.length=m:=by have h9:=congrArg List.length hm2;rw [List.length_map,dK,←hm] at h9;exact h9
  obtain ⟨u1,v1,rfl⟩:=r1.slice
  obtain ⟨u2,v2,rfl⟩:=r2.slice
  rw [hl1] at q1 r1
  rw [hl2] at q2 r2
  have Yz:=aa q1
  have Ti:=aa q2
  have HP1:=aa (r1.aj HX0)
  have YG:=aa (r2.aj HX0)
  have zT:=aa hm1
  have KP:=aa hm2
  have emn:((m:Int) != (m:Int))=false:=by simp
  clear hc1 hc2 q1 q2 r1 r2 hm1 hm2 hp1 hp2 hl1 hl2 hm hk1 hk2
  have cA:=cellOf KT.out
  go_upto_region 6 with (fail)
  clear cA
  refine uW (fun w'=>Ext No wr w') aS fun hHeld=>?_
  refine uO [0,1,2,3,4,5,6,7,8,9,10,11,12] ?_
  iterate 4 refine uT ?_ (hy:=ym)
  iterate 3 refine uT ?_ (hy:=(by intro w hSw;(have fG:Ext No wr _:=hSw);(have q0:=fG.keep Yz);go_simp;(try with_reducible rfl)))
  iterate 3 refine uT ?_ (hy:=(by intro w hSw;(have fG:Ext No wr _:=hSw);(have q0:=cellOf (fG.blk TC ax));go_simp;(try with_reducible rfl)))
  iterate 3 refine uT ?_ (hy:=(by intro w hSw;(have fG:Ext No wr _:=hSw);(have q0:=fG.keep Ti);go_simp;(try with_reducible rfl)))
  refine uZ ?_
  refine uD ?_
  have BH:Ext No wr wr.drew:=hHeld
  clear hHeld
  go_wp2_with fail
  generalize wr.drew=wb at*
  go_loopw [6] (fun s6 wq=>∃j:Nat,s6= .int .i64 j∧j≤m∧Hid (Ext No wr wq)) (fun s6 _=>m - (intOf s6).toNat)
  case atStart=>exact ⟨0,rfl,Nat.zero_le _,BH⟩
  clear BH
  obtain ⟨j,rfl,hj,aav⟩:=hrel
  have hE7:=aav.out
  have WO:=aa (hX.af hE7)
  clear aav KT TC
  rename World=>wq
  have KT:=aa (WO.blk HA ax)
  have TC:=aa (WO.blk HB ax)
  have Yz:=aa (hE7.keep Yz)
  have Ti:=aa (hE7.keep Ti)
  by_cases hlt2:j < m
  ·have hjz:(j:Int) < (m:Int):=by omega
   have adb:(0:Int)≤(j:Int):=by omega
   have HKJ:Hid (Value.int .i64 ((j:Int)+1)= .int .i64 ((j+1:Nat):Int)):=aa (by rw [show ((j+1:Nat):Int)=(j:Int)+1 from by omega])
   have PT:=aa (show j < (aR Q k).length from by rw [←HM];exact hlt2)
   obtain ⟨⟨mj,f⟩,jq⟩:∃q:Nat×cK,q=(aR Q k)[j]'PT.out:=⟨_,rfl⟩
   obtain ⟨b1,o1,p1',g1,d1,g2,d2,g3,n3,d3,hs1,gt1,HT1,hfw⟩:=pQ (M:=No) (BF k) (HP1.aj WO) zT.out (HP1.aj WO).ok PT.out jq
   obtain ⟨b2,o2,p2',k1,e1,k2,e2,k3,m3,e3,hs2,gt2,HT2,-⟩:=pQ (M:=No) (BF k) (YG.aj WO) KP.out (YG.aj WO).ok PT.out jq
   rw [←HM] at hs1 hs2
   simp only [Value.slice.injEq] at hs1 hs2
   obtain ⟨rfl,-,rfl⟩:=hs1
   obtain ⟨rfl,-,rfl⟩:=hs2
   have Sd:=aa gt1
   have WG:=aa gt2
   have emm:((mj:Int) != (mj:Int))=false:=by simp
   clear gt1 gt2 jq
   have cA:=cellOf KT.out
   have cI:=Yz.out
   go_upto_region 11 with (fail)
   clear cA cI
   refine uW (fun w'=>Ext No wq w') aS fun hHeld=>?_
   refine uO [0,1,2,3,4,5,6,7,8,9,10,11,12,13,14,15,16,17,18,19,20,21,22,23,24,25,26,27,28,29,30,31,32,33,34,35,36,37] ?_
   iterate 4 refine uT ?_ (hy:=EF)
   iterate 4 refine uT ?_ (hy:=EG)
   iterate 2 refine uT ?_ (hy:=(by intro w hSw;(have fG:Ext No wq _:=hSw);(obtain ⟨p0,p1,p2,p3,p4,p5⟩:=Sd.out);(have q0:=fG.keep p0);go_simp;(try with_reducible rfl)))
   iterate 3 refine uT ?_ (hy:=EH)
   iterate 4 refine uT ?_ (hy:=EI)
   iterate 4 refine uT ?_ (hy:=(by intro w hSw;(have fG:Ext No wq _:=hSw);(obtain ⟨p0,p1,p2,p3,p4,p5⟩:=WG.out);(have q0:=fG.keep p0);go_simp;(try with_reducible rfl)))
   iterate 3 refine uT ?_ (hy:=EF)
   iterate 4 refine uT ?_ (hy:=EG)
   iterate 2 refine uT ?_ (hy:=(by intro w hSw;(have fG:Ext No wq _:=hSw);(obtain ⟨p0,p1,p2,p3,p4,p5⟩:=Sd.out);(have q0:=fG.keep p1);(have q1:=fG.keep p2);(have q2:=fG.keep p3);(have q3:=fG.keep p4);(have q4:=fG.keep p5);go_simp;(try with_reducible rfl)))
   iterate 3 refine uT ?_ (hy:=EH)
   iterate 4 refine uT ?_ (hy:=EI)
   refine uT ?_ (hy:=(by intro w hSw;(have fG:Ext No wq _:=hSw);(obtain ⟨p0,p1,p2,p3,p4,p5⟩:=WG.out);(have x1:=fG.keep p1);(have x2:=fG.keep p2);(have x3:=fG.keep p3);(have x4:=fG.keep p4);(have x5:=fG.keep p5);go_simp;(try with_reducible rfl)))
   refine uZ ?_
   refine hHc 38 fun K hK=>?_
   (go_simp;go_at_call 73;(refine (Ik f Q.w _ _ _ _ _ _ _ hfw (HT1.aj (show Ext No wq _ from hHeld)) (HT2.aj (show Ext No wq _ from hHeld))).mono ?_);(rintro q1 w1 ⟨rfl,aF⟩);go_simp)
   refine uK hK (Ext.af (show Ext No wq _ from hHeld) aF) ?_
   clear hK K hHeld
   intro hHeld
   have Sn:=aa aF
   clear aF
   refine uO [39,40] ?_
   iterate 2 refine uT ?_
   refine uZ ?_
   refine uD ?_
   have uf:=aa (show Ext No wq _ from hHeld)
   clear hHeld
   go_wp2_with fail
   go_roundw
   case rel=>exact ⟨j+1,HKJ,by omega,hE7.af uf⟩
   case measure=>simp [intOf];omega
  have abH:¬(j:Int) < (m:Int):=by omega
  have cA:=cellOf KT.out
  have cI:=Yz.out
  go_wp2_with fail
  go_roundw
  case rel=>exact ⟨k+1,HKK,hlt,WO⟩
  case measure=>simp [intOf];omega
 have hge:¬(k:Int) < (N:Int):=by omega
 have cA:=cellOf KT.out
 have cB:=cellOf TC.out
 go_wp2_with fail
 go_ret
 exact ⟨rfl,HX0.af hX⟩


import Derived.Test.YtmddchceacmopaaGreatDoorE47
set_option linter.unusedVariables false
set_option linter.unusedSimpArgs false
namespace Go.Proofs.YtmddchceacmopaaGreatDoor
open Go Go.RowKit
theorem yl {p:Prop} (h:p:=by intro w hSw;(have fG:Ext No wr _:=hSw);(have q0:=fG.keep HCK);go_simp;(try with_reducible rfl)):p:=h
theorem Ez {p:Prop} (h:p:=by
 have cF:=cellOf hbF
 refine aW rfl ?_
 simp [results,Tryz.results27,go_sem,cF]
 exact ⟨rfl,uf⟩):p:=h
theorem EA {p:Prop} (h:p:=by
 have HUN:=aa (show adK (ks[i]'GY.out) Li.length from by rw [←HZ];have h5:=Xo.out;have h6:=qF.out;exact ⟨by omega,by omega⟩)
 go_upto_region 6 with (fail)
 refine uW (fun w'=>Ext No wr w') aS fun hHeld=>?_
 refine uO [0,1,2,3,4,5,6,7,8,9,10,11,12,13,14] ?_
 iterate 11 refine uT ?_ (hy:=yl)
 iterate 4 refine uT ?_ (hy:=ym)
 refine uZ ?_
 refine uD ?_
 have BH:Ext No wr wr.drew:=hHeld
 clear hHeld
 go_wp2_with fail
 go_roundw
 case rel=>exact ⟨i+1,HKK,by omega,aa (fun j hj hji=>by
  by_cases e:j=i
  ·subst e;exact HUN
  exact hU j hj (by omega)),aa (hX.af BH)⟩
 case measure=>simp [intOf];omega):p:=h
theorem EC {p:Prop} (h:p:=by
 refine uZ ?_
 refine uD ?_
 have BH:Ext No wr wr.drew:=hHeld
 clear hHeld
 have Ko:=hX.af BH
 generalize wr.drew=w6 at*
 have Kv:=(Ko).blk HR ax
 have cR:=cellOf Kv
 have fR:=aH Kv
 have jR:Ext (At (W.heap.size+1)) w6 (((w6.setCell ⟨W.heap.size+1,0,none⟩ (.int .i64 0)).setCell ⟨W.heap.size+1,1,none⟩ (.slice none 0 0)).setCell ⟨W.heap.size+1,2,none⟩ (.slice none 0 0)):=jw _ _ _ _ _
 have hbF:=(az (j:=2) (u:= .slice none 0 0) (az (j:=1) (u:= .slice none 0 0) (az (j:=0) (u:= .int .i64 0) Kv))).trans rfl
 have uf:=aa ((HX0.af (Ko)).aJ jR (fun i hi e=>by unfold At at e;omega))
 go_wp2_with fail
 generalize World.setCell (World.setCell (World.setCell w6 _ _) _ _) _ _=WF at*
 exact Ez):p:=h
theorem ED {p:Prop} (h:p:=by
 exact ⟨0,rfl,Nat.zero_le _,aa (fun j _ hj=>absurd hj (Nat.not_lt_zero j)),hx1⟩):p:=h
theorem adG {p:Prop} (h:p:=by
 exact absurd (aat _ (List.getElem_mem GY.out)) (fun e=>by have h5:=Xo.out;have h6:=qF.out;rw [←HZ] at e;have h7:=e.1;have h8:=e.2;omega)):p:=h
set_option maxRecDepth 100000 in
set_option maxHeartbeats 4000000 in
theorem xe (x:Int) (vb vi:Value) (LB:LS) (Li:fe) (n:Int) (W:World) (hy:YW No W vb vi LB Li) (hn:iP x LB Li n≠0):
  Calls Tryz.prog 24 #[.agg #[.int .i64 x,vb,vi],.int .i64 n] W (kG (.agg #[.int .i64 0,.slice none 0 0,.slice none 0 0]) (iP x LB Li n) W):=by
 obtain ⟨E,hE⟩:∃E,E=iP x LB Li n:=⟨_,rfl⟩
 rw [←hE] at hn ⊢
 have HE:=aa hE
 have hne:(E != 0)=true:=by rw [bne_iff_ne];exact hn
 clear hE hn
 obtain ⟨ab,cb,rfl⟩:=hy.b.slice
 obtain ⟨ai,ci,rfl⟩:=hy.i.slice
 have HY:=aa hy
 obtain ⟨NB,qB⟩:∃NB,NB=LB.length:=⟨_,rfl⟩
 obtain ⟨NI,rD⟩:∃NI,NI=Li.length:=⟨_,rfl⟩
 have nN:=hy.b.row.2.1
 rw [←qB] at HY nN ⊢
 rw [←rD] at HY ⊢
 have qF:=aa qB
 have NY:=aa rD
 clear hy qB rD
 go_enter Tryz.func24,Tryz.ntmps24
 go_upto_region 1 with (fail)
 have hx0:Ext No W ((W.alloc (.cells #[.int .i64 x,.slice ab NB cb,.slice ai NI ci] 26)).alloc (.cells #[.int .i64 0,.slice none 0 0,.slice none 0 0] 26)):=((Ext.refl _ _).alloc _).alloc _
 have HA:=aa (zK hx0)
 have HR:=aa (zM hx0)
 have HX0:=aa hx0
 have G7:=aa (HY.aj hx0)
 have TA:=aa (show ((W.alloc (.cells #[.int .i64 x,.slice ab NB cb,.slice ai NI ci] 26)).alloc (.cells #[.int .i64 0,.slice none 0 0,.slice none 0 0] 26)).heap.size=W.heap.size+2 from by simp)
 clear hx0
 generalize World.alloc (World.alloc W _) _=V at*
 have cA:=cellOf HA.out
 go_wp2_with fail
 refine (wZ x _ _ LB Li n V G7).mono ?_
 rintro e1 w1 ⟨rfl,hx1⟩
 rw [←HE]
 clear cA
 have Kv:=(hx1).blk HR ax
 have cR:=cellOf Kv
 have fR:=aH Kv
 have jR:Ext (At (W.heap.size+1)) w1 (((w1.setCell ⟨W.heap.size+1,0,none⟩ (.int .i64 0)).setCell ⟨W.heap.size+1,1,none⟩ (.slice none 0 0)).setCell ⟨W.heap.size+1,2,none⟩ (.slice none 0 0)):=jw _ _ _ _ _
 have hbF:=(az (j:=2) (u:= .slice none 0 0) (az (j:=1) (u:= .slice none 0 0) (az (j:=0) (u:= .int .i64 0) Kv))).trans rfl
 have uf:=aa ((HX0.af (hx1)).aJ jR (fun i hi e=>by unfold At at e;omega))
 go_wp2_with fail
 generalize World.setCell (World.setCell (World.setCell w1 _ _) _ _) _ _=WF at*
 have cF:=cellOf hbF
 refine aW rfl ?_
 simp [results,Tryz.results24,go_sem,cF]
 exact ⟨rfl,uf⟩
set_option maxRecDepth 100000 in
set_option maxHeartbeats 4000000 in
theorem BR (x:Int) (vb vi:Value) (LB:LS) (Li:fe) (n:Int) (W:World) (hy:YW No W vb vi LB Li) (hn:iP x LB Li n≠0):
  Calls Tryz.prog 26 #[.agg #[.int .i64 x,vb,vi],.int .i64 n] W (kG (.agg #[.int .i64 0,.slice none 0 0,.slice none 0 0]) (iP x LB Li n) W):=by
 have Su:=aa hn
 obtain ⟨E,hE⟩:∃E,E=iP x LB Li n:=⟨_,rfl⟩
 rw [←hE] at hn ⊢
 have HE:=aa hE
 have hne:(E != 0)=true:=by rw [bne_iff_ne];exact hn
 clear hE hn
 obtain ⟨ab,cb,rfl⟩:=hy.b.slice
 obtain ⟨ai,ci,rfl⟩:=hy.i.slice
 have HY:=aa hy
 obtain ⟨NB,qB⟩:∃NB,NB=LB.length:=⟨_,rfl⟩
 obtain ⟨NI,rD⟩:∃NI,NI=Li.length:=⟨_,rfl⟩
 have nN:=hy.b.row.2.1
 rw [←qB] at HY nN ⊢
 rw [←rD] at HY ⊢
 have qF:=aa qB
 have NY:=aa rD
 clear hy qB rD
 go_enter Tryz.func26,Tryz.ntmps26
 go_upto_region 1 with (fail)
 have hx0:Ext No W ((W.alloc (.cells #[.int .i64 x,.slice ab NB cb,.slice ai NI ci] 26)).alloc (.cells #[.int .i64 0,.slice none 0 0,.slice none 0 0] 26)):=((Ext.refl _ _).alloc _).alloc _
 have HA:=aa (zK hx0)
 have HR:=aa (zM hx0)
 have HX0:=aa hx0
 have G7:=aa (HY.aj hx0)
 have TA:=aa (show ((W.alloc (.cells #[.int .i64 x,.slice ab NB cb,.slice ai NI ci] 26)).alloc (.cells #[.int .i64 0,.slice none 0 0,.slice none 0 0] 26)).heap.size=W.heap.size+2 from by simp)
 clear hx0
 generalize World.alloc (World.alloc W _) _=V at*
 have cA:=cellOf HA.out
 go_wp2_with fail
 refine (xe x _ _ LB Li n V G7 Su).mono ?_
 rintro e1 w1 ⟨rfl,hx1⟩
 rw [←HE]
 clear cA
 have hx2:Ext No V (w1.alloc (.cells #[.int .i64 0,.slice none 0 0,.slice none 0 0] 26)):=hx1.alloc _
 go_upto_region 3 with (fail)
 generalize World.alloc w1 _=w2 at*
 have Kv:=(hx2).blk HR ax
 have cR:=cellOf Kv
 have fR:=aH Kv
 have jR:Ext (At (W.heap.size+1)) w2 (((w2.setCell ⟨W.heap.size+1,0,none⟩ (.int .i64 0)).setCell ⟨W.heap.size+1,1,none⟩ (.slice none 0 0)).setCell ⟨W.heap.size+1,2,none⟩ (.slice none 0 0)):=jw _ _ _ _ _
 have hbF:=(az (j:=2) (u:= .slice none 0 0) (az (j:=1) (u:= .slice none 0 0) (az (j:=0) (u:= .int .i64 0) Kv))).trans rfl
 have uf:=aa ((HX0.af (hx2)).aJ jR (fun i hi e=>by unfold At at e;omega))
 go_wp2_with fail
 generalize World.setCell (World.setCell (World.setCell w2 _ _) _ _) _ _=WF at*
 have cF:=cellOf hbF
 refine aW rfl ?_
 simp [results,Tryz.results26,go_sem,cF]
 exact ⟨rfl,uf⟩
set_option maxRecDepth 100000 in
set_option maxHeartbeats 4000000 in
theorem JW (x:Int) (vb vi sk:Value) (LB:LS) (Li:fe) (ks:List Int) (W:World) (hy:YW No W vb vi LB Li) (hk:Ints No W .i64 sk ks) (hn:¬VW x LB Li):
  Calls Tryz.prog 27 #[.agg #[.int .i64 x,vb,vi],sk] W (kG (.agg #[.int .i64 0,.slice none 0 0,.slice none 0 0]) 1 W):=by
 have HN:=aa hn
 obtain ⟨ak,ck,rfl⟩:=Row.slice hk
 clear hn hk
 obtain ⟨ab,cb,rfl⟩:=hy.b.slice
 obtain ⟨ai,ci,rfl⟩:=hy.i.slice
 have HY:=aa hy
 obtain ⟨NB,qB⟩:∃NB,NB=LB.length:=⟨_,rfl⟩
 obtain ⟨NI,rD⟩:∃NI,NI=Li.length:=⟨_,rfl⟩
 have nN:=hy.b.row.2.1
 rw [←qB] at HY nN ⊢
 rw [←rD] at HY ⊢
 have qF:=aa qB
 have NY:=aa rD
 clear hy qB rD
 go_enter Tryz.func27,Tryz.ntmps27
 go_upto_region 1 with (fail)
 have hx0:Ext No W ((W.alloc (.cells #[.int .i64 x,.slice ab NB cb,.slice ai NI ci] 26)).alloc (.cells #[.int .i64 0,.slice none 0 0,.slice none 0 0] 26)):=((Ext.refl _ _).alloc _).alloc _
 have HA:=aa (zK hx0)
 have HR:=aa (zM hx0)
 have HX0:=aa hx0
 have G7:=aa (HY.aj hx0)
 have TA:=aa (show ((W.alloc (.cells #[.int .i64 x,.slice ab NB cb,.slice ai NI ci] 26)).alloc (.cells #[.int .i64 0,.slice none 0 0,.slice none 0 0] 26)).heap.size=W.heap.size+2 from by simp)
 clear hx0
 generalize World.alloc (World.alloc W _) _=V at*
 have cA:=cellOf HA.out
 go_wp2_with fail
 refine (kr x _ _ LB Li V G7).mono ?_
 rintro e1 w1 ⟨b1,rfl,hb1,hx1⟩
 obtain rfl:b1=false:=by
  cases b1 with
  |false=>rfl
  |true=>exact absurd (hb1.1 rfl) HN
 clear hb1 cA
 have Kv:=(hx1).blk HR ax
 have cR:=cellOf Kv
 have fR:=aH Kv
 have jR:Ext (At (W.heap.size+1)) w1 (((w1.setCell ⟨W.heap.size+1,0,none⟩ (.int .i64 0)).setCell ⟨W.heap.size+1,1,none⟩ (.slice none 0 0)).setCell ⟨W.heap.size+1,2,none⟩ (.slice none 0 0)):=jw _ _ _ _ _
 have hbF:=(az (j:=2) (u:= .slice none 0 0) (az (j:=1) (u:= .slice none 0 0) (az (j:=0) (u:= .int .i64 0) Kv))).trans rfl
 have uf:=aa ((HX0.af (hx1)).aJ jR (fun i hi e=>by unfold At at e;omega))
 go_wp2_with fail
 generalize World.setCell (World.setCell (World.setCell w1 _ _) _ _) _ _=WF at*
 exact Ez
end Go.Proofs.YtmddchceacmopaaGreatDoor

namespace Go.Proofs.YtmddchceacmopaaGreatDoor
open Go Go.RowKit Tj
set_option maxRecDepth 100000 in
set_option maxHeartbeats 8000000 in
theorem JX (x:Int) (vb vi sk:Value) (LB:LS) (Li:fe) (ks:List Int) (W:World) (hv:VW x LB Li) (hy:YW No W vb vi LB Li) (hk:Ints No W .i64 sk ks) (hb:∃n∈ks,¬adK n Li.length):
  Calls Tryz.prog 27 #[.agg #[.int .i64 x,vb,vi],sk] W (kG (.agg #[.int .i64 0,.slice none 0 0,.slice none 0 0]) 9 W):=by
 have HBAD:=aa hb
 clear hb
 obtain ⟨ak,ck,hsk⟩:=Ints.slice hk
 obtain ⟨NK,WL⟩:∃NK,NK=ks.length:=⟨_,rfl⟩
 have Xp:=Ints.len hk
 rw [←WL] at hsk Xp
 subst hsk
 have HK:=aa hk
 have Yt:=aa WL
 have HV:=aa hv
 have Xo:=aa hv.lb
 clear hk WL hv
 obtain ⟨ab,cb,rfl⟩:=hy.b.slice
 obtain ⟨ai,ci,rfl⟩:=hy.i.slice
 have HY:=aa hy
 obtain ⟨NB,qB⟩:∃NB,NB=LB.length:=⟨_,rfl⟩
 obtain ⟨NI,rD⟩:∃NI,NI=Li.length:=⟨_,rfl⟩
 have nN:=hy.b.row.2.1
 rw [←qB] at HY nN ⊢
 rw [←rD] at HY ⊢
 have qF:=aa qB
 have NY:=aa rD
 clear hy qB rD
 go_enter Tryz.func27,Tryz.ntmps27
 go_upto_region 1 with (fail)
 have hx0:Ext No W ((W.alloc (.cells #[.int .i64 x,.slice ab NB cb,.slice ai NI ci] 26)).alloc (.cells #[.int .i64 0,.slice none 0 0,.slice none 0 0] 26)):=((Ext.refl _ _).alloc _).alloc _
 have HA:=aa (zK hx0)
 have HR:=aa (zM hx0)
 have HX0:=aa hx0
 have G7:=aa (HY.aj hx0)
 have TA:=aa (show ((W.alloc (.cells #[.int .i64 x,.slice ab NB cb,.slice ai NI ci] 26)).alloc (.cells #[.int .i64 0,.slice none 0 0,.slice none 0 0] 26)).heap.size=W.heap.size+2 from by simp)
 clear hx0
 generalize World.alloc (World.alloc W _) _=V at*
 have cA:=cellOf HA.out
 go_wp2_with fail
 refine (kr x _ _ LB Li V G7).mono ?_
 rintro e1 w1 ⟨b1,rfl,hb1,hx1⟩
 obtain rfl:b1=true:=hb1.2 HV
 clear hb1 cA
 go_wp2_with fail
 go_loopw [6] (fun s6 wr=>∃i:Nat,s6= .int .i64 i∧i≤NK∧Hid (∀j (hj:j < ks.length),j < i→adK ks[j] Li.length)∧Hid (Ext No V wr)) (fun s6 _=>NK - (intOf s6).toNat)
 case atStart=>exact ED
 clear hx1
 obtain ⟨i,rfl,hi,hU,hX⟩:=hrel
 rename World=>wr
 have KT:=aa (hX.blk HA ax)
 by_cases hlt:i < NK
 ·have hlz:(i:Int) < (NK:Int):=by omega
  have IW:(0:Int)≤(i:Int):=by omega
  have HKK:Hid (Value.int .i64 ((i:Int)+1)= .int .i64 ((i+1:Nat):Int)):=aa (by rw [show ((i+1:Nat):Int)=(i:Int)+1 from by omega])
  have GY:=aa (show i < ks.length from by rw [←Yt];exact hlt)
  have hin:ks[i]'GY.out∈ks:=List.getElem_mem _
  obtain ⟨bk,ok,abY,KM,-,-,hck⟩:=Ints.at (Row.aj HK (HX0.af hX)) GY.out
  rw [←Yt] at KM
  simp only [Value.slice.injEq] at KM
  obtain ⟨rfl,-,rfl⟩:=KM
  have hci:=hck i GY.out
  obtain ⟨z,hz⟩:∃z,z=ks[i]'GY.out:=⟨_,rfl⟩
  rw [←hz] at hci
  have HCK:=aa hci
  have HZ:=aa hz
  clear hck hci hz hin
  by_cases h1:z < 0
  ·go_upto_region 6 with (fail)
   refine uW (fun w'=>Ext No wr w') aS fun hHeld=>?_
   refine uO [0,1,2,3,4,5,6,7,8,9,10,11,12,13,14] ?_
   iterate 6 refine uT ?_ (hy:=yl)
   iterate 8 refine uS ?_
   refine uT ?_
   exact EC
  by_cases h2:(NB:Int)≤z
  ·go_upto_region 6 with (fail)
   refine uW (fun w'=>Ext No wr w') aS fun hHeld=>?_
   refine uO [0,1,2,3,4,5,6,7,8,9,10,11,12,13,14] ?_
   iterate 11 refine uT ?_ (hy:=yl)
   iterate 4 refine uT ?_ (hy:=ym)
   exact EC
  exact EA
 have hge:¬(i:Int) < (NK:Int):=by omega
 obtain ⟨z,hz,hzn⟩:=HBAD.out
 obtain ⟨j,hj,rfl⟩:=List.getElem_of_mem hz
 exact absurd (hU j hj (by have:=Yt.out;omega)) hzn
set_option maxRecDepth 100000 in
set_option maxHeartbeats 16000000 in
theorem LG (S:bD) (N:Nat) (vb vi sk:Value) (LB:LS) (Li:fe) (ks:List Int) (W:World) (hc:CW S (S.w:Int) LB Li) (h8:eY S) (hv:VW (S.w:Int) LB Li) (hy:YW No W vb vi LB Li) (hN:N=S.ins.length) (hk:Ints No W .i64 sk ks) (ha:∀n∈ks,adK n Li.length):
  Calls Tryz.prog 27 #[.agg #[.int .i64 (S.w:Int),vb,vi],sk] W (xC (dJ S (fun t:Nat=>decide ((t:Int)∈ks)) N) W):=by
 have aat:=aa ha
 have HC:=aa hc
 have Ch:=aa h8
 have HN:=aa hN
 have hn32:N≤32:=by rw [hN];exact h8.n8
 have hn1:1≤N:=by rw [hN];exact h8.ok.n1
 have abZ:=aa (show Li.length=N from hc.len.trans hN.symm)
 have ab9:=aa (show LB.length=N from hv.lb.trans (hc.len.trans hN.symm))
 have Ny:=aa (show ∀p∈Li,p.1.length≤1000 from fun p hp=>by
  obtain ⟨j,hj,rfl⟩:=List.getElem_of_mem hp
  have h1:=congrArg List.length (hc.rows j hj)
  rw [List.length_map,dK] at h1
  have h2:=(h8.ok.row j).len
  omega)
 obtain ⟨kp,hkp⟩:∃kp:Nat→Bool,kp=(fun t:Nat=>decide ((t:Int)∈ks)):=⟨_,rfl⟩
 have ab':=aa (show ∀j:Nat,kp j=decide ((j:Int)∈ks) from fun j=>by rw [hkp])
 rw [←hkp]
 clear ha hc h8 hN hkp
 obtain ⟨ak,ck,hsk⟩:=Ints.slice hk
 obtain ⟨NK,WL⟩:∃NK,NK=ks.length:=⟨_,rfl⟩
 have Xp:=Ints.len hk
 rw [←WL] at hsk Xp
 subst hsk
 have HK:=aa hk
 have Yt:=aa WL
 have HV:=aa hv
 have Xo:=aa hv.lb
 clear hk WL hv
 obtain ⟨ab,cb,rfl⟩:=hy.b.slice
 obtain ⟨ai,ci,rfl⟩:=hy.i.slice
 have HY:=aa hy
 obtain ⟨NB,qB⟩:∃NB,NB=LB.length:=⟨_,rfl⟩
 obtain ⟨NI,rD⟩:∃NI,NI=Li.length:=⟨_,rfl⟩
 have nN:=hy.b.row.2.1
 rw [←qB] at HY nN ⊢
 rw [←rD] at HY ⊢
 have qF:=aa qB
 have NY:=aa rD
 clear hy qB rD
 go_enter Tryz.func27,Tryz.ntmps27
 go_upto_region 1 with (fail)
 have hx0:Ext No W ((W.alloc (.cells #[.int .i64 (S.w:Int),.slice ab NB cb,.slice ai NI ci] 26)).alloc (.cells #[.int .i64 0,.slice none 0 0,.slice none 0 0] 26)):=((Ext.refl _ _).alloc _).alloc _
 have HA:=aa (zK hx0)
 have HR:=aa (zM hx0)
 have HX0:=aa hx0
 have G7:=aa (HY.aj hx0)
 have TA:=aa (show ((W.alloc (.cells #[.int .i64 (S.w:Int),.slice ab NB cb,.slice ai NI ci] 26)).alloc (.cells #[.int .i64 0,.slice none 0 0,.slice none 0 0] 26)).heap.size=W.heap.size+2 from by simp)
 clear hx0
 generalize World.alloc (World.alloc W _) _=V at*
 have cA:=cellOf HA.out
 have Zl:=aa (show NB=N from qF.trans ab9)
 have Zm:=aa (show NI=N from NY.trans abZ)
 go_wp2_with fail
 refine (kr (S.w:Int) _ _ LB Li V G7).mono ?_
 rintro e1 w1 ⟨b1,rfl,hb1,hx1⟩
 obtain rfl:b1=true:=hb1.2 HV
 clear hb1 cA
 go_wp2_with fail
 go_loopw [6] (fun s6 wr=>∃i:Nat,s6= .int .i64 i∧i≤NK∧Hid (∀j (hj:j < ks.length),j < i→adK ks[j] Li.length)∧Hid (Ext No V wr)) (fun s6 _=>NK - (intOf s6).toNat)
 case atStart=>exact ED
 clear hx1
 obtain ⟨i,rfl,hi,hU,hX⟩:=hrel
 rename World=>wr
 have KT:=aa (hX.blk HA ax)
 by_cases hlt:i < NK
 ·have hlz:(i:Int) < (NK:Int):=by omega
  have IW:(0:Int)≤(i:Int):=by omega
  have HKK:Hid (Value.int .i64 ((i:Int)+1)= .int .i64 ((i+1:Nat):Int)):=aa (by rw [show ((i+1:Nat):Int)=(i:Int)+1 from by omega])
  have GY:=aa (show i < ks.length from by rw [←Yt];exact hlt)
  have hin:ks[i]'GY.out∈ks:=List.getElem_mem _
  obtain ⟨bk,ok,abY,KM,-,-,hck⟩:=Ints.at (Row.aj HK (HX0.af hX)) GY.out
  rw [←Yt] at KM
  simp only [Value.slice.injEq] at KM
  obtain ⟨rfl,-,rfl⟩:=KM
  have hci:=hck i GY.out
  obtain ⟨z,hz⟩:∃z,z=ks[i]'GY.out:=⟨_,rfl⟩
  rw [←hz] at hci
  have HCK:=aa hci
  have HZ:=aa hz
  clear hck hci hz hin
  by_cases h1:z < 0
  ·exact adG
  by_cases h2:(NB:Int)≤z
  ·exact adG
  exact EA
 have hge:¬(i:Int) < (NK:Int):=by omega
 clear hlt
 have II:=HX0.af hX
 have cA:=cellOf KT.out
 obtain ⟨l,hl⟩:∃l:List Nat,l=ks.map Int.toNat:=⟨_,rfl⟩
 have hkl:ks=dh l:=by
  rw [hl]
  unfold dh
  rw [List.map_map]
  refine (List.map_id' ks).symm.trans (List.map_congr_left (fun z hz=>?_))
  have:=(aat z hz).1
  simp only [Function.comp]
  omega
 have HKN:=aa (show Ints No W .i64 (.slice ak NK ck) (dh l) from by rw [←hkl];exact HK)
 have HKP:=aa (show ∀j:Nat,kp j=decide (j∈l) from fun j=>by
  rw [ab',hkl]
  simp only [dh]
  refine decide_eq_decide.2 ⟨fun h=>?_,fun h=>List.mem_map_of_mem h⟩
  obtain ⟨q,hq,e⟩:=List.mem_map.1 h
  have:q=j:=by omega
  exact this▸hq)
 clear hl hkl hU
 go_wp2_with fail
 refine (Bc (S.w:Int) _ _ LB Li wr (G7.aj hX) (by have:=qF.out;have:=Zl.out;omega) (by have:=NY.out;have:=Zm.out;omega) Ny).mono ?_
 rintro e2 w2 ⟨vb,vi,RL,rfl,hq,he⟩
 have hM:=VZ HC Ch hq he
 obtain ⟨gB,cB,hvb⟩:=nU hM.x.b.own (by have:=qF.out;have:=Zl.out;omega)
 obtain ⟨gI,cI,zU⟩:=nU hM.x.i (by have h1:=hM.len;have h2:=HN.out;omega)
 rw [←qF,Zl] at hvb
 rw [hM.len,←HN] at zU
 subst hvb zU
 have Xq:=aa (hX.af hq.ext)
 have ac8:=aa II
 clear hq he cA
 go_upto_region 9 with (fail)
 have PY:Ext No w2 (w2.alloc (.cells #[.int .i64 (S.w:Int),.slice (some ⟨gB,0,none⟩) N cB,.slice (some ⟨gI,0,none⟩) N cI] 26)):=(Ext.refl _ _).alloc _
 have TD:=aa (hM.aC PY)
 have Yu:=aa (ah (w:=w2) (o:= .cells #[.int .i64 (S.w:Int),.slice (some ⟨gB,0,none⟩) N cB,.slice (some ⟨gI,0,none⟩) N cI] 26) rfl)
 have TE:=aa (Xq.af PY)
 have HGQ:=aa (show V.heap.size≤w2.heap.size from Xq.size)
 clear PY hM Xq
 generalize World.alloc w2 _=U1 at*
 generalize w2.heap.size=bQ at*
 go_wp2_with fail
 go_loopw [8,9,10] (fun s8 _ _ wq=>∃(k lim gB cB gI cI:Nat) (LBk:LS) (Zn:fe),s8= .int .i64 k∧k≤N∧Hid (wq.heap[bQ]? =some (.cells #[.int .i64 (S.w:Int),.slice (some ⟨gB,0,none⟩) N cB,.slice (some ⟨gI,0,none⟩) N cI] 26 (0,0)))∧Hid (MW wq 0 lim (.slice (some ⟨gB,0,none⟩) N cB) (.slice (some ⟨gI,0,none⟩) N cI) LBk Zn (dJ S kp k))∧Hid (Ext No V wq)) (fun s8 _ _ _=>N - (intOf s8).toNat)
 case atStart=>exact ⟨0,_,_,_,_,_,_,_,rfl,Nat.zero_le _,Yu,TD,TE⟩
 clear Yu TD TE
 obtain ⟨k,lim,gB,cB,gI,cI,LBk,Zn,rfl,hk,Yu,TD,TE⟩:=hrel
 rename World=>wq
 have HAq:=aa (TE.blk HA ax)
 have cA:=cellOf HAq.out
 have cQ:=cellOf Yu.out
 by_cases hlt:k < N
 ·have hlz:(k:Int) < (N:Int):=by omega
  have ac9:(k:Int) < (NB:Int):=by have:=Zl.out;omega
  have HKK:Hid (Value.int .i64 ((k:Int)+1)= .int .i64 ((k+1:Nat):Int)):=aa (by rw [show ((k+1:Nat):Int)=(k:Int)+1 from by omega])
  have hro:=ny (keep:=kp) Ch k (by have:=HN.out;omega)
  have HRO:=aa hro
  clear hro
  go_wp2_with fail
  refine (OB _ l k wq (Row.aj HKN (HX0.af TE))).mono ?_
  rintro e3 w3 ⟨rfl,hx3⟩
  rw [←HKP]
  have pK:=aa (TE.af hx3)
  have HB3:=aa (hx3.blk Yu ax)
  have N9:=aa (TD.aC hx3)
  clear TE Yu TD hx3 cA cQ HAq
  have cQ:=cellOf HB3.out
  cases hkp:kp k with
  |true=>
   have HRS:=aa (show dJ S kp (k+1)=dJ S kp k from by rw [dJ,if_pos hkp])
   clear hkp
   go_wp2_with fail
   go_roundw
   case rel=>exact ⟨k+1,lim,gB,cB,gI,cI,LBk,Zn,HKK,by omega,HB3,aa (by rw [HRS];exact N9),pK⟩
   case measure=>simp [intOf];omega
  |false=>
   have HRS:=aa (show dJ S kp (k+1)=jK (dJ S kp k) k from by rw [dJ,if_neg (by rw [hkp];decide)])
   clear hkp
   obtain ⟨Rk,hRk⟩:∃Rk,Rk=dJ S kp k:=⟨_,rfl⟩
   have hro:=HRO.out
   rw [←hRk] at N9 HRS hro
   have WM:(S.w:Int)=(Rk.w:Int):=by rw [hro.2.1]
   have HKW:=aa WM
   have aau:=aa (show N=Rk.ins.length from by rw [hro.2.2];exact HN)
   have h8k:=hro.1
   have Tm:=aa (uQ Rk k N (.slice (some ⟨gB,0,none⟩) N cB) (.slice (some ⟨gI,0,none⟩) N cI) LBk Zn w3 ⟨rfl,N9.ok.ok,N9.bnd,N9.len,N9.rows⟩ h8k (V4 N9) N9.x.yw aau hlt)
   rw [←WM] at Tm
   clear hro hRk h8k WM
   go_wp2_with fail
   refine Tm.mono ?_
   rintro e4 w4 ⟨Yv,Yw,Yx,Yy,TP,LB4,RL4,rfl,hq4,hM4⟩
   have hew:((jK Rk k).w:Int)=(S.w:Int):=by
    have h1:=(adH N9.ok (n:=k) (by rw [←aau];exact hlt)).2.1
    have h2:(jK Rk k).w=(dN Rk k).w:=rfl
    rw [h2,h1,HKW]
   rw [hew]
   have Sv:=aa hq4.out
   have NV:=aa hM4.out
   clear hq4 hM4 hew cQ
   have qG:=aa (Sv.ext.blk HB3 ax)
   have hxa:Ext No w4 (w4.alloc (.cells #[.int .i64 (S.w:Int),.slice (some ⟨Yv,0,none⟩) N Yw,.slice (some ⟨Yx,0,none⟩) N Yy] 26)):=(Ext.refl _ _).alloc _
   go_upto_region 16 with (fail)
   have uo:=aa (hxa.blk qG ax)
   have HM5:=aa (NV.aC hxa)
   have HR5:=aa (ah (w:=w4) (o:= .cells #[.int .i64 (S.w:Int),.slice (some ⟨Yv,0,none⟩) N Yw,.slice (some ⟨Yx,0,none⟩) N Yy] 26) rfl)
   have Ci:=aa ((pK.af Sv.ext).af hxa)
   have HNQ:=aa (show ¬aQ (.slice (some ⟨Yv,0,none⟩) N Yw) (.slice (some ⟨Yx,0,none⟩) N Yy) RL4 bQ from fun e=>by have h1:=Sv.own _ e;have h2:=lt_of_block HB3.out;omega)
   clear hxa qG NV Sv
   generalize World.alloc w4 _=w5 at*
   generalize w4.heap.size=bR at*
   have cR5:=cellOf HR5.out
   have cQ5:=cellOf uo.out
   have fQ5:=aH uo.out
   go_wp2_with fail
   have nJ:Ext (At bQ) w5 (((w5.setCell ⟨bQ,0,none⟩ (.int .i64 (S.w:Int))).setCell ⟨bQ,1,none⟩ (.slice (some ⟨Yv,0,none⟩) N Yw)).setCell ⟨bQ,2,none⟩ (.slice (some ⟨Yx,0,none⟩) N Yy)):=jw _ _ _ _ _
   have hbF:=(az (j:=2) (u:= .slice (some ⟨Yx,0,none⟩) N Yy) (az (j:=1) (u:= .slice (some ⟨Yv,0,none⟩) N Yw) (az (j:=0) (u:= .int .i64 (S.w:Int)) uo))).trans rfl
   go_roundw
   case rel=>exact ⟨k+1,TP,Yv,Yw,Yx,Yy,LB4,RL4,HKK,by omega,hbF,aa (by rw [HRS];exact HM5.pW uo HNQ nJ),Ci.aJ nJ (fun i hi e=>by have e2:i=bQ:=e;have:=HGQ.out;omega)⟩
   case measure=>simp [intOf];omega
 have hge:¬(k:Int) < (N:Int):=by omega
 have ada:¬(k:Int) < (NB:Int):=by have:=Zl.out;omega
 have hkN:k=N:=by omega
 have WN:=aa (TE.blk HR ax)
 have cR:=cellOf WN.out
 have fR:=aH WN.out
 go_wp2_with fail
 have jR:Ext (At (W.heap.size+1)) wq (((wq.setCell ⟨W.heap.size+1,0,none⟩ (.int .i64 (S.w:Int))).setCell ⟨W.heap.size+1,1,none⟩ (.slice (some ⟨gB,0,none⟩) N cB)).setCell ⟨W.heap.size+1,2,none⟩ (.slice (some ⟨gI,0,none⟩) N cI)):=jw _ _ _ _ _
 have hbF:=(az (j:=2) (u:=(.slice (some ⟨gI,0,none⟩) N cI)) (az (j:=1) (u:=(.slice (some ⟨gB,0,none⟩) N cB)) (az (j:=0) (u:= .int .i64 (S.w:Int)) WN))).trans rfl
 generalize World.setCell (World.setCell (World.setCell wq _ _) _ _) _ _=WF at*
 have cF:=cellOf hbF
 refine aW rfl ?_
 simp [results,Tryz.results27,go_sem,cF]
 have hro:=(ny (keep:=kp) Ch k (by have:=HN.out;omega)).2.1
 have hon:¬aQ (.slice (some ⟨gB,0,none⟩) N cB) (.slice (some ⟨gI,0,none⟩) N cI) Zn (W.heap.size+1):=fun e=>by
  rcases e with e|e|⟨p,hp,e⟩
  ·obtain ⟨cur,hc⟩:=dM TD.x.b.own e
   exact jm WN hc (by decide) rfl
  ·obtain ⟨cur,hc⟩:=dM TD.x.i e
   exact jm WN hc (by decide) rfl
  obtain ⟨cur,hc⟩:=dM (TD.x.r p hp).own e
  exact jm WN hc (by decide) rfl
 have hMF:=TD.pW WN hon jR
 have hek:dJ S kp N=dJ S kp k:=by rw [hkN]
 rw [hek]
 exact ⟨_,_,by rw [hro],hMF.at.mono (fun _ _ e=>e.elim),(HX0.af TE).aJ jR (fun i hi e=>by have e2:i=W.heap.size+1:=e;omega)⟩


import Derived.Test.YtmddchceacmopaaGreatDoorE37
set_option linter.unusedVariables false
set_option linter.unusedSimpArgs false
namespace Go.Proofs.YtmddchceacmopaaGreatDoor
open Go Go.RowKit
theorem Ec {p:Prop} (h:p:=by intro w hSw;(have fG:Ext No wr _:=hSw);(have q0:=fG.keep HGA);go_simp;(try with_reducible rfl)):p:=h
theorem eF {p:Prop} (h:p:=by intro w hSw;(have fG:Ext No wf _:=hSw);(have q0:=cellOf (fG.blk HF ax));go_simp;(try with_reducible rfl)):p:=h
theorem lG {p:Prop} (h:p:=by intro w hSw;(have fG:Ext No wf _:=hSw);(have q0:=cellOf (fG.blk HB3 ax));go_simp;(try with_reducible rfl)):p:=h
theorem sG {p:Prop} (h:p:=by intro w hSw;(have fG:Ext No wf _:=hSw);(have q0:=fG.keep HGF);go_simp;(try with_reducible rfl)):p:=h
theorem sH {p:Prop} (h:p:=by intro w hSw;(have fG:Ext No wf _:=hSw);(have q0:=fG.keep HQP);go_simp;(try with_reducible rfl)):p:=h
theorem sI {p:Prop} (h:p:=by exact Ext.af (show Ext No wf _ from hHeld) aF):p:=h
theorem adE {p:Prop} (h:p:=by
 refine uZ ?_
 refine hHc 31 fun K hK=>?_
 ((have eX:Ext No wf _:=hHeld);go_simp;(go_at_call 38);(refine (sJ r z1 z2 _ _ _ _ HZ1.out HZ2.out (HT.out.aj eX)).mono ?_);(rintro e8 w8 ⟨rfl,aF⟩);(rw [HV.out]);go_simp)
 refine uK hK sI ?_
 clear hK K hHeld
 intro hHeld
 refine uO [32,33,34,35,36,37,38,39,40,41,42] ?_
 iterate 8 refine uT ?_ (hy:=eF)
 iterate 3 refine uT ?_ (hy:=lG)
 refine uZ ?_
 refine uD ?_
 have eX:Ext No wf _:=hHeld
 go_wp2_with fail
 go_ret
 exact aP (fun e=>xE e pJ HQ (fun hr=>by have h:=(hr.2 _ (List.getElem_mem PT.out)).2;rw [←HQR] at h;exact HW h)) (HX.af (uf.af eX))):p:=h
theorem adF {p:Prop} (h:p:=by
 refine uZ ?_
 refine hHc 31 fun K hK=>?_
 ((have eX:Ext No wf _:=hHeld);go_simp;(go_at_call 38);(refine (sJ r z1 z2 _ _ _ _ HZ1.out HZ2.out (HT.out.aj eX)).mono ?_);(rintro e8 w8 ⟨rfl,aF⟩);(rw [HV.out]);go_simp)
 refine uK hK sI ?_
 clear hK K hHeld
 intro hHeld
 refine uO [32,33,34,35,36,37,38,39,40,41,42] ?_
 iterate 3 refine uT ?_
 iterate 7 refine uS ?_
 refine uT ?_
 refine uZ ?_
 refine uD ?_
 have eX:Ext No wf _:=hHeld
 go_wp2_with fail
 go_ret
 exact aP (fun e=>xE e pJ HQ (fun hr=>by have h:=(hr.2 _ (List.getElem_mem PT.out)).1;rw [←HQR,HV] at h;cases h)) (HX.af (uf.af eX))):p:=h
theorem xE {x:Int} {LB:LS} {Li:fe} {k:Nat} {L:LA} {sl:Value} (e:VW x LB Li) (hk:k < Li.length) (hq:(L,sl)=Li[k]) (h:Qi x Li.length L→False):False:=h (by
 have h9:=(e.row k hk).2
 rw [←hq] at h9
 exact h9)
theorem Rf {L:LA} {N:Nat} (h:oI (dZ L) N):L.length≤N:=by
 rcases Nat.eq_zero_or_pos L.length with h0|h0
 ·omega
 have:=Hw h (by simp [dZ];omega)
 simpa [dZ] using this
theorem sJ (r:dS) (z1 z2:Int) (sg sk sc:Value) (W:World) (h1:z1=r.gen.width) (h2:z2=r.kill.width) (h:bN No W sg sk sc r):
  Calls Tryz.prog 38 #[.agg #[.int .i64 z1,sg,.int .i64 z2,sk,sc]] W (bZ (gu r) W):=by
 subst h1 h2
 exact iN r sg sk sc W h
theorem Ox {Li:fe} {a b:Nat} (h:a≤b):jS Li a≤jS Li b:=by
 unfold jS
 obtain ⟨d,rfl⟩:∃d,b=a+d:=⟨b - a,by omega⟩
 rw [List.take_add,List.map_append,List.sum_append]
 exact Nat.le_add_right _ _
set_option maxRecDepth 100000 in
set_option maxHeartbeats 16000000 in
theorem kr (x:Int) (vb vi:Value) (LB:LS) (Li:fe) (W:World) (h:YW No W vb vi LB Li):
  Calls Tryz.prog 11 #[.agg #[.int .i64 x,vb,vi]] W (kz (VW x LB Li) W):=by
 have H:=aa h
 obtain ⟨ab,cb,rfl⟩:=h.b.slice
 obtain ⟨ai,ci,rfl⟩:=h.i.slice
 have abF:=h.b.row.2.1
 have ac0:=h.i.row.2.1
 clear h
 go_enter Tryz.func11,Tryz.ntmps11
 go_upto_region 2 with (fail)
 have hx0:Ext No W (W.alloc (.cells #[.int .i64 x,.slice ab LB.length cb,.slice ai Li.length ci] 26)):=(Ext.refl _ _).alloc _
 have HB:=aa (ah (w:=W) (o:= .cells #[.int .i64 x,.slice ab LB.length cb,.slice ai Li.length ci] 26) rfl)
 generalize World.alloc W _=w1 at*
 have cB:=cellOf HB.out
 by_cases c1:x < 0
 ·exact sK
 skip
 by_cases c2:256 < x
 ·exact sK
 skip
 by_cases c3:(LB.length:Int) < 1
 ·exact sM
 skip
 by_cases c4:256 < (LB.length:Int)
 ·exact sM
 skip
 by_cases c5:Li.length=LB.length
 ·have c5':((Li.length:Int) != (LB.length:Int))=false:=by simp [c5]
  have C5:=aa c5
  clear c5
  go_wp2_with fail
  have HX:=aa hx0
  clear hx0 cB
  go_loopw [4,5,6,7] (fun ev i _ _ wr=>∃k:Nat,i= .int .i64 k∧ev= .int .i64 (jS Li k:Nat)∧k≤LB.length∧jS Li k≤k*256∧Hid (Ext No w1 wr)∧Hid (∀j (hj:j < LB.length),j < k→ze x LB[j].1)∧Hid (∀j (hj:j < Li.length),j < k→Qi x Li.length Li[j].1)) (fun _ i _ _ _=>LB.length - (intOf i).toNat)
  case atStart=>exact ⟨0,rfl,rfl,Nat.zero_le _,Nat.zero_le _,Ext.refl _ _,aa (fun j _ hj=>absurd hj (Nat.not_lt_zero _)),aa (fun j _ hj=>absurd hj (Nat.not_lt_zero _))⟩
  obtain ⟨k,rfl,rfl,hk,hsum,hx,hm1,hm2⟩:=hrel
  rename World=>wr
  by_cases hlt:k < LB.length
  ·have hlz:(k:Int) < (LB.length:Int):=by omega
   have hkl:k < Li.length:=by rw [C5];exact hlt
   have abG:(k:Int) < (Li.length:Int):=by omega
   have pJ:=aa hkl
   have CF:=HX.af hx
   obtain ⟨bs,os,ks,hsl,-,-,Qj⟩:=H.b.atS hlt
   simp only [Value.slice.injEq] at hsl
   obtain ⟨rfl,_,rfl⟩:=hsl
   obtain ⟨s0,s1⟩:=Qj k hlt
   obtain ⟨bi,oi,ki,kC,-,-,hcell⟩:=(H.aj CF).i.atL hkl
   simp only [Value.slice.injEq] at kC
   obtain ⟨rfl,-,rfl⟩:=kC
   have ga:=hcell k hkl
   have hs0:aU No wr LB[k].2 LB[k].1.words:=(H.b.ok LB[k] (List.getElem_mem hlt)).aj CF
   replace s0:=CF.keep s0
   replace s1:=CF.keep s1
   obtain ⟨⟨L,sl⟩,hq⟩:∃q,q=Li[k]'pJ.out:=⟨_,rfl⟩
   have hrow:jb kA No wr sl L:=by have h9:=(H.aj CF).i.ok _ (List.getElem_mem hkl);rw [←hq] at h9;exact h9
   have hs1:=sF hkl
   rw [←hq] at ga hs1
   simp only at ga hs1
   obtain ⟨s,hse⟩:∃s,s=LB[k]:=⟨_,rfl⟩
   rw [←hse] at s0 s1 hs0
   obtain ⟨f7,f8,Y2⟩:=hs0.slice
   rw [Y2] at s1 hs0
   obtain ⟨aA,cA,rfl⟩:=hrow.slice
   have hn63:=hrow.row.2.1
   have HS:=aa hs0
   have HQS:=aa (And.intro s0 s1)
   have Sm:=aa hse
   have HQ:=aa hq
   have HR:=aa hrow
   obtain ⟨n,hn⟩:∃n,n=L.length:=⟨_,rfl⟩
   have PS:=aa hn
   rw [←hn] at ga hs1 HR hn63
   have HGA:=aa ga
   have HB2:=aa (hx.blk HB ax)
   have cB:=cellOf HB2.out
   clear Qj hcell CF s0 s1 hs0 hse hq hrow ga hn Y2 hkl
   cases hu:fH s.1 with
   |false=>
    have HU:=aa hu
    clear hu
    go_upto_region 8 with (fail)
    clear cB
    refine uW (fun w'=>Ext No wr w') aS fun hHeld=>?_
    refine uO [0,1,2,3,4] ?_
    iterate 4 refine uT ?_ (hy:=bI)
    refine uT ?_ (hy:=lH)
    refine uZ ?_
    refine hHc 5 fun K hK=>?_
    ((have eX:Ext No wr _:=hHeld);go_simp;(go_at_call 37);(refine (dL _ s.1 _ ⟨_,rfl,HS.out.aj eX⟩).mono ?_);(rintro e7 w7 ⟨rfl,aF⟩);(rw [HU.out]);go_simp)
    refine uK hK dX ?_
    clear hK K hHeld
    intro hHeld
    refine uO [6,7,8,9,10,11,12,13,14,15,16,17,18,19,20,21,22,23,24,25,26,27] ?_
    iterate 2 refine uT ?_
    iterate 9 refine uS ?_
    iterate 2 refine uT ?_
    iterate 8 refine uS ?_
    refine uT ?_
    refine uZ ?_
    refine uD ?_
    have eX:Ext No wr _:=hHeld
    go_wp2_with fail
    go_ret
    exact aP (fun e=>by have h:=(e.bn _ (List.getElem_mem hlt)).1;rw [←Sm,HU] at h;cases h) (HX.af (hx.af eX))
   |true=>
    have HU:=aa hu
    clear hu
    by_cases hz:s.1.width=x
    ·have hz':(s.1.width != x)=false:=by simp [hz]
     have HZ:=aa hz
     clear hz
     by_cases hnl:(LB.length:Int) < (n:Int)
     ·skip
      go_upto_region 8 with (fail)
      clear cB
      refine uW (fun w'=>Ext No wr w') aS fun hHeld=>?_
      refine uO [0,1,2,3,4] ?_
      iterate 4 refine uT ?_ (hy:=bI)
      refine uT ?_ (hy:=lH)
      refine uZ ?_
      refine hHc 5 fun K hK=>?_
      ((have eX:Ext No wr _:=hHeld);go_simp;(go_at_call 37);(refine (dL _ s.1 _ ⟨_,rfl,HS.out.aj eX⟩).mono ?_);(rintro e7 w7 ⟨rfl,aF⟩);(rw [HU.out]);go_simp)
      refine uK hK dX ?_
      clear hK K hHeld
      intro hHeld
      refine uO [6,7,8,9,10,11,12,13,14,15,16,17,18,19,20,21,22,23,24,25,26,27] ?_
      iterate 7 refine uT ?_ (hy:=bI)
      iterate 2 refine uT ?_ (hy:=oW)
      iterate 8 refine uT ?_ (hy:=bI)
      iterate 5 refine uT ?_ (hy:=Ec)
      refine uZ ?_
      refine uD ?_
      have eX:Ext No wr _:=hHeld
      go_wp2_with fail
      go_ret
      exact aP (fun e=>xE e pJ HQ (fun hr=>by have h:=Rf hr.1;have:=PS.out;have:=C5.out;omega)) (HX.af (hx.af eX))
     go_upto_region 8 with (fail)
     clear cB
     refine uW (fun w'=>Ext No wr w') aS fun hHeld=>?_
     refine uO [0,1,2,3,4] ?_
     iterate 4 refine uT ?_ (hy:=bI)
     refine uT ?_ (hy:=lH)
     refine uZ ?_
     refine hHc 5 fun K hK=>?_
     ((have eX:Ext No wr _:=hHeld);go_simp;(go_at_call 37);(refine (dL _ s.1 _ ⟨_,rfl,HS.out.aj eX⟩).mono ?_);(rintro e7 w7 ⟨rfl,aF⟩);(rw [HU.out]);go_simp)
     refine uK hK dX ?_
     clear hK K hHeld
     intro hHeld
     refine uO [6,7,8,9,10,11,12,13,14,15,16,17,18,19,20,21,22,23,24,25,26,27] ?_
     iterate 7 refine uT ?_ (hy:=bI)
     iterate 2 refine uT ?_ (hy:=oW)
     iterate 8 refine uT ?_ (hy:=bI)
     iterate 5 refine uT ?_ (hy:=Ec)
     refine uZ ?_
     refine uD ?_
     have eX:Ext No wr _:=hHeld
     have cB:=cellOf (eX.blk HB2 ax)
     have ga:=eX.keep HGA
     have ji:=aa (hx.af eX)
     have KR:n≤LB.length:=by omega
     go_wp2_with fail
     clear cB ga
     go_loopw [6,7] (fun s6 _ wx=>∃j:Nat,s6= .int .i64 j∧j≤n∧Hid (Ext No wr wx)∧Hid (∀i (hi:i < L.length),i < j→0≤L[i].1∧L[i].1 < (LB.length:Int)∧(0 < i→(L[i - 1]'(by omega)).1 < L[i].1)∧gu L[i].2.1=true∧L[i].2.1.gen.width=x)) (fun s6 _ _=>n - (intOf s6).toNat)
     case atStart=>exact ⟨0,rfl,Nat.zero_le _,eX,aa (fun i _ hi=>absurd hi (Nat.not_lt_zero _))⟩
     clear ji
     obtain ⟨j,rfl,hj,IJ,hrj⟩:=hrel
     rename World=>wx
     have cB:=cellOf (IJ.blk HB2 ax)
     have ga:=IJ.keep HGA
     by_cases hlt2:j < n
     ·have hjz:(j:Int) < (n:Int):=by omega
      have Sk:Hid (Value.int .i64 ((j:Int)+1)= .int .i64 ((j+1:Nat):Int)):=aa (by rw [show ((j+1:Nat):Int)=(j:Int)+1 from by omega])
      have hjd:j < L.length:=by have:=PS.out;omega
      have PT:=aa hjd
      obtain ⟨ba,oa,ka,kC,-,-,h4⟩:=(HR.aj IJ).Yo hjd
      rw [←PS] at kC
      simp only [Value.slice.injEq] at kC
      obtain ⟨rfl,-,rfl⟩:=kC
      obtain ⟨cz,c0,c1,c2,c3,c4⟩:=h4 j hjd
      have g5:bN No wx (L[j]'hjd).2.2.1 (L[j]'hjd).2.2.2.1 (L[j]'hjd).2.2.2.2 (L[j]'hjd).2.1:=(HR.aj IJ).ok _ (List.getElem_mem hjd)
      obtain ⟨ag,cg,e1⟩:=g5.gen.slice
      obtain ⟨ak,ck,e2⟩:=g5.kill.slice
      obtain ⟨ac,cc,e3⟩:=Row.slice g5.copies
      rw [e1] at c1 g5
      rw [e2] at c3 g5
      rw [e3] at c4 g5
      have HPV:=aa (show ∀hjp:0 < j,wx.cell? ⟨ba,oa+(j - 1)*6,none⟩=some (.int .i64 (L[j - 1]'(Nat.lt_of_le_of_lt (Nat.sub_le _ _) PT)).1) from fun hjp=>(h4 (j - 1) (by omega)).1)
      obtain ⟨z0,hz0⟩:∃z,z=(L[j]'hjd).1:=⟨_,rfl⟩
      obtain ⟨r,hr⟩:∃r,r=(L[j]'hjd).2.1:=⟨_,rfl⟩
      rw [←hz0] at cz
      rw [←hr] at c0 c1 c2 c3 c4 g5
      have Vw:=aa (show z0=(L[j]'PT.out).1 from hz0)
      have HQR:=aa (show r=(L[j]'PT.out).2.1 from hr)
      obtain ⟨z1,hz1⟩:∃z,z=r.gen.width:=⟨_,rfl⟩
      obtain ⟨z2,hz2⟩:∃z,z=r.kill.width:=⟨_,rfl⟩
      obtain ⟨n1,hn1⟩:∃z,z=r.gen.words.length:=⟨_,rfl⟩
      obtain ⟨n2,hn2⟩:∃z,z=r.kill.words.length:=⟨_,rfl⟩
      obtain ⟨n3,hn3⟩:∃z,z=r.copies.length:=⟨_,rfl⟩
      rw [←hz1] at c0
      rw [←hz2] at c2
      rw [←hn1] at c1
      rw [←hn2] at c3
      rw [←hn3] at c4
      have HT0:=aa (show bN No wx (.slice ag n1 cg) (.slice ak n2 ck) (.slice ac n3 cc) r from by rw [hn1,hn2,hn3];exact g5)
      have HZ1:=aa hz1
      have HZ2:=aa hz2
      clear h4 g5 e1 e2 e3 hz0 hr hz1 hz2 hn1 hn2 hn3 hjd
      go_upto_region 14 with (fail)
      have Ko:=IJ.af ((Ext.refl No wx).alloc (.cells #[.int .i64 z0,.int .i64 z1,.slice ag n1 cg,.int .i64 z2,.slice ak n2 ck,.slice ac n3 cc] 49))
      have HF:=aa (ah (w:=wx) (o:=(.cells #[.int .i64 z0,.int .i64 z1,.slice ag n1 cg,.int .i64 z2,.slice ak n2 ck,.slice ac n3 cc] 49)) rfl)
      have HT:=aa (HT0.aj ((Ext.refl No wx).alloc (.cells #[.int .i64 z0,.int .i64 z1,.slice ag n1 cg,.int .i64 z2,.slice ak n2 ck,.slice ac n3 cc] 49)))
      have HPF:=aa (show ∀hjp:0 < j,(wx.alloc (.cells #[.int .i64 z0,.int .i64 z1,.slice ag n1 cg,.int .i64 z2,.slice ak n2 ck,.slice ac n3 cc] 49)).cell? ⟨ba,oa+(j - 1)*6,none⟩=some (.int .i64 (L[j - 1]'(by have:=PT.out;omega)).1) from fun hjp=>((Ext.refl No wx).alloc (.cells #[.int .i64 z0,.int .i64 z1,.slice ag n1 cg,.int .i64 z2,.slice ak n2 ck,.slice ac n3 cc] 49)).keep (HPV hjp))
      have HGF:=aa (((Ext.refl No wx).alloc (.cells #[.int .i64 z0,.int .i64 z1,.slice ag n1 cg,.int .i64 z2,.slice ak n2 ck,.slice ac n3 cc] 49)).keep ga)
      have HB3:=aa (Ko.blk HB2 ax)
      have Kn:=aa Ko
      have uf:=aa (hx.af Ko)
      clear cz c0 c1 c2 c3 c4 cB ga Ko HT0 HPV
      generalize World.alloc wx _=wf at*
      generalize wx.heap.size=B6 at*
      have hwj:j≤9223372036854775807:=by omega
      by_cases h1:z0 < 0
      ·skip
       go_upto_region 14 with (fail)
       refine uW (fun w'=>Ext No wf w') aS fun hHeld=>?_
       refine uO [0,1,2,3,4,5,6,7,8,9,10,11,12,13,14,15,16,17,18,19,20,21,22,23,24,25,26,27,28,29,30,31,32,33,34,35,36,37,38,39,40,41,42] ?_
       iterate 4 refine uT ?_ (hy:=eF)
       iterate 4 refine uS ?_
       iterate 2 refine uT ?_
       iterate 17 refine uS ?_
       iterate 2 refine uT ?_
       iterate 4 refine uS ?_
       iterate 2 refine uT ?_
       iterate 7 refine uS ?_
       refine uT ?_
       refine uZ ?_
       refine uD ?_
       have eX:Ext No wf _:=hHeld
       go_wp2_with fail
       go_ret
       exact aP (fun e=>xE e pJ HQ (fun hr=>by have h:=hr.1 j (by simp [dZ];exact PT);simp only [dZ,List.getElem_map] at h;rw [←Vw] at h;have:=h.1;omega)) (HX.af (uf.af eX))
      by_cases h2:(LB.length:Int)≤z0
      ·skip
       go_upto_region 14 with (fail)
       refine uW (fun w'=>Ext No wf w') aS fun hHeld=>?_
       refine uO [0,1,2,3,4,5,6,7,8,9,10,11,12,13,14,15,16,17,18,19,20,21,22,23,24,25,26,27,28,29,30,31,32,33,34,35,36,37,38,39,40,41,42] ?_
       iterate 10 refine uT ?_ (hy:=eF)
       iterate 17 refine uS ?_
       iterate 2 refine uT ?_
       iterate 4 refine uS ?_
       iterate 2 refine uT ?_
       iterate 7 refine uS ?_
       refine uT ?_
       refine uZ ?_
       refine uD ?_
       have eX:Ext No wf _:=hHeld
       go_wp2_with fail
       go_ret
       exact aP (fun e=>xE e pJ HQ (fun hr=>by have h:=hr.1 j (by simp [dZ];exact PT);simp only [dZ,List.getElem_map] at h;rw [←Vw] at h;have:=h.2.1;have:=C5.out;omega)) (HX.af (uf.af eX))
      by_cases h3:j=0
      ·have acR:¬(0:Int) < (j:Int):=by omega
       have acQ:¬0 < j:=by omega
       have HJ0:=aa h3
       clear h3
       cases hv:gu r with
       |false=>
        have HV:=aa hv
        clear hv
        go_upto_region 14 with (fail)
        refine uW (fun w'=>Ext No wf w') aS fun hHeld=>?_
        refine uO [0,1,2,3,4,5,6,7,8,9,10,11,12,13,14,15,16,17,18,19,20,21,22,23,24,25,26,27,28,29,30] ?_
        iterate 13 refine uT ?_ (hy:=eF)
        iterate 13 refine uS ?_
        iterate 5 refine uT ?_ (hy:=eF)
        exact adF
       |true=>
        have HV:=aa hv
        clear hv
        by_cases hw:r.gen.width=x
        ·have hw':(r.gen.width != x)=false:=by simp [hw]
         have hw2:(z1 != x)=false:=by rw [HZ1];exact hw'
         have HW:=aa hw
         clear hw hw'
         go_upto_region 14 with (fail)
         refine uW (fun w'=>Ext No wf w') aS fun hHeld=>?_
         refine uO [0,1,2,3,4,5,6,7,8,9,10,11,12,13,14,15,16,17,18,19,20,21,22,23,24,25,26,27,28,29,30] ?_
         iterate 13 refine uT ?_ (hy:=eF)
         iterate 13 refine uS ?_
         iterate 5 refine uT ?_ (hy:=eF)
         refine uZ ?_
         refine hHc 31 fun K hK=>?_
         ((have eX:Ext No wf _:=hHeld);go_simp;(go_at_call 38);(refine (sJ r z1 z2 _ _ _ _ HZ1.out HZ2.out (HT.out.aj eX)).mono ?_);(rintro e8 w8 ⟨rfl,aF⟩);(rw [HV.out]);go_simp)
         refine uK hK sI ?_
         clear hK K hHeld
         intro hHeld
         refine uO [32,33,34,35,36,37,38,39,40,41,42] ?_
         iterate 8 refine uT ?_ (hy:=eF)
         iterate 3 refine uT ?_ (hy:=lG)
         refine uZ ?_
         refine uD ?_
         have eX:Ext No wf _:=hHeld
         go_wp2_with fail
         go_roundw
         case rel=>exact ⟨j+1,Sk,by omega,Kn.af eX,aa (fun i hi hij=>by
          by_cases e:i=j
          ·subst e
           rw [←Vw,←HQR]
           exact ⟨by omega,by omega,fun e=>absurd e (by have:=HJ0.out;omega),HV,HW⟩
          exact hrj i hi (by omega))⟩
         case measure=>simp [intOf];omega
        have hw':(r.gen.width != x)=true:=by simp [hw]
        have hw2:(z1 != x)=true:=by rw [HZ1];exact hw'
        have HW:=aa hw
        clear hw hw'
        go_upto_region 14 with (fail)
        refine uW (fun w'=>Ext No wf w') aS fun hHeld=>?_
        refine uO [0,1,2,3,4,5,6,7,8,9,10,11,12,13,14,15,16,17,18,19,20,21,22,23,24,25,26,27,28,29,30] ?_
        iterate 13 refine uT ?_ (hy:=eF)
        iterate 13 refine uS ?_
        iterate 5 refine uT ?_ (hy:=eF)
        exact adE
      have hq1:=HPF.out (by omega)
      obtain ⟨y,hy⟩:∃y,y=(L[j - 1]'(by have:=PT.out;omega)).1:=⟨_,rfl⟩
      rw [←hy] at hq1
      have HY:=aa hy
      have HQP:=aa hq1
      clear hy hq1
      have hpos:(0:Int) < (j:Int):=by omega
      have aaY:0 < j:=by omega
      have hlm:IntKind.i64.wrap ((j:Int) - 1)=((j - 1:Nat):Int):=by rw [IntWalk.i64_in _ (by omega)];omega
      have hlp:0≤((j - 1:Nat):Int):=by omega
      have hlq:((j - 1:Nat):Int) < (n:Int):=by omega
      by_cases h4:z0≤y
      ·skip
       go_upto_region 14 with (fail)
       refine uW (fun w'=>Ext No wf w') aS fun hHeld=>?_
       refine uO [0,1,2,3,4,5,6,7,8,9,10,11,12,13,14,15,16,17,18,19,20,21,22,23,24,25,26,27,28,29,30,31,32,33,34,35,36,37,38,39,40,41,42] ?_
       iterate 14 refine uT ?_ (hy:=eF)
       iterate 3 refine uT ?_ (hy:=lG)
       iterate 5 refine uT ?_ (hy:=sG)
       iterate 2 refine uT ?_ (hy:=sH)
       iterate 5 refine uT ?_ (hy:=eF)
       iterate 4 refine uS ?_
       iterate 2 refine uT ?_
       iterate 7 refine uS ?_
       refine uT ?_
       refine uZ ?_
       refine uD ?_
       have eX:Ext No wf _:=hHeld
       go_wp2_with fail
       go_ret
       exact aP (fun e=>xE e pJ HQ (fun hr=>by have h:=hr.1 j (by simp [dZ];exact PT);simp only [dZ,List.getElem_map] at h;have h9:=h.2.2 (by omega);rw [←Vw,←HY] at h9;omega)) (HX.af (uf.af eX))
      skip
      cases hv:gu r with
      |false=>
       have HV:=aa hv
       clear hv
       go_upto_region 14 with (fail)
       refine uW (fun w'=>Ext No wf w') aS fun hHeld=>?_
       refine uO [0,1,2,3,4,5,6,7,8,9,10,11,12,13,14,15,16,17,18,19,20,21,22,23,24,25,26,27,28,29,30] ?_
       iterate 14 refine uT ?_ (hy:=eF)
       iterate 3 refine uT ?_ (hy:=lG)
       iterate 5 refine uT ?_ (hy:=sG)
       iterate 2 refine uT ?_ (hy:=sH)
       iterate 7 refine uT ?_ (hy:=eF)
       exact adF
      |true=>
       have HV:=aa hv
       clear hv
       by_cases hw:r.gen.width=x
       ·have hw':(r.gen.width != x)=false:=by simp [hw]
        have hw2:(z1 != x)=false:=by rw [HZ1];exact hw'
        have HW:=aa hw
        clear hw hw'
        go_upto_region 14 with (fail)
        refine uW (fun w'=>Ext No wf w') aS fun hHeld=>?_
        refine uO [0,1,2,3,4,5,6,7,8,9,10,11,12,13,14,15,16,17,18,19,20,21,22,23,24,25,26,27,28,29,30] ?_
        iterate 14 refine uT ?_ (hy:=eF)
        iterate 3 refine uT ?_ (hy:=lG)
        iterate 5 refine uT ?_ (hy:=sG)
        iterate 2 refine uT ?_ (hy:=sH)
        iterate 7 refine uT ?_ (hy:=eF)
        refine uZ ?_
        refine hHc 31 fun K hK=>?_
        ((have eX:Ext No wf _:=hHeld);go_simp;(go_at_call 38);(refine (sJ r z1 z2 _ _ _ _ HZ1.out HZ2.out (HT.out.aj eX)).mono ?_);(rintro e8 w8 ⟨rfl,aF⟩);(rw [HV.out]);go_simp)
        refine uK hK sI ?_
        clear hK K hHeld
        intro hHeld
        refine uO [32,33,34,35,36,37,38,39,40,41,42] ?_
        iterate 8 refine uT ?_ (hy:=eF)
        iterate 3 refine uT ?_ (hy:=lG)
        refine uZ ?_
        refine uD ?_
        have eX:Ext No wf _:=hHeld
        go_wp2_with fail
        go_roundw
        case rel=>exact ⟨j+1,Sk,by omega,Kn.af eX,aa (fun i hi hij=>by
         by_cases e:i=j
         ·subst e
          rw [←Vw,←HQR]
          exact ⟨by omega,by omega,fun _=>by rw [←HY];omega,HV,HW⟩
         exact hrj i hi (by omega))⟩
        case measure=>simp [intOf];omega
       have hw':(r.gen.width != x)=true:=by simp [hw]
       have hw2:(z1 != x)=true:=by rw [HZ1];exact hw'
       have HW:=aa hw
       clear hw hw'
       go_upto_region 14 with (fail)
       refine uW (fun w'=>Ext No wf w') aS fun hHeld=>?_
       refine uO [0,1,2,3,4,5,6,7,8,9,10,11,12,13,14,15,16,17,18,19,20,21,22,23,24,25,26,27,28,29,30] ?_
       iterate 14 refine uT ?_ (hy:=eF)
       iterate 3 refine uT ?_ (hy:=lG)
       iterate 5 refine uT ?_ (hy:=sG)
       iterate 2 refine uT ?_ (hy:=sH)
       iterate 7 refine uT ?_ (hy:=eF)
       exact adE
     have abH:¬(j:Int) < (n:Int):=by omega
     have hjn:j=n:=by omega
     subst hjn
     have GQ:=aa (show Value.int .i64 ((jS Li k:Int)+(j:Int))= .int .i64 (jS Li (k+1):Nat) from by rw [hs1];simp)
     have hwr:IntKind.i64.wrap ((jS Li k:Int)+(j:Int))=(jS Li k:Int)+(j:Int):=IntWalk.i64_in _ (by omega)
     have hnx2:jS Li (k+1)≤(k+1)*256:=by omega
     have HS1:=aa hs1
     clear hs1
     go_wp2_with fail
     clear cB ga
     go_roundw
     case rel=>exact ⟨k+1,by go_num,GQ,by omega,hnx2,hx.af IJ,aa (fun i h1 h2=>by
      by_cases e:i=k
      ·subst e;rw [←Sm];exact ⟨HU.out,HZ⟩
      ·exact hm1 i h1 (by omega)),aa (fun i h1 h2=>by
      by_cases e:i=k
      ·subst e
       rw [←HQ]
       refine ⟨fun a ha=>?_,fun q hq=>?_⟩
       ·have ha2:a < L.length:=by simpa [dZ] using ha
        simp only [dZ,List.getElem_map]
        obtain ⟨g1,g2,g3,-,-⟩:=hrj.out a ha2 (by have:=PS.out;omega)
        exact ⟨g1,by rw [C5];exact g2,g3⟩
       obtain ⟨a,ha,rfl⟩:=List.getElem_of_mem hq
       have ha2:a < L.length:=ha
       obtain ⟨-,-,-,g4,g5⟩:=hrj.out a ha2 (by have:=PS.out;omega)
       exact ⟨g4,g5⟩
      exact hm2 i h1 (by omega))⟩
     case measure=>simp [intOf];omega
    have hz':(s.1.width != x)=true:=by simp [hz]
    have HZ:=aa hz
    go_upto_region 8 with (fail)
    clear cB
    refine uW (fun w'=>Ext No wr w') aS fun hHeld=>?_
    refine uO [0,1,2,3,4] ?_
    iterate 4 refine uT ?_ (hy:=bI)
    refine uT ?_ (hy:=lH)
    refine uZ ?_
    refine hHc 5 fun K hK=>?_
    ((have eX:Ext No wr _:=hHeld);go_simp;(go_at_call 37);(refine (dL _ s.1 _ ⟨_,rfl,HS.out.aj eX⟩).mono ?_);(rintro e7 w7 ⟨rfl,aF⟩);(rw [HU.out]);go_simp)
    refine uK hK dX ?_
    clear hK K hHeld
    intro hHeld
    refine uO [6,7,8,9,10,11,12,13,14,15,16,17,18,19,20,21,22,23,24,25,26,27] ?_
    iterate 7 refine uT ?_ (hy:=bI)
    iterate 2 refine uT ?_ (hy:=oW)
    iterate 4 refine uT ?_ (hy:=bI)
    iterate 8 refine uS ?_
    refine uT ?_
    refine uZ ?_
    refine uD ?_
    have eX:Ext No wr _:=hHeld
    go_wp2_with fail
    go_ret
    exact aP (fun e=>by have h:=(e.bn _ (List.getElem_mem hlt)).2;rw [←Sm] at h;exact HZ h) (HX.af (hx.af eX))
  have hge:¬(k:Int) < (LB.length:Int):=by omega
  have hkn:k=LB.length:=by omega
  subst hkn
  by_cases hs:jS Li LB.length≤1024
  ·have hs':(jS Li LB.length:Int)≤1024:=by omega
   have HS:=aa hs
   clear hs
   go_wp2_with fail
   go_ret
   refine iw ⟨by omega,by have:=C5.out;omega,C5.symm,fun p hp=>?_,fun j hj=>⟨?_,hm2 j hj (by have:=C5.out;omega)⟩⟩ (HX.af hx)
   ·obtain ⟨j,hj,rfl⟩:=List.getElem_of_mem hp
    exact hm1 j hj hj
   exact Nat.le_trans (Ox (by have:=C5.out;omega)) HS
  have hs':¬(jS Li LB.length:Int)≤1024:=by omega
  have HS:=aa hs
  clear hs
  go_wp2_with fail
  go_ret
  exact aP (fun e=>HS (by
   have h9:=(e.row (LB.length - 1) (by have:=C5.out;omega)).1
   rw [show LB.length - 1+1=LB.length by omega] at h9
   exact h9)) (HX.af hx)
 have c5':((Li.length:Int) != (LB.length:Int))=true:=by simp;omega
 have abI:¬((Li.length:Int)=(LB.length:Int)):=by omega
 have C5:=aa c5
 clear c5
 go_wp2_with fail
 go_ret
 exact aP (fun e=>C5 e.lb.symm) hx0

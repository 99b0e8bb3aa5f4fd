
import Derived.Test.YtmddchceacmopaaGreatDoorI0
set_option linter.unusedVariables false
set_option linter.unusedSimpArgs false
namespace Go.Proofs.YtmddchceacmopaaGreatDoor
open Go Go.RowKit
theorem nH {p:Prop} (h:p:=by intro w hSw;(have fG:Ext No wr _:=hSw);(have q0:=fG.keep HQD);go_simp;(try with_reducible rfl)):p:=h
theorem pg {p:Prop} (h:p:=by intro w hSw;(have fG:Ext No wr _:=hSw);(obtain ⟨p0,p1,p2,p3,p4⟩:=YS.out);(have x0:=fG.keep p0);(have x1:=fG.keep p1);(have x2:=fG.keep p2);(have x3:=fG.keep p3);(have x4:=fG.keep p4);go_simp;(try with_reducible rfl)):p:=h
theorem tO {p:Prop} (h:p:=by intro w hSw;(have fG:Ext No wr _:=hSw);(obtain ⟨p0,p1,p2,p3,p4⟩:=YS.out);(have q0:=fG.keep p0);go_simp;(try with_reducible rfl)):p:=h
set_option maxRecDepth 100000 in
set_option maxHeartbeats 16000000 in
theorem Cu (x:Int) (vd vt vb:Value) (Ld:LD) (Lt:LT) (Lb:LS) (W:World) (h:G9 No W vd vt vb Ld Lt Lb):
  Calls Tryz.prog 62 #[.agg #[.int .i64 x,vd,vt,vb]] W (kz (VS x Ld Lt Lb) W):=by
 have H:=aa h
 obtain ⟨ad,cd,rfl⟩:=h.d.slice
 obtain ⟨MG,ct,rfl⟩:=h.t.slice
 obtain ⟨ab,cb,rfl⟩:=h.b.slice
 have hld:=h.d.row.2.1
 have IU:=h.t.row.2.1
 have abF:=h.b.row.2.1
 clear h
 go_enter Tryz.func62,Tryz.ntmps62
 go_upto_region 2 with (fail)
 have hx0:Ext No W (W.alloc (.cells #[.int .i64 x,.slice ad Ld.length cd,.slice MG Lt.length ct,.slice ab Lb.length cb] 55)):=(Ext.refl _ _).alloc _
 have HB:=aa (ah (w:=W) (o:= .cells #[.int .i64 x,.slice ad Ld.length cd,.slice MG Lt.length ct,.slice ab Lb.length cb] 55) rfl)
 generalize World.alloc W _=w1 at*
 have cB:=cellOf HB.out
 by_cases c1:x < 0
 ·exact sK
 skip
 by_cases c2:256 < x
 ·exact sK
 skip
 by_cases c3:(Lb.length:Int) < 1
 ·exact sM
 skip
 by_cases c4:256 < (Lb.length:Int)
 ·exact sM
 skip
 by_cases c5:Ld.length=Lb.length
 ·have c5':((Ld.length:Int) != (Lb.length:Int))=false:=by simp [c5]
  have C5:=aa c5
  clear c5
  by_cases c6:Lt.length=Lb.length
  ·have c6':((Lt.length:Int) != (Lb.length:Int))=false:=by simp [c6]
   have C6:=aa c6
   clear c6
   go_wp2_with fail
   have HX:=aa hx0
   clear hx0 cB
   go_loopw [4,5] (fun ev i wr=>∃k:Nat,i= .int .i64 k∧ev= .int .i64 (qL (Ld.take k):Nat)∧k≤Lb.length∧qL (Ld.take k)≤k*256∧Hid (Ext No w1 wr)∧Hid (∀j (hj:j < Ld.length),j < k→oI Ld[j].1 Ld.length)∧Hid (∀j (hj:j < Lt.length),j < k→Af x Lt[j].1)∧Hid (∀j (hj:j < Lb.length),j < k→ze x Lb[j].1)) (fun _ i _=>Lb.length - (intOf i).toNat)
   case atStart=>exact ⟨0,rfl,rfl,Nat.zero_le _,Nat.zero_le _,Ext.refl _ _,aa (fun j _ hj=>absurd hj (Nat.not_lt_zero _)),aa (fun j _ hj=>absurd hj (Nat.not_lt_zero _)),aa (fun j _ hj=>absurd hj (Nat.not_lt_zero _))⟩
   obtain ⟨k,rfl,rfl,hk,hsum,hx,hm1,hm2,gX⟩:=hrel
   rename World=>wr
   have hk8:k≤256:=by omega
   by_cases hlt:k < Lb.length
   ·have hlz:(k:Int) < (Lb.length:Int):=by omega
    have Qo:k < Ld.length:=by rw [C5];exact hlt
    have hlt2:k < Lt.length:=by rw [C6];exact hlt
    have abG:(k:Int) < (Ld.length:Int):=by omega
    have adm:(k:Int) < (Lt.length:Int):=by omega
    have CF:=HX.af hx
    obtain ⟨b,off,cap',hsl,hb1,_,hcell⟩:=H.d.atD Qo
    simp only [Value.slice.injEq] at hsl
    obtain ⟨rfl,_,rfl⟩:=hsl
    have q0:=CF.keep (hcell k Qo)
    obtain ⟨bt,ot,kt,hsl,hbt,_,aaE⟩:=H.t.atT hlt2
    simp only [Value.slice.injEq] at hsl
    obtain ⟨rfl,_,rfl⟩:=hsl
    obtain ⟨t0,t1,t2,t3,t4⟩:=aaE k hlt2
    obtain ⟨bs,os,ks,hsl,hbs,_,Qj⟩:=H.b.atS hlt
    simp only [Value.slice.injEq] at hsl
    obtain ⟨rfl,_,rfl⟩:=hsl
    obtain ⟨s0,s1⟩:=Qj k hlt
    have hd0:Ints No wr .i64 Ld[k].2 Ld[k].1:=Row.aj (H.d.ok Ld[k] (List.getElem_mem Qo)) CF
    have hr0:bN No wr Lt[k].2.1 Lt[k].2.2.1 Lt[k].2.2.2 Lt[k].1:=(H.t.ok Lt[k] (List.getElem_mem hlt2)).aj CF
    have hs0:aU No wr Lb[k].2 Lb[k].1.words:=(H.b.ok Lb[k] (List.getElem_mem hlt)).aj CF
    replace t0:=CF.keep t0
    replace t1:=CF.keep t1
    replace t2:=CF.keep t2
    replace t3:=CF.keep t3
    replace t4:=CF.keep t4
    replace s0:=CF.keep s0
    replace s1:=CF.keep s1
    have HNX:=aa (OT Qo)
    obtain ⟨d,hd⟩:∃d,d=Ld[k]:=⟨_,rfl⟩
    obtain ⟨t,hte⟩:∃t,t=Lt[k]:=⟨_,rfl⟩
    obtain ⟨s,hse⟩:∃s,s=Lb[k]:=⟨_,rfl⟩
    rw [←hd] at q0 hd0 HNX
    rw [←hte] at t0 t1 t2 t3 t4 hr0
    rw [←hse] at s0 s1 hs0
    clear hcell aaE Qj hb1 hbt hbs CF
    obtain ⟨e1,e2,he1⟩:=Row.slice hd0
    obtain ⟨f1,f2,he2⟩:=hr0.gen.slice
    obtain ⟨f3,f4,he3⟩:=hr0.kill.slice
    obtain ⟨f5,f6,he4⟩:=Row.slice hr0.copies
    obtain ⟨f7,f8,Y2⟩:=hs0.slice
    have hdl:=hd0.2.1
    rw [he1] at q0 hd0
    rw [he2] at t1 hr0
    rw [he3] at t3 hr0
    rw [he4] at t4 hr0
    rw [Y2] at s1 hs0
    clear he1 he2 he3 he4 Y2
    have HD:=aa hd0
    have HT:=aa hr0
    have HS:=aa hs0
    have HQD:=aa q0
    have YS:=aa (And.intro t0 (And.intro t1 (And.intro t2 (And.intro t3 t4))))
    have HQS:=aa (And.intro s0 s1)
    have HDE:=aa hd
    have HTE:=aa hte
    have Sm:=aa hse
    have HB2:=aa (hx.blk HB ax)
    have cB:=cellOf HB2.out
    have xu:Hid (k < Ld.length):=aa Qo
    have HL2:Hid (k < Lt.length):=aa hlt2
    clear hd0 hr0 hs0 t0 t1 t2 t3 t4 s0 s1 hd hte hse
    by_cases hr:oI d.1 Lb.length
    ·have HR:=aa hr
     clear hr
     cases hv:gu t.1 with
     |false=>
      have HV:=aa hv
      clear hv
      go_upto_region 8 with (fail)
      clear cB q0
      refine uW (fun w'=>Ext No wr w') aS fun hHeld=>?_
      refine uO [0,1,2,3,4,5] ?_
      iterate 4 refine uT ?_ (hy:=bI)
      iterate 2 refine uT ?_ (hy:=nH)
      refine uZ ?_
      refine hHc 6 fun K hK=>?_
      ((have eX:Ext No wr _:=hHeld);go_simp;(go_at_call 96);(refine (lT _ d.1 _ _ (Row.aj HD eX)).mono ?_);(rintro e9 w9 ⟨b9,rfl,pM,aF⟩);(obtain rfl:=mM pM HR);(clear pM);go_simp)
      refine uK hK dX ?_
      clear hK K hHeld
      intro hHeld
      refine uO [7,8,9,10,11,12,13] ?_
      iterate 6 refine uT ?_ (hy:=bI)
      refine uT ?_ (hy:=pg)
      refine uZ ?_
      refine hHc 14 fun K hK=>?_
      ((have eX:Ext No wr _:=hHeld);go_simp;(go_at_call 38);(refine (iN t.1 _ _ _ _ (HT.out.aj eX)).mono ?_);(rintro e8 w8 ⟨rfl,aF⟩);(rw [HV.out]);go_simp)
      refine uK hK dX ?_
      clear hK K hHeld
      intro hHeld
      refine uO [15,16,17,18,19,20,21,22,23,24,25,26,27,28,29,30,31,32,33,34,35,36,37,38,39,40,41,42,43,44,45,46,47,48] ?_
      iterate 3 refine uT ?_
      iterate 10 refine uS ?_
      iterate 2 refine uT ?_
      iterate 7 refine uS ?_
      iterate 2 refine uT ?_
      iterate 9 refine uS ?_
      refine uT ?_
      refine uZ ?_
      refine uD ?_
      have eX:Ext No wr _:=hHeld
      go_wp2_with fail
      go_ret
      exact aP (fun e=>by have h:=(e.jX _ (List.getElem_mem HL2.out)).1;rw [←HTE,HV] at h;cases h) (HX.af (hx.af eX))
     |true=>
      have HV:=aa hv
      clear hv
      by_cases hw:t.1.gen.width=x
      ·have hw':(t.1.gen.width != x)=false:=by simp [hw]
       have HW:=aa hw
       clear hw
       cases hu:fH s.1 with
       |false=>
        have HU:=aa hu
        clear hu
        go_upto_region 8 with (fail)
        clear cB q0
        refine uW (fun w'=>Ext No wr w') aS fun hHeld=>?_
        refine uO [0,1,2,3,4,5] ?_
        iterate 4 refine uT ?_ (hy:=bI)
        iterate 2 refine uT ?_ (hy:=nH)
        refine uZ ?_
        refine hHc 6 fun K hK=>?_
        ((have eX:Ext No wr _:=hHeld);go_simp;(go_at_call 96);(refine (lT _ d.1 _ _ (Row.aj HD eX)).mono ?_);(rintro e9 w9 ⟨b9,rfl,pM,aF⟩);(obtain rfl:=mM pM HR);(clear pM);go_simp)
        refine uK hK dX ?_
        clear hK K hHeld
        intro hHeld
        refine uO [7,8,9,10,11,12,13] ?_
        iterate 6 refine uT ?_ (hy:=bI)
        refine uT ?_ (hy:=pg)
        refine uZ ?_
        refine hHc 14 fun K hK=>?_
        ((have eX:Ext No wr _:=hHeld);go_simp;(go_at_call 38);(refine (iN t.1 _ _ _ _ (HT.out.aj eX)).mono ?_);(rintro e8 w8 ⟨rfl,aF⟩);(rw [HV.out]);go_simp)
        refine uK hK dX ?_
        clear hK K hHeld
        intro hHeld
        refine uO [15,16,17,18,19,20,21,22,23,24,25,26,27,28,29,30,31,32,33,34] ?_
        iterate 9 refine uT ?_ (hy:=bI)
        iterate 2 refine uT ?_ (hy:=tO)
        iterate 8 refine uT ?_ (hy:=bI)
        refine uT ?_ (hy:=lH)
        refine uZ ?_
        refine hHc 35 fun K hK=>?_
        ((have eX:Ext No wr _:=hHeld);go_simp;(go_at_call 37);(refine (dL _ s.1 _ ⟨_,rfl,HS.out.aj eX⟩).mono ?_);(rintro e7 w7 ⟨rfl,aF⟩);(rw [HU.out]);go_simp)
        refine uK hK dX ?_
        clear hK K hHeld
        intro hHeld
        refine uO [36,37,38,39,40,41,42,43,44,45,46,47,48] ?_
        iterate 3 refine uT ?_
        iterate 9 refine uS ?_
        refine uT ?_
        refine uZ ?_
        refine uD ?_
        have eX:Ext No wr _:=hHeld
        go_wp2_with fail
        go_ret
        exact aP (fun e=>by have h:=(e.sets _ (List.getElem_mem hlt)).1;rw [←Sm,HU] at h;cases h) (HX.af (hx.af eX))
       |true=>
        have HU:=aa hu
        clear hu
        by_cases hz:s.1.width=x
        ·have hz':(s.1.width != x)=false:=by simp [hz]
         have HZ:=aa hz
         clear hz
         go_upto_region 8 with (fail)
         clear cB q0
         refine uW (fun w'=>Ext No wr w') aS fun hHeld=>?_
         refine uO [0,1,2,3,4,5] ?_
         iterate 4 refine uT ?_ (hy:=bI)
         iterate 2 refine uT ?_ (hy:=nH)
         refine uZ ?_
         refine hHc 6 fun K hK=>?_
         ((have eX:Ext No wr _:=hHeld);go_simp;(go_at_call 96);(refine (lT _ d.1 _ _ (Row.aj HD eX)).mono ?_);(rintro e9 w9 ⟨b9,rfl,pM,aF⟩);(obtain rfl:=mM pM HR);(clear pM);go_simp)
         refine uK hK dX ?_
         clear hK K hHeld
         intro hHeld
         refine uO [7,8,9,10,11,12,13] ?_
         iterate 6 refine uT ?_ (hy:=bI)
         refine uT ?_ (hy:=pg)
         refine uZ ?_
         refine hHc 14 fun K hK=>?_
         ((have eX:Ext No wr _:=hHeld);go_simp;(go_at_call 38);(refine (iN t.1 _ _ _ _ (HT.out.aj eX)).mono ?_);(rintro e8 w8 ⟨rfl,aF⟩);(rw [HV.out]);go_simp)
         refine uK hK dX ?_
         clear hK K hHeld
         intro hHeld
         refine uO [15,16,17,18,19,20,21,22,23,24,25,26,27,28,29,30,31,32,33,34] ?_
         iterate 9 refine uT ?_ (hy:=bI)
         iterate 2 refine uT ?_ (hy:=tO)
         iterate 8 refine uT ?_ (hy:=bI)
         refine uT ?_ (hy:=lH)
         refine uZ ?_
         refine hHc 35 fun K hK=>?_
         ((have eX:Ext No wr _:=hHeld);go_simp;(go_at_call 37);(refine (dL _ s.1 _ ⟨_,rfl,HS.out.aj eX⟩).mono ?_);(rintro e7 w7 ⟨rfl,aF⟩);(rw [HU.out]);go_simp)
         refine uK hK dX ?_
         clear hK K hHeld
         intro hHeld
         refine uO [36,37,38,39,40,41,42,43,44,45,46,47,48] ?_
         iterate 8 refine uT ?_ (hy:=bI)
         iterate 2 refine uT ?_ (hy:=oW)
         iterate 3 refine uT ?_ (hy:=bI)
         refine uZ ?_
         refine uD ?_
         have eX:Ext No wr _:=hHeld
         have cB:=cellOf (eX.blk HB2 ax)
         have q0:=eX.keep HQD
         have adn:d.1.length≤256:=by
          rcases Nat.eq_zero_or_pos d.1.length with h0|h0
          ·omega
          have:=Hw HR h0
          omega
         have hnx:=HNX.out
         have GQ:=aa (show Value.int .i64 ((qL (Ld.take k):Int)+(d.1.length:Int))= .int .i64 (qL (Ld.take (k+1)):Nat) from by rw [hnx];simp)
         have hnx2:qL (Ld.take (k+1))≤(k+1)*256:=by rw [hnx];omega
         have hwr:IntKind.i64.wrap ((qL (Ld.take k):Int)+(d.1.length:Int))=(qL (Ld.take k):Int)+(d.1.length:Int):=IntWalk.i64_in _ (by omega)
         clear hnx
         go_wp2_with fail
         go_roundw
         case rel=>exact ⟨k+1,by go_num,GQ,by omega,hnx2,hx.af eX,aa (fun j h1 h2=>by
          by_cases e:j=k
          ·subst e;rw [←HDE,C5];exact HR
          ·exact hm1 j h1 (by omega)),aa (fun j h1 h2=>by
          by_cases e:j=k
          ·subst e;rw [←HTE];exact ⟨HV.out,HW⟩
          ·exact hm2 j h1 (by omega)),aa (fun j h1 h2=>by
          by_cases e:j=k
          ·subst e;rw [←Sm];exact ⟨HU.out,HZ⟩
          exact gX j h1 (by omega))⟩
         case measure=>simp [intOf];omega
        have hz':(s.1.width != x)=true:=by simp [hz]
        go_upto_region 8 with (fail)
        clear cB q0
        refine uW (fun w'=>Ext No wr w') aS fun hHeld=>?_
        refine uO [0,1,2,3,4,5] ?_
        iterate 4 refine uT ?_ (hy:=bI)
        iterate 2 refine uT ?_ (hy:=nH)
        refine uZ ?_
        refine hHc 6 fun K hK=>?_
        ((have eX:Ext No wr _:=hHeld);go_simp;(go_at_call 96);(refine (lT _ d.1 _ _ (Row.aj HD eX)).mono ?_);(rintro e9 w9 ⟨b9,rfl,pM,aF⟩);(obtain rfl:=mM pM HR);(clear pM);go_simp)
        refine uK hK dX ?_
        clear hK K hHeld
        intro hHeld
        refine uO [7,8,9,10,11,12,13] ?_
        iterate 6 refine uT ?_ (hy:=bI)
        refine uT ?_ (hy:=pg)
        refine uZ ?_
        refine hHc 14 fun K hK=>?_
        ((have eX:Ext No wr _:=hHeld);go_simp;(go_at_call 38);(refine (iN t.1 _ _ _ _ (HT.out.aj eX)).mono ?_);(rintro e8 w8 ⟨rfl,aF⟩);(rw [HV.out]);go_simp)
        refine uK hK dX ?_
        clear hK K hHeld
        intro hHeld
        refine uO [15,16,17,18,19,20,21,22,23,24,25,26,27,28,29,30,31,32,33,34] ?_
        iterate 9 refine uT ?_ (hy:=bI)
        iterate 2 refine uT ?_ (hy:=tO)
        iterate 8 refine uT ?_ (hy:=bI)
        refine uT ?_ (hy:=lH)
        refine uZ ?_
        refine hHc 35 fun K hK=>?_
        ((have eX:Ext No wr _:=hHeld);go_simp;(go_at_call 37);(refine (dL _ s.1 _ ⟨_,rfl,HS.out.aj eX⟩).mono ?_);(rintro e7 w7 ⟨rfl,aF⟩);(rw [HU.out]);go_simp)
        refine uK hK dX ?_
        clear hK K hHeld
        intro hHeld
        refine uO [36,37,38,39,40,41,42,43,44,45,46,47,48] ?_
        iterate 8 refine uT ?_ (hy:=bI)
        iterate 2 refine uT ?_ (hy:=oW)
        iterate 3 refine uT ?_ (hy:=bI)
        refine uZ ?_
        refine uD ?_
        have eX:Ext No wr _:=hHeld
        go_wp2_with fail
        go_ret
        exact aP (fun e=>by have h:=(e.sets _ (List.getElem_mem hlt)).2;rw [←Sm] at h;exact hz h) (HX.af (hx.af eX))
      have hw':(t.1.gen.width != x)=true:=by simp [hw]
      go_upto_region 8 with (fail)
      clear cB q0
      refine uW (fun w'=>Ext No wr w') aS fun hHeld=>?_
      refine uO [0,1,2,3,4,5] ?_
      iterate 4 refine uT ?_ (hy:=bI)
      iterate 2 refine uT ?_ (hy:=nH)
      refine uZ ?_
      refine hHc 6 fun K hK=>?_
      ((have eX:Ext No wr _:=hHeld);go_simp;(go_at_call 96);(refine (lT _ d.1 _ _ (Row.aj HD eX)).mono ?_);(rintro e9 w9 ⟨b9,rfl,pM,aF⟩);(obtain rfl:=mM pM HR);(clear pM);go_simp)
      refine uK hK dX ?_
      clear hK K hHeld
      intro hHeld
      refine uO [7,8,9,10,11,12,13] ?_
      iterate 6 refine uT ?_ (hy:=bI)
      refine uT ?_ (hy:=pg)
      refine uZ ?_
      refine hHc 14 fun K hK=>?_
      ((have eX:Ext No wr _:=hHeld);go_simp;(go_at_call 38);(refine (iN t.1 _ _ _ _ (HT.out.aj eX)).mono ?_);(rintro e8 w8 ⟨rfl,aF⟩);(rw [HV.out]);go_simp)
      refine uK hK dX ?_
      clear hK K hHeld
      intro hHeld
      refine uO [15,16,17,18,19,20,21,22,23,24,25,26,27,28,29,30,31,32,33,34,35,36,37,38,39,40,41,42,43,44,45,46,47,48] ?_
      iterate 9 refine uT ?_ (hy:=bI)
      iterate 2 refine uT ?_ (hy:=tO)
      iterate 4 refine uT ?_ (hy:=bI)
      iterate 7 refine uS ?_
      iterate 2 refine uT ?_
      iterate 9 refine uS ?_
      refine uT ?_
      refine uZ ?_
      refine uD ?_
      have eX:Ext No wr _:=hHeld
      go_wp2_with fail
      go_ret
      exact aP (fun e=>by have h:=(e.jX _ (List.getElem_mem HL2.out)).2;rw [←HTE] at h;exact hw h) (HX.af (hx.af eX))
    have HR:=aa hr
    clear hr
    go_upto_region 8 with (fail)
    clear cB q0
    refine uW (fun w'=>Ext No wr w') aS fun hHeld=>?_
    refine uO [0,1,2,3,4,5] ?_
    iterate 4 refine uT ?_ (hy:=bI)
    iterate 2 refine uT ?_ (hy:=nH)
    refine uZ ?_
    refine hHc 6 fun K hK=>?_
    ((have eX:Ext No wr _:=hHeld);go_simp;(go_at_call 96);(refine (lT _ d.1 _ _ (Row.aj HD eX)).mono ?_);(rintro e9 w9 ⟨b9,rfl,pM,aF⟩);(obtain rfl:=ow pM HR);(clear pM);go_simp)
    refine uK hK dX ?_
    clear hK K hHeld
    intro hHeld
    refine uO [7,8,9,10,11,12,13,14,15,16,17,18,19,20,21,22,23,24,25,26,27,28,29,30,31,32,33,34,35,36,37,38,39,40,41,42,43,44,45,46,47,48] ?_
    iterate 2 refine uT ?_
    iterate 7 refine uS ?_
    iterate 2 refine uT ?_
    iterate 10 refine uS ?_
    iterate 2 refine uT ?_
    iterate 7 refine uS ?_
    iterate 2 refine uT ?_
    iterate 9 refine uS ?_
    refine uT ?_
    refine uZ ?_
    refine uD ?_
    have eX:Ext No wr _:=hHeld
    go_wp2_with fail
    go_ret
    exact aP (fun e=>by have h:=e.uq _ (List.getElem_mem xu.out);rw [←HDE,C5] at h;exact HR h) (HX.af (hx.af eX))
   have hge:¬(k:Int) < (Lb.length:Int):=by omega
   have hkn:k=Lb.length:=by omega
   subst hkn
   have e1:Ld.take Lb.length=Ld:=List.take_of_length_le (by rw [C5];exact Nat.le_refl _)
   rw [e1] at hsum ⊢
   by_cases hs:qL Ld≤1024
   ·have hs':(qL Ld:Int)≤1024:=by omega
    go_wp2_with fail
    go_ret
    exact iw ⟨by omega,by have:=C5.out;omega,by rw [C6,C5],by rw [C5],fun p hp=>by
     obtain ⟨j,hj,rfl⟩:=List.mem_iff_getElem.1 hp
     exact hm1 j hj (by have:=C5.out;omega),hs,fun p hp=>by
     obtain ⟨j,hj,rfl⟩:=List.mem_iff_getElem.1 hp
     exact gX j hj hj,fun p hp=>by
     obtain ⟨j,hj,rfl⟩:=List.mem_iff_getElem.1 hp
     exact hm2 j hj (by have:=C6.out;omega)⟩ (HX.af hx)
   have hs':¬(qL Ld:Int)≤1024:=by omega
   go_wp2_with fail
   go_ret
   exact aP (fun e=>hs e.tot) (HX.af hx)
  have c6':((Lt.length:Int) != (Lb.length:Int))=true:=by simp;omega
  have ado:¬((Lt.length:Int)=(Lb.length:Int)):=by omega
  go_wp2_with fail
  go_ret
  exact aP (fun e=>c6 (by have:=e.lt;have:=e.lb;omega)) hx0
 have c5':((Ld.length:Int) != (Lb.length:Int))=true:=by simp;omega
 have abI:¬((Ld.length:Int)=(Lb.length:Int)):=by omega
 go_wp2_with fail
 go_ret
 exact aP (fun e=>c5 (by have:=e.lb;omega)) hx0


import Derived.Test.YtmddchceacmopaaGreatDoorC0
import Derived.Test.YtmddchceacmopaaGreatDoorC1
set_option linter.unusedVariables false
set_option linter.unusedSimpArgs false
namespace Go.Proofs.YtmddchceacmopaaGreatDoor
open Go Go.RowKit
theorem wm (M:Nat→Prop) (t:cK) (w:Nat) (sg sk sc:Value) (W:World) (hw:t.w=w) (hM:∀b,M b→b < W.heap.size) (h:dF M W sg sk sc t):
  Calls Tryz.prog 98 #[.agg #[.int .i64 (w:Int),sg,.int .i64 (w:Int),sk,sc]] W (MO M w t.gen (aV t) W):=by
 subst hw;exact lQ M t sg sk sc W hM h
set_option maxRecDepth 100000 in
set_option maxHeartbeats 16000000 in
theorem QT (M:Nat→Prop) (t u:cK) (g1 k1 c1 g2 k2 c2:Value) (W:World) (hM:∀b,M b→b < W.heap.size) (h1:dF M W g1 k1 c1 t) (h2:dF M W g2 k2 c2 u) (hu:u.w=t.w):
  Calls Tryz.prog 105 #[.agg #[.int .i64 (t.w:Int),g1,.int .i64 (t.w:Int),k1,c1],.agg #[.int .i64 (t.w:Int),g2,.int .i64 (t.w:Int),k2,c2]] W (iF M t.w (gP t.gen u.gen) (gy (aV t) (aV u)) W):=by
 have H1:=aa h1
 have H2:=aa h2
 have HM:=aa hM
 have HU:=aa hu
 have hgu:=h2.gen.slice
 have Pv:=h2.kill.slice
 rw [hu] at hgu Pv
 obtain ⟨ag,cg,rfl⟩:=h1.gen.slice
 obtain ⟨ak,ck,rfl⟩:=h1.kill.slice
 obtain ⟨ac,cc,rfl⟩:=Row.slice h1.copies
 obtain ⟨bg,dg,rfl⟩:=hgu
 obtain ⟨bk,dk,rfl⟩:=Pv
 obtain ⟨bc,dc,rfl⟩:=Row.slice h2.copies
 have hw:=h1.ok.w
 have N1:=aa (h1.mono (M':=No) (fun _ _ e=>e.elim))
 have N2:=aa (h2.mono (M':=No) (fun _ _ e=>e.elim))
 clear h1 h2 hu hM
 go_enter Tryz.func105,Tryz.ntmps105
 go_wp2_with fail
 have hx0:Ext No W (((W.alloc (.cells #[.int .i64 (t.w:Int),.slice ag (nw t.w) cg,.int .i64 (t.w:Int),.slice ak (nw t.w) ck,.slice ac t.copies.length cc] 47)).alloc (.cells #[.int .i64 (t.w:Int),.slice bg (nw t.w) dg,.int .i64 (t.w:Int),.slice bk (nw t.w) dk,.slice bc u.copies.length dc] 47)).alloc (.cells #[.int .i64 0,.slice none 0 0,.int .i64 0,.slice none 0 0,.slice none 0 0] 47)):=((((Ext.refl _ _).alloc _).alloc _)).alloc _
 have hA:(((W.alloc (.cells #[.int .i64 (t.w:Int),.slice ag (nw t.w) cg,.int .i64 (t.w:Int),.slice ak (nw t.w) ck,.slice ac t.copies.length cc] 47)).alloc (.cells #[.int .i64 (t.w:Int),.slice bg (nw t.w) dg,.int .i64 (t.w:Int),.slice bk (nw t.w) dk,.slice bc u.copies.length dc] 47)).alloc (.cells #[.int .i64 0,.slice none 0 0,.int .i64 0,.slice none 0 0,.slice none 0 0] 47)).heap[W.heap.size]? =some (.cells #[.int .i64 (t.w:Int),.slice ag (nw t.w) cg,.int .i64 (t.w:Int),.slice ak (nw t.w) ck,.slice ac t.copies.length cc] 47 (0,0)):=ay (ay (ah rfl))
 have hB:(((W.alloc (.cells #[.int .i64 (t.w:Int),.slice ag (nw t.w) cg,.int .i64 (t.w:Int),.slice ak (nw t.w) ck,.slice ac t.copies.length cc] 47)).alloc (.cells #[.int .i64 (t.w:Int),.slice bg (nw t.w) dg,.int .i64 (t.w:Int),.slice bk (nw t.w) dk,.slice bc u.copies.length dc] 47)).alloc (.cells #[.int .i64 0,.slice none 0 0,.int .i64 0,.slice none 0 0,.slice none 0 0] 47)).heap[W.heap.size+1]? =some (.cells #[.int .i64 (t.w:Int),.slice bg (nw t.w) dg,.int .i64 (t.w:Int),.slice bk (nw t.w) dk,.slice bc u.copies.length dc] 47 (0,0)):=ay (ah (by simp))
 have hC:(((W.alloc (.cells #[.int .i64 (t.w:Int),.slice ag (nw t.w) cg,.int .i64 (t.w:Int),.slice ak (nw t.w) ck,.slice ac t.copies.length cc] 47)).alloc (.cells #[.int .i64 (t.w:Int),.slice bg (nw t.w) dg,.int .i64 (t.w:Int),.slice bk (nw t.w) dk,.slice bc u.copies.length dc] 47)).alloc (.cells #[.int .i64 0,.slice none 0 0,.int .i64 0,.slice none 0 0,.slice none 0 0] 47)).heap[W.heap.size+2]? =some (.cells #[.int .i64 0,.slice none 0 0,.int .i64 0,.slice none 0 0,.slice none 0 0] 47 (0,0)):=ah (by simp)
 generalize World.alloc (World.alloc (World.alloc W _) _) _=W2 at*
 refine (MN t u _ _ _ _ _ _ _ HU (N1.aj hx0) (N2.aj hx0)).mono ?_
 rintro e1 w1 ⟨rfl,hx1⟩
 have hx:=aa (hx0.af hx1)
 have HA:=aa (hx1.blk hA ax)
 have HB:=aa (hx1.blk hB ax)
 have HC:=aa (hx1.blk hC ax)
 clear hx0 hx1 hA hB hC N1 N2
 have cA:=cellOf HA.out
 have cB:=cellOf HB.out
 go_wp2_with fail
 clear cA cB
 go_cut [7,8] (fun s7 s8 wx=>QC M 121 W.heap.size w1 wx t.w t.gen (aV t) u.gen (aV u) s7 s8)
 case first=>exact adV
 case rest=>
  obtain ⟨D1,D2,a1,c1,b1,d1,a2,c2,b2,d2,rfl,rfl,hJ⟩:=hcut
  rename World=>V
  have hm:=aa (Cz.start HM hx HC hJ rfl)
  have xu:Hid ((aV t).length=t.w):=aa (lC _ _)
  have HL2:Hid ((aV u).length=t.w):=aa (by rw [show (aV u).length=u.w from lC _ _,HU])
  clear hJ HA HB HC hx H1 H2 HU
  have zJ:=cellOf hm.jC
  have Tf:=cellOf hm.r2.1
  go_wp2_with fail
  refine (oV (fun b=>(M b∨b=W.heap.size+2∨b=D1)∨(Value.slice b1 (aV t).length d1).ownBlock=some b) t.w t.gen u.gen _ _ _ (hm.hM HM) hm.rows.set.no hm.r2.2.2.set.no).mono ?_
  rintro e3 w3 ⟨a3,c3,rfl,hs3,hx3⟩
  have gX:=aa (hm.aC (jr _ _ _ _ _ _) hx3)
  clear hm hx3 zJ Tf
  have zJ:=cellOf gX.jC
  have Wl:=aH gX.jC
  have og:=aa (gX.KC (jr _ _ _ _ _ _) hs3)
  have NE:=cellOf og.jC
  clear gX hs3
  go_wp2_with fail
  clear zJ Wl NE
  generalize World.setCell (World.setCell w3 _ _) _ _=W4 at*
  obtain ⟨f,HF⟩:∃f:Nat→Nat,Hid (f=fun i=>gP (rowAt (aV t) i) (rowAt (aV u) i)):=⟨_,rfl⟩
  have mH:=aa (show Cz M W W4 t.w (gP t.gen u.gen) (dO (aV t) f 0) D1 _ _ _ from by rw [qd];exact og)
  have Yc:(aV t).length≤256:=by have:=xu.out;omega
  clear og
  go_loopw [9] (fun i wr=>∃k:Nat,k≤(aV t).length∧i= .int .i64 k∧Hid (Cz M W wr t.w (gP t.gen u.gen) (dO (aV t) f k) D1 (.slice a3 (nw t.w) c3) (.slice b1 (aV t).length d1) (Al D2 t.w u.gen (aV u) (.slice a2 (nw t.w) c2) (.slice b2 (aV u).length d2)))) (fun i _=>(aV t).length - (intOf i).toNat)
  case atStart=>exact ⟨0,Nat.zero_le _,rfl,mH⟩
  clear mH
  obtain ⟨k,hk,rfl,hm⟩:=hrel
  rename World=>wr
  have hpos:(0:Int)≤(k:Int):=by omega
  by_cases hlt:k < (aV t).length
  ·have HKK:Hid (Value.int .i64 ((k:Int)+1)= .int .i64 ((k+1:Nat):Int)):=aa (by rw [show ((k+1:Nat):Int)=(k:Int)+1 from by omega])
   have hlt2:k < (aV u).length:=by have h1:=xu.out;have h2:=HL2.out;omega
   have uC:k < (dO (aV t) f k).length:=by rw [gH];exact hlt
   obtain ⟨gg,ae,ce,hge,hn1,hgl,hfr,z0,z1,hse⟩:=hm.rows.at uC
   obtain ⟨hh,be,de,YD,hn2,YE,_,y0,y1,Wm⟩:=hm.r2.2.2.at hlt2
   subst hge
   subst YD
   clear hn1 hn2
   obtain ⟨m1,hm1⟩:∃m1,m1=(dO (aV t) f k)[k]:=⟨_,rfl⟩
   obtain ⟨m2,hm2⟩:∃m2,m2=(aV u)[k]:=⟨_,rfl⟩
   rw [←hm1] at hse
   rw [←hm2] at Wm
   have HST:Hid (dO (aV t) f (k+1)=(dO (aV t) f k).set k (gP m1 m2)):=aa (by rw [qf hlt,hm1,hm2,wu _ _ _ hlt uC,HF];simp only [fP hlt,fP hlt2])
   clear hm1 hm2
   have KN:=aa hfr
   have HZ:=aa (And.intro z0 z1)
   have HY:=aa (And.intro y0 y1)
   have HB1:=aa hm.jC
   have HB2:=aa hm.r2.1
   have cB1:=cellOf hm.jC
   have hlz:(k:Int) < ((aV t).length:Int):=by omega
   have TM:(k:Int) < ((aV u).length:Int):=by omega
   have MC:=aa hgl
   have Pw:=aa (hm.hM HM)
   have HGU:=aa (show aG (fun b=>(M b∨b=W.heap.size+2∨b=D1)∨b=gg) wr (.slice a2 (nw t.w) c2) t.w u.gen from hm.r2.2.2.set.mono (fun i _ e=>by rcases e with (e|e|e)|e;exact .inl e;exact .inr (.inl e);exact .inr (.inr (.inl e));exact .inr (.inr (.inr (by rw [e];rfl)))))
   have Px:=aa hm.r2.2.2.sets.no
   clear hfr hgl YE z0 z1 y0 y1
   go_upto_region 9 with (fail)
   clear cB1
   refine aL [15] (fun w'=>Ext No wr w') (by kernel_rfl) ?_ (fun hHeld=>?_)
   ·exact bX
   have HE:=aa (show Ext No wr wr.drew from (Ext.refl _ _).drew)
   generalize wr.drew=v0 at*
   refine uJ [0,1,2,3,4,5,6,7,8,9,10,11,12] hHeld ?_
   clear hHeld
   refine uF ?_
   refine uL ?_ (hy:=rU)
   iterate 2 refine uF ?_
   refine uL ?_ (hy:=rU)
   iterate 2 refine uF ?_
   refine uL ?_ (hy:=CU)
   refine uF ?_
   refine uL ?_ (hy:=CV)
   iterate 2 refine uF ?_
   refine uL ?_ (hy:=(by intro w hSw;(have fG:Ext No wr _:=hSw);(have x0:=fG.keep HY.1);(have x1:=fG.keep HY.2);go_simp;(try with_reducible rfl)))
   refine uZ fun hHeld=>?_
   refine uN 13 fun K hK=>?_
   (go_simp;go_at_call 71;(with_reducible refine (oV (fun b=>(M b∨b=W.heap.size+2∨b=D1)∨b=gg) t.w m1 m2 _ _ _ (fun b hb=>Nat.lt_of_lt_of_le (Pw.out b (by rcases hb with hb|rfl;exact .inl hb;exact .inr rfl)) HE.out.size) (hse.out.no.aj HE.out) (Wm.out.no.aj HE.out)).mono ?_);(rintro e3 v1 ⟨a4,c4,rfl,hs4,aF⟩);go_simp)
   refine uK hK eu ?_
   clear hK K hHeld
   intro hHeld
   replace HE:=aa (HE.af aF)
   clear aF
   refine uJ [14] hHeld ?_
   clear hHeld
   refine uF ?_
   refine uZ fun hHeld=>?_
   refine uN 15 fun K hK=>?_
   ((have z3:=HE.keep HZ.1);(have z4:=HE.keep HZ.2);(have f3:=(HE.frozen (p:=⟨gg,k*2,none⟩) MC ax).trans (KN (k*2)));(have f4:=(HE.frozen (p:=⟨gg,k*2+1,none⟩) MC ax).trans (KN (k*2+1)));go_simp;(clear z3 z4 f3 f4))
   refine uK hK bz ?_
   clear hK K hHeld
   intro hHeld
   have hput:=(hm.aC (jr _ _ _ _ _ _) HE).Qc (gH _ _ _).symm (jr _ _ _ _ _ _) (i:=k) (m:=(gP m1 m2)) (sl:= .slice a4 (nw t.w) c4) uC hs4
   exact CX
  obtain rfl:k=(aV t).length:=by omega
  have Wn:Hid (dO (aV t) f (aV t).length=(gy (aV t) (aV u))):=aa (by unfold gy;rw [HF])
  rw [Wn] at hm
  have zJ:=cellOf hm.jC
  go_wp2_with fail
  have hlj:(gy (aV t) (aV u)).length=(aV t).length:=gH _ _ _
  have HR:=aa hm.rows.sets.no
  refine (xS (fun b=>M b∨b=W.heap.size+2) t.w (gP t.gen u.gen) (gy (aV t) (aV u)) _ _ _ (fun b hb=>hm.hM HM b (.inl (by rcases hb with hb|hb;exact .inl hb;exact .inr (.inl hb)))) (hm.rows.set.mono (fun i _ e=>by rcases e with e|e;exact .inl e;exact .inr (.inl e))) HR (by rw [hlj];exact xu)).mono ?_
  rintro e6 w6 hpost
  have Iy:=hm.ext
  have Py:∀(w':World),Ext No wr w'→w'.heap[W.heap.size+2]? =some (.cells #[.int .i64 0,.slice none 0 0,.int .i64 0,.slice none 0 0,.slice none 0 0] 47 (0,0)):=fun w' hx=>hx.blk hm.bV ax
  have uf:=aa Iy
  have Iz:=aa Py
  clear Iy Py hm HR zJ hlj
  by_cases hc:(fu t.w (gP t.gen u.gen) (gy (aV t) (aV u)) t.w).length≤64
  ·have hp1:=hpost.1 hc
   generalize htr:jc t.w (gP t.gen u.gen) (gy (aV t) (aV u))=tr at hp1
   obtain ⟨fg,eg,fk,ek,fc,ec,rfl,hTr,hx6⟩:=hp1
   have jW:=Iz.out _ hx6
   have cC:=cellOf jW
   have fC:=aH jW
   have uh:=aa jW
   have BF:=aa htr
   clear hpost jW htr
   go_wp2_with fail
   have hfin:=bY.qy ⟨_,rfl,uh⟩ (.int .i64 (tr.w:Int)) (.slice fg (nw tr.w) eg) (.int .i64 (tr.w:Int)) (.slice fk (nw tr.w) ek) (.slice fc tr.copies.length ec)
   have hE:=pF w6 (W.heap.size+2) (.int .i64 (tr.w:Int)) (.slice fg (nw tr.w) eg) (.int .i64 (tr.w:Int)) (.slice fk (nw tr.w) ek) (.slice fc tr.copies.length ec)
   clear cC fC
   generalize World.setCell (World.setCell (World.setCell (World.setCell (World.setCell w6 _ _) _ _) _ _) _ _) _ _=WF at*
   have cF:=cellOf hfin
   refine aW rfl ?_
   simp [results,Tryz.results105,go_sem,cF]
   exact mW
  obtain ⟨rfl,hx6⟩:=hpost.2 (by omega)
  have jW:=Iz.out _ hx6
  have cC:=cellOf jW
  have fC:=aH jW
  have uh:=aa jW
  clear hpost jW
  go_wp2_with fail
  have hfin:=bY.qy ⟨_,rfl,uh⟩ (.int .i64 0) (.slice none 0 0) (.int .i64 0) (.slice none 0 0) (.slice none 0 0)
  have hE:=pF w6 (W.heap.size+2) (.int .i64 0) (.slice none 0 0) (.int .i64 0) (.slice none 0 0) (.slice none 0 0)
  clear cC fC
  generalize World.setCell (World.setCell (World.setCell (World.setCell (World.setCell w6 _ _) _ _) _ _) _ _) _ _=WF at*
  have cF:=cellOf hfin
  refine aW rfl ?_
  simp [results,Tryz.results105,go_sem,cF]
  exact mX

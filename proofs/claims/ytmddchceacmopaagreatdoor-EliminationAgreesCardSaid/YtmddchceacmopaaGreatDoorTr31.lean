
import Derived.Test.YtmddchceacmopaaGreatDoorTr30
set_option linter.unusedVariables false
set_option linter.unusedSimpArgs false
namespace Go.Proofs.YtmddchceacmopaaGreatDoor
open Go Go.RowKit
theorem wO (t:cK) (w:Nat) (sg sk sc:Value) (W:World) (hw:t.w=w) (h:dF No W sg sk sc t):
  Calls Tryz.prog 114 #[.agg #[.int .i64 (w:Int),sg,.int .i64 (w:Int),sk,sc]] W (wP (Lo W.heap.size) w t.gen (aI t w t.copies.length) W):=by
 subst hw;exact vX t sg sk sc W h
set_option maxRecDepth 100000 in
set_option maxHeartbeats 16000000 in
theorem RH (M:Nat→Prop) (t u:cK) (g1 k1 c1 g2 k2 c2:Value) (W:World) (hM:∀b,M b→b < W.heap.size) (hT:iQ W) (h1:dF No W g1 k1 c1 t) (h2:dF No W g2 k2 c2 u) (hu:u.w=t.w):
  Calls Tryz.prog 121 #[.agg #[.int .i64 (t.w:Int),g1,.int .i64 (t.w:Int),k1,c1],.agg #[.int .i64 (t.w:Int),g2,.int .i64 (t.w:Int),k2,c2]] W (iF M t.w (gP t.gen u.gen) (gy (aI t t.w t.copies.length) (aI u t.w u.copies.length)) W):=by
 have H1:=aa h1
 have H2:=aa h2
 have HM:=aa hM
 have HT:=aa hT
 have HU:=aa hu
 have hgu:=h2.gen.slice
 have Pv:=h2.kill.slice
 rw [hu] at hgu Pv
 obtain ⟨ag,cg,rfl⟩:=h1.gen.slice
 obtain ⟨ak,ck,rfl⟩:=h1.kill.slice
 obtain ⟨ac,cc,rfl⟩:=Row.slice h1.copies
 obtain ⟨bg,dg,rfl⟩:=hgu
 obtain ⟨bk,dk,rfl⟩:=Pv
 obtain ⟨bc,dc,rfl⟩:=Row.slice h2.copies
 have hw:=h1.ok.w
 clear h1 h2 hM hT hu
 go_enter Tryz.func121,Tryz.ntmps121
 go_wp2_with fail
 have hx0:Ext No W (((W.alloc (.cells #[.int .i64 (t.w:Int),.slice ag (nw t.w) cg,.int .i64 (t.w:Int),.slice ak (nw t.w) ck,.slice ac t.copies.length cc] 47)).alloc (.cells #[.int .i64 (t.w:Int),.slice bg (nw t.w) dg,.int .i64 (t.w:Int),.slice bk (nw t.w) dk,.slice bc u.copies.length dc] 47)).alloc (.cells #[.int .i64 0,.slice none 0 0,.int .i64 0,.slice none 0 0,.slice none 0 0] 47)):=((((Ext.refl _ _).alloc _).alloc _)).alloc _
 have hA:(((W.alloc (.cells #[.int .i64 (t.w:Int),.slice ag (nw t.w) cg,.int .i64 (t.w:Int),.slice ak (nw t.w) ck,.slice ac t.copies.length cc] 47)).alloc (.cells #[.int .i64 (t.w:Int),.slice bg (nw t.w) dg,.int .i64 (t.w:Int),.slice bk (nw t.w) dk,.slice bc u.copies.length dc] 47)).alloc (.cells #[.int .i64 0,.slice none 0 0,.int .i64 0,.slice none 0 0,.slice none 0 0] 47)).heap[W.heap.size]? =some (.cells #[.int .i64 (t.w:Int),.slice ag (nw t.w) cg,.int .i64 (t.w:Int),.slice ak (nw t.w) ck,.slice ac t.copies.length cc] 47 (0,0)):=ay (ay (ah rfl))
 have hB:(((W.alloc (.cells #[.int .i64 (t.w:Int),.slice ag (nw t.w) cg,.int .i64 (t.w:Int),.slice ak (nw t.w) ck,.slice ac t.copies.length cc] 47)).alloc (.cells #[.int .i64 (t.w:Int),.slice bg (nw t.w) dg,.int .i64 (t.w:Int),.slice bk (nw t.w) dk,.slice bc u.copies.length dc] 47)).alloc (.cells #[.int .i64 0,.slice none 0 0,.int .i64 0,.slice none 0 0,.slice none 0 0] 47)).heap[W.heap.size+1]? =some (.cells #[.int .i64 (t.w:Int),.slice bg (nw t.w) dg,.int .i64 (t.w:Int),.slice bk (nw t.w) dk,.slice bc u.copies.length dc] 47 (0,0)):=ay (ah (by simp))
 have hC:(((W.alloc (.cells #[.int .i64 (t.w:Int),.slice ag (nw t.w) cg,.int .i64 (t.w:Int),.slice ak (nw t.w) ck,.slice ac t.copies.length cc] 47)).alloc (.cells #[.int .i64 (t.w:Int),.slice bg (nw t.w) dg,.int .i64 (t.w:Int),.slice bk (nw t.w) dk,.slice bc u.copies.length dc] 47)).alloc (.cells #[.int .i64 0,.slice none 0 0,.int .i64 0,.slice none 0 0,.slice none 0 0] 47)).heap[W.heap.size+2]? =some (.cells #[.int .i64 0,.slice none 0 0,.int .i64 0,.slice none 0 0,.slice none 0 0] 47 (0,0)):=ah (by simp)
 generalize World.alloc (World.alloc (World.alloc W _) _) _=W2 at*
 refine (zD t u _ _ _ _ _ _ _ HU (H1.aj hx0) (H2.aj hx0)).mono ?_
 rintro e1 w1 ⟨rfl,hx1⟩
 have hx:=aa (hx0.af hx1)
 have HA:=aa (hx1.blk hA ax)
 have HB:=aa (hx1.blk hB ax)
 have HC:=aa (hx1.blk hC ax)
 have WT:=aa (H1.aj hx)
 have VI:=aa (H2.aj hx)
 have Vt:=aa (HT.ext hx)
 clear hx0 hx1 hA hB hC
 have cA:=cellOf HA.out
 have cB:=cellOf HB.out
 go_wp2_with fail
 clear cA cB
 go_cut [7,8] (fun s7 s8 wx=>Ni 131 w1 wx t.w t.gen (aI t t.w t.copies.length) u.gen (aI u t.w u.copies.length) s7 s8)
 case first=>exact FY
 case rest=>
  obtain ⟨D1,D2,a1,c1,b1,d1,a2,c2,b2,d2,rfl,rfl,hJ⟩:=hcut
  rename World=>V
  have hT0:=HT.pos
  have hm:=aa (CJ.start HM hx HC hJ rfl)
  have Vx:=aa (Vt.ext hJ.ext)
  clear hJ HA HB HC WT VI Vt hx H1 H2 HU HT
  have xu:Hid ((aI t t.w t.copies.length).length=t.w):=aa (gU ..)
  have HL2:Hid ((aI u t.w u.copies.length).length=t.w):=aa (gU ..)
  have zJ:=cellOf hm.jC
  have Tf:=cellOf hm.r2.1
  go_wp2_with fail
  refine (nu (fun b=>(M b∨b=W.heap.size+2∨b=D1)∨(Value.slice b1 (aI t t.w t.copies.length).length d1).ownBlock=some b) t.w t.gen u.gen _ _ _ (hm.hM HM) hm.rows.set.no hm.r2.2.2.set.no).mono ?_
  rintro e3 w3 ⟨a3,c3,rfl,hs3,hx3⟩
  have gX:=aa (hm.aC (jv _ _ _ _ _ _) hx3)
  have Qs:=aa (Vx.ext hx3)
  clear hm hx3 zJ Tf Vx
  have zJ:=cellOf gX.jC
  have Wl:=aH gX.jC
  have og:=aa (gX.KC (jv _ _ _ _ _ _) hs3)
  have Qt:=aa (Qs.xz ((((Ext.refl (At D1) w3).setAt 0 (.int .i64 (t.w:Int))).setAt 1 (.slice a3 (nw t.w) c3))) (fun e=>by unfold At at e;have:=gX.big;omega))
  have NE:=cellOf og.jC
  clear gX hs3 Qs
  go_wp2_with fail
  clear zJ Wl NE
  generalize World.setCell (World.setCell w3 _ _) _ _=W4 at*
  obtain ⟨f,HF⟩:∃f:Nat→Nat,Hid (f=fun i=>gP (rowAt (aI t t.w t.copies.length) i) (rowAt (aI u t.w u.copies.length) i)):=⟨_,rfl⟩
  have mH:=aa (show CJ M W W4 t.w (gP t.gen u.gen) (dO (aI t t.w t.copies.length) f 0) D1 _ _ _ from by rw [qd];exact og)
  have Yc:(aI t t.w t.copies.length).length≤256:=by have:=xu.out;omega
  clear og
  go_loopw [33] (fun i wr=>∃k:Nat,k≤(aI t t.w t.copies.length).length∧i= .int .i64 k∧Hid (iQ wr)∧Hid (CJ M W wr t.w (gP t.gen u.gen) (dO (aI t t.w t.copies.length) f k) D1 (.slice a3 (nw t.w) c3) (.slice b1 (aI t t.w t.copies.length).length d1) (vZ D2 t.w u.gen (aI u t.w u.copies.length) (.slice a2 (nw t.w) c2) (.slice b2 (aI u t.w u.copies.length).length d2)))) (fun i _=>(aI t t.w t.copies.length).length - (intOf i).toNat)
  case atStart=>exact ⟨0,Nat.zero_le _,rfl,Qt,mH⟩
  clear mH Qt
  obtain ⟨k,hk,rfl,hT,hm⟩:=hrel
  rename World=>wr
  have hpos:(0:Int)≤(k:Int):=by omega
  by_cases hlt:k < (aI t t.w t.copies.length).length
  ·have HKK:Hid (Value.int .i64 ((k:Int)+1)= .int .i64 ((k+1:Nat):Int)):=aa (by rw [show ((k+1:Nat):Int)=(k:Int)+1 from by omega])
   have hlt2:k < (aI u t.w u.copies.length).length:=by have h1:=xu.out;have h2:=HL2.out;omega
   have uC:k < (dO (aI t t.w t.copies.length) f k).length:=by rw [gH];exact hlt
   obtain ⟨gg,ae,ce,hge,hn1,hgl,hfr,z0,z1,hse⟩:=hm.rows.at uC
   obtain ⟨hh,be,de,YD,hn2,YE,_,y0,y1,Wm⟩:=hm.r2.2.2.at hlt2
   subst hge
   subst YD
   clear hn1 hn2
   have KN:=aa hfr
   have HUA:=aa (show (dO (aI t t.w t.copies.length) f k)[k]=(aI t t.w t.copies.length)[k] from wu _ _ _ hlt uC)
   have Jg:=hm.rows.adA gg rfl
   have Wi:=hm.r2.2.2.adA hh rfl
   have n1:D1≠gg:=fun e=>Jg (.inr (.inr e.symm))
   have n2:D2≠gg:=fun e=>hm.r2.2.1 (.inr (.inr (by rw [e];rfl)))
   have n3:hh≠gg:=fun e=>Wi (.inr (.inr (by rw [e];rfl)))
   have l0:wr.cell? ⟨D1,2,none⟩=some (.slice (some ⟨gg,0,none⟩) (aI t t.w t.copies.length).length d1):=cellOf hm.jC 2
   have l1:wr.cell? ⟨D2,2,none⟩=some (.slice (some ⟨hh,0,none⟩) (aI u t.w u.copies.length).length d2):=cellOf hm.r2.1 2
   have HZ:=aa (And.intro z0 z1)
   have hlz:(k:Int) < ((aI t t.w t.copies.length).length:Int):=by omega
   have TM:(k:Int) < ((aI u t.w u.copies.length).length:Int):=by omega
   have MC:=aa hgl
   have Pw:=aa (hm.hM HM)
   clear hfr Jg Wi hgl YE
   go_wp2_with fail
   refine uW (fun w'=>w'.cell? ⟨D1,2,none⟩=some (.slice (some ⟨gg,0,none⟩) (aI t t.w t.copies.length).length d1)∧w'.cell? ⟨D2,2,none⟩=some (.slice (some ⟨hh,0,none⟩) (aI u t.w u.copies.length).length d2)∧w'.cell? ⟨hh,k*2,none⟩=some (.int .i64 (t.w:Int))∧w'.cell? ⟨hh,k*2+1,none⟩=some (.slice be (nw t.w) de)) bT fun hHeld=>?_
   refine uO [0,1,2,3,4,5,6,8,9,10,11,12] ?_
   iterate 12 refine uT ?_ (hy:=aM)
   refine uZ ?_
   refine hHc 7 fun K hK=>?_
   go_simp
   refine uK hK bT ?_
   clear hK K hHeld
   intro hHeld
   refine hHc 13 fun K hK=>?_
   (go_simp;go_at_call 52;(with_reducible refine (nu (fun b=>(M b∨b=W.heap.size+2∨b=D1)∨b=gg) t.w (dO (aI t t.w t.copies.length) f k)[k] (aI u t.w u.copies.length)[k] _ _ _ ?_ ?_ ?_).mono ?_);(exact fun b hb=>Pw b (by rcases hb with hb|rfl;exact .inl hb;exact .inr rfl));(first|exact hse.no|exact hse.no.aj (Ext.refl No wr).drew);(first|exact Wm.no|exact Wm.no.aj (Ext.refl No wr).drew);(rintro e3 w3 ⟨a4,c4,rfl,hs4,aF⟩);(have hyB:Ext No wr w3:=by first|exact aF|exact (Ext.refl No wr).drew.af aF);(have jU:=aa (hm.aC (jv _ _ _ _ _ _) hyB));(have hs5:=aa hs4.out);(have z3:=bf hyB HZ.1);(have z4:=bf hyB HZ.2);(have f3:=(hyB.frozen (p:=⟨gg,k*2,none⟩) MC ax).trans (KN (k*2)));(have f4:=(hyB.frozen (p:=⟨gg,k*2+1,none⟩) MC ax).trans (KN (k*2+1)));go_simp)
   refine uK hK bT ?_
   clear hK K hHeld
   intro hHeld
   refine uO [14,15,16,17] ?_
   iterate 4 refine uT ?_ (hy:=aM)
   refine uZ ?_
   refine hHc 18 fun K hK=>?_
   go_simp
   refine uK hK bT ?_
   clear hK K hHeld
   intro hHeld
   refine uD ?_
   go_wp2_with fail
   have hput:=jU.Qc (gH _ _ _).symm (jv _ _ _ _ _ _) (i:=k) (m:=gP (dO (aI t t.w t.copies.length) f k)[k] (aI u t.w u.copies.length)[k]) (sl:= .slice a4 (nw t.w) c4) uC hs5
   have P6:=aa ((hT.ext hyB).xz (((Ext.refl (At gg) w3).setAt (k*2) (.int .i64 (t.w:Int))).setAt (k*2+1) (.slice a4 (nw t.w) c4)) (fun e=>by unfold At at e;have h1:=jU.own gg rfl;omega))
   have HST:Hid (dO (aI t t.w t.copies.length) f (k+1)=(dO (aI t t.w t.copies.length) f k).set k (gP (dO (aI t t.w t.copies.length) f k)[k] (aI u t.w u.copies.length)[k])):=aa (by rw [qf hlt,HUA,HF];simp only [fP hlt,fP hlt2])
   exact FR
  obtain rfl:k=(aI t t.w t.copies.length).length:=by omega
  have Wn:Hid (dO (aI t t.w t.copies.length) f (aI t t.w t.copies.length).length=gy (aI t t.w t.copies.length) (aI u t.w u.copies.length)):=aa (by unfold gy;rw [HF])
  rw [Wn] at hm
  have zJ:=cellOf hm.jC
  go_wp2_with fail
  have hlj:(gy (aI t t.w t.copies.length) (aI u t.w u.copies.length)).length=(aI t t.w t.copies.length).length:=gH _ _ _
  have HR:=aa hm.rows.sets.no
  refine (yV (fun b=>M b∨b=W.heap.size+2) t.w (gP t.gen u.gen) (gy (aI t t.w t.copies.length) (aI u t.w u.copies.length)) _ _ _ (fun b hb=>hm.hM HM b (.inl (by rcases hb with hb|hb;exact .inl hb;exact .inr (.inl hb)))) hT (hm.rows.set.mono (fun i _ e=>by rcases e with e|e;exact .inl e;exact .inr (.inl e))) HR (by rw [hlj];exact xu)).mono ?_
  rintro e6 w6 hpost
  have Iy:=hm.ext
  have Py:∀(w':World),Ext No wr w'→w'.heap[W.heap.size+2]? =some (.cells #[.int .i64 0,.slice none 0 0,.int .i64 0,.slice none 0 0,.slice none 0 0] 47 (0,0)):=fun w' hx=>hx.blk hm.bV ax
  have uf:=aa Iy
  have Iz:=aa Py
  clear Iy Py hm HR zJ hlj
  by_cases hc:(fu t.w (gP t.gen u.gen) (gy (aI t t.w t.copies.length) (aI u t.w u.copies.length)) t.w).length≤64
  ·have hp1:=hpost.1 hc
   generalize htr:jc t.w (gP t.gen u.gen) (gy (aI t t.w t.copies.length) (aI u t.w u.copies.length))=tr at hp1
   obtain ⟨fg,eg,fk,ek,fc,ec,rfl,hTr,hx6⟩:=hp1
   have jW:=Iz.out _ hx6
   have cC:=cellOf jW
   have fC:=aH jW
   have uh:=aa jW
   have BF:=aa htr
   clear hpost jW htr
   go_wp2_with fail
   have hfin:=bY.qy ⟨_,rfl,uh⟩ (.int .i64 (tr.w:Int)) (.slice fg (nw tr.w) eg) (.int .i64 (tr.w:Int)) (.slice fk (nw tr.w) ek) (.slice fc tr.copies.length ec)
   have hE:=pF w6 (W.heap.size+2) (.int .i64 (tr.w:Int)) (.slice fg (nw tr.w) eg) (.int .i64 (tr.w:Int)) (.slice fk (nw tr.w) ek) (.slice fc tr.copies.length ec)
   clear cC fC
   generalize World.setCell (World.setCell (World.setCell (World.setCell (World.setCell w6 _ _) _ _) _ _) _ _) _ _=WF at*
   have cF:=cellOf hfin
   refine aW rfl ?_
   simp [results,Tryz.results121,go_sem,cF]
   exact mW
  obtain ⟨rfl,hx6⟩:=hpost.2 (by omega)
  have jW:=Iz.out _ hx6
  have cC:=cellOf jW
  have fC:=aH jW
  have uh:=aa jW
  clear hpost jW
  go_wp2_with fail
  have hfin:=bY.qy ⟨_,rfl,uh⟩ (.int .i64 0) (.slice none 0 0) (.int .i64 0) (.slice none 0 0) (.slice none 0 0)
  have hE:=pF w6 (W.heap.size+2) (.int .i64 0) (.slice none 0 0) (.int .i64 0) (.slice none 0 0) (.slice none 0 0)
  clear cC fC
  generalize World.setCell (World.setCell (World.setCell (World.setCell (World.setCell w6 _ _) _ _) _ _) _ _) _ _=WF at*
  have cF:=cellOf hfin
  refine aW rfl ?_
  simp [results,Tryz.results121,go_sem,cF]
  exact mX

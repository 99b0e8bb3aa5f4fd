
import Derived.Test.YtmddchceacmopaaGreatDoorH10
set_option linter.unusedVariables false
set_option linter.unusedSimpArgs false
namespace Go.Proofs.YtmddchceacmopaaGreatDoor
open Go Go.RowKit
def mG (z:Nat) (rs:List Nat) (s:Nat):Nat→Nat
 |0=>z
 |k+1=>if s.testBit k then gP (mG z rs s k) (rowAt rs k) else mG z rs s k
theorem yN {z:Nat} {rs:List Nat} {s j:Nat}:∀k,(mG z rs s k).testBit j=true↔z.testBit j=true∨∃b,b < k∧s.testBit b=true∧(rowAt rs b).testBit j=true
 |0=>⟨.inl,fun h=>by rcases h with h|⟨b,h,_⟩;exact h;omega⟩
 |k+1=>by
  rw [mG]
  by_cases hs:s.testBit k=true
  ·rw [if_pos hs,show gP (mG z rs s k) (rowAt rs k)=mG z rs s k|||rowAt rs k from rfl,Nat.testBit_or,Bool.or_eq_true,yN k]
   constructor
   ·rintro ((h|⟨b,h1,h2,h3⟩)|h)
    ·exact .inl h
    ·exact .inr ⟨b,by omega,h2,h3⟩
    exact .inr ⟨k,by omega,hs,h⟩
   rintro (h|⟨b,h1,h2,h3⟩)
   ·exact .inl (.inl h)
   by_cases e:b=k
   ·exact .inr (e▸h3)
   exact .inl (.inr ⟨b,by omega,h2,h3⟩)
  rw [if_neg hs,yN k]
  constructor
  ·rintro (h|⟨b,h1,h2,h3⟩)
   ·exact .inl h
   exact .inr ⟨b,by omega,h2,h3⟩
  rintro (h|⟨b,h1,h2,h3⟩)
  ·exact .inl h
  by_cases e:b=k
  ·exact absurd (e▸h2) hs
  exact .inr ⟨b,by omega,h2,h3⟩
theorem OX (z:Nat) (rs:List Nat) (w s:Nat):mG z rs s w=gP z (iO rs w s):=Nat.eq_of_testBit_eq fun j=>oQ (by
 rw [yN,show gP z (iO rs w s)=z|||iO rs w s from rfl,Nat.testBit_or,Bool.or_eq_true,jD];rfl)
structure SF (M:Nat→Prop) (W wr:World) (w m D:Nat) (sg so ss s1:Value):Prop where
 ext:Ext No W wr
 bW:wr.heap[W.heap.size]? =some (.cells #[.int .i64 (w:Int),sg,so] 121 (0,0))
 dQ:wr.heap[W.heap.size+1]? =some (.cells #[.int .i64 (w:Int),ss] 44 (0,0))
 bV:wr.heap[W.heap.size+2]? =some (.cells #[.int .i64 0,.slice none 0 0] 44 (0,0))
 dB:wr.heap[D]? =some (.cells #[.int .i64 (w:Int),s1] 44 (0,0))
 set:aG (fun b=>M b∨b=W.heap.size+2∨b=D) wr s1 w m
 big:W.heap.size+2 < D
section
variable {M:Nat→Prop} {W wr w':World} {w m m' D:Nat} {sg so ss s1 s2:Value}
theorem SF.aC (h:SF M W wr w m D sg so ss s1) (hx:Ext No wr w'):SF M W w' w m D sg so ss s1:=
 ⟨h.ext.af hx,hx.blk h.bW ax,hx.blk h.dQ ax,hx.blk h.bV ax,hx.blk h.dB ax,h.set.aj hx,h.big⟩
theorem SF.hM (hM:∀b,M b→b < W.heap.size) (h:SF M W wr w m D sg so ss s1):∀b,(M b∨b=W.heap.size+2∨b=D)→b < wr.heap.size:=fun b hb=>by
 have h1:=lt_of_block h.dB
 have h2:=h.big
 rcases hb with hb|rfl|rfl
 ·have:=hM b hb;omega
 ·omega
 exact h1
theorem SF.put (h:SF M W wr w m D sg so ss s1) (hs:aG (fun b=>M b∨b=W.heap.size+2∨b=D) wr s2 w m'):SF M W ((wr.setCell ⟨D,0,none⟩ (.int .i64 (w:Int))).setCell ⟨D,1,none⟩ s2) w m' D sg so ss s2:=by
 exact yC
end
set_option maxRecDepth 100000 in
set_option maxHeartbeats 4000000 in
theorem adQ (M:Nat→Prop) (w z s:Nat) (rs:List Nat) (sg so ss:Value) (W:World) (hM:∀b,M b→b < W.heap.size) (hg:aG M W sg w z) (hr:fM No W so w rs) (hl:rs.length=w) (hs:aG No W ss w s):
  Calls Tryz.prog 103 #[.agg #[.int .i64 (w:Int),sg,so],.agg #[.int .i64 (w:Int),ss]] W (jA M w (gP z (iO rs w s)) W):=by
 have HR:=aa hr
 have HS:=aa hs
 have HM:=aa hM
 have HG:=aa hg
 have IG:=aa hl
 have HRM:=aa hr.hm
 obtain ⟨ag,cg,rfl⟩:=hg.slice
 obtain ⟨ao,co,rfl⟩:=hr.slice
 obtain ⟨a1,c1,rfl⟩:=hs.slice
 have hw:=hs.hw
 clear hr hs hM hg hl
 go_enter Tryz.func103,Tryz.ntmps103
 go_wp2_with fail
 have hm0:=aa (show SF M W ((((W.alloc (.cells #[.int .i64 (w:Int),.slice ag (nw w) cg,.slice ao rs.length co] 121)).alloc (.cells #[.int .i64 (w:Int),.slice a1 (nw w) c1] 44)).alloc (.cells #[.int .i64 0,.slice none 0 0] 44)).alloc (.cells #[.int .i64 (w:Int),.slice ag (nw w) cg] 44)) w (mG z rs s 0) (W.heap.size+3) (.slice ag (nw w) cg) (.slice ao rs.length co) (.slice a1 (nw w) c1) (.slice ag (nw w) cg) from
  ⟨((((Ext.refl _ _).alloc _).alloc _).alloc _).alloc _,ay (ay (ay (ah rfl))),ay (ay (ah (by simp))),ay (ah (by simp)),ah (by simp),
   (HG.mono (fun i hi e=>by rcases e with e|e|e;exact e;omega;omega)).aj (((((Ext.refl _ _).alloc _).alloc _).alloc _).alloc _),by omega⟩)
 generalize World.alloc (World.alloc (World.alloc (World.alloc W _) _) _) _=V at*
 go_loopw [6] (fun i wr=>∃(k:Nat) (a':Option Addr) (c':Nat),k≤w∧i= .int .i64 k∧Hid (SF M W wr w (mG z rs s k) (W.heap.size+3) (.slice ag (nw w) cg) (.slice ao rs.length co) (.slice a1 (nw w) c1) (.slice a' (nw w) c'))) (fun i _=>w - (intOf i).toNat)
 case atStart=>exact yu
 clear hm0
 obtain ⟨k,a',c',hk,rfl,hm⟩:=hrel
 rename World=>wr
 have hpos:(0:Int)≤(k:Int):=by omega
 have cB:=cellOf hm.dQ
 by_cases hlt:k < w
 ·have hlz:(k:Int) < (w:Int):=by omega
  have HKK:Hid (Value.int .i64 ((k:Int)+1)= .int .i64 ((k+1:Nat):Int)):=aa (by rw [show ((k+1:Nat):Int)=(k:Int)+1 from by omega])
  go_wp2_with fail
  clear cB
  obtain ⟨bb,hbb⟩:∃bb,s.testBit k=bb:=⟨_,rfl⟩
  have qM:=aa hbb
  refine (nP w s bb _ (k:Int) _ (by rw [eP hlt];exact hbb) (HS.aj hm.ext)).mono ?_
  rintro e1 w1 ⟨rfl,hy1⟩
  have hm1:=aa (hm.aC hy1)
  clear hm hy1 hbb
  cases bb
  ·have HST:Hid (mG z rs s (k+1)=mG z rs s k):=aa (by rw [mG,qM];rfl)
   clear qM
   go_wp2_with fail
   go_roundw
   case rel=>exact ⟨k+1,_,_,by omega,HKK,by rw [HST];exact hm1⟩
   case measure=>simp [intOf];omega
  have hkr:k < rs.length:=by have:=IG.out;omega
  have HST:Hid (mG z rs s (k+1)=gP (mG z rs s k) rs[k]):=aa (by rw [mG,qM,if_pos rfl,fP hkr])
  clear qM
  go_wp2_with fail
  obtain ⟨gg,go,gc,ae,ce,KO,hgl,_,z0,z1,hE⟩:=(HR.aj hm1.ext).at hkr
  simp only [Value.slice.injEq] at KO
  obtain ⟨rfl,_,rfl⟩:=KO
  have HE:=aa hE.out
  have WW:(W.heap.size+3)≠gg:=fun e=>by
   have h2:=(HR).at hkr
   obtain ⟨g2,o2,_,_,_,e2,hl2,_⟩:=h2
   simp only [Value.slice.injEq,Option.some.injEq,Addr.mk.injEq] at e2
   obtain ⟨⟨rfl,_⟩,_⟩:=e2
   omega
  have hgD:gg≠(W.heap.size+3):=fun e=>WW e.symm
  have l0:w1.cell? ⟨W.heap.size,2,none⟩=some (.slice (some ⟨gg,go,none⟩) rs.length co):=cellOf hm1.bW 2
  have hle:W.heap.size≤(W.heap.size+3):=by omega
  have l3:Ext No W w1:=hm1.ext
  have cD:=cellOf hm1.dB
  have hkz:(k:Int) < (rs.length:Int):=by omega
  clear hE hgl
  refine uW (fun w'=>w'.cell? ⟨W.heap.size,2,none⟩=some (.slice (some ⟨gg,go,none⟩) rs.length co)∧w'.cell? ⟨gg,go+k*2,none⟩=some (.int .i64 (w:Int))∧w'.cell? ⟨gg,go+k*2+1,none⟩=some (.slice ae (nw w) ce)∧Ext No W w') bT fun hHeld=>?_
  refine uO [1,2,3,4,5] ?_
  iterate 5 refine uT ?_ (hy:=aM)
  refine uZ ?_
  refine hHc 0 fun K hK=>?_
  go_simp
  refine uK hK bT ?_
  clear hK K hHeld
  intro hHeld
  refine hHc 6 fun K hK=>?_
  (go_simp;go_at_call 71;(with_reducible refine (oV (fun b=>M b∨b=W.heap.size+2∨b=(W.heap.size+3)) w (mG z rs s k) rs[k] _ _ _ ?_ ?_ ?_).mono ?_);(first|exact hm1.hM HM|exact (hm1.aC (Ext.refl No w1).drew).hM HM);(first|exact hm1.set.no|exact hm1.set.no.aj (Ext.refl No w1).drew);(first|exact HE|exact HE.aj (Ext.refl No w1).drew);(rintro e3 w3 ⟨a3,c3,rfl,hs3,aF⟩);(have hyB:Ext No w1 w3:=by first|exact aF|exact (Ext.refl No w1).drew.af aF);(have gX:=aa (hm1.aC hyB));(have hs4:=aa hs3.out);(have c3D:=cellOf gX.dB);(have f3D:=aH gX.dB);go_simp)
  refine uK hK bT ?_
  clear hK K hHeld
  intro hHeld
  refine hHc 7 fun K hK=>?_
  go_simp
  refine uK hK bT ?_
  clear hK K hHeld
  intro hHeld
  refine uD ?_
  go_wp2_with fail
  have hput:=gX.put hs4
  go_roundw
  case rel=>exact ⟨k+1,a3,c3,by omega,HKK,aa (by rw [HST];exact hput)⟩
  case measure=>simp [intOf];omega
 obtain rfl:k=w:=by omega
 have hge:¬(k:Int) < (k:Int):=by omega
 have cD:=cellOf hm.dB
 have cC:=cellOf hm.bV
 have fC:=aH hm.bV
 have hne:¬W.heap.size+2=(W.heap.size+3):=by omega
 go_wp2_with fail
 have hE:Ext (At (W.heap.size+2)) wr ((wr.setCell ⟨W.heap.size+2,0,none⟩ (.int .i64 (k:Int))).setCell ⟨W.heap.size+2,1,none⟩ (.slice a' (nw k) c')):=((Ext.refl (At (W.heap.size+2)) _).setAt _ _).setAt _ _
 have hbF:=(az (j:=1) (u:= .slice a' (nw k) c') (az (j:=0) (u:= .int .i64 (k:Int)) hm.bV)).trans rfl
 clear cB cD cC fC
 generalize World.setCell (World.setCell wr _ _) _ _=WF at*
 have cF:=cellOf hbF
 refine aW rfl ?_
 simp [results,Tryz.results103,go_sem,cF]
 rw [OX] at hm
 exact tq
theorem V9 {n:Nat}:∀b,No b→b < n:=fun _ e=>e.elim
theorem RI (w m k:Nat) (s1 s2:Value) (W:World) (h1:aG No W s1 w m) (h2:aG No W s2 w k):
  Calls Tryz.prog 71 #[.agg #[.int .i64 (w:Int),s1],.agg #[.int .i64 (w:Int),s2]] W (jA (Lo W.heap.size) w (gP m k) W):=oV (Lo W.heap.size) w m k s1 s2 W (fun _ x=>x) h1 h2
theorem OZ (w m k:Nat) (u v:Value) (W:World) (hs:aG No W u w m) (ht:aG No W v w k):Calls Tryz.prog 41 #[.agg #[.int .i64 (w:Int),u],.agg #[.int .i64 (w:Int),v]] W (bZ (decide (m=k)) W):=by
 exact Fa
def nZ (z:Nat) (rs:List Nat) (w s:Nat):Nat:=gP s (gP z (iO rs w s))
theorem RJ {z:Nat} {rs:List Nat} {w s:Nat} (hz:z < 2 ^ w) (h:∀m∈rs,m < 2 ^ w) (hs:s < 2 ^ w):nZ z rs w s < 2 ^ w:=fZ hs (fZ hz (H9 h _))
theorem RN (z:Nat) (rs:List Nat) (w s:Nat):s≤nZ z rs w s:=Nat.left_le_or
theorem yO (z:Nat) (rs:List Nat) (w s i:Nat):(nZ z rs w s).testBit i=(s.testBit i||(z.testBit i||(iO rs w s).testBit i)):=by
 show (s|||(z|||iO rs w s)).testBit i=_
 rw [Nat.testBit_or,Nat.testBit_or]
theorem zf.between {rs:List Nat} {w s s' r:Nat} (h:zf rs w s r) (h1:s|||s'=s') (h2:s'|||r=r):zf rs w s' r:=
 ⟨h.lt,h.fix,h2,fun r' h3 h4=>h.least r' h3 (dV.2 fun i hi=>dV.1 h4 i (dV.1 h1 i hi))⟩
def jh (z:Nat) (rs:List Nat) (w s:Nat):Nat:=gQ rs w (gP z s)
theorem Mc {z:Nat} {rs:List Nat} {w s:Nat} (hz:z < 2 ^ w) (h:∀m∈rs,m < 2 ^ w) (hs:s < 2 ^ w):jh z rs w (nZ z rs w s)=jh z rs w s:=by
 have hc:=jE h (fZ hz hs)
 have hx:gP z (nZ z rs w s) < 2 ^ w:=fZ hz (RJ hz h hs)
 refine zf.uniq (jE h hx) (hc.between ?_ ?_)
 ·rw [dV]
  intro i hi
  replace hi:(z|||s).testBit i=true:=hi
  rw [Nat.testBit_or,Bool.or_eq_true] at hi
  show (z|||nZ z rs w s).testBit i=true
  rw [Nat.testBit_or,yO]
  rcases hi with hi|hi
  ·rw [hi];rfl
  rw [hi];simp
 have hge:=dV.1 hc.ge
 rw [dV]
 intro i hi
 replace hi:(z|||nZ z rs w s).testBit i=true:=hi
 rw [Nat.testBit_or,yO,Bool.or_eq_true,Bool.or_eq_true,Bool.or_eq_true] at hi
 have hzs:∀j,(z.testBit j=true∨s.testBit j=true)→(gP z s).testBit j=true:=fun j hj=>by
  show (z|||s).testBit j=true
  rw [Nat.testBit_or,Bool.or_eq_true];exact hj
 rcases hi with hi|hi|hi|hi
 ·exact hge i (hzs i (.inl hi))
 ·exact hge i (hzs i (.inr hi))
 ·exact hge i (hzs i (.inl hi))
 obtain ⟨b,hb,h1,h2⟩:=(jD rs w s i).1 hi
 exact RP hc hb (hge b (hzs b (.inr h1))) h2
theorem O0 {z:Nat} {rs:List Nat} {w s:Nat} (h:∀m∈rs,m < 2 ^ w) (hs:s < 2 ^ w) (e:nZ z rs w s=s):jh z rs w s=s:=by
 have hb:∀i,(z.testBit i=true∨(iO rs w s).testBit i=true)→s.testBit i=true:=fun i hi=>by
  rw [←e,yO]
  rcases hi with hi|hi<;>simp [hi]
 have e1:gP z s=s:=dV.2 fun i hi=>hb i (.inl hi)
 unfold jh
 rw [e1]
 refine yP h hs (Nat.eq_of_testBit_eq fun i=>oQ ?_)
 rw [show jL rs w s=s|||iO rs w s from rfl,Nat.testBit_or,Bool.or_eq_true]
 exact ⟨fun hi=>by rcases hi with hi|hi;exact hi;exact hb i (.inr hi),.inl⟩
structure SG (M:Nat→Prop) (W wr:World) (w m:Nat) (sg so s1:Value):Prop where
 ext:Ext No W wr
 bW:wr.heap[W.heap.size]? =some (.cells #[.int .i64 (w:Int),sg,so] 121 (0,0))
 dQ:wr.heap[W.heap.size+1]? =some (.cells #[.int .i64 (w:Int),s1] 44 (0,0))
 bV:wr.heap[W.heap.size+2]? =some (.cells #[.int .i64 0,.slice none 0 0] 44 (0,0))
 set:aG (fun b=>M b∨b=W.heap.size+1∨b=W.heap.size+2) wr s1 w m
section
variable {M:Nat→Prop} {W wr w':World} {w m m':Nat} {sg so s1 s2:Value}
theorem SG.aC (h:SG M W wr w m sg so s1) (hx:Ext No wr w'):SG M W w' w m sg so s1:=
 ⟨h.ext.af hx,hx.blk h.bW ax,hx.blk h.dQ ax,hx.blk h.bV ax,h.set.aj hx⟩
theorem SG.put (h:SG M W wr w m sg so s1) (hs:aG (fun b=>M b∨b=W.heap.size+1∨b=W.heap.size+2) wr s2 w m'):SG M W ((wr.setCell ⟨W.heap.size+1,0,none⟩ (.int .i64 (w:Int))).setCell ⟨W.heap.size+1,1,none⟩ s2) w m' sg so s2:=by
 exact FE
theorem SG.cells (h:SG M W wr w m sg so s1) (hx:Ext No wr w'):w'.cell? ⟨W.heap.size,0,none⟩=some (.int .i64 (w:Int))∧w'.cell? ⟨W.heap.size,1,none⟩=some sg∧w'.cell? ⟨W.heap.size,2,none⟩=some so∧w'.cell? ⟨W.heap.size+1,0,none⟩=some (.int .i64 (w:Int))∧w'.cell? ⟨W.heap.size+1,1,none⟩=some s1∧Ext No wr w':=by
 exact FH
end
set_option maxRecDepth 100000 in
set_option maxHeartbeats 4000000 in
theorem qp (M:Nat→Prop) (w z s:Nat) (rs:List Nat) (sg so ss:Value) (W:World) (hM:∀b,M b→b < W.heap.size) (hg:aG No W sg w z) (hr:fM No W so w rs) (hl:rs.length=w) (hs:aG M W ss w s):
  Calls Tryz.prog 99 #[.agg #[.int .i64 (w:Int),sg,so],.agg #[.int .i64 (w:Int),ss]] W (jA M w (jh z rs w s) W):=by
 have HR:=aa hr
 have HM:=aa hM
 have HG:=aa hg
 have hzl:=aa hg.hm
 have IG:=aa hl
 have Ce:=aa hr.hm
 have Tu:=aa hs.hm
 obtain ⟨ag,cg,rfl⟩:=hg.slice
 obtain ⟨ao,co,rfl⟩:=hr.slice
 obtain ⟨a1,c1,rfl⟩:=hs.slice
 have hm0:=aa (show SG M W (((W.alloc (.cells #[.int .i64 (w:Int),.slice ag (nw w) cg,.slice ao rs.length co] 121)).alloc (.cells #[.int .i64 (w:Int),.slice a1 (nw w) c1] 44)).alloc (.cells #[.int .i64 0,.slice none 0 0] 44)) w s (.slice ag (nw w) cg) (.slice ao rs.length co) (.slice a1 (nw w) c1) from
  ⟨(((Ext.refl _ _).alloc _).alloc _).alloc _,ay (ay (ah rfl)),ay (ah (by simp)),ah (by simp),(hs.mono (fun i hi e=>by
   rcases e with e|e|e
   ·exact e
   ·omega
   omega)).aj ((((Ext.refl _ _).alloc _).alloc _).alloc _)⟩)
 clear hr hs hM hg hl
 go_enter Tryz.func99,Tryz.ntmps99
 go_wp2_with fail
 generalize World.alloc (World.alloc (World.alloc W _) _) _=W0 at*
 go_loopg [5] (2 ^ w - s) (fun n _ wr=>∃(m:Nat) (av:Option Addr) (cv:Nat),Hid (2 ^ w - m≤n∧jh z rs w m=jh z rs w s)∧Hid (SG M W wr w m (.slice ag (nw w) cg) (.slice ao rs.length co) (.slice av (nw w) cv)))
 case atStart=>exact ⟨s,a1,c1,aa ⟨Nat.le_refl _,rfl⟩,hm0⟩
 clear hm0
 obtain ⟨m,av,cv,hk,hm⟩:=hrel
 rename World=>Wr
 go_wp2_with fail
 have KP:Hid (∀i,(M i∨i=W.heap.size+1∨i=W.heap.size+2)→i < Wr.heap.size):=aa (fun i e=>by
  have h1:=lt_of_block hm.bV
  rcases e with e|rfl|rfl
  ·exact Nat.lt_of_lt_of_le (HM i e) hm.ext.size
  ·omega
  exact h1)
 go_cut [5] (fun s5 wx=>∃D a c,s5= .pointer (some ⟨D,0,none⟩)∧Hid (wx.heap[D]? =some (.cells #[.int .i64 (w:Int),.slice a (nw w) c] 44 (0,0)))∧Hid (aG (fun b=>M b∨b=W.heap.size+1∨b=W.heap.size+2) wx (.slice a (nw w) c) w (nZ z rs w m))∧Hid (Ext No Wr wx))
 case first=>
  obtain ⟨l0,l1,l2,l3,l4,l5⟩:=hm.cells (Ext.refl No Wr)
  have HGr:=aa (HG.aj hm.ext)
  have zV:=aa (HR.aj hm.ext)
  have ZM:=aa hm.set.no
  go_region_held3 (fun w'=>w'.cell? ⟨W.heap.size,0,none⟩=some (.int .i64 (w:Int))∧w'.cell? ⟨W.heap.size,1,none⟩=some (.slice ag (nw w) cg)∧w'.cell? ⟨W.heap.size,2,none⟩=some (.slice ao rs.length co)∧w'.cell? ⟨W.heap.size+1,0,none⟩=some (.int .i64 (w:Int))∧w'.cell? ⟨W.heap.size+1,1,none⟩=some (.slice av (nw w) cv)∧Ext No Wr w')
   ((go_split_ands;(with_reducible refine hm.out.cells ?_);(first|((with_reducible refine gG hx7 ?_);(first|exact Nat.le_refl _|exact hx6.size|exact hx5.size))|((repeat (first|(with_reducible exact Ext.refl _ _)|(with_reducible assumption)|(with_reducible refine Ext.drewN ?_ _)|(with_reducible refine Ext.drew ?_)|(with_reducible refine Ext.alloc ?_ _)|((with_reducible refine Ext.own ?_ ?_ _);rotate_left;(first|exact Nat.le_refl _|exact Nat.le_succ _|omega|(simp;done)|(simp;omega)))))))))
   (first
    |((go_at_call 103);(try go_split_ands);(with_reducible refine (adQ No w z m rs _ _ _ _ V9 (HGr.out.aj ?_) (zV.out.aj ?_) IG.out (ZM.out.aj ?_)).mono ?_);(with_reducible assumption);(with_reducible assumption);(with_reducible assumption);(rintro e5 w5 ⟨a5,c5,rfl,hs5,aF⟩);(have hx5:=Ext.af (show Ext No Wr _ from by with_reducible assumption) aF))
    |((go_at_call 71);(try go_split_ands);(with_reducible refine (RI w m (gP z (iO rs w m)) _ _ _ (ZM.out.aj ?_) (hs5.out.no.aj ?_)).mono ?_);(with_reducible assumption);((repeat (first|(with_reducible exact Ext.refl _ _)|(with_reducible assumption)|(with_reducible refine Ext.drewN ?_ _)|(with_reducible refine Ext.drew ?_)|(with_reducible refine Ext.alloc ?_ _))));(have hx6:=(show Ext No Wr _ from by with_reducible assumption));(rintro e7 w7 ⟨a7,c7,rfl,hs7,KY⟩);(have hx7:=Ext.af (show Ext No Wr _ from by with_reducible assumption) KY);(first|(with_reducible have hi:=jI KY (ah (o:=(.cells #[.int .i64 0,.slice none 0 0] 44)) rfl))|(with_reducible have hi:=jI KY (aF.blk (ah (o:=(.cells #[.int .i64 0,.slice none 0 0] 44)) rfl) ax))|skip);(try ((obtain ⟨hi,hlt⟩:=hi);(have HI:=aa hi);(have HL:=aa hlt);(have cI:=cellOf hi);(have fI:=aH hi);(clear hi hlt)))))
  all_goals
   go_wp2_with fail
   go_meet
   first
   |exact ⟨_,a7,c7,rfl,ah rfl,(hs7.lo hx6.size KP).aj ((Ext.refl _ _).alloc _),hx7.alloc _⟩
   |exact ⟨_,a7,c7,rfl,(az (j:=1) (az (j:=0) HI)).trans rfl,(hs7.QR HL).lo hx6.size KP,gG hx7 (by first|exact Nat.le_refl _|exact hx5.size)⟩
 case rest=>
  obtain ⟨D,a,c,rfl,hD,hset,hx⟩:=hcut
  rename World=>V
  have hm2:=aa (hm.aC hx)
  clear hx hm KP
  have cD:=cellOf hD.out
  have cB:=cellOf hm2.dQ
  go_wp2_with fail
  refine (OZ w (nZ z rs w m) m _ _ _ hset.no hm2.set.no).mono ?_
  rintro e6 w6 ⟨rfl,hx6⟩
  have gX:=aa (hm2.aC hx6)
  have Jf:=aa (hset.aj hx6)
  have hD3:=aa (hx6.blk hD ax)
  clear cD cB hx6 hm2 hset hD
  by_cases he:nZ z rs w m=m
  ·have HE:=aa he
   rw [decide_eq_true he]
   clear he
   have cB:=cellOf gX.dQ
   have cC:=cellOf gX.bV
   have fC:=aH gX.bV
   go_wp2_with fail
   have hE:Ext (At (W.heap.size+2)) w6 ((w6.setCell ⟨W.heap.size+2,0,none⟩ (.int .i64 (w:Int))).setCell ⟨W.heap.size+2,1,none⟩ (.slice av (nw w) cv)):=((Ext.refl (At (W.heap.size+2)) _).setAt _ _).setAt _ _
   have hbF:=(az (j:=1) (u:= .slice av (nw w) cv) (az (j:=0) (u:= .int .i64 (w:Int)) gX.bV)).trans rfl
   clear cB cC fC
   generalize World.setCell (World.setCell w6 _ _) _ _=WF at*
   have cF:=cellOf hbF
   refine aW rfl ?_
   simp [results,Tryz.results99,go_sem,cF]
   have hfix:=O0 Ce gX.set.hm HE
   exact FI
  have HE:=aa he
  rw [decide_eq_false he]
  clear he
  have cD:=cellOf hD3.out
  have cB:=cellOf gX.dQ
  have fB:=aH gX.dQ
  have hput:=aa (gX.put Jf)
  have hge:=RN z rs w m
  have hml:=gX.set.hm
  have hstep:=aa (Mc hzl Ce hml)
  have hlt:m < nZ z rs w m:=Nat.lt_of_le_of_ne hge (fun e=>HE e.symm)
  have hlt2:=Jf.hm
  have HLT:=aa (And.intro hlt (And.intro hlt2 hml))
  clear hge hlt hlt2 hml
  go_wp2_with fail
  go_roundg (2 ^ w - nZ z rs w m)
  case measure=>have:=HLT.out;have:=hk.1;omega
  case rel=>exact ⟨nZ z rs w m,a,c,aa ⟨Nat.le_refl _,by rw [hstep,hk.2]⟩,hput⟩
end Go.Proofs.YtmddchceacmopaaGreatDoor

namespace Go.Proofs.YtmddchceacmopaaGreatDoor
open Go Go.RowKit
def iE (w gen:Nat) (rs:List Nat):Nat→Nat
 |0=>0
 |k+1=>if (!gz w (rowAt rs k) k||gz w gen k) then iE w gen rs k|||2 ^ k else iE w gen rs k
theorem Gh {w gen:Nat} {rs:List Nat} {k:Nat} (h:(!gz w (rowAt rs k) k||gz w gen k)=true):iE w gen rs (k+1)=iE w gen rs k|||2 ^ k:=by rw [iE,if_pos h]
theorem RQ {w gen:Nat} {rs:List Nat} {k:Nat} (h:(!gz w (rowAt rs k) k||gz w gen k)=false):iE w gen rs (k+1)=iE w gen rs k:=by rw [iE,if_neg (by rw [h];simp)]
theorem vz {w gen:Nat} {rs:List Nat}:∀k,k≤w→iE w gen rs k < 2 ^ w
 |0,_=>Nat.two_pow_pos _
 |k+1,hk=>by
  rw [iE]
  split
  ·exact fZ (vz k (by omega)) (eZ (by omega))
  exact vz k (by omega)
theorem mg {w gen:Nat} {rs:List Nat} (b:Nat):∀k,(iE w gen rs k).testBit b=(decide (b < k)&&(!gz w (rowAt rs b) b||gz w gen b))
 |0=>by simp [iE]
 |k+1=>by
  rw [iE]
  by_cases e:k=b
  ·subst e
   cases hc:(!gz w (rowAt rs k) k||gz w gen k)
   ·rw [if_neg (by simp),mg k k,hc];simp
   rw [if_pos rfl,or_bit,mg k k];simp
  have:decide (b < k+1)=decide (b < k):=by rw [decide_eq_decide];omega
  split
  ·rw [or_bit,mg b k,this];simp [e]
  rw [mg b k,this]
theorem Ke {w gen:Nat} {rs:List Nat} (hg:gen < 2 ^ w):iE w gen rs w=jd w gen rs w:=
 oU (vz w (Nat.le_refl _)) (tQ hg w (Nat.le_refl _)) (fun b hb=>by
  rw [mg,vo,eP (m:=gen) hb]
  cases gen.testBit b<;>simp [hb])
theorem jN {a b d:Nat} (h:d.testBit b=false∨a=b):fO a (ed d (b+1))=fO a (ed d b):=by
 rw [qj]
 rcases h with h|h
 ·rw [h];simp
 subst h
 split
 ·exact uU rfl
 simp
theorem yQ {a b d:Nat} (h1:¬a=b) (h2:d.testBit b=true):fO a (ed d (b+1))=fO a (ed d b)++[((a:Int),(b:Int))]:=by
 rw [qj,h2,if_pos rfl,uV (by omega)]
structure rF (M:Nat→Prop) (W wr:World) (w gen m T:Nat) (l:List (Int×Int)) (sg so sk sc:Value):Prop where
 ext:Ext No W wr
 bW:wr.heap[W.heap.size]? =some (.cells #[.int .i64 (w:Int),sg,so] 121 (0,0))
 lN:wr.heap[W.heap.size+1]? =some (.cells #[.int .i64 0,.slice none 0 0,.int .i64 0,.slice none 0 0,.slice none 0 0] 47 (0,0))
 jl:wr.heap[T]? =some (.cells #[.int .i64 (w:Int),sg,.int .i64 (w:Int),sk,sc] 47 (0,0))
 kill:aG (fun b=>(M b∨b=W.heap.size+1∨b=T)∨sc.ownBlock=some b) wr sk w m
 own:wr.ownsRow (T+1) 75 2 sc l.length (iZ l)
 big:W.heap.size+1 < T
section
variable {M M':Nat→Prop} {W wr w':World} {w gen m m' T:Nat} {l l':List (Int×Int)} {sg so sk VH sc Ob:Value}
theorem rF.aC (h:rF M W wr w gen m T l sg so sk sc) (hx:Ext No wr w'):rF M W w' w gen m T l sg so sk sc:=
 ⟨h.ext.af hx,hx.blk h.bW ax,hx.blk h.lN ax,hx.blk h.jl ax,h.kill.aj hx,dG h.own hx (fun _ _ x=>x),h.big⟩
theorem rF.mono (h:rF M W wr w gen m T l sg so sk sc) (hm:∀i,i < wr.heap.size→M' i→M i):rF M' W wr w gen m T l sg so sk sc:=
 ⟨h.ext,h.bW,h.lN,h.jl,h.kill.mono (fun i hi e=>by
  rcases e with (e|e)|e
  ·exact .inl (.inl (hm i hi e))
  ·exact .inl (.inr e)
  exact .inr e),h.own,h.big⟩
theorem rF.kv (h:rF M W wr w gen m T l sg so sk sc) (k:Nat) (hk:sc.ownBlock=some k):T+1≤k∧k < wr.heap.size:=World.ownsRow.lt h.own k hk
theorem rF.hM (hM:∀b,M b→b < wr.heap.size) (h:rF M W wr w gen m T l sg so sk sc):∀b,((M b∨b=W.heap.size+1∨b=T)∨sc.ownBlock=some b)→b < wr.heap.size:=fun b hb=>by
 have h1:=lt_of_block h.jl
 have h2:=h.big
 rcases hb with (hb|rfl|rfl)|hb
 ·exact hM b hb
 ·omega
 ·exact h1
 exact (h.kv b hb).2
theorem rF.box {S:Nat} {u0 u1:Value} (h:rF M W wr w gen m T l sg so sk sc) (hS:T < S) (hv:¬sc.ownBlock=some S) (ZH:M S):rF M W ((wr.setCell ⟨S,0,none⟩ u0).setCell ⟨S,1,none⟩ u1) w gen m T l sg so sk sc:=by
 exact FK
theorem rF.ND (h:rF M W wr w gen m T l sg so sk sc) (hs:aG (fun b=>(M b∨b=W.heap.size+1∨b=T)∨sc.ownBlock=some b) wr VH w m'):rF M W ((wr.setCell ⟨T,2,none⟩ (.int .i64 (w:Int))).setCell ⟨T,3,none⟩ VH) w gen m' T l sg so VH sc:=by
 exact FL
theorem rF.app {o:Obj} {a b:Int} (h:rF M W wr w gen m T l sg so sk sc) (hown:w'.ownsRow (T+1) 75 2 Ob (l.length+1) (iZ l++[.int .i64 a,.int .i64 b]))
  (hg:(wr.alloc o).grownBy w' sc.ownBlock) (hv:Ob.ownBlock=sc.ownBlock∨Ob.ownBlock=some (wr.alloc o).heap.size):
  rF M W (w'.setCell ⟨T,4,none⟩ Ob) w gen m T (l++[(a,b)]) sg so sk Ob∧w'.heap[T]? =some (.cells #[.int .i64 (w:Int),sg,.int .i64 (w:Int),sk,sc] 47 (0,0)):=by
 exact FM
theorem rF.slice (h:rF M W wr w gen m T l sg so sk sc):∃a c,sc= .slice a l.length c:=(Row.bG (M:=No) h.own (fun _ _ x=>x)).slice
end
theorem rF.late {M:Nat→Prop} {W w7:World} {w gen m L:Nat} {sg so sk:Value} (hx:Ext No W w7) (hA:w7.heap[W.heap.size]? =some (.cells #[.int .i64 (w:Int),sg,so] 121 (0,0)))
  (hC:w7.heap[W.heap.size+1]? =some (.cells #[.int .i64 0,.slice none 0 0,.int .i64 0,.slice none 0 0,.slice none 0 0] 47 (0,0))) (hs:aG (Lo L) w7 sk w m) (hL:W.heap.size+1 < L) (hM:∀b,M b→b < W.heap.size):
  rF M W (w7.alloc (.cells #[.int .i64 (w:Int),sg,.int .i64 (w:Int),sk,.slice none 0 0] 47)) w gen m w7.heap.size [] sg so sk (.slice none 0 0):=
 ⟨hx.alloc _,ay hA,ay hC,ah rfl,(hs.mono (fun i hi e=>by
  unfold Lo
  rcases e with (e|e|e)|e
  ·have:=hM i e;omega
  ·omega
  ·omega
  cases e)).aj ((Ext.refl _ _).alloc _),World.ownsRow_nil _ _ _ _,lt_of_block hC⟩
theorem rF.early {M:Nat→Prop} {W w7:World} {w gen m L D:Nat} {sg so sk:Value} (hx:Ext No W w7) (hA:w7.heap[W.heap.size]? =some (.cells #[.int .i64 (w:Int),sg,so] 121 (0,0)))
  (hC:w7.heap[W.heap.size+1]? =some (.cells #[.int .i64 0,.slice none 0 0,.int .i64 0,.slice none 0 0,.slice none 0 0] 47 (0,0))) (hs:aG (Lo L) w7 sk w m) (hD:W.heap.size+1 < D) (hL:D < L) (hI:w7.heap[D]? =some (.cells #[.int .i64 0,.slice none 0 0,.int .i64 0,.slice none 0 0,.slice none 0 0] 47 (0,0))) (hM:∀b,M b→b < W.heap.size):
  rF M W (((((w7.setCell ⟨D,0,none⟩ (.int .i64 (w:Int))).setCell ⟨D,1,none⟩ sg).setCell ⟨D,2,none⟩ (.int .i64 (w:Int))).setCell ⟨D,3,none⟩ sk).setCell ⟨D,4,none⟩ (.slice none 0 0)) w gen m D [] sg so sk (.slice none 0 0):=by
 exact FO
def XX (M:Nat→Prop) (w gen:Nat) (rs:List Nat) (W:World) (e:Ending) (w':World):Prop:=
 ∃ag cg ak ck ac n cc,e= .returned (.tuple #[.agg #[.int .i64 (w:Int),.slice ag (nw w) cg,.int .i64 (w:Int),.slice ak (nw w) ck,.slice ac n cc],.bool (decide ((n:Int)≤64))])∧n=(fu w gen rs w).length∧
  Hid (aG M w' (.slice ag (nw w) cg) w gen∧aG M w' (.slice ak (nw w) ck) w (jd w gen rs w)∧Row M w' 2 (.slice ac n cc) n (iZ (fu w gen rs w)))∧Ext No W w'
set_option maxRecDepth 100000 in
set_option maxHeartbeats 8000000 in
theorem Cw (M:Nat→Prop) (w gen:Nat) (rs:List Nat) (sg so:Value) (W:World) (hM:∀b,M b→b < W.heap.size) (hg:aG M W sg w gen) (hr:fM No W so w rs) (hl:rs.length=w):
  Calls Tryz.prog 132 #[.agg #[.int .i64 (w:Int),sg,so]] W (XX M w gen rs W):=by
 have HR:=aa hr
 have HM:=aa hM
 have HG:=aa hg
 have IG:=aa hl
 have HRM:=aa hr.hm
 obtain ⟨ag,cg,rfl⟩:=hg.slice
 obtain ⟨ao,co,rfl⟩:=hr.slice
 have hw:=hg.hw
 obtain ⟨i0,hi0,hz0,hz1,hz2⟩:=info_parts Qz
 clear hr hM hg hl
 go_enter Tryz.func132,Tryz.ntmps132
 go_wp2_with fail
 have hx0:Ext No W ((W.alloc (.cells #[.int .i64 (w:Int),.slice ag (nw w) cg,.slice ao rs.length co] 121)).alloc (.cells #[.int .i64 0,.slice none 0 0,.int .i64 0,.slice none 0 0,.slice none 0 0] 47)):=((Ext.refl _ _).alloc _).alloc _
 have hA:((W.alloc (.cells #[.int .i64 (w:Int),.slice ag (nw w) cg,.slice ao rs.length co] 121)).alloc (.cells #[.int .i64 0,.slice none 0 0,.int .i64 0,.slice none 0 0,.slice none 0 0] 47)).heap[W.heap.size]? =some (.cells #[.int .i64 (w:Int),.slice ag (nw w) cg,.slice ao rs.length co] 121 (0,0)):=ay (ah rfl)
 have hB:((W.alloc (.cells #[.int .i64 (w:Int),.slice ag (nw w) cg,.slice ao rs.length co] 121)).alloc (.cells #[.int .i64 0,.slice none 0 0,.int .i64 0,.slice none 0 0,.slice none 0 0] 47)).heap[W.heap.size+1]? =some (.cells #[.int .i64 0,.slice none 0 0,.int .i64 0,.slice none 0 0,.slice none 0 0] 47 (0,0)):=ah (by simp)
 have hsz:W.heap.size+1 < ((W.alloc (.cells #[.int .i64 (w:Int),.slice ag (nw w) cg,.slice ao rs.length co] 121)).alloc (.cells #[.int .i64 0,.slice none 0 0,.int .i64 0,.slice none 0 0,.slice none 0 0] 47)).heap.size:=lt_of_block hB
 generalize World.alloc (World.alloc W _) _=W2 at*
 have HA:=aa hA
 have HB:=aa hB
 have HX0:=aa hx0
 go_cut [5] (fun s5 wx=>∃T g,s5= .pointer (some ⟨T,0,none⟩)∧Hid (rF M W wx w gen 0 T [] (.slice ag (nw w) cg) (.slice ao rs.length co) (.slice (some ⟨g,0,none⟩) (nw w) (nw w)) (.slice none 0 0)))
 case first=>
  have l0:W2.cell? ⟨W.heap.size,0,none⟩=some (.int .i64 (w:Int)):=cellOf hA 0
  have l1:W2.cell? ⟨W.heap.size,1,none⟩=some (.slice ag (nw w) cg):=cellOf hA 1
  have l2:W2.cell? ⟨W.heap.size,2,none⟩=some (.slice ao rs.length co):=cellOf hA 2
  have l3:Ext No W2 W2:=Ext.refl _ _
  have hlA:W.heap.size < W2.heap.size:=by omega
  clear hA hB
  go_region_held3 (fun w'=>w'.cell? ⟨W.heap.size,0,none⟩=some (.int .i64 (w:Int))∧w'.cell? ⟨W.heap.size,1,none⟩=some (.slice ag (nw w) cg)∧w'.cell? ⟨W.heap.size,2,none⟩=some (.slice ao rs.length co)∧Ext No W2 w')
   ((go_split_ands;refine ⟨?_,?_,?_,?_⟩<;>(repeat (first|(with_reducible assumption)|(with_reducible exact Ext.refl _ _)|(with_reducible refine keepD ?_)|(with_reducible refine aO ?_)|(with_reducible refine Ext.drew ?_)|(with_reducible refine Ext.alloc ?_ _)|(with_reducible refine bY.drew ?_)|(with_reducible refine bY.alloc ?_ _)|(with_reducible refine bY.set ?_ _ _)|((with_reducible refine kX ?_ ?_);(first|(with_reducible assumption)|omega|(simp;omega)|(exact Nat.le_refl _)))|(with_reducible refine Ext.setAt ?_ _ _)|((with_reducible refine Ext.own ?_ ?_ _);rotate_left;(first|(with_reducible assumption)|omega|(simp;omega)|(exact Nat.le_refl _)))|(with_reducible refine bf aF ?_)|(with_reducible refine Ext.af ?_ aF)|(with_reducible refine bY.ext ?_ aF)))))
   (first
    |((go_at_call 39);(try go_split_ands);(with_reducible refine (fK w _ hw).mono ?_);(have hx4:=(show Ext No W2 _ from by with_reducible assumption));(rintro e5 w5 ⟨g5,rfl,hb5,hg5,aF⟩);(have KY:=aF);(have hs5:=hx4.size);(have hx5:=Ext.af hx4 aF);(first|(with_reducible have hi:=jI KY (ah (o:=(.cells #[.int .i64 0,.slice none 0 0,.int .i64 0,.slice none 0 0,.slice none 0 0] 47)) rfl))|skip);(try ((obtain ⟨hi,hlt⟩:=hi);(have HI:=aa hi);(have HL:=aa hlt);(have cI:=cellOf hi);(have fI:=aH hi);(clear hi hlt)))))
  all_goals
   go_wp2_with fail
   go_meet
   first
   |exact ⟨_,g5,rfl,rF.late (HX0.af hx5) (hx5.blk HA ax) (hx5.blk HB ax) (hb5.set hw (Nat.two_pow_pos _) (fun e=>Nat.not_lt.2 hg5 e)) (Nat.lt_of_lt_of_le hsz hs5) HM⟩
   |exact ⟨_,g5,rfl,rF.early (HX0.af hx5) (hx5.blk HA ax) (hx5.blk HB ax) (hb5.set hw (Nat.two_pow_pos _) (fun e=>Nat.not_lt.2 hg5 e)) hsz HL HI HM⟩
 case rest=>
 obtain ⟨T,g,rfl,hm⟩:=hcut
 rename World=>V
 clear hA hB hx0 hsz HA HB HX0
 go_wp2_with fail
 go_loopw [6] (fun i wr=>∃(a m:Nat) (ak:Option Addr) (ck:Nat) (ac:Option Addr) (cc:Nat) (l:List (Int×Int)),a≤w∧i= .int .i64 a∧Hid (m=iE w gen rs a∧l=fu w gen rs a)∧Hid (rF M W wr w gen m T l (.slice ag (nw w) cg) (.slice ao rs.length co) (.slice ak (nw w) ck) (.slice ac l.length cc))) (fun i _=>w - (intOf i).toNat)
 case atStart=>exact ⟨0,0,_,_,none,0,[],Nat.zero_le _,rfl,aa ⟨rfl,rfl⟩,hm⟩
 clear hm
 obtain ⟨a,m,ak,ck,ac,cc,l,ha,rfl,hml,hm⟩:=hrel
 rename World=>wr
 have hpos:(0:Int)≤(a:Int):=by omega
 by_cases hlt:a < w
 ·have hkr:a < rs.length:=by have:=IG.out;omega
  have hlz:(a:Int) < (w:Int):=by omega
  have adp:(a:Int) < (rs.length:Int):=by omega
  have HKK:Hid (Value.int .i64 ((a:Int)+1)= .int .i64 ((a+1:Nat):Int)):=aa (by rw [show ((a+1:Nat):Int)=(a:Int)+1 from by omega])
  have P5:=aa (show rowAt rs a=rs[a] from fP hkr)
  have YZ:=aa (HRM rs[a] (List.getElem_mem hkr))
  have VM:=aa (show l.length≤65536 by
   rw [hml.2]
   have h1:=nD w gen rs a
   have h2:a*w≤256*256:=Nat.mul_le_mul (by omega) hw
   omega)
  obtain ⟨gga,goa,gca,aea,cea,aaF,_,_,z0a,z1a,hEa⟩:=(HR.aj hm.ext).at hkr
  simp only [Value.slice.injEq] at aaF
  obtain ⟨acu,_,rfl⟩:=aaF
  cases acu
  have kU:=aa hEa.out
  clear hEa
  have cA:=cellOf hm.bW
  go_wp2_with fail
  obtain ⟨b1,hb1⟩:∃b1,gz w rs[a] (a:Int)=b1:=⟨_,rfl⟩
  have HB1:=aa hb1
  refine (nP w rs[a] b1 _ (a:Int) _ hb1 kU).mono ?_
  rintro e6 w6 ⟨rfl,P9⟩
  have jU:=aa (hm.aC P9)
  clear hm P9 hb1 cA z0a z1a kU
  have hm:=jU
  clear jU
  cases b1
  ·
   have cT:=cellOf hm.jl
   go_wp2_with fail
   refine (iW w m a _ _ hlt hm.kill.no).mono ?_
   rintro e5 w5 ⟨g5,rfl,hb5,hlo,hx5⟩
   have mH:=aa (hm.aC hx5)
   have hset:=hb5.set (M:=fun b=>(M b∨b=W.heap.size+1∨b=T)∨(Value.slice ac l.length cc).ownBlock=some b) hw (fZ hm.kill.hm (eZ hlt)) (fun e=>by have:=hm.hM (fun b hb=>Nat.lt_of_lt_of_le (HM b hb) hm.ext.size) g5 e;omega)
   have jU:=aa (mH.ND hset)
   have cT5:=cellOf mH.jl
   have fT5:=aH mH.jl
   clear hx5 hb5 hset hlo hm cT
   go_wp2_with fail
   clear cT5 fT5 mH
   have hm:=jU
   clear jU
   obtain ⟨m',Qa⟩:∃m',m'=m|||2 ^ a:=⟨_,rfl⟩
   rw [←Qa] at hm
   have hmk:Hid (m'=iE w gen rs (a+1)):=aa (by rw [Qa,Gh (by rw [P5,HB1];rfl),←hml.1])
   clear Qa
   go_loopw [7] (fun i wi=>∃(b:Nat) (l':List (Int×Int)) (qN:Option Addr) (cc':Nat),b≤w∧i= .int .i64 b∧Hid (l'=l++fO a (ed (dz rs[a] gen) b))∧Hid (rF M W wi w gen m' T l' (.slice ag (nw w) cg) (.slice (some ⟨gga,goa,none⟩) rs.length co) (.slice (some ⟨g5,0,none⟩) (nw w) (nw w)) (.slice qN l'.length cc'))) (fun i _=>w - (intOf i).toNat)
   case atStart=>exact ⟨0,l,ac,cc,Nat.zero_le _,rfl,aa (by simp [vD,fO]),hm⟩
   clear hm
   obtain ⟨b,l',qN,cc',hb,rfl,hl',hm⟩:=hrel
   rename World=>w9
   have Qx:(0:Int)≤(b:Int):=by omega
   by_cases hlb:b < w
   ·have Xu:(b:Int) < (w:Int):=by omega
    have Cj:Hid (Value.int .i64 ((b:Int)+1)= .int .i64 ((b+1:Nat):Int)):=aa (by rw [show ((b+1:Nat):Int)=(b:Int)+1 from by omega])
    have WX:=aa (show l'.length≤66000 by
     rw [hl',List.length_append]
     have h1:=pq a (ed (dz rs[a] gen) b)
     have h2:=VM.out
     have h3:=tT (dz rs[a] gen) b
     omega)
    by_cases hab:a=b
    ·have hne2:((a:Int) != (b:Int))=false:=by simp;omega
     have I8:=aa hab
     clear hab
     have jT:=aa (show l'=l++fO a (ed (dz rs[a] gen) (b+1)) by rw [jN (.inr I8)];exact hl')
     go_wp2_with fail
     go_roundw
     case rel=>exact ⟨b+1,l',qN,cc',by omega,Cj,jT,hm⟩
     case measure=>simp [intOf];omega
    have hne2:((a:Int) != (b:Int))=true:=by simp;omega
    have I8:=aa hab
    clear hab
    have cA:=cellOf hm.bW
    obtain ⟨ggb,gob,gcb,aeb,ceb,IY,_,_,ZN,ZO,VO⟩:=(HR.aj hm.ext).at hkr
    simp only [Value.slice.injEq] at IY
    obtain ⟨Qq,_,rfl⟩:=IY
    cases Qq
    have kU:=aa VO.out
    clear VO
    go_wp2_with fail
    obtain ⟨b1,hb1⟩:∃b1,rs[a].testBit b=b1:=⟨_,rfl⟩
    have HB1:=aa hb1
    refine (nP w rs[a] b1 _ (b:Int) _ (by rw [eP hlb];exact hb1) kU).mono ?_
    rintro e6 w6 ⟨rfl,P9⟩
    have jU:=aa (hm.aC P9)
    clear hm P9 hb1 cA ZN ZO kU
    have hm:=jU
    clear jU
    rename_i Wd
    have cA:=cellOf hm.bW
    cases b1
    ·
     have jT:=aa (show l'=l++fO a (ed (dz rs[a] gen) (b+1)) by rw [jN (.inl (by rw [eG,HB1];rfl))];exact hl')
     go_wp2_with fail
     go_roundw
     case rel=>exact ⟨b+1,l',qN,cc',by omega,Cj,jT,hm⟩
     case measure=>simp [intOf];omega
    go_wp2_with fail
    obtain ⟨b2,hb2⟩:∃b2,gen.testBit b=b2:=⟨_,rfl⟩
    have HB2:=aa hb2
    refine (nP w gen b2 _ (b:Int) _ (by rw [eP hlb];exact hb2) (HG.no.aj hm.ext)).mono ?_
    rintro e8 w9 ⟨rfl,Qb⟩
    have KQ:=aa (hm.aC Qb)
    clear hm Qb hb2 cA
    have hm:=KQ
    clear KQ
    cases b2
    ·have jT:=aa (show l'++[((a:Int),(b:Int))]=l++fO a (ed (dz rs[a] gen) (b+1)) by rw [yQ I8 (by rw [eG,HB1,HB2];rfl),←List.append_assoc,←hl'])
     have hll:=WX.out
     have cT:=cellOf hm.jl
     go_wp2_with (at_builtin;(refine bE _ rfl (.tmp 65) (.tmp 69) 45 rfl (T+1) 75 i0 _ 2 16 Tryz.underlying45 hi0 hz0 hz1 hz2 rfl (by omega) (.slice qN l'.length cc') l'.length (iZ l') rfl (dG hm.out.own ((Ext.refl No _).alloc _) (fun _ _ x=>x)) No (some ⟨w9.heap.size,0,none⟩) 1 1 [.int .i64 (a:Int),.int .i64 (b:Int)] rfl (Row.block (ah rfl) rfl ax (by omega)) (by simp [Value.oneCell']) (by omega) (by omega) (by simp;exact Nat.le_of_lt (lt_of_block hm.out.jl)) ?_);(intro v1 w5 hown1 hg1 hv1);(obtain ⟨jU,KA⟩:=hm.out.app hown1 hg1 hv1);(have cT6:=cellOf KA);(have fT6:=aH KA);(have Kz:=aa jU);(obtain ⟨a6,c6,hs6⟩:=jU.slice);(subst hs6);(clear jU KA hown1 hg1 hv1))
     go_roundw
     case rel=>exact ⟨b+1,l'++[((a:Int),(b:Int))],a6,c6,by omega,Cj,jT,by have:=Kz;simp only [List.length_append,List.length_cons,List.length_nil] at this ⊢;exact this⟩
     case measure=>simp [intOf];omega
    ·
     have jT:=aa (show l'=l++fO a (ed (dz rs[a] gen) (b+1)) by rw [jN (.inl (by rw [eG,HB2];simp))];exact hl')
     go_wp2_with fail
     go_roundw
     case rel=>exact ⟨b+1,l',qN,cc',by omega,Cj,jT,hm⟩
     case measure=>simp [intOf];omega
   obtain rfl:b=w:=by omega
   have aaG:¬(b:Int) < (b:Int):=by omega
   have jT:=aa (show l'=fu b gen rs (a+1) by rw [fu,P5,hl',hml.2,mQ (lY YZ) (Nat.le_refl _)])
   go_wp2_with fail
   go_roundw
   case rel=>exact ⟨a+1,m',_,_,qN,cc',l',by omega,HKK,aa ⟨hmk.out,jT⟩,hm⟩
   case measure=>simp [intOf];omega
  have cA:=cellOf hm.bW
  go_wp2_with fail
  obtain ⟨b2,hb2⟩:∃b2,gz w gen (a:Int)=b2:=⟨_,rfl⟩
  have HB2:=aa hb2
  refine (nP w gen b2 _ (a:Int) _ hb2 (HG.no.aj hm.ext)).mono ?_
  rintro e8 w8 ⟨rfl,Qb⟩
  have KQ:=aa (hm.aC Qb)
  clear hm Qb hb2 cA
  have hm:=KQ
  clear KQ
  cases b2
  ·
   go_wp2_with fail
   obtain ⟨m',Qa⟩:∃m',m'=m:=⟨_,rfl⟩
   rw [←Qa] at hm
   have hmk:Hid (m'=iE w gen rs (a+1)):=aa (by rw [Qa,RQ (by rw [P5,HB1,HB2];rfl),←hml.1])
   clear Qa
   go_loopw [7] (fun i wi=>∃(b:Nat) (l':List (Int×Int)) (qN:Option Addr) (cc':Nat),b≤w∧i= .int .i64 b∧Hid (l'=l++fO a (ed (dz rs[a] gen) b))∧Hid (rF M W wi w gen m' T l' (.slice ag (nw w) cg) (.slice (some ⟨gga,goa,none⟩) rs.length co) (.slice ak (nw w) ck) (.slice qN l'.length cc'))) (fun i _=>w - (intOf i).toNat)
   case atStart=>exact ⟨0,l,ac,cc,Nat.zero_le _,rfl,aa (by simp [vD,fO]),hm⟩
   clear hm
   obtain ⟨b,l',qN,cc',hb,rfl,hl',hm⟩:=hrel
   rename World=>w9
   have Qx:(0:Int)≤(b:Int):=by omega
   by_cases hlb:b < w
   ·have Xu:(b:Int) < (w:Int):=by omega
    have Cj:Hid (Value.int .i64 ((b:Int)+1)= .int .i64 ((b+1:Nat):Int)):=aa (by rw [show ((b+1:Nat):Int)=(b:Int)+1 from by omega])
    have WX:=aa (show l'.length≤66000 by
     rw [hl',List.length_append]
     have h1:=pq a (ed (dz rs[a] gen) b)
     have h2:=VM.out
     have h3:=tT (dz rs[a] gen) b
     omega)
    by_cases hab:a=b
    ·have hne2:((a:Int) != (b:Int))=false:=by simp;omega
     have I8:=aa hab
     clear hab
     have jT:=aa (show l'=l++fO a (ed (dz rs[a] gen) (b+1)) by rw [jN (.inr I8)];exact hl')
     go_wp2_with fail
     go_roundw
     case rel=>exact ⟨b+1,l',qN,cc',by omega,Cj,jT,hm⟩
     case measure=>simp [intOf];omega
    have hne2:((a:Int) != (b:Int))=true:=by simp;omega
    have I8:=aa hab
    clear hab
    have cA:=cellOf hm.bW
    obtain ⟨ggb,gob,gcb,aeb,ceb,IY,_,_,ZN,ZO,VO⟩:=(HR.aj hm.ext).at hkr
    simp only [Value.slice.injEq] at IY
    obtain ⟨Qq,_,rfl⟩:=IY
    cases Qq
    have kU:=aa VO.out
    clear VO
    go_wp2_with fail
    obtain ⟨b1,hb1⟩:∃b1,rs[a].testBit b=b1:=⟨_,rfl⟩
    have HB1:=aa hb1
    refine (nP w rs[a] b1 _ (b:Int) _ (by rw [eP hlb];exact hb1) kU).mono ?_
    rintro e6 w6 ⟨rfl,P9⟩
    have jU:=aa (hm.aC P9)
    clear hm P9 hb1 cA ZN ZO kU
    have hm:=jU
    clear jU
    rename_i Wd
    have cA:=cellOf hm.bW
    cases b1
    ·
     have jT:=aa (show l'=l++fO a (ed (dz rs[a] gen) (b+1)) by rw [jN (.inl (by rw [eG,HB1];rfl))];exact hl')
     go_wp2_with fail
     go_roundw
     case rel=>exact ⟨b+1,l',qN,cc',by omega,Cj,jT,hm⟩
     case measure=>simp [intOf];omega
    go_wp2_with fail
    obtain ⟨b2,hb2⟩:∃b2,gen.testBit b=b2:=⟨_,rfl⟩
    have HB2:=aa hb2
    refine (nP w gen b2 _ (b:Int) _ (by rw [eP hlb];exact hb2) (HG.no.aj hm.ext)).mono ?_
    rintro e8 w9 ⟨rfl,Qb⟩
    have KQ:=aa (hm.aC Qb)
    clear hm Qb hb2 cA
    have hm:=KQ
    clear KQ
    cases b2
    ·have jT:=aa (show l'++[((a:Int),(b:Int))]=l++fO a (ed (dz rs[a] gen) (b+1)) by rw [yQ I8 (by rw [eG,HB1,HB2];rfl),←List.append_assoc,←hl'])
     have hll:=WX.out
     have cT:=cellOf hm.jl
     go_wp2_with (at_builtin;(refine bE _ rfl (.tmp 65) (.tmp 69) 45 rfl (T+1) 75 i0 _ 2 16 Tryz.underlying45 hi0 hz0 hz1 hz2 rfl (by omega) (.slice qN l'.length cc') l'.length (iZ l') rfl (dG hm.out.own ((Ext.refl No _).alloc _) (fun _ _ x=>x)) No (some ⟨w9.heap.size,0,none⟩) 1 1 [.int .i64 (a:Int),.int .i64 (b:Int)] rfl (Row.block (ah rfl) rfl ax (by omega)) (by simp [Value.oneCell']) (by omega) (by omega) (by simp;exact Nat.le_of_lt (lt_of_block hm.out.jl)) ?_);(intro v1 w5 hown1 hg1 hv1);(obtain ⟨jU,KA⟩:=hm.out.app hown1 hg1 hv1);(have cT6:=cellOf KA);(have fT6:=aH KA);(have Kz:=aa jU);(obtain ⟨a6,c6,hs6⟩:=jU.slice);(subst hs6);(clear jU KA hown1 hg1 hv1))
     go_roundw
     case rel=>exact ⟨b+1,l'++[((a:Int),(b:Int))],a6,c6,by omega,Cj,jT,by have:=Kz;simp only [List.length_append,List.length_cons,List.length_nil] at this ⊢;exact this⟩
     case measure=>simp [intOf];omega
    ·
     have jT:=aa (show l'=l++fO a (ed (dz rs[a] gen) (b+1)) by rw [jN (.inl (by rw [eG,HB2];simp))];exact hl')
     go_wp2_with fail
     go_roundw
     case rel=>exact ⟨b+1,l',qN,cc',by omega,Cj,jT,hm⟩
     case measure=>simp [intOf];omega
   obtain rfl:b=w:=by omega
   have aaG:¬(b:Int) < (b:Int):=by omega
   have jT:=aa (show l'=fu b gen rs (a+1) by rw [fu,P5,hl',hml.2,mQ (lY YZ) (Nat.le_refl _)])
   go_wp2_with fail
   go_roundw
   case rel=>exact ⟨a+1,m',_,_,qN,cc',l',by omega,HKK,aa ⟨hmk.out,jT⟩,hm⟩
   case measure=>simp [intOf];omega
  ·
   have cT:=cellOf hm.jl
   go_wp2_with fail
   refine (iW w m a _ _ hlt hm.kill.no).mono ?_
   rintro e5 w5 ⟨g5,rfl,hb5,hlo,hx5⟩
   have mH:=aa (hm.aC hx5)
   have hset:=hb5.set (M:=fun b=>(M b∨b=W.heap.size+1∨b=T)∨(Value.slice ac l.length cc).ownBlock=some b) hw (fZ hm.kill.hm (eZ hlt)) (fun e=>by have:=hm.hM (fun b hb=>Nat.lt_of_lt_of_le (HM b hb) hm.ext.size) g5 e;omega)
   have jU:=aa (mH.ND hset)
   have cT5:=cellOf mH.jl
   have fT5:=aH mH.jl
   clear hx5 hb5 hset hlo hm cT
   go_wp2_with fail
   clear cT5 fT5 mH
   have hm:=jU
   clear jU
   obtain ⟨m',Qa⟩:∃m',m'=m|||2 ^ a:=⟨_,rfl⟩
   rw [←Qa] at hm
   have hmk:Hid (m'=iE w gen rs (a+1)):=aa (by rw [Qa,Gh (by rw [HB2,Bool.or_true]),←hml.1])
   clear Qa
   go_loopw [7] (fun i wi=>∃(b:Nat) (l':List (Int×Int)) (qN:Option Addr) (cc':Nat),b≤w∧i= .int .i64 b∧Hid (l'=l++fO a (ed (dz rs[a] gen) b))∧Hid (rF M W wi w gen m' T l' (.slice ag (nw w) cg) (.slice (some ⟨gga,goa,none⟩) rs.length co) (.slice (some ⟨g5,0,none⟩) (nw w) (nw w)) (.slice qN l'.length cc'))) (fun i _=>w - (intOf i).toNat)
   case atStart=>exact ⟨0,l,ac,cc,Nat.zero_le _,rfl,aa (by simp [vD,fO]),hm⟩
   clear hm
   obtain ⟨b,l',qN,cc',hb,rfl,hl',hm⟩:=hrel
   rename World=>w9
   have Qx:(0:Int)≤(b:Int):=by omega
   by_cases hlb:b < w
   ·have Xu:(b:Int) < (w:Int):=by omega
    have Cj:Hid (Value.int .i64 ((b:Int)+1)= .int .i64 ((b+1:Nat):Int)):=aa (by rw [show ((b+1:Nat):Int)=(b:Int)+1 from by omega])
    have WX:=aa (show l'.length≤66000 by
     rw [hl',List.length_append]
     have h1:=pq a (ed (dz rs[a] gen) b)
     have h2:=VM.out
     have h3:=tT (dz rs[a] gen) b
     omega)
    by_cases hab:a=b
    ·have hne2:((a:Int) != (b:Int))=false:=by simp;omega
     have I8:=aa hab
     clear hab
     have jT:=aa (show l'=l++fO a (ed (dz rs[a] gen) (b+1)) by rw [jN (.inr I8)];exact hl')
     go_wp2_with fail
     go_roundw
     case rel=>exact ⟨b+1,l',qN,cc',by omega,Cj,jT,hm⟩
     case measure=>simp [intOf];omega
    have hne2:((a:Int) != (b:Int))=true:=by simp;omega
    have I8:=aa hab
    clear hab
    have cA:=cellOf hm.bW
    obtain ⟨ggb,gob,gcb,aeb,ceb,IY,_,_,ZN,ZO,VO⟩:=(HR.aj hm.ext).at hkr
    simp only [Value.slice.injEq] at IY
    obtain ⟨Qq,_,rfl⟩:=IY
    cases Qq
    have kU:=aa VO.out
    clear VO
    go_wp2_with fail
    obtain ⟨b1,hb1⟩:∃b1,rs[a].testBit b=b1:=⟨_,rfl⟩
    have HB1:=aa hb1
    refine (nP w rs[a] b1 _ (b:Int) _ (by rw [eP hlb];exact hb1) kU).mono ?_
    rintro e6 w6 ⟨rfl,P9⟩
    have jU:=aa (hm.aC P9)
    clear hm P9 hb1 cA ZN ZO kU
    have hm:=jU
    clear jU
    rename_i Wd
    have cA:=cellOf hm.bW
    cases b1
    ·
     have jT:=aa (show l'=l++fO a (ed (dz rs[a] gen) (b+1)) by rw [jN (.inl (by rw [eG,HB1];rfl))];exact hl')
     go_wp2_with fail
     go_roundw
     case rel=>exact ⟨b+1,l',qN,cc',by omega,Cj,jT,hm⟩
     case measure=>simp [intOf];omega
    go_wp2_with fail
    obtain ⟨b2,hb2⟩:∃b2,gen.testBit b=b2:=⟨_,rfl⟩
    have HB2:=aa hb2
    refine (nP w gen b2 _ (b:Int) _ (by rw [eP hlb];exact hb2) (HG.no.aj hm.ext)).mono ?_
    rintro e8 w9 ⟨rfl,Qb⟩
    have KQ:=aa (hm.aC Qb)
    clear hm Qb hb2 cA
    have hm:=KQ
    clear KQ
    cases b2
    ·have jT:=aa (show l'++[((a:Int),(b:Int))]=l++fO a (ed (dz rs[a] gen) (b+1)) by rw [yQ I8 (by rw [eG,HB1,HB2];rfl),←List.append_assoc,←hl'])
     have hll:=WX.out
     have cT:=cellOf hm.jl
     go_wp2_with (at_builtin;(refine bE _ rfl (.tmp 65) (.tmp 69) 45 rfl (T+1) 75 i0 _ 2 16 Tryz.underlying45 hi0 hz0 hz1 hz2 rfl (by omega) (.slice qN l'.length cc') l'.length (iZ l') rfl (dG hm.out.own ((Ext.refl No _).alloc _) (fun _ _ x=>x)) No (some ⟨w9.heap.size,0,none⟩) 1 1 [.int .i64 (a:Int),.int .i64 (b:Int)] rfl (Row.block (ah rfl) rfl ax (by omega)) (by simp [Value.oneCell']) (by omega) (by omega) (by simp;exact Nat.le_of_lt (lt_of_block hm.out.jl)) ?_);(intro v1 w5 hown1 hg1 hv1);(obtain ⟨jU,KA⟩:=hm.out.app hown1 hg1 hv1);(have cT6:=cellOf KA);(have fT6:=aH KA);(have Kz:=aa jU);(obtain ⟨a6,c6,hs6⟩:=jU.slice);(subst hs6);(clear jU KA hown1 hg1 hv1))
     go_roundw
     case rel=>exact ⟨b+1,l'++[((a:Int),(b:Int))],a6,c6,by omega,Cj,jT,by have:=Kz;simp only [List.length_append,List.length_cons,List.length_nil] at this ⊢;exact this⟩
     case measure=>simp [intOf];omega
    ·
     have jT:=aa (show l'=l++fO a (ed (dz rs[a] gen) (b+1)) by rw [jN (.inl (by rw [eG,HB2];simp))];exact hl')
     go_wp2_with fail
     go_roundw
     case rel=>exact ⟨b+1,l',qN,cc',by omega,Cj,jT,hm⟩
     case measure=>simp [intOf];omega
   obtain rfl:b=w:=by omega
   have aaG:¬(b:Int) < (b:Int):=by omega
   have jT:=aa (show l'=fu b gen rs (a+1) by rw [fu,P5,hl',hml.2,mQ (lY YZ) (Nat.le_refl _)])
   go_wp2_with fail
   go_roundw
   case rel=>exact ⟨a+1,m',_,_,qN,cc',l',by omega,HKK,aa ⟨hmk.out,jT⟩,hm⟩
   case measure=>simp [intOf];omega
 obtain rfl:a=w:=by omega
 have hge:¬(a:Int) < (a:Int):=by omega
 have HLK:=aa hml.2
 have Tq:=aa (hml.1.trans (Ke HG.hm))
 go_wp2_with fail
 have cT:=cellOf hm.jl
 have l0:wr.cell? ⟨T,0,none⟩=some (.int .i64 (a:Int)):=cT 0
 have l1:wr.cell? ⟨T,1,none⟩=some (.slice ag (nw a) cg):=cT 1
 have l2:wr.cell? ⟨T,2,none⟩=some (.int .i64 (a:Int)):=cT 2
 have l3:wr.cell? ⟨T,3,none⟩=some (.slice ak (nw a) ck):=cT 3
 have l4:wr.cell? ⟨T,4,none⟩=some (.slice ac l.length cc):=cT 4
 have cR:=cellOf hm.lN
 have fR:=aH hm.lN
 have hne:¬W.heap.size+1=T:=by have:=hm.big;omega
 have hne2:T≠W.heap.size+1:=fun e=>hne e.symm
 clear cT
 go_region_held3 (fun w'=>w'.cell? ⟨T,0,none⟩=some (.int .i64 (a:Int))∧w'.cell? ⟨T,1,none⟩=some (.slice ag (nw a) cg)∧w'.cell? ⟨T,2,none⟩=some (.int .i64 (a:Int))∧w'.cell? ⟨T,3,none⟩=some (.slice ak (nw a) ck)∧w'.cell? ⟨T,4,none⟩=some (.slice ac l.length cc))
  ((go_split_ands;refine ⟨?_,?_,?_,?_,?_⟩<;>(repeat (first|(with_reducible assumption)|(with_reducible exact Ext.refl _ _)|(with_reducible refine keepD ?_)|(with_reducible refine aO ?_)|(with_reducible refine Ext.drew ?_)|(with_reducible refine Ext.alloc ?_ _)|(with_reducible refine bY.drew ?_)|(with_reducible refine bY.alloc ?_ _)|(with_reducible refine bY.set ?_ _ _)|((with_reducible refine kX ?_ ?_);(first|(with_reducible assumption)|omega|(simp;omega)|(exact Nat.le_refl _)))|(with_reducible refine Ext.setAt ?_ _ _)|((with_reducible refine Ext.own ?_ ?_ _);rotate_left;(first|(with_reducible assumption)|omega|(simp;omega)|(exact Nat.le_refl _)))|(with_reducible refine bf aF ?_)|(with_reducible refine Ext.af ?_ aF)|(with_reducible refine bY.ext ?_ aF)))))
  (fail)
 go_wp2_with fail
 have lg:=hm
 have hfin:=bY.qy ⟨_,rfl,lg.lN⟩ (.int .i64 (a:Int)) (.slice ag (nw a) cg) (.int .i64 (a:Int)) (.slice ak (nw a) ck) (.slice ac l.length cc)
 have hE0:=pF wr (W.heap.size+1) (.int .i64 (a:Int)) (.slice ag (nw a) cg) (.int .i64 (a:Int)) (.slice ak (nw a) ck) (.slice ac l.length cc)
 clear cR fR
 generalize World.setCell (World.setCell (World.setCell (World.setCell (World.setCell wr _ _) _ _) _ _) _ _) _ _=WF at*
 have hE:=hE0.drew
 have cF:=cellOf hfin
 refine aW rfl ?_
 simp [results,Tryz.results132,go_sem,cF]
 have hbig:=lg.big
 have aaH:=HLK.out
 have acv:=Tq.out
 refine ⟨ag,cg,ak,ck,ac,l.length,cc,by simp,by rw [aaH],aa ⟨?_,?_,?_⟩,lg.ext.aJ hE (fun i hi e=>by unfold At at e;omega)⟩
 ·refine aG.mono (M:=fun b=>M b∨b=W.heap.size+1) ((((HG.mono (M':=fun b=>M b∨b=W.heap.size+1) (fun i hi e=>?_)).aj lg.ext).ext hE (fun i _ e=> .inr e))) (fun i _ e=> .inl e)
  exact tu
 ·rw [←acv]
  exact (lg.kill.ext hE (fun i _ e=> .inl (.inr (.inl e)))).mono (fun i _ e=> .inl (.inl e))
 rw [←aaH]
 refine Row.bG (dG lg.own hE (fun i hi e=>by unfold At at e;omega)) (fun b hb hmb=>?_)
 have:=HM.out b hmb
 omega

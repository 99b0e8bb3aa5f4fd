
import Derived.Test.YtmddchceacmopaaGreatDoorF6
set_option linter.unusedVariables false
set_option linter.unusedSimpArgs false
namespace Go.Proofs.YtmddchceacmopaaGreatDoor
open Go Go.RowKit
theorem OW {p:Prop} (h:p:=by (go_split_ands;refine ⟨?_,?_,?_,?_,?_⟩<;>((with_reducible refine Ext.oK Oc ?_ ?_);rotate_left;(exact hvA);(repeat (first|(with_reducible assumption)|(with_reducible exact Ext.refl _ _)|(with_reducible refine keepD ?_)|(with_reducible refine aO ?_)|(with_reducible refine Ext.drew ?_)|(with_reducible refine Ext.alloc ?_ _)|(with_reducible refine bY.drew ?_)|(with_reducible refine bY.alloc ?_ _)|(with_reducible refine bY.set ?_ _ _)|((with_reducible refine kX ?_ ?_);(first|(with_reducible assumption)|omega|(simp;omega)|(exact Nat.le_refl _)))|(with_reducible refine Ext.setAt ?_ _ _)|((with_reducible refine Ext.own ?_ ?_ _);rotate_left;(first|(with_reducible assumption)|omega|(simp;omega)|(exact Nat.le_refl _)))|(with_reducible refine bf aF ?_)|(with_reducible refine Ext.af ?_ aF)|(with_reducible refine bY.ext ?_ aF)))))):p:=h
theorem yM {p:Prop} (h:p:=by
 refine uK hK dH ?_
 clear hK K hHeld
 intro hHeld
 skip
 refine hHc 11 fun K hK=>?_
 ((refine jY _ (.tmp 16) (.tmp 25) 23 rfl ((W.heap.size+2)+1) 44 i0 _ 2 32 Tryz.underlying23 hi0 hz0 hz1 hz2 rfl (by omega) (.slice av L.length cv) L.length (jy L) rfl (dG hm.s.own ((Ext.refl No _).alloc _) (fun _ _ x=>x)) No (some ⟨w8.heap.size,0,none⟩) 1 1 [.int .i64 (t.w:Int),.slice a8 (nw t.w) c8] rfl (Row.block (ah rfl) rfl ax (by omega)) (by simp [Value.oneCell']) (by omega) (by omega) (by simp;exact Nat.le_of_lt (lt_of_block hm.out.dU)) ?_);(intro v1 w9 hown1 hg1 hv1);(have Oc:Ext (fun k=>(Value.slice av L.length cv).ownBlock=some k) (w8.alloc (.cells #[.int .i64 (t.w:Int),.slice a8 (nw t.w) c8] 44)) w9:=(Ext.refl _ _).grown hg1 (fun k hk _=>hk));(obtain ⟨lg,Sl⟩:=hm.app (p:=(bJ t.w (bL t (2 ^ k)),.slice a8 (nw t.w) c8)) vK.words hown1 hg1 hv1);(have WS:=aa lg);(have I7:=aa Sl);(obtain ⟨a9,c9,Qp⟩:=lg.s.slice);(subst Qp);(clear lg Sl hown1 hg1 hv1))
 refine uK hK OW ?_
 clear hK K hHeld
 intro hHeld
 clear Oc hm
 refine uA 12 ?_ (hy:=aM)
 refine hHc 13 fun K hK=>?_
 ((have cX:=cellOf I7.out);(have fX:=aH I7.out);go_simp;(clear cX fX))
 refine uK hK dH ?_
 clear hK K hHeld
 intro hHeld
 clear I7
 refine uD ?_
 go_wp2_with fail
 go_roundw
 case rel=>exact ⟨k+1,a9,c9,L++[(bJ t.w (bL t (2 ^ k)),.slice a8 (nw t.w) c8)],by omega,HKK,by rw [List.map_append,HL,Tp,List.map_append];rfl,by have:=WS;simp only [List.length_append,List.length_cons,List.length_nil] at this ⊢;exact this⟩
 case measure=>simp [intOf];omega):p:=h
theorem Gf {p:Prop} (h:p:=by
 refine hHc 9 fun K hK=>?_
 (go_simp;go_at_call 101;(with_reducible refine (vk (fun b=>(M b∨b=W.heap.size+1∨b=(W.heap.size+2))∨(Value.slice av L.length cv).ownBlock=some b) t t.w (0|||2 ^ k) _ _ _ _ _ rfl ?_ (hTr.out.aj hm.out.ext) (fU.CL I5.out hw (fZ (Nat.two_pow_pos _) (eZ hlt)))).mono ?_);(exact hm.hM (fun b hb=>Nat.lt_of_lt_of_le (HM b hb) hm.ext.size));(rintro e8 w8 ⟨a8,c8,rfl,BM,aF⟩);go_simp)
 refine uK hK dH ?_
 clear hK K hHeld
 intro hHeld
 replace hm:=aa (hm.aC aF)
 rw [Nat.zero_or] at BM
 have vK:=aa BM.out
 clear aF hb6 I5 BM
 refine hHc 10 fun K hK=>?_
 go_simp
 exact yM):p:=h
theorem Gg {p:Prop} (h:p:=by
 refine hHc 8 fun K hK=>?_
 (go_simp;go_at_call 40;(with_reducible refine (iW t.w 0 k _ _ hlt (fU.CL hb6.out hw (Nat.two_pow_pos _))).mono ?_);(rintro e7 w7 ⟨g7,rfl,I5,_,aF⟩);go_simp)
 refine uK hK dH ?_
 clear hK K hHeld
 intro hHeld
 replace hm:=aa (hm.aC aF)
 clear aF
 exact Gf):p:=h
structure MM (M:Nat→Prop) (W wr:World) (t:cK) (X:Nat) (sg sk sc s1 v:Value) (L:List (bC×Value)):Prop where
 ext:Ext No W wr
 bW:wr.heap[W.heap.size]? =some (.cells #[.int .i64 (t.w:Int),sg,.int .i64 (t.w:Int),sk,sc] 47 (0,0))
 bV:wr.heap[W.heap.size+1]? =some (.cells #[.int .i64 0,.slice none 0 0,.slice none 0 0] 121 (0,0))
 dU:wr.heap[X]? =some (.cells #[.int .i64 (t.w:Int),s1,v] 121 (0,0))
 gen:aG (fun b=>M b∨b=W.heap.size+1∨b=X∨X < b) wr s1 t.w t.gen
 s:dm (fun b=>M b∨b=W.heap.size+1∨b=X) wr (X+1) v L
 big:W.heap.size+1 < X
section
variable {M M':Nat→Prop} {W wr w':World} {t:cK} {X:Nat} {sg sk sc s1 v v':Value} {L:List (bC×Value)} {p:bC×Value}
theorem MM.aC (h:MM M W wr t X sg sk sc s1 v L) (hx:Ext No wr w'):MM M W w' t X sg sk sc s1 v L:=
 ⟨h.ext.af hx,hx.blk h.bW ax,hx.blk h.bV ax,hx.blk h.dU ax,h.gen.aj hx,h.s.aj hx,h.big⟩
theorem MM.hM (hM:∀b,M b→b < wr.heap.size) (h:MM M W wr t X sg sk sc s1 v L):∀b,((M b∨b=W.heap.size+1∨b=X)∨v.ownBlock=some b)→b < wr.heap.size:=fun b hb=>by
 have h1:=lt_of_block h.dU
 have h2:=h.big
 rcases hb with (hb|rfl|rfl)|hb
 ·exact hM b hb
 ·omega
 ·exact h1
 exact (h.s.lt b hb).2
theorem MM.app {o:Obj} (h:MM M W wr t X sg sk sc s1 v L) (hp:aU (fun b=>(M b∨b=W.heap.size+1∨b=X)∨v.ownBlock=some b) wr p.2 p.1.words) (hown:w'.ownsRow (X+1) 44 2 v' (L.length+1) (jy L++pR p))
  (hg:(wr.alloc o).grownBy w' v.ownBlock) (hv:v'.ownBlock=v.ownBlock∨v'.ownBlock=some (wr.alloc o).heap.size):
  MM M W (w'.setCell ⟨X,2,none⟩ v') t X sg sk sc s1 v' (L++[p])∧w'.heap[X]? =some (.cells #[.int .i64 (t.w:Int),s1,v] 121 (0,0)):=by
 exact FC
theorem MM.mono (h:MM M W wr t X sg sk sc s1 v L) (hm:∀i,i < wr.heap.size→M' i→M i):MM M' W wr t X sg sk sc s1 v L:=
 ⟨h.ext,h.bW,h.bV,h.dU,h.gen.mono (fun i hi e=>by
  rcases e with e|e
  ·exact .inl (hm i hi e)
  ·exact .inr e),h.s.mono (fun i hi e=>by
  rcases e with e|e
  ·exact .inl (hm i hi e)
  exact .inr e),h.big⟩
end
def qw (t:cK) (k:Nat):List Nat:=(List.range k).map fun b=>bL t (2 ^ b)
theorem lC (t:cK) (k:Nat):(qw t k).length=k:=by simp [qw]
theorem L9 (t:cK) (k:Nat):qw t (k+1)=qw t k++[bL t (2 ^ k)]:=by simp [qw,List.range_succ]
theorem Jr {t:cK} {k a:Nat} (h:a < k):rowAt (qw t k) a=bL t (2 ^ a):=by
 rw [fP (by rw [lC];exact h)];simp [qw]
def aV (t:cK):List Nat:=qw t t.w
theorem zZ {t:cK} (ho:eO t):∀m∈aV t,m < 2 ^ t.w:=fun m hm=>by
 obtain ⟨b,hb,rfl⟩:=List.mem_map.1 hm
 exact sN ho (eZ (List.mem_range.1 hb))
def MO (M:Nat→Prop) (w gen:Nat) (rs:List Nat) (W:World) (e:Ending) (w':World):Prop:=
 ∃ag cg ao co,e= .returned (.agg #[.int .i64 (w:Int),.slice ag (nw w) cg,.slice ao rs.length co])∧Hid (gq w gen rs (.slice ag (nw w) cg) (.slice ao rs.length co) M w')∧(∀b,(Value.slice ao rs.length co).ownBlock=some b→W.heap.size≤b)∧Ext No W w'
set_option maxRecDepth 100000 in
set_option maxHeartbeats 8000000 in
theorem lQ (M:Nat→Prop) (t:cK) (sg sk sc:Value) (W:World) (hM:∀b,M b→b < W.heap.size) (h:dF M W sg sk sc t):
  Calls Tryz.prog 98 #[.agg #[.int .i64 (t.w:Int),sg,.int .i64 (t.w:Int),sk,sc]] W (MO M t.w t.gen (aV t) W):=by
 have H:=aa h
 have HM:=aa hM
 have HO:=aa h.ok
 obtain ⟨ag,cg,rfl⟩:=h.gen.slice
 obtain ⟨ak,ck,rfl⟩:=h.kill.slice
 obtain ⟨ac,cc,rfl⟩:=Row.slice h.copies
 have hw:=h.ok.w
 obtain ⟨i0,hi0,hz0,hz1,hz2⟩:=info_parts yZ
 clear h hM
 go_enter Tryz.func98,Tryz.ntmps98
 go_wp2_with fail
 have hm0:Hid (∃(av:Option Addr) (cv:Nat) (L:List (bC×Value)),av=none∧cv=0∧L=[]∧MM M W (((W.alloc (.cells #[.int .i64 (t.w:Int),.slice ag (nw t.w) cg,.int .i64 (t.w:Int),.slice ak (nw t.w) ck,.slice ac t.copies.length cc] 47)).alloc (.cells #[.int .i64 0,.slice none 0 0,.slice none 0 0] 121)).alloc (.cells #[.int .i64 (t.w:Int),.slice ag (nw t.w) cg,.slice none 0 0] 121)) t (W.heap.size+2) (.slice ag (nw t.w) cg) (.slice ak (nw t.w) ck) (.slice ac t.copies.length cc) (.slice ag (nw t.w) cg) (.slice av L.length cv) L):=aa ⟨none,0,[],rfl,rfl,rfl,
  ⟨(((Ext.refl _ _).alloc _).alloc _).alloc _,ay (ay (ah rfl)),ay (ah (by simp)),ah (by simp),(H.gen.mono (fun i hi e=>by
   rcases e with e|e|e|e
   ·exact e
   ·omega
   ·omega
   omega)).aj ((((Ext.refl _ _).alloc _).alloc _).alloc _),dm.nil _ _ _,by omega⟩⟩
 generalize World.alloc (World.alloc (World.alloc W _) _) _=V at*
 go_loopw [4] (fun i wr=>∃(k:Nat) (av:Option Addr) (cv:Nat) (L:List (bC×Value)),k≤t.w∧i= .int .i64 k∧L.map Prod.fst=(qw t k).map (bJ t.w)∧Hid (MM M W wr t (W.heap.size+2) (.slice ag (nw t.w) cg) (.slice ak (nw t.w) ck) (.slice ac t.copies.length cc) (.slice ag (nw t.w) cg) (.slice av L.length cv) L)) (fun i _=>t.w - (intOf i).toNat)
 case atStart=>
  obtain ⟨av,cv,L,rfl,rfl,rfl,hm1⟩:=hm0.out
  exact ⟨0,none,0,[],Nat.zero_le _,rfl,rfl,hm1⟩
 clear hm0
 obtain ⟨k,av,cv,L,hk,rfl,hL,hm⟩:=hrel
 have HL:=aa hL
 clear hL
 rename World=>wr
 have hpos:(0:Int)≤(k:Int):=by omega
 have hwl:(t.w:Int)≤256:=by omega
 have hLn:L.length≤256:=by have:=congrArg List.length HL.out;simp [qw] at this;omega
 by_cases hlt:k < t.w
 ·have hlz:(k:Int) < (t.w:Int):=by omega
  have HKK:Hid (Value.int .i64 ((k:Int)+1)= .int .i64 ((k+1:Nat):Int)):=aa (by rw [show ((k+1:Nat):Int)=(k:Int)+1 from by omega])
  have Tp:Hid (qw t (k+1)=qw t k++[bL t (2 ^ k)]):=aa (L9 _ _)
  have cA:=cellOf hm.bW
  go_wp2_with fail
  have l0:wr.cell? ⟨W.heap.size,0,none⟩=some (.int .i64 (t.w:Int)):=cA 0
  have l1:wr.cell? ⟨W.heap.size,1,none⟩=some (.slice ag (nw t.w) cg):=cA 1
  have l2:wr.cell? ⟨W.heap.size,2,none⟩=some (.int .i64 (t.w:Int)):=cA 2
  have l3:wr.cell? ⟨W.heap.size,3,none⟩=some (.slice ak (nw t.w) ck):=cA 3
  have l4:wr.cell? ⟨W.heap.size,4,none⟩=some (.slice ac t.copies.length cc):=cA 4
  have hvA:¬(Value.slice av L.length cv).ownBlock=some W.heap.size:=fun e=>by have:=(hm.s.lt _ e).1;omega
  have hTr:Hid (dF (fun b=>(M b∨b=W.heap.size+1∨b=(W.heap.size+2))∨(Value.slice av L.length cv).ownBlock=some b) W (.slice ag (nw t.w) cg) (.slice ak (nw t.w) ck) (.slice ac t.copies.length cc) t):=aa (H.mono (fun i hi e=>by
   rcases e with (e|e|e)|e
   ·exact e
   ·omega
   ·omega
   have:=(hm.s.lt _ e).1;omega))
  clear cA
  refine uW (fun w'=>w'.cell? ⟨W.heap.size,0,none⟩=some (.int .i64 (t.w:Int))∧w'.cell? ⟨W.heap.size,1,none⟩=some (.slice ag (nw t.w) cg)∧w'.cell? ⟨W.heap.size,2,none⟩=some (.int .i64 (t.w:Int))∧w'.cell? ⟨W.heap.size,3,none⟩=some (.slice ak (nw t.w) ck)∧w'.cell? ⟨W.heap.size,4,none⟩=some (.slice ac t.copies.length cc)) dH fun hHeld=>?_
  replace hm:=aa (hm.aC (Ext.refl No wr).drew)
  generalize wr.drew=v0 at*
  refine uO [0,2,3,4,5,7] ?_
  iterate 6 refine uT ?_ (hy:=aM)
  refine uZ ?_
  refine aN (i:=1) (j:=6) (by kernel_rfl) (aD.mk rfl rfl (fun K hK=>?_)) (aD.mk rfl rfl (fun K hK=>?_))
  ·((have cX:=cellOf hm.dU);go_simp;(clear cX))
   refine uK hK dH ?_
   clear hK K hHeld
   intro hHeld
   skip
   refine hHc 6 fun K hK=>?_
   (go_simp;go_at_call 39;(with_reducible refine (fK t.w _ hw).mono ?_);(rintro e6 w6 ⟨g6,rfl,hb6,_,aF⟩);go_simp)
   refine uK hK dH ?_
   clear hK K hHeld
   intro hHeld
   replace hm:=aa (hm.aC aF)
   clear aF
   exact Gg
  (go_simp;go_at_call 39;(with_reducible refine (fK t.w _ hw).mono ?_);(rintro e6 w6 ⟨g6,rfl,hb6,_,aF⟩);go_simp)
  refine uK hK dH ?_
  clear hK K hHeld
  intro hHeld
  replace hm:=aa (hm.aC aF)
  clear aF
  refine aN (i:=1) (j:=8) (by kernel_rfl) (aD.mk rfl rfl (fun K hK=>?_)) (aD.mk rfl rfl (fun K hK=>?_))
  ·((have cX:=cellOf hm.dU);go_simp;(clear cX))
   refine uK hK dH ?_
   clear hK K hHeld
   intro hHeld
   skip
   exact Gg
  (go_simp;go_at_call 40;(with_reducible refine (iW t.w 0 k _ _ hlt (fU.CL hb6.out hw (Nat.two_pow_pos _))).mono ?_);(rintro e7 w7 ⟨g7,rfl,I5,_,aF⟩);go_simp)
  refine uK hK dH ?_
  clear hK K hHeld
  intro hHeld
  replace hm:=aa (hm.aC aF)
  clear aF
  refine aN (i:=1) (j:=9) (by kernel_rfl) (aD.mk rfl rfl (fun K hK=>?_)) (aD.mk rfl rfl (fun K hK=>?_))
  ·((have cX:=cellOf hm.dU);go_simp;(clear cX))
   refine uK hK dH ?_
   clear hK K hHeld
   intro hHeld
   skip
   exact Gf
  (go_simp;go_at_call 101;(with_reducible refine (vk (fun b=>(M b∨b=W.heap.size+1∨b=(W.heap.size+2))∨(Value.slice av L.length cv).ownBlock=some b) t t.w (0|||2 ^ k) _ _ _ _ _ rfl ?_ (hTr.out.aj hm.out.ext) (fU.CL I5.out hw (fZ (Nat.two_pow_pos _) (eZ hlt)))).mono ?_);(exact hm.hM (fun b hb=>Nat.lt_of_lt_of_le (HM b hb) hm.ext.size));(rintro e8 w8 ⟨a8,c8,rfl,BM,aF⟩);go_simp)
  refine uK hK dH ?_
  clear hK K hHeld
  intro hHeld
  replace hm:=aa (hm.aC aF)
  rw [Nat.zero_or] at BM
  have vK:=aa BM.out
  clear aF hb6 I5 BM
  refine aN (i:=1) (j:=10) (by kernel_rfl) (aD.mk rfl rfl (fun K hK=>?_)) (aD.mk rfl rfl (fun K hK=>?_))
  ·((have cX:=cellOf hm.dU);go_simp;(clear cX))
   refine uK hK dH ?_
   clear hK K hHeld
   intro hHeld
   skip
   refine hHc 10 fun K hK=>?_
   go_simp
   exact yM
  go_simp
  refine uK hK dH ?_
  clear hK K hHeld
  intro hHeld
  skip
  refine hHc 1 fun K hK=>?_
  ((have cX:=cellOf hm.dU);(have ZL:=cellOf (ay (o:=(.cells #[.int .i64 (t.w:Int),.slice a8 (nw t.w) c8] 44)) hm.dU));go_simp;(clear cX ZL))
  exact yM
 obtain rfl:k=t.w:=by omega
 have cX:=cellOf hm.dU
 have cA:=cellOf hm.bW
 have cC:=cellOf hm.bV
 have fC:=aH hm.bV
 have hne:¬W.heap.size+1=W.heap.size+2:=by omega
 have hge:¬(t.w:Int) < (t.w:Int):=by omega
 go_wp2_with fail
 have hE:Ext (At (W.heap.size+1)) wr (((wr.setCell ⟨W.heap.size+1,0,none⟩ (.int .i64 (t.w:Int))).setCell ⟨W.heap.size+1,1,none⟩ (.slice ag (nw t.w) cg)).setCell ⟨W.heap.size+1,2,none⟩ (.slice av L.length cv)):=(((Ext.refl (At (W.heap.size+1)) _).setAt _ _).setAt _ _).setAt _ _
 have hbF:=(az (j:=2) (u:= .slice av L.length cv) (az (j:=1) (u:= .slice ag (nw t.w) cg) (az (j:=0) (u:= .int .i64 (t.w:Int)) hm.bV))).trans rfl
 clear cX cA cC fC
 generalize World.setCell (World.setCell (World.setCell wr _ _) _ _) _ _=WF at*
 have cF:=cellOf hbF
 refine aW rfl ?_
 simp [results,Tryz.results98,go_sem,cF]
 have hLk:L.length=(aV t).length:=by have:=congrArg List.length HL.out;unfold aV;simpa using this
 have TI:=hm.s.ext hE (fun i hi e=>by unfold At at e;omega) (fun i e=> .inr (.inl e))
 have hgF:=hm.gen.ext hE (fun i _ e=> .inr (.inl e))
 refine ⟨ag,cg,av,cv,by rw [hLk],aa ?_,fun b hb=>by rw [←hLk] at hb;have h1:=(TI.lt b hb).1;have h2:=hm.big;omega,hm.ext.aJ hE (fun i hi e=>by unfold At at e;omega)⟩
 rw [←hLk]
 refine ⟨hgF.mono (fun i _ e=>?_),⟨L,⟨dY TI.own (Nat.zero_le _),fun p hp=>(TI.ok p hp).mono (fun i _ e=>?_)⟩,HL⟩,fun b hb hmb=>?_,zZ HO⟩
 ·exact FD
 ·rcases e with e|e
  ·exact .inl (.inl e)
  exact .inr e
 have:=HM.out b hmb
 have:=(TI.lt b hb).1
 omega
theorem Ma (M:Nat→Prop) (t:cK) (sg sk sc:Value) (W:World) (hM:∀b,M b→b < W.heap.size) (h:dF M W sg sk sc t):
  Calls Tryz.prog 98 #[.agg #[.int .i64 (t.w:Int),sg,.int .i64 (t.w:Int),sk,sc]] W (wP M t.w t.gen (aV t) W):=
 (lQ M t sg sk sc W hM h).mono (fun _ _ ⟨ag,cg,ao,co,h1,h2,_,h4⟩=>⟨ag,cg,ao,co,h1,h2,h4⟩)

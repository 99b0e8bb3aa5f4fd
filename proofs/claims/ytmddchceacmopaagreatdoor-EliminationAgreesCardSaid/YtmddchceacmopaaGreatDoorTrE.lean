
import Derived.Test.YtmddchceacmopaaGreatDoorTrD
import Derived.Deep.LoopGhost
set_option linter.unusedVariables false
set_option linter.unusedSimpArgs false
namespace Go.Proofs.YtmddchceacmopaaGreatDoor
open Go Go.RowKit
theorem tZ {p:Prop} (h:p:=by (go_split_ands;refine ⟨?_,?_,?_⟩<;>(repeat (first|(with_reducible assumption)|(with_reducible exact Ext.refl _ _)|(with_reducible refine keepD ?_)|(with_reducible refine aO ?_)|(with_reducible refine Ext.drew ?_)|(with_reducible refine Ext.alloc ?_ _)|(with_reducible refine bY.drew ?_)|(with_reducible refine bY.alloc ?_ _)|(with_reducible refine bY.set ?_ _ _)|((with_reducible refine kX ?_ ?_);(first|(with_reducible assumption)|omega|(simp;omega)|(exact Nat.le_refl _)))|(with_reducible refine Ext.setAt ?_ _ _)|((with_reducible refine Ext.own ?_ ?_ _);rotate_left;(first|(with_reducible assumption)|omega|(simp;omega)|(exact Nat.le_refl _)))|(with_reducible refine bf aF ?_)|(with_reducible refine Ext.af ?_ aF)|(with_reducible refine bY.ext ?_ aF))))):p:=h
set_option maxRecDepth 100000 in
set_option maxHeartbeats 4000000 in
theorem JF (M:Nat→Prop) (t:cK) (sg sk sc:Value) (W:World) (hM:∀b,M b→b < W.heap.size) (h:dF No W sg sk sc t):
  Calls Tryz.prog 114 #[.agg #[.int .i64 (t.w:Int),sg,.int .i64 (t.w:Int),sk,sc]] W (wP M t.w t.gen (aI t t.w t.copies.length) W):=by
 have H:=aa h
 have HM:=aa hM
 have HO:=aa h.ok
 obtain ⟨ag,cg,rfl⟩:=h.gen.slice
 obtain ⟨ak,ck,rfl⟩:=h.kill.slice
 obtain ⟨ac,cc,rfl⟩:=Row.slice h.copies
 have hlen:=h.ok.len
 have hw:=h.ok.w
 obtain ⟨i0,hi0,hz0,hz1,hz2⟩:=info_parts yZ
 clear h hM
 go_enter Tryz.func114,Tryz.ntmps114
 go_wp2_with fail
 have hx0:Ext No W ((W.alloc (.cells #[.int .i64 (t.w:Int),.slice ag (nw t.w) cg,.int .i64 (t.w:Int),.slice ak (nw t.w) ck,.slice ac t.copies.length cc] 47)).alloc (.cells #[.int .i64 0,.slice none 0 0,.slice none 0 0] 131)):=((Ext.refl _ _).alloc _).alloc _
 have hA:((W.alloc (.cells #[.int .i64 (t.w:Int),.slice ag (nw t.w) cg,.int .i64 (t.w:Int),.slice ak (nw t.w) ck,.slice ac t.copies.length cc] 47)).alloc (.cells #[.int .i64 0,.slice none 0 0,.slice none 0 0] 131)).heap[W.heap.size]? =some (.cells #[.int .i64 (t.w:Int),.slice ag (nw t.w) cg,.int .i64 (t.w:Int),.slice ak (nw t.w) ck,.slice ac t.copies.length cc] 47 (0,0)):=ay (ah rfl)
 have hC:((W.alloc (.cells #[.int .i64 (t.w:Int),.slice ag (nw t.w) cg,.int .i64 (t.w:Int),.slice ak (nw t.w) ck,.slice ac t.copies.length cc] 47)).alloc (.cells #[.int .i64 0,.slice none 0 0,.slice none 0 0] 131)).heap[W.heap.size+1]? =some (.cells #[.int .i64 0,.slice none 0 0,.slice none 0 0] 131 (0,0)):=ah (by simp)
 generalize World.alloc (World.alloc W _) _=W2 at*
 have zO:=lt_of_block hC
 refine (Bz (fun b=>M b∨b=W.heap.size+1) t.w t.gen _ _ (fun b hb=>?_) (H.gen.aj hx0)).mono ?_
 ·exact tH
 rintro e1 w1 ⟨a1,c1,rfl,hs1,hx1⟩
 have oJ:=lt_of_block (hx1.blk hC ax)
 have hm1:=aa (show Cm M W (w1.alloc (.cells #[.int .i64 (t.w:Int),.slice a1 (nw t.w) c1,.slice none 0 0] 131)) t w1.heap.size (.slice ag (nw t.w) cg) (.slice ak (nw t.w) ck) (.slice ac t.copies.length cc) (.slice a1 (nw t.w) c1) (.slice none 0 0) [] from
  ⟨(hx0.af hx1).alloc _,ay (hx1.blk hA ax),ay (hx1.blk hC ax),ah rfl,(hs1.mono (fun i hi e=>by
   rcases e with e|e|e|e
   ·exact .inl e
   ·exact .inr e
   ·omega
   omega)).aj ((Ext.refl _ _).alloc _),dm.nil _ _ _,oJ⟩)
 clear hx0 hA hC zO hs1 hx1 oJ
 have cA:=cellOf hm1.bW
 go_wp2_with fail
 generalize World.alloc w1 _=W1 at*
 generalize w1.heap.size=X at*
 clear cA
 go_loopw [16] (fun i wr=>∃(k:Nat) (av:Option Addr) (cv:Nat) (L:List (bC×Value)),k≤t.w∧i= .int .i64 k∧L.map Prod.fst=(aI t k 0).map (bJ t.w)∧Hid (Cm M W wr t X (.slice ag (nw t.w) cg) (.slice ak (nw t.w) ck) (.slice ac t.copies.length cc) (.slice a1 (nw t.w) c1) (.slice av L.length cv) L)) (fun i _=>t.w - (intOf i).toNat)
 case atStart=>exact ⟨0,none,0,[],Nat.zero_le _,rfl,rfl,hm1⟩
 clear hm1
 obtain ⟨k,av,cv,L,hk,rfl,hL,hm⟩:=hrel
 have HL:=aa hL
 clear hL
 rename World=>wr
 have hpos:(0:Int)≤(k:Int):=by omega
 have hwl:(t.w:Int)≤256:=by omega
 have hLn:L.length≤256:=by have:=congrArg List.length HL.out;simp [aI] at this;omega
 by_cases hlt:k < t.w
 ·have hLk:Hid (L.length=k):=aa (by have:=congrArg List.length HL.out;simpa [aI] using this)
  have HKK:Hid (Value.int .i64 ((k:Int)+1)= .int .i64 ((k+1:Nat):Int)):=aa (by rw [show ((k+1:Nat):Int)=(k:Int)+1 from by omega])
  have cA:=cellOf hm.bW
  go_wp2_with fail
  refine (Bw (fun b=>(M b∨b=W.heap.size+1∨b=X)∨(Value.slice av L.length cv).ownBlock=some b) t.w _ (hm.hM (fun b hb=>Nat.lt_of_lt_of_le (HM b hb) hm.ext.size)) hw).mono ?_
  rintro e2 w2 ⟨a2,c2,rfl,hs2,hx2⟩
  have hx3:Ext No w2 (w2.alloc (.cells #[.int .i64 (t.w:Int),.slice a2 (nw t.w) c2] 44)):=(Ext.refl _ _).alloc _
  have hm2:=hm.aC hx2
  have I6:X < w2.heap.size:=lt_of_block hm2.dU
  have TJ:¬(Value.slice av L.length cv).ownBlock=some w2.heap.size:=fun e=>by have:=(hm2.s.lt _ e).2;omega
  have gX:=aa ((hm2.mono (M':=fun b=>M b∨b=w2.heap.size) (fun i hi e=>by
   rcases e with e|e
   ·exact e
   omega)).aC hx3)
  have hs3:=aa ((hs2.mono (M':=fun b=>((M b∨b=w2.heap.size)∨b=W.heap.size+1∨b=X)∨(Value.slice av L.length cv).ownBlock=some b) (fun i hi e=>by
   rcases e with ((e|e)|e)|e
   ·exact .inl (.inl e)
   ·omega
   ·exact .inl (.inr e)
   exact .inr e)).aj hx3)
  clear hm2
  have hbS:(w2.alloc (.cells #[.int .i64 (t.w:Int),.slice a2 (nw t.w) c2] 44)).heap[w2.heap.size]? =some (.cells #[.int .i64 (t.w:Int),.slice a2 (nw t.w) c2] 44 (0,0)):=ah rfl
  have NZ:=aa hbS
  clear hx2 hx3 hm hs2 cA hbS
  have cA:=cellOf gX.bW
  go_wp2_with fail
  clear cA
  generalize World.alloc w2 _=W3 at*
  generalize w2.heap.size=S at*
  refine (Ia t.w t.kill _ k _ (H.kill.aj gX.ext)).mono ?_
  rintro e4 w4 ⟨rfl,hx4⟩
  have og:=aa (gX.aC hx4)
  have hs4:=aa (hs3.aj hx4)
  have qG:=aa (hx4.blk NZ ax)
  clear hx4 gX hs3 NZ
  cases hh:gz t.w t.kill k with
  |true=>
   have HR:Hid (kQ t k 0=0):=aa (by rw [kQ,hh];rfl)
   clear hh
   have cS:=cellOf qG.out
   have cX:=cellOf og.dU
   go_wp2_with (at_builtin;(refine bE _ rfl (.tmp 38) (.tmp 40) 23 rfl (X+1) 44 i0 _ 2 32 Tryz.underlying23 hi0 hz0 hz1 hz2 rfl (by omega) (.slice av L.length cv) L.length (jy L) rfl (dG og.out.s.own ((Ext.refl No _).alloc _) (fun _ _ x=>x)) No (some ⟨w4.heap.size,0,none⟩) 1 1 [.int .i64 (t.w:Int),.slice a2 (nw t.w) c2] rfl (Row.block (ah rfl) rfl ax (by omega)) (by simp [Value.oneCell']) (by omega) (by omega) (by simp;exact Nat.le_of_lt (lt_of_block og.out.dU)) ?_);(intro v1 w5 hown1 hg1 hv1);(obtain ⟨jU,TL⟩:=og.out.app (p:=(bJ t.w 0,.slice a2 (nw t.w) c2)) hs4.out.words hown1 hg1 hv1);(have cX6:=cellOf TL);(have fX6:=aH TL);(have Kz:=aa (jU.mono (M':=M) (fun i _ e=> .inl e)));(have HX6:=aa TL);(obtain ⟨a6,c6,hs6⟩:=jU.s.slice);(subst hs6);(clear jU TL hown1 hg1 hv1))
   go_roundw
   case rel=>exact ⟨k+1,a6,c6,L++[(bJ t.w 0,.slice a2 (nw t.w) c2)],by omega,HKK,by rw [List.map_append,HL,BA,List.map_append,HR];rfl,by have:=Kz;simp only [List.length_append,List.length_cons,List.length_nil] at this ⊢;exact this⟩
   case measure=>simp [intOf];omega
  |false=>
   have HR:Hid (kQ t k 0=0|||2 ^ k):=aa (by rw [kQ,hh];simp)
   clear hh
   have cS:=cellOf qG.out
   go_wp2_with fail
   refine (wQ (fun b=>((M b∨b=S)∨b=W.heap.size+1∨b=X)∨(Value.slice av L.length cv).ownBlock=some b) t.w 0 k _ _ (og.hM (fun b hb=>?_)) hlt hs4.no).mono ?_
   ·rcases hb with hb|rfl
    ·exact Nat.lt_of_lt_of_le (HM b hb) og.ext.size
    exact lt_of_block qG.out
   rintro e5 w5 ⟨a5,c5,rfl,hs5,hx5⟩
   have mH:=aa (og.aC hx5)
   have uo:=aa (hx5.blk qG ax)
   have jU:=aa (mH.box (u0:= .int .i64 (t.w:Int)) (u1:= .slice a5 (nw t.w) c5) I6 TJ (.inr rfl))
   have BH:Ext (At S) w5 ((w5.setCell ⟨S,0,none⟩ (.int .i64 (t.w:Int))).setCell ⟨S,1,none⟩ (.slice a5 (nw t.w) c5)):=((Ext.refl (At S) _).setAt _ _).setAt _ _
   have hs6:=aa (hs5.ext BH (fun i _ e=> .inl (.inl (.inr e))))
   clear og hs4 qG hx5 cS hs5 BH
   have cS:=cellOf uo.out
   have fS:=aH uo.out
   have KW:=(az (j:=1) (u:= .slice a5 (nw t.w) c5) (az (j:=0) (u:= .int .i64 (t.w:Int)) uo)).trans rfl
   have cX:=cellOf jU.dU
   have cS6:=cellOf KW
   clear KW
   generalize NF:((w5.setCell ⟨S,0,none⟩ (.int .i64 (t.w:Int))).setCell ⟨S,1,none⟩ (.slice a5 (nw t.w) c5))=w6 at*
   go_wp2_with (at_builtin;(refine bE _ rfl (.tmp 38) (.tmp 40) 23 rfl (X+1) 44 i0 _ 2 32 Tryz.underlying23 hi0 hz0 hz1 hz2 rfl (by omega) (.slice av L.length cv) L.length (jy L) rfl (dG jU.out.s.own ((Ext.refl No _).alloc _) (fun _ _ x=>x)) No (some ⟨w6.heap.size,0,none⟩) 1 1 [.int .i64 (t.w:Int),.slice a5 (nw t.w) c5] rfl (Row.block (ah rfl) rfl ax (by omega)) (by simp [Value.oneCell']) (by omega) (by omega) (by simp;exact Nat.le_of_lt (lt_of_block jU.out.dU)) ?_);(intro v1 w5 hown1 hg1 hv1);(obtain ⟨He,TL⟩:=jU.out.app (p:=(bJ t.w (0|||2 ^ k),.slice a5 (nw t.w) c5)) hs6.out.words hown1 hg1 hv1);(have cX6:=cellOf TL);(have fX6:=aH TL);(have Kz:=aa (He.mono (M':=M) (fun i _ e=> .inl e)));(have HX6:=aa TL);(obtain ⟨a6,c6,acM⟩:=He.s.slice);(subst acM);(clear He TL hown1 hg1 hv1))
   go_roundw
   case rel=>exact ⟨k+1,a6,c6,L++[(bJ t.w (0|||2 ^ k),.slice a5 (nw t.w) c5)],by omega,HKK,by rw [List.map_append,HL,BA,List.map_append,HR];rfl,by have:=Kz;simp only [List.length_append,List.length_cons,List.length_nil] at this ⊢;exact this⟩
   case measure=>simp [intOf];omega
 obtain rfl:k=t.w:=by omega
 have cA:=cellOf hm.bW
 go_wp2_with fail
 clear cA hLn
 obtain ⟨wo,rfl⟩:∃wo:World,wo=wr:=⟨_,rfl⟩
 go_loopw [47] (fun i wr=>∃(j:Nat) (av:Option Addr) (cv:Nat) (L:List (bC×Value)),j≤t.copies.length∧i= .int .i64 j∧L.map Prod.fst=(aI t t.w j).map (bJ t.w)∧Hid (Cm M W wr t X (.slice ag (nw t.w) cg) (.slice ak (nw t.w) ck) (.slice ac t.copies.length cc) (.slice a1 (nw t.w) c1) (.slice av L.length cv) L)) (fun i _=>t.copies.length - (intOf i).toNat)
 case atStart=>exact ⟨0,av,cv,L,Nat.zero_le _,rfl,HL,hm⟩
 clear hm HL
 obtain ⟨j,av,cv,L,hj,rfl,hL,hm⟩:=hrel
 have HL:=aa hL
 clear hL
 rename World=>wi
 have aa8:(0:Int)≤(j:Int):=by omega
 by_cases hlt:j < t.copies.length
 ·obtain ⟨b,off,cap',hsl,_,_,hcell⟩:=fo.at (Row.aj H.copies hm.ext) hlt
  simp only [Value.slice.injEq] at hsl
  obtain ⟨rfl,_,rfl⟩:=hsl
  obtain ⟨q0,q1⟩:=hcell j hlt
  clear hcell
  obtain ⟨i1,i2⟩:=HO.inr j hlt
  obtain ⟨f,hf,hf2⟩:=jF i1
  obtain ⟨g,hg,hg2⟩:=jF i2
  have hLk:L.length=t.w:=by have:=congrArg List.length HL.out;simpa [aI] using this
  have hfL:f < L.length:=by omega
  have HST:=aa (Mr (k:=j) hlt hf hg (by omega))
  have HLf:Hid (L[f].1=bJ t.w (kQ t f j)):=aa (by
   have:=congrArg (fun l=>l[f]?) HL
   have hf3:f < (aI t t.w j).length:=by rw [gU];omega
   simpa [hfL,hf3,tV] using this)
  have hrl:=aa (Aa HO (a:=f) (by omega) j)
  have HKK:Hid (Value.int .i64 ((j:Int)+1)= .int .i64 ((j+1:Nat):Int)):=aa (by rw [show ((j+1:Nat):Int)=(j:Int)+1 from by omega])
  rw [hf] at q0
  rw [hg] at q1
  have hgw:g < t.w:=by omega
  have HLW:=aa hLk
  clear hf hg i1 i2 hf2 hg2 hLk
  have hx7:=(Ext.refl No wi).alloc (.cells #[.int .i64 (f:Int),.int .i64 (g:Int)] 75)
  have hD:(wi.alloc (.cells #[.int .i64 (f:Int),.int .i64 (g:Int)] 75)).heap[wi.heap.size]? =some (.cells #[.int .i64 (f:Int),.int .i64 (g:Int)] 75 (0,0)):=ah rfl
  have He:=aa (hm.aC hx7)
  obtain ⟨gg,rfl,hgg,hgl,_,hel,hfr⟩:=hm.s.Wj hfL
  go_wp2_with fail
  obtain ⟨z0,z1⟩:=hel f hfL
  have f0:=hfr (f*2)
  have f1:=hfr (f*2+1)
  have hok:=hm.s.ok L[f] (List.getElem_mem _)
  rw [HLf] at z0 hok
  obtain ⟨ae,ce,hse⟩:=(show aG _ _ _ t.w (kQ t f j) from ⟨hok,hw,hrl⟩).slice
  have Sm:=aa (show aG No (wi.alloc (.cells #[.int .i64 (f:Int),.int .i64 (g:Int)] 75)) (.slice ae (nw t.w) ce) t.w (kQ t f j) from by
   rw [hse] at hok
   exact (show aG _ _ _ t.w (kQ t f j) from ⟨hok,hw,hrl⟩).no.aj hx7)
  rw [hse] at z1
  have z0':(wi.alloc (.cells #[.int .i64 (f:Int),.int .i64 (g:Int)] 75)).cell? ⟨gg,f*2,none⟩=some (.int .i64 (t.w:Int)):=aO z0
  have z1':(wi.alloc (.cells #[.int .i64 (f:Int),.int .i64 (g:Int)] 75)).cell? ⟨gg,f*2+1,none⟩=some (.slice ae (nw t.w) ce):=aO z1
  have hgD:gg < wi.heap.size:=hgl
  have l0:(wi.alloc (.cells #[.int .i64 (f:Int),.int .i64 (g:Int)] 75)).cell? ⟨X,2,none⟩=some (.slice (some ⟨gg,0,none⟩) L.length cv):=cellOf He.dU 2
  have l1:(wi.alloc (.cells #[.int .i64 (f:Int),.int .i64 (g:Int)] 75)).cell? ⟨wi.heap.size,0,none⟩=some (.int .i64 (f:Int)):=cellOf hD 0
  have l2:(wi.alloc (.cells #[.int .i64 (f:Int),.int .i64 (g:Int)] 75)).cell? ⟨wi.heap.size,1,none⟩=some (.int .i64 (g:Int)):=cellOf hD 1
  have fr7:∀q,(wi.alloc (.cells #[.int .i64 (f:Int),.int .i64 (g:Int)] 75)).frozen? ⟨gg,q,none⟩=false:=fun q=>(hx7.frozen (p:=⟨gg,q,none⟩) hgl ax).trans (hfr q)
  have KN:=aa fr7
  have HZ:=aa (And.intro z0' z1')
  clear hx7 hD hm hel hfr z0 z1 f0 f1 hok hse fr7 q0 q1
  generalize World.alloc wi _=W7 at*
  generalize wi.heap.size=D at*
  have hXg:X < gg:=hgg
  have n1:X≠gg:=by omega
  have n2:D≠gg:=by omega
  have hfz:(0:Int)≤(f:Int):=by omega
  have hfl:(f:Int) < (L.length:Int):=by omega
  have Pw:=aa (He.hM (fun b hb=>Nat.lt_of_lt_of_le (HM b hb) He.ext.size))
  clear hgl hgg
  refine uW (fun w'=>w'.cell? ⟨X,2,none⟩=some (.slice (some ⟨gg,0,none⟩) L.length cv)∧w'.cell? ⟨D,0,none⟩=some (.int .i64 (f:Int))∧w'.cell? ⟨D,1,none⟩=some (.int .i64 (g:Int))) tZ fun hHeld=>?_
  refine uO [0,1,2,3,4,5,6,7,8,10,11] ?_
  iterate 11 refine uT ?_ (hy:=aM)
  refine uZ ?_
  refine hHc 9 fun K hK=>?_
  go_simp
  refine uK hK tZ ?_
  clear hK K hHeld
  intro hHeld
  refine hHc 12 fun K hK=>?_
  (go_simp;go_at_call 127;(with_reducible refine (wQ (fun b=>(M b∨b=W.heap.size+1∨b=X)∨(Value.slice (some ⟨gg,0,none⟩) L.length cv).ownBlock=some b) t.w (kQ t f j) g _ _ ?_ hgw ?_).mono ?_);(exact Pw);(first|exact Sm|exact Sm.aj (Ext.refl No W7).drew);(rintro e3 w3 ⟨a3,c3,rfl,hs3,aF⟩);(have acN:=aa hs3.out);(have hyB:Ext No W7 w3:=by first|exact aF|exact (Ext.refl No W7).drew.af aF);(have KQ:=aa (He.aC hyB));(have z3:=bf hyB HZ.1);(have z4:=bf hyB HZ.2);(have f3:=(hyB.frozen (p:=⟨gg,f*2,none⟩) (World.block_lt_of_cell? W7 _ HZ.1) ax).trans (KN (f*2)));(have f4:=(hyB.frozen (p:=⟨gg,f*2+1,none⟩) (World.block_lt_of_cell? W7 _ HZ.2) ax).trans (KN (f*2+1)));go_simp)
  refine uK hK tZ ?_
  clear hK K hHeld
  intro hHeld
  refine uO [13,14,15,16] ?_
  iterate 4 refine uT ?_ (hy:=aM)
  refine uZ ?_
  refine hHc 17 fun K hK=>?_
  go_simp
  refine uK hK tZ ?_
  clear hK K hHeld
  intro hHeld
  refine uD ?_
  go_wp2_with fail
  have hput:=KQ.put (p:=(bJ t.w (kQ t f j|||2 ^ g),.slice a3 (nw t.w) c3)) hfL (acN.words.mono (fun i _ e=>by
   rcases e with e|rfl
   ·exact .inl e
   exact .inr rfl))
  go_roundw
  case rel=>exact ⟨j+1,some ⟨gg,0,none⟩,cv,L.set f (bJ t.w (kQ t f j|||2 ^ g),.slice a3 (nw t.w) c3),by omega,HKK,by rw [List.map_set,HL,HST,List.map_set],aa (by rw [List.length_set];exact hput)⟩
  case measure=>simp [intOf];omega
 obtain rfl:j=t.copies.length:=by omega
 have vH:=aa (show L.length=t.w by have:=congrArg List.length HL.out;simpa [aI] using this)
 have cX:=cellOf hm.dU
 have cC:=cellOf hm.bV
 have fC:=aH hm.bV
 have hne:¬W.heap.size+1=X:=by have:=hm.big;omega
 go_wp2_with fail
 have hE:Ext (At (W.heap.size+1)) wi (((wi.setCell ⟨W.heap.size+1,0,none⟩ (.int .i64 (t.w:Int))).setCell ⟨W.heap.size+1,1,none⟩ (.slice a1 (nw t.w) c1)).setCell ⟨W.heap.size+1,2,none⟩ (.slice av L.length cv)):=(((Ext.refl (At (W.heap.size+1)) _).setAt _ _).setAt _ _).setAt _ _
 have hbF:=(az (j:=2) (u:= .slice av L.length cv) (az (j:=1) (u:= .slice a1 (nw t.w) c1) (az (j:=0) (u:= .int .i64 (t.w:Int)) hm.bV))).trans rfl
 clear cX cC fC
 generalize World.setCell (World.setCell (World.setCell wi _ _) _ _) _ _=WF at*
 have cF:=cellOf hbF
 refine aW rfl ?_
 simp [results,Tryz.results114,go_sem,cF]
 have hLk:=vH.out
 have hbig:=hm.big
 have TI:=hm.s.ext hE (fun i hi e=>by unfold At at e;omega) (fun i e=> .inr (.inl e))
 refine ⟨a1,c1,av,cv,by rw [gU,hLk],aa ?_,hm.ext.aJ hE (fun i hi e=>by unfold At at e;omega)⟩
 have hgF:=hm.gen.ext hE (fun i _ e=> .inr (.inl e))
 rw [gU,←hLk]
 rw [←hLk] at hgF
 refine ⟨hgF.mono (fun i _ e=>?_),⟨L,⟨dY TI.own (Nat.zero_le _),fun p hp=>(TI.ok p hp).mono (fun i _ e=>?_)⟩,by rw [HL,hLk]⟩,fun b hb hmb=>?_,fun m hmm=>?_⟩
 ·exact FD
 ·rcases e with e|e
  ·exact .inl (.inl e)
  exact .inr e
 ·have:=HM.out b hmb
  have:=(TI.lt b hb).1
  omega
 obtain ⟨a,ha,rfl⟩:=List.mem_map.1 hmm
 rw [hLk]
 exact Aa HO (by have:=List.mem_range.1 ha;omega) _
end Go.Proofs.YtmddchceacmopaaGreatDoor

namespace Go.Proofs.YtmddchceacmopaaGreatDoor
open Go Go.RowKit
def Aj (rs:List Nat) (l:List Int):Nat:=l.foldl (fun m b=>gP m ((rs[b.toNat]?).getD 0)) 0
theorem Pq {rs:List Nat} {l:List Int} {b:Nat} (hb:b < rs.length):Aj rs (l++[(b:Int)])=gP (Aj rs l) rs[b]:=by simp [Aj,hb]
def iO (rs:List Nat) (w s:Nat):Nat:=Aj rs (bU w s)
theorem JH (rs:List Nat) (j:Nat):∀l:List Int,(Aj rs l).testBit j=l.any fun b=>((rs[b.toNat]?).getD 0).testBit j:=by
 have key:∀(l:List Int) (m:Nat),(l.foldl (fun m b=>gP m ((rs[b.toNat]?).getD 0)) m).testBit j=(m.testBit j||l.any fun b=>((rs[b.toNat]?).getD 0).testBit j):=by
  intro l
  induction l with
  |nil=>intro m;simp
  |cons b l ih=>intro m;rw [List.foldl_cons,ih,gP,Nat.testBit_or,List.any_cons,Bool.or_assoc]
 intro l
 have:=key l 0
 simpa [Aj] using this
theorem jD (rs:List Nat) (w s j:Nat):(iO rs w s).testBit j=true↔∃b,b < w∧s.testBit b=true∧((rs[b]?).getD 0).testBit j=true:=by
 unfold iO
 rw [JH,List.any_eq_true]
 constructor
 ·rintro ⟨x,hx,h⟩
  obtain ⟨b,rfl,h1,h2⟩:=jQ.1 hx
  exact ⟨b,h1,h2,by simpa using h⟩
 rintro ⟨b,h1,h2,h3⟩
 exact ⟨(b:Int),jQ.2 ⟨b,rfl,h1,h2⟩,by simpa using h3⟩
theorem H9 {rs:List Nat} {w:Nat} (h:∀m∈rs,m < 2 ^ w):∀l:List Int,Aj rs l < 2 ^ w:=by
 intro l
 refine Nat.lt_pow_two_of_testBit _ (fun i hi=>?_)
 rw [JH]
 rw [List.any_eq_false]
 intro x _
 cases e:rs[x.toNat]? with
 |none=>simp
 |some m=>simp only [Option.getD_some];rw [ru (h m (List.mem_of_getElem? e)) hi];simp
structure SL (M:Nat→Prop) (W wr:World) (w m D:Nat) (sg so ss s1:Value):Prop where
 ext:Ext No W wr
 bW:wr.heap[W.heap.size]? =some (.cells #[.int .i64 (w:Int),sg,so] 131 (0,0))
 dQ:wr.heap[W.heap.size+1]? =some (.cells #[.int .i64 (w:Int),ss] 44 (0,0))
 bV:wr.heap[W.heap.size+2]? =some (.cells #[.int .i64 0,.slice none 0 0] 44 (0,0))
 dB:wr.heap[D]? =some (.cells #[.int .i64 (w:Int),s1] 44 (0,0))
 set:aG (fun b=>M b∨b=W.heap.size+2∨b=D) wr s1 w m
 big:W.heap.size+2 < D
section
variable {M:Nat→Prop} {W wr w':World} {w m m' D:Nat} {sg so ss s1 s2:Value}
theorem SL.aC (h:SL M W wr w m D sg so ss s1) (hx:Ext No wr w'):SL M W w' w m D sg so ss s1:=
 ⟨h.ext.af hx,hx.blk h.bW ax,hx.blk h.dQ ax,hx.blk h.bV ax,hx.blk h.dB ax,h.set.aj hx,h.big⟩
theorem SL.hM (hM:∀b,M b→b < W.heap.size) (h:SL M W wr w m D sg so ss s1):∀b,(M b∨b=W.heap.size+2∨b=D)→b < wr.heap.size:=fun b hb=>by
 have h1:=lt_of_block h.dB
 have h2:=h.big
 rcases hb with hb|rfl|rfl
 ·have:=hM b hb;omega
 ·omega
 exact h1
theorem SL.put (h:SL M W wr w m D sg so ss s1) (hs:aG (fun b=>M b∨b=W.heap.size+2∨b=D) wr s2 w m'):SL M W ((wr.setCell ⟨D,0,none⟩ (.int .i64 (w:Int))).setCell ⟨D,1,none⟩ s2) w m' D sg so ss s2:=by
 exact yC
end
set_option maxRecDepth 100000 in
set_option maxHeartbeats 4000000 in
theorem Gv (M:Nat→Prop) (w s:Nat) (rs:List Nat) (sg so ss:Value) (W:World) (hM:∀b,M b→b < W.heap.size) (hT:iQ W) (hg:shaped sg) (hr:fM No W so w rs) (hl:rs.length=w) (hs:aG No W ss w s):
  Calls Tryz.prog 115 #[.agg #[.int .i64 (w:Int),sg,so],.agg #[.int .i64 (w:Int),ss]] W (jA M w (iO rs w s) W):=by
 have HR:=aa hr
 have HS:=aa hs
 have HM:=aa hM
 have HT:=aa hT
 have IG:=aa hl
 obtain ⟨ag,ng,cg,rfl⟩:=hg
 obtain ⟨ao,co,rfl⟩:=hr.slice
 obtain ⟨a1,c1,rfl⟩:=hs.slice
 have hw:=hs.hw
 clear hr hs hM hT hl
 go_enter Tryz.func115,Tryz.ntmps115
 go_wp2_with fail
 have hx0:Ext No W (((W.alloc (.cells #[.int .i64 (w:Int),.slice ag ng cg,.slice ao rs.length co] 131)).alloc (.cells #[.int .i64 (w:Int),.slice a1 (nw w) c1] 44)).alloc (.cells #[.int .i64 0,.slice none 0 0] 44)):=(((Ext.refl _ _).alloc _).alloc _).alloc _
 have hA:(((W.alloc (.cells #[.int .i64 (w:Int),.slice ag ng cg,.slice ao rs.length co] 131)).alloc (.cells #[.int .i64 (w:Int),.slice a1 (nw w) c1] 44)).alloc (.cells #[.int .i64 0,.slice none 0 0] 44)).heap[W.heap.size]? =some (.cells #[.int .i64 (w:Int),.slice ag ng cg,.slice ao rs.length co] 131 (0,0)):=ay (ay (ah rfl))
 have hB:(((W.alloc (.cells #[.int .i64 (w:Int),.slice ag ng cg,.slice ao rs.length co] 131)).alloc (.cells #[.int .i64 (w:Int),.slice a1 (nw w) c1] 44)).alloc (.cells #[.int .i64 0,.slice none 0 0] 44)).heap[W.heap.size+1]? =some (.cells #[.int .i64 (w:Int),.slice a1 (nw w) c1] 44 (0,0)):=ay (ah (by simp))
 have hC:(((W.alloc (.cells #[.int .i64 (w:Int),.slice ag ng cg,.slice ao rs.length co] 131)).alloc (.cells #[.int .i64 (w:Int),.slice a1 (nw w) c1] 44)).alloc (.cells #[.int .i64 0,.slice none 0 0] 44)).heap[W.heap.size+2]? =some (.cells #[.int .i64 0,.slice none 0 0] 44 (0,0)):=ah (by simp)
 generalize World.alloc (World.alloc (World.alloc W _) _) _=W2 at*
 have zO:=lt_of_block hC
 refine (Bw (fun b=>M b∨b=W.heap.size+2) w _ (fun b hb=>?_) hw).mono ?_
 ·exact tH
 rintro e1 w1 ⟨a2,c2,rfl,hs2,hx1⟩
 have oJ:=lt_of_block (hx1.blk hC ax)
 have hm1:=aa (show SL M W (w1.alloc (.cells #[.int .i64 (w:Int),.slice a2 (nw w) c2] 44)) w 0 w1.heap.size (.slice ag ng cg) (.slice ao rs.length co) (.slice a1 (nw w) c1) (.slice a2 (nw w) c2) from
  ⟨(hx0.af hx1).alloc _,ay (hx1.blk hA ax),ay (hx1.blk hB ax),ay (hx1.blk hC ax),ah rfl,(hs2.mono (fun i hi e=>by
   rcases e with e|e|e
   ·exact .inl e
   ·exact .inr e
   omega)).aj ((Ext.refl _ _).alloc _),oJ⟩)
 have cB:=cellOf hm1.dQ
 clear hx0 hA hB hC zO hs2 hx1 oJ
 go_wp2_with fail
 generalize World.alloc w1 _=W1 at*
 generalize w1.heap.size=D at*
 clear cB
 refine (zC (fun b=>b=D) w s _ _ (fun b hb=>?_) (HT.ext hm1.ext) (HS.aj hm1.ext)).mono ?_
 ·cases hb;exact lt_of_block hm1.dB
 rintro e3 w3 ⟨am,rfl,hmem,hx3⟩
 have hm2:=aa (hm1.aC hx3)
 have YC:=aa hmem.out
 clear hx3 hm1 hmem
 have hml:(bU w s).length≤256:=Nat.le_trans (mR w s) hw
 go_wp2_with fail
 go_loopw [18] (fun i wr=>∃(j:Nat) (a':Option Addr) (c':Nat),j≤(bU w s).length∧i= .int .i64 j∧Hid (SL M W wr w (Aj rs ((bU w s).take j)) D (.slice ag ng cg) (.slice ao rs.length co) (.slice a1 (nw w) c1) (.slice a' (nw w) c'))∧Hid (Row (fun b=>b=D) wr 1 (.slice am (bU w s).length (bU w s).length) (bU w s).length (ints (bU w s)))) (fun i _=>(bU w s).length - (intOf i).toNat)
 case atStart=>exact ⟨0,_,_,Nat.zero_le _,rfl,hm2,YC⟩
 clear hm2 YC
 obtain ⟨j,a',c',hj,rfl,hm,hme⟩:=hrel
 rename World=>wr
 have hpos:(0:Int)≤(j:Int):=by omega
 by_cases hlt:j < (bU w s).length
 ·obtain ⟨mb,mo,mc,hsl,_,_,hcell⟩:=hme.shape (by omega)
  simp only [Value.slice.injEq] at hsl
  obtain ⟨rfl,_,rfl⟩:=hsl
  obtain ⟨b,hb,hbw,hbs⟩:=jQ.1 (List.getElem_mem hlt)
  have q0:=hcell j _ (show (ints (bU w s))[j]? =some (.int .i64 (b:Int)) from by simp [ints,hlt,hb])
  have hbr:b < rs.length:=by have:=IG.out;omega
  have HST:Hid (Aj rs ((bU w s).take (j+1))=gP (Aj rs ((bU w s).take j)) rs[b]):=aa (by rw [List.take_succ_eq_append_getElem hlt,hb,Pq hbr])
  have HKK:Hid (Value.int .i64 ((j:Int)+1)= .int .i64 ((j+1:Nat):Int)):=aa (by rw [show ((j+1:Nat):Int)=(j:Int)+1 from by omega])
  have hlz:(j:Int) < ((bU w s).length:Int):=by omega
  clear hcell hb
  go_wp2_with fail
  obtain ⟨gg,go,gc,ae,ce,KO,hgl,_,z0,z1,hE⟩:=(HR.aj hm.ext).at hbr
  simp only [Value.slice.injEq] at KO
  obtain ⟨rfl,_,rfl⟩:=KO
  have HE:=aa hE.out
  have WW:D≠gg:=fun e=>by
   subst e
   have h1:=hm.dB
   have h2:=(HR).at hbr
   obtain ⟨g2,o2,_,_,_,e2,hl2,_⟩:=h2
   simp only [Value.slice.injEq,Option.some.injEq,Addr.mk.injEq] at e2
   obtain ⟨⟨rfl,_⟩,_⟩:=e2
   have:=hm.big
   omega
  have hgD:gg≠D:=fun e=>WW e.symm
  have Oa:W.heap.size≠D:=by have:=hm.big;omega
  have l0:wr.cell? ⟨W.heap.size,2,none⟩=some (.slice (some ⟨gg,go,none⟩) rs.length co):=cellOf hm.bW 2
  have hle:W.heap.size≤D:=by have:=hm.big;omega
  have l3:Ext No W wr:=hm.ext
  have cD:=cellOf hm.dB
  have hbz:(0:Int)≤(b:Int):=by omega
  have hbl:(b:Int) < (rs.length:Int):=by omega
  clear hE q0 hgl
  refine uW (fun w'=>w'.cell? ⟨W.heap.size,2,none⟩=some (.slice (some ⟨gg,go,none⟩) rs.length co)∧w'.cell? ⟨gg,go+b*2,none⟩=some (.int .i64 (w:Int))∧w'.cell? ⟨gg,go+b*2+1,none⟩=some (.slice ae (nw w) ce)∧Ext No W w') bT fun hHeld=>?_
  refine uO [1,2,3,4,5] ?_
  iterate 5 refine uT ?_ (hy:=aM)
  refine uZ ?_
  refine hHc 0 fun K hK=>?_
  go_simp
  refine uK hK bT ?_
  clear hK K hHeld
  intro hHeld
  refine hHc 6 fun K hK=>?_
  (go_simp;go_at_call 52;(with_reducible refine (nu (fun b=>M b∨b=W.heap.size+2∨b=D) w (Aj rs ((bU w s).take j)) rs[b] _ _ _ ?_ ?_ ?_).mono ?_);(first|exact hm.hM HM|exact (hm.aC (Ext.refl No wr).drew).hM HM);(first|exact hm.set.no|exact hm.set.no.aj (Ext.refl No wr).drew);(first|exact HE|exact HE.aj (Ext.refl No wr).drew);(rintro e3 w3 ⟨a3,c3,rfl,hs3,aF⟩);(have hyB:Ext No wr w3:=by first|exact aF|exact (Ext.refl No wr).drew.af aF);(have gX:=aa (hm.aC hyB));(have hs4:=aa hs3.out);(have c3D:=cellOf gX.dB);(have f3D:=aH gX.dB);go_simp)
  refine uK hK bT ?_
  clear hK K hHeld
  intro hHeld
  refine uO [7,8,9] ?_
  iterate 3 refine uT ?_ (hy:=aM)
  refine uZ ?_
  refine hHc 10 fun K hK=>?_
  go_simp
  refine uK hK bT ?_
  clear hK K hHeld
  intro hHeld
  refine uD ?_
  go_wp2_with fail
  have hput:=gX.put hs4
  have acO:=aa (((hme.aj hyB).ext (((Ext.refl (At D) _).setAt 0 (.int .i64 (w:Int))).setAt 1 (.slice a3 (nw w) c3)) (fun i _ e=>e)))
  go_roundw
  case rel=>exact ⟨j+1,a3,c3,by omega,HKK,aa (by rw [HST];exact hput),acO⟩
  case measure=>simp [intOf];omega
 obtain rfl:j=(bU w s).length:=by omega
 have cD:=cellOf hm.dB
 have cC:=cellOf hm.bV
 have fC:=aH hm.bV
 have hne:¬W.heap.size+2=D:=by have:=hm.big;omega
 go_wp2_with fail
 have hE:Ext (At (W.heap.size+2)) wr ((wr.setCell ⟨W.heap.size+2,0,none⟩ (.int .i64 (w:Int))).setCell ⟨W.heap.size+2,1,none⟩ (.slice a' (nw w) c')):=((Ext.refl (At (W.heap.size+2)) _).setAt _ _).setAt _ _
 have hbF:=(az (j:=1) (u:= .slice a' (nw w) c') (az (j:=0) (u:= .int .i64 (w:Int)) hm.bV)).trans rfl
 clear cD cC fC
 generalize World.setCell (World.setCell wr _ _) _ _=WF at*
 have cF:=cellOf hbF
 refine aW rfl ?_
 simp [results,Tryz.results115,go_sem,cF]
 rw [List.take_length] at hm
 exact tq
end Go.Proofs.YtmddchceacmopaaGreatDoor

namespace Go.Proofs.YtmddchceacmopaaGreatDoor
open Go Go.RowKit
def jL (rs:List Nat) (w s:Nat):Nat:=gP s (iO rs w s)
def qx (rs:List Nat) (w:Nat):Nat→Nat→Nat
 |0,s=>s
 |k+1,s=>if jL rs w s=s then s else qx rs w k (jL rs w s)
def gQ (rs:List Nat) (w s:Nat):Nat:=qx rs w (2 ^ w) s
theorem A7 {rs:List Nat} {w s:Nat} (h:∀m∈rs,m < 2 ^ w) (hs:s < 2 ^ w):jL rs w s < 2 ^ w:=pX hs (H9 h _)
theorem wS (rs:List Nat) (w s:Nat):s≤jL rs w s:=Nat.left_le_or
theorem Ms {rs:List Nat} {w:Nat} (h:∀m∈rs,m < 2 ^ w):∀(k s:Nat),s < 2 ^ w→2 ^ w - s≤k→qx rs w (k+1) s=qx rs w k s:=by
 intro k
 induction k with
 |zero=>intro s hs hk;omega
 |succ k ih=>
  intro s hs hk
  rw [qx]
  conv=>rhs;rw [qx]
  by_cases e:jL rs w s=s
  ·rw [if_pos e,if_pos e]
  rw [if_neg e,if_neg e]
  have h1:=wS rs w s
  have h2:=A7 h hs
  exact ih _ h2 (by omega)
theorem JI {rs:List Nat} {w:Nat} (h:∀m∈rs,m < 2 ^ w) (s:Nat) (hs:s < 2 ^ w):∀d,qx rs w (2 ^ w - s+d) s=qx rs w (2 ^ w - s) s:=by
 intro d
 induction d with
 |zero=>rfl
 |succ d ih=>rw [←Nat.add_assoc,Ms h _ _ hs (by omega),ih]
theorem wT {rs:List Nat} {w s k:Nat} (h:∀m∈rs,m < 2 ^ w) (hs:s < 2 ^ w) (hk:2 ^ w - s≤k):qx rs w k s=gQ rs w s:=by
 have h1:=JI h s hs (k - (2 ^ w - s))
 have h2:=JI h s hs (2 ^ w - (2 ^ w - s))
 rw [show 2 ^ w - s+(k - (2 ^ w - s))=k by omega] at h1
 rw [show 2 ^ w - s+(2 ^ w - (2 ^ w - s))=2 ^ w by omega] at h2
 unfold gQ
 rw [h1,h2]
theorem BC {rs:List Nat} {w s:Nat} (h:∀m∈rs,m < 2 ^ w) (hs:s < 2 ^ w):gQ rs w (jL rs w s)=gQ rs w s:=by
 have h2:=A7 h hs
 have h1:=wS rs w s
 rw [←wT h hs (k:=2 ^ w - s+1) (by omega)]
 rw [qx]
 split
 ·rename_i e;rw [e,←wT h hs (k:=2 ^ w - s) (Nat.le_refl _)]
  have:∃k,2 ^ w - s=k+1:=⟨2 ^ w - s - 1,by omega⟩
  obtain ⟨k,hk⟩:=this
  rw [hk,qx,if_pos e]
 exact (wT h h2 (by omega)).symm
theorem yP {rs:List Nat} {w s:Nat} (h:∀m∈rs,m < 2 ^ w) (hs:s < 2 ^ w) (e:jL rs w s=s):gQ rs w s=s:=by
 rw [←wT h hs (k:=2 ^ w - s+1) (by omega),qx,if_pos e]
structure zf (rs:List Nat) (w s r:Nat):Prop where
 lt:r < 2 ^ w
 fix:jL rs w r=r
 ge:s|||r=r
 least:∀r',jL rs w r'=r'→s|||r'=r'→r|||r'=r'
theorem dV {a b:Nat}:a|||b=b↔∀i,a.testBit i=true→b.testBit i=true:=by
 constructor
 ·intro h i hi
  rw [←h,Nat.testBit_or,hi];rfl
 intro h
 refine Nat.eq_of_testBit_eq fun i=>?_
 rw [Nat.testBit_or]
 cases e:a.testBit i
 ·rfl
 rw [h i e];rfl
theorem Pt (rs:List Nat) (w:Nat) {a b:Nat} (h:a|||b=b):iO rs w a|||iO rs w b=iO rs w b:=by
 rw [dV] at h ⊢
 intro i hi
 obtain ⟨x,h1,h2,h3⟩:=(jD rs w a i).1 hi
 exact (jD rs w b i).2 ⟨x,h1,h x h2,h3⟩
theorem Vh {rs:List Nat} {w:Nat} (h:∀m∈rs,m < 2 ^ w):∀(n s:Nat),s < 2 ^ w→2 ^ w - s≤n→zf rs w s (gQ rs w s):=by
 intro n
 induction n with
 |zero=>intro s hs hk;omega
 |succ n ih=>
  intro s hs hk
  by_cases e:jL rs w s=s
  ·rw [yP h hs e]
   exact ⟨hs,e,Nat.or_self s,fun r' _ h2=>h2⟩
  have h1:=wS rs w s
  have h2:=A7 h hs
  have i:=ih _ h2 (by omega)
  rw [BC h hs] at i
  refine ⟨i.lt,i.fix,?_,fun r' h3 h4=>i.least r' h3 ?_⟩
  ·rw [dV]
   intro j hj
   exact (dV.1 i.ge) j (by unfold jL gP;rw [Nat.testBit_or,hj];rfl)
  rw [←h3]
  rw [dV]
  intro j hj
  unfold jL gP at hj ⊢
  rw [Nat.testBit_or] at hj ⊢
  rcases Bool.or_eq_true _ _▸hj with hj|hj
  ·rw [(dV.1 h4) j hj];rfl
  rw [(dV.1 (Pt rs w h4)) j hj,Bool.or_true]
theorem jE {rs:List Nat} {w s:Nat} (h:∀m∈rs,m < 2 ^ w) (hs:s < 2 ^ w):zf rs w s (gQ rs w s):=Vh h _ s hs (Nat.le_refl _)
theorem zf.uniq {rs:List Nat} {w s r r':Nat} (h:zf rs w s r) (h':zf rs w s r'):r=r':=by
 have h1:=h.least r' h'.fix h'.ge
 have h2:=h'.least r h.fix h.ge
 rw [←h1,Nat.or_comm,h2]
theorem Sa (w m k:Nat) (s1 s2:Value) (W:World) (h1:aG No W s1 w m) (h2:aG No W s2 w k):
  Calls Tryz.prog 52 #[.agg #[.int .i64 (w:Int),s1],.agg #[.int .i64 (w:Int),s2]] W (iq (Lo W.heap.size) w (gP m k) W):=nu (Lo W.heap.size) w m k s1 s2 W (fun _ x=>x) h1 h2
theorem Sc (w s:Nat) (rs:List Nat) (sg so ss:Value) (W:World) (hT:iQ W) (hg:shaped sg) (hr:fM No W so w rs) (hl:rs.length=w) (hs:aG No W ss w s):
  Calls Tryz.prog 115 #[.agg #[.int .i64 (w:Int),sg,so],.agg #[.int .i64 (w:Int),ss]] W (jA (Lo W.heap.size) w (iO rs w s) W):=Gv (Lo W.heap.size) w s rs sg so ss W (fun _ x=>x) hT hg hr hl hs
theorem aG.QR {L w m D:Nat} {w7:World} {sl u0 u1:Value} (h:aG (Lo L) w7 sl w m) (hlt:D < L):aG (Lo L) ((w7.setCell ⟨D,0,none⟩ u0).setCell ⟨D,1,none⟩ u1) sl w m:=
 h.ext (((Ext.refl (At D) _).setAt 0 u0).setAt 1 u1) (fun i _ e=>by cases e;exact hlt)
theorem aG.lo {L n w m:Nat} {M:Nat→Prop} {w7:World} {sl:Value} (h:aG (Lo L) w7 sl w m) (hL:n≤L) (hM:∀i,M i→i < n):aG M w7 sl w m:=h.mono (fun i _ e=>Nat.lt_of_lt_of_le (hM i e) hL)
theorem jI {w w':World} {n:Nat} {o:Obj} (hy:Ext No w w') (h:w.heap[n]? =some o):w'.heap[n]? =some o∧n < w.heap.size:=⟨hy.blk h ax,lt_of_block h⟩
structure SN (M:Nat→Prop) (W wr:World) (w m:Nat) (sg so s1:Value):Prop where
 ext:Ext No W wr
 bW:wr.heap[W.heap.size]? =some (.cells #[.int .i64 (w:Int),sg,so] 131 (0,0))
 dQ:wr.heap[W.heap.size+1]? =some (.cells #[.int .i64 (w:Int),s1] 44 (0,0))
 bV:wr.heap[W.heap.size+2]? =some (.cells #[.int .i64 0,.slice none 0 0] 44 (0,0))
 set:aG (fun b=>M b∨b=W.heap.size+1∨b=W.heap.size+2) wr s1 w m
section
variable {M:Nat→Prop} {W wr w':World} {w m m':Nat} {sg so s1 s2:Value}
theorem SN.aC (h:SN M W wr w m sg so s1) (hx:Ext No wr w'):SN M W w' w m sg so s1:=
 ⟨h.ext.af hx,hx.blk h.bW ax,hx.blk h.dQ ax,hx.blk h.bV ax,h.set.aj hx⟩
theorem SN.put (h:SN M W wr w m sg so s1) (hs:aG (fun b=>M b∨b=W.heap.size+1∨b=W.heap.size+2) wr s2 w m'):SN M W ((wr.setCell ⟨W.heap.size+1,0,none⟩ (.int .i64 (w:Int))).setCell ⟨W.heap.size+1,1,none⟩ s2) w m' sg so s2:=by
 exact FE
theorem SN.cells (h:SN M W wr w m sg so s1) (hx:Ext No wr w'):w'.cell? ⟨W.heap.size,0,none⟩=some (.int .i64 (w:Int))∧w'.cell? ⟨W.heap.size,1,none⟩=some sg∧w'.cell? ⟨W.heap.size,2,none⟩=some so∧w'.cell? ⟨W.heap.size+1,0,none⟩=some (.int .i64 (w:Int))∧w'.cell? ⟨W.heap.size+1,1,none⟩=some s1∧Ext No wr w':=by
 exact FH
end
set_option maxRecDepth 100000 in
set_option maxHeartbeats 4000000 in
theorem rA (M:Nat→Prop) (w s:Nat) (rs:List Nat) (sg so ss:Value) (W:World) (hM:∀b,M b→b < W.heap.size) (hT:iQ W) (hg:shaped sg) (hr:fM No W so w rs) (hl:rs.length=w) (hs:aG M W ss w s):
  Calls Tryz.prog 130 #[.agg #[.int .i64 (w:Int),sg,so],.agg #[.int .i64 (w:Int),ss]] W (jA M w (gQ rs w s) W):=by
 have HR:=aa hr
 have HM:=aa hM
 have HT:=aa hT
 have IG:=aa hl
 have Ce:=aa hr.hm
 have Tu:=aa hs.hm
 obtain ⟨ag,ng,cg,rfl⟩:=hg
 obtain ⟨ao,co,rfl⟩:=hr.slice
 obtain ⟨a1,c1,rfl⟩:=hs.slice
 have hm0:=aa (show SN M W (((W.alloc (.cells #[.int .i64 (w:Int),.slice ag ng cg,.slice ao rs.length co] 131)).alloc (.cells #[.int .i64 (w:Int),.slice a1 (nw w) c1] 44)).alloc (.cells #[.int .i64 0,.slice none 0 0] 44)) w s (.slice ag ng cg) (.slice ao rs.length co) (.slice a1 (nw w) c1) from
  ⟨(((Ext.refl _ _).alloc _).alloc _).alloc _,ay (ay (ah rfl)),ay (ah (by simp)),ah (by simp),(hs.mono (fun i hi e=>by
   rcases e with e|e|e
   ·exact e
   ·omega
   omega)).aj ((((Ext.refl _ _).alloc _).alloc _).alloc _)⟩)
 clear hr hs hM hT hl
 go_enter Tryz.func130,Tryz.ntmps130
 go_wp2_with fail
 generalize World.alloc (World.alloc (World.alloc W _) _) _=W0 at*
 go_loopg [5] (2 ^ w - s) (fun n _ wr=>∃(m:Nat) (av:Option Addr) (cv:Nat),Hid (2 ^ w - m≤n∧gQ rs w m=gQ rs w s)∧Hid (SN M W wr w m (.slice ag ng cg) (.slice ao rs.length co) (.slice av (nw w) cv)))
 case atStart=>exact ⟨s,a1,c1,aa ⟨Nat.le_refl _,rfl⟩,hm0⟩
 clear hm0
 obtain ⟨m,av,cv,hk,hm⟩:=hrel
 rename World=>Wr
 go_wp2_with fail
 have KP:Hid (∀i,(M i∨i=W.heap.size+1∨i=W.heap.size+2)→i < Wr.heap.size):=aa (fun i e=>by
  have h1:=lt_of_block hm.bV
  rcases e with e|rfl|rfl
  ·exact Nat.lt_of_lt_of_le (HM i e) hm.ext.size
  ·omega
  exact h1)
 go_cut [5] (fun s5 wx=>∃D a c,s5= .pointer (some ⟨D,0,none⟩)∧Hid (wx.heap[D]? =some (.cells #[.int .i64 (w:Int),.slice a (nw w) c] 44 (0,0)))∧Hid (aG (fun b=>M b∨b=W.heap.size+1∨b=W.heap.size+2) wx (.slice a (nw w) c) w (jL rs w m))∧Hid (Ext No Wr wx))
 case first=>
  obtain ⟨l0,l1,l2,l3,l4,l5⟩:=hm.cells (Ext.refl No Wr)
  have Y6:=aa (HT.ext hm.ext)
  have zV:=aa (HR.aj hm.ext)
  have ZM:=aa hm.set.no
  go_region_held3 (fun w'=>w'.cell? ⟨W.heap.size,0,none⟩=some (.int .i64 (w:Int))∧w'.cell? ⟨W.heap.size,1,none⟩=some (.slice ag ng cg)∧w'.cell? ⟨W.heap.size,2,none⟩=some (.slice ao rs.length co)∧w'.cell? ⟨W.heap.size+1,0,none⟩=some (.int .i64 (w:Int))∧w'.cell? ⟨W.heap.size+1,1,none⟩=some (.slice av (nw w) cv)∧Ext No Wr w')
   ((go_split_ands;(with_reducible refine hm.out.cells ?_);(first|((with_reducible refine gG hx7 ?_);(first|exact Nat.le_refl _|exact hx6.size|exact hx5.size))|((repeat (first|(with_reducible exact Ext.refl _ _)|(with_reducible assumption)|(with_reducible refine Ext.drewN ?_ _)|(with_reducible refine Ext.drew ?_)|(with_reducible refine Ext.alloc ?_ _)|((with_reducible refine Ext.own ?_ ?_ _);rotate_left;(first|exact Nat.le_refl _|exact Nat.le_succ _|omega|(simp;done)|(simp;omega)))))))))
   (first
    |((go_at_call 115);(try go_split_ands);(with_reducible refine (Sc w m rs _ _ _ _ (Y6.out.ext ?_) (rG _ _ _) (zV.out.aj ?_) IG.out (ZM.out.aj ?_)).mono ?_);(with_reducible assumption);(with_reducible assumption);(with_reducible assumption);(rintro e5 w5 ⟨a5,c5,rfl,hs5,aF⟩);(have hx5:=Ext.af (show Ext No Wr _ from by with_reducible assumption) aF))
    |((go_at_call 52);(try go_split_ands);(with_reducible refine (Sa w m (iO rs w m) _ _ _ (ZM.out.aj ?_) (hs5.out.no.aj ?_)).mono ?_);(with_reducible assumption);((repeat (first|(with_reducible exact Ext.refl _ _)|(with_reducible assumption)|(with_reducible refine Ext.drewN ?_ _)|(with_reducible refine Ext.drew ?_)|(with_reducible refine Ext.alloc ?_ _))));(have hx6:=(show Ext No Wr _ from by with_reducible assumption));(rintro e7 w7 ⟨a7,c7,rfl,hs7,KY⟩);(have hx7:=Ext.af (show Ext No Wr _ from by with_reducible assumption) KY);(first|(with_reducible have hi:=jI KY (ah (o:=(.cells #[.int .i64 0,.slice none 0 0] 44)) rfl))|(with_reducible have hi:=jI KY (aF.blk (ah (o:=(.cells #[.int .i64 0,.slice none 0 0] 44)) rfl) ax))|skip);(try ((obtain ⟨hi,hlt⟩:=hi);(have HI:=aa hi);(have HL:=aa hlt);(have cI:=cellOf hi);(have fI:=aH hi);(clear hi hlt)))))
  all_goals
   go_wp2_with fail
   go_meet
   first
   |exact ⟨_,a7,c7,rfl,ah rfl,(hs7.lo hx6.size KP).aj ((Ext.refl _ _).alloc _),hx7.alloc _⟩
   |exact ⟨_,a7,c7,rfl,(az (j:=1) (az (j:=0) HI)).trans rfl,(hs7.QR HL).lo hx6.size KP,gG hx7 (by first|exact Nat.le_refl _|exact hx5.size)⟩
 case rest=>
  obtain ⟨D,a,c,rfl,hD,hset,hx⟩:=hcut
  rename World=>V
  have hm2:=aa (hm.aC hx)
  clear hx hm KP
  have cD:=cellOf hD.out
  have cB:=cellOf hm2.dQ
  go_wp2_with fail
  refine (Pn w (jL rs w m) m _ _ _ hset.no hm2.set.no).mono ?_
  rintro e6 w6 ⟨rfl,hx6⟩
  have gX:=aa (hm2.aC hx6)
  have Jf:=aa (hset.aj hx6)
  have hD3:=aa (hx6.blk hD ax)
  clear cD cB hx6 hm2 hset hD
  by_cases he:jL rs w m=m
  ·have HE:=aa he
   rw [decide_eq_true he]
   clear he
   have cB:=cellOf gX.dQ
   have cC:=cellOf gX.bV
   have fC:=aH gX.bV
   go_wp2_with fail
   have hE:Ext (At (W.heap.size+2)) w6 ((w6.setCell ⟨W.heap.size+2,0,none⟩ (.int .i64 (w:Int))).setCell ⟨W.heap.size+2,1,none⟩ (.slice av (nw w) cv)):=((Ext.refl (At (W.heap.size+2)) _).setAt _ _).setAt _ _
   have hbF:=(az (j:=1) (u:= .slice av (nw w) cv) (az (j:=0) (u:= .int .i64 (w:Int)) gX.bV)).trans rfl
   clear cB cC fC
   generalize World.setCell (World.setCell w6 _ _) _ _=WF at*
   have cF:=cellOf hbF
   refine aW rfl ?_
   simp [results,Tryz.results130,go_sem,cF]
   have hfix:=yP Ce gX.set.hm HE
   exact FI
  have HE:=aa he
  rw [decide_eq_false he]
  clear he
  have cD:=cellOf hD3.out
  have cB:=cellOf gX.dQ
  have fB:=aH gX.dQ
  have hput:=aa (gX.put Jf)
  have hge:=wS rs w m
  have hml:=gX.set.hm
  have hstep:=aa (BC Ce hml)
  have hlt:m < jL rs w m:=Nat.lt_of_le_of_ne hge (fun e=>HE e.symm)
  have hlt2:=Jf.hm
  have HLT:=aa (And.intro hlt (And.intro hlt2 hml))
  clear hge hlt hlt2 hml
  go_wp2_with fail
  go_roundg (2 ^ w - jL rs w m)
  case measure=>have:=HLT.out;have:=hk.1;omega
  case rel=>exact ⟨jL rs w m,a,c,aa ⟨Nat.le_refl _,by rw [hstep,hk.2]⟩,hput⟩
end Go.Proofs.YtmddchceacmopaaGreatDoor
namespace Go.Proofs.YtmddchceacmopaaGreatDoor
open Go Go.RowKit
def rowAt (rs:List Nat) (k:Nat):Nat:=(rs[k]?).getD 0
theorem fP {rs:List Nat} {k:Nat} (h:k < rs.length):rowAt rs k=rs[k]:=by simp [rowAt,h]
def fO (k:Nat) (l:List Int):List (Int×Int):=(l.filter fun x=>decide (x≠(k:Int))).map fun x=>((k:Int),x)
theorem uV {k:Nat} {l:List Int} {x:Int} (h:x≠(k:Int)):fO k (l++[x])=fO k l++[((k:Int),x)]:=by simp [fO,h]
theorem uU {k:Nat} {l:List Int} {x:Int} (h:x=(k:Int)):fO k (l++[x])=fO k l:=by simp [fO,h]
theorem pq (k:Nat) (l:List Int):(fO k l).length≤l.length:=by
 unfold fO;rw [List.length_map];exact List.length_filter_le _ _
def fu (w gen:Nat) (rs:List Nat):Nat→List (Int×Int)
 |0=>[]
 |k+1=>fu w gen rs k++fO k (bU w (dz (rowAt rs k) gen))
def jd (w gen:Nat) (rs:List Nat):Nat→Nat
 |0=>gen
 |k+1=>if gz w (rowAt rs k) k then jd w gen rs k else jd w gen rs k|||2 ^ k
def jc (w gen:Nat) (rs:List Nat):cK:=⟨w,gen,jd w gen rs w,fu w gen rs w⟩
theorem nD (w gen:Nat) (rs:List Nat):∀k,(fu w gen rs k).length≤k*w:=by
 intro k
 induction k with
 |zero=>simp [fu]
 |succ k ih=>
  rw [fu,List.length_append,Nat.succ_mul]
  have h1:=pq k (bU w (dz (rowAt rs k) gen))
  have h2:=mR w (dz (rowAt rs k) gen)
  omega
theorem tQ {w gen:Nat} {rs:List Nat} (hg:gen < 2 ^ w):∀k,k≤w→jd w gen rs k < 2 ^ w:=by
 intro k
 induction k with
 |zero=>intro _;exact hg
 |succ k ih=>
  intro hk
  rw [jd]
  split
  ·exact ih (by omega)
  exact fZ (ih (by omega)) (eZ (by omega))
theorem vo {w gen:Nat} {rs:List Nat} (b:Nat):∀k,(jd w gen rs k).testBit b=(gen.testBit b||(decide (b < k)&& !gz w (rowAt rs b) b)):=by
 intro k
 induction k with
 |zero=>simp [jd]
 |succ k ih=>
  rw [jd]
  by_cases e:b=k
  ·subst e
   cases hh:gz w (rowAt rs b) b with
   |true=>simp [ih]
   |false=>simp [Nat.testBit_or,ih,Nat.testBit_two_pow_self]
  have e2:(decide (b < k+1):Bool)=decide (b < k):=decide_eq_decide.2 (by omega)
  rw [e2]
  split
  ·exact ih
  rw [or_bit,ih,show decide (k=b)=false from decide_eq_false (fun h=>e h.symm),Bool.or_false]
theorem GI {k:Nat} {l:List Int} {p:Int×Int}:p∈fO k l↔p.1=(k:Int)∧p.2∈l∧p.2≠(k:Int):=by
 unfold fO
 simp only [List.mem_map,List.mem_filter,decide_eq_true_eq]
 constructor
 ·rintro ⟨x,⟨h1,h2⟩,rfl⟩;exact ⟨rfl,h1,h2⟩
 rintro ⟨h1,h2,h3⟩;exact ⟨p.2,⟨h2,h3⟩,Prod.ext h1.symm rfl⟩
theorem GJ {w gen:Nat} {rs:List Nat} {p:Int×Int}:∀k,p∈fu w gen rs k↔∃a b:Nat,a < k∧p=((a:Int),(b:Int))∧b < w∧a≠b∧(rowAt rs a).testBit b=true∧gen.testBit b=false:=by
 intro k
 induction k with
 |zero=>simp [fu]
 |succ k ih=>
  rw [fu,List.mem_append,ih,GI]
  constructor
  ·rintro (⟨a,b,h1,h2⟩|⟨h1,h2,h3⟩)
   ·exact ⟨a,b,by omega,h2⟩
   obtain ⟨b,e,h4,h5⟩:=jQ.1 h2
   rw [eG,Bool.and_eq_true] at h5
   exact ⟨k,b,by omega,Prod.ext h1 e,h4,fun he=>h3 (by rw [e,he]),h5.1,by simpa using h5.2⟩
  rintro ⟨a,b,h1,rfl,h3,h4,h5,h6⟩
  by_cases e:a=k
  ·subst e
   exact .inr ⟨rfl,jQ.2 ⟨b,rfl,h3,by rw [eG,h5,h6];rfl⟩,by simp;omega⟩
  exact .inl ⟨a,b,by omega,rfl,h3,h4,h5,h6⟩
def ltC (p q:Int×Int):Prop:=p.1 < q.1∨p.1=q.1∧p.2 < q.2
theorem zX (w m:Nat):(bU w m).Pairwise (· < ·):=by
 unfold bU
 rw [List.pairwise_map]
 exact (List.pairwise_lt_range.filter _).imp (fun h=>by omega)
theorem Iw (w gen:Nat) (rs:List Nat):∀k,(fu w gen rs k).Pairwise ltC:=by
 intro k
 induction k with
 |zero=>exact List.Pairwise.nil
 |succ k ih=>
  rw [fu,List.pairwise_append]
  refine ⟨ih,?_,?_⟩
  ·unfold fO
   rw [List.pairwise_map]
   exact ((zX _ _).filter _).imp (fun h=> .inr ⟨rfl,h⟩)
  intro p hp q hq
  obtain ⟨a,b,h1,rfl,_⟩:=(GJ k).1 hp
  obtain ⟨h2,_⟩:=GI.1 hq
  exact .inl (by rw [h2];show (a:Int) < (k:Int);omega)
theorem adN {w gen:Nat} {rs:List Nat} (hw:w≤256) (hg:gen < 2 ^ w) (hl:(fu w gen rs w).length≤64):eO (jc w gen rs):=by
 refine ⟨hw,hg,tQ hg w (Nat.le_refl _),hl,fun i h=>?_,fun i h=>?_⟩
 ·have h':i < (fu w gen rs w).length:=h
  obtain ⟨a,b,h1,h2,h3,_⟩:=(GJ w).1 (List.getElem_mem h')
  have key:mh w (fu w gen rs w)[i].1=true∧mh w (fu w gen rs w)[i].2=true:=by
   rw [h2]
   exact ⟨decide_eq_true ⟨by omega,by show (a:Int) < w;omega⟩,decide_eq_true ⟨by omega,by show (b:Int) < w;omega⟩⟩
  exact key
 have:=(List.pairwise_iff_getElem.1 (Iw w gen rs w)) i (i+1) (by have:(fu w gen rs w).length=(jc w gen rs).copies.length:=rfl;omega) h (by omega)
 exact zI this
end Go.Proofs.YtmddchceacmopaaGreatDoor
namespace Go.Proofs.YtmddchceacmopaaGreatDoor
open Go Go.RowKit
theorem JJ {P:(Nat→Prop)→World→Prop} (acP:∀M M' w w',P M w→Ext M' w w'→(∀i,i < w.heap.size→M' i→M i)→P M w') (hmono:∀M M' w,P M w→(∀i,i < w.heap.size→M' i→M i)→P M' w)
  {A:Nat→Prop} {v v':Value} {w w':World} {o:Obj} (hg:(w.alloc o).grownBy w' v.ownBlock) (hv:v'.ownBlock=v.ownBlock∨v'.ownBlock=some (w.alloc o).heap.size) (h:P (fun b=>A b∨v.ownBlock=some b) w):P (fun b=>A b∨v'.ownBlock=some b) w':=by
 have hE:Ext (fun k=>v.ownBlock=some k) w w':=((Ext.refl _ w).alloc o).grown hg (fun k hk _=>hk)
 have h2:P (fun b=>(A b∨v.ownBlock=some b)∨w.heap.size≤b) w:=hmono _ _ _ h (fun i hi e=>by
  rcases e with e|e
  ·exact e
  omega)
 refine hmono _ _ _ (acP _ _ _ _ h2 hE (fun i _ e=> .inl (.inr e))) (fun i _ e=>?_)
 exact F4
theorem RD {w w':World} {A:Nat→Prop} {v v' sl:Value} {n m:Nat} {o:Obj} (hg:(w.alloc o).grownBy w' v.ownBlock) (hv:v'.ownBlock=v.ownBlock∨v'.ownBlock=some (w.alloc o).heap.size) (h:aG (fun b=>A b∨v.ownBlock=some b) w sl n m):aG (fun b=>A b∨v'.ownBlock=some b) w' sl n m:=
 JJ (P:=fun M w=>aG M w sl n m) (fun _ _ _ _ h hx hm=>h.ext hx hm) (fun _ _ _ h hm=>h.mono hm) hg hv h
theorem RY {w w':World} {A:Nat→Prop} {v v' sl:Value} {s n:Nat} {vs:List Value} {o:Obj} (hg:(w.alloc o).grownBy w' v.ownBlock) (hv:v'.ownBlock=v.ownBlock∨v'.ownBlock=some (w.alloc o).heap.size) (h:Row (fun b=>A b∨v.ownBlock=some b) w s sl n vs):Row (fun b=>A b∨v'.ownBlock=some b) w' s sl n vs:=
 JJ (P:=fun M w=>Row M w s sl n vs) (fun _ _ _ _ h hx hm=>h.ext hx hm) (fun _ _ _ h hm=>h.mono hm) hg hv h
structure uk (M:Nat→Prop) (W wr:World) (w gen m T:Nat) (l:List (Int×Int)) (sg so sk sc:Value):Prop where
 ext:Ext No W wr
 bW:wr.heap[W.heap.size]? =some (.cells #[.int .i64 (w:Int),sg,so] 131 (0,0))
 lN:wr.heap[W.heap.size+1]? =some (.cells #[.int .i64 0,.slice none 0 0,.int .i64 0,.slice none 0 0,.slice none 0 0] 47 (0,0))
 jl:wr.heap[T]? =some (.cells #[.int .i64 (w:Int),sg,.int .i64 (w:Int),sk,sc] 47 (0,0))
 kill:aG (fun b=>(M b∨b=W.heap.size+1∨b=T)∨sc.ownBlock=some b) wr sk w m
 own:wr.ownsRow (T+1) 75 2 sc l.length (iZ l)
 big:W.heap.size+1 < T
section
variable {M M':Nat→Prop} {W wr w':World} {w gen m m' T:Nat} {l l':List (Int×Int)} {sg so sk VH sc Ob:Value}
theorem uk.aC (h:uk M W wr w gen m T l sg so sk sc) (hx:Ext No wr w'):uk M W w' w gen m T l sg so sk sc:=
 ⟨h.ext.af hx,hx.blk h.bW ax,hx.blk h.lN ax,hx.blk h.jl ax,h.kill.aj hx,dG h.own hx (fun _ _ x=>x),h.big⟩
theorem uk.mono (h:uk M W wr w gen m T l sg so sk sc) (hm:∀i,i < wr.heap.size→M' i→M i):uk M' W wr w gen m T l sg so sk sc:=
 ⟨h.ext,h.bW,h.lN,h.jl,h.kill.mono (fun i hi e=>by
  rcases e with (e|e)|e
  ·exact .inl (.inl (hm i hi e))
  ·exact .inl (.inr e)
  exact .inr e),h.own,h.big⟩
theorem uk.kv (h:uk M W wr w gen m T l sg so sk sc) (k:Nat) (hk:sc.ownBlock=some k):T+1≤k∧k < wr.heap.size:=World.ownsRow.lt h.own k hk
theorem uk.hM (hM:∀b,M b→b < wr.heap.size) (h:uk M W wr w gen m T l sg so sk sc):∀b,((M b∨b=W.heap.size+1∨b=T)∨sc.ownBlock=some b)→b < wr.heap.size:=fun b hb=>by
 have h1:=lt_of_block h.jl
 have h2:=h.big
 rcases hb with (hb|rfl|rfl)|hb
 ·exact hM b hb
 ·omega
 ·exact h1
 exact (h.kv b hb).2
theorem uk.box {S:Nat} {u0 u1:Value} (h:uk M W wr w gen m T l sg so sk sc) (hS:T < S) (hv:¬sc.ownBlock=some S) (ZH:M S):uk M W ((wr.setCell ⟨S,0,none⟩ u0).setCell ⟨S,1,none⟩ u1) w gen m T l sg so sk sc:=by
 exact FK
theorem uk.ND (h:uk M W wr w gen m T l sg so sk sc) (hs:aG (fun b=>(M b∨b=W.heap.size+1∨b=T)∨sc.ownBlock=some b) wr VH w m'):uk M W ((wr.setCell ⟨T,2,none⟩ (.int .i64 (w:Int))).setCell ⟨T,3,none⟩ VH) w gen m' T l sg so VH sc:=by
 exact FL
theorem uk.app {o:Obj} {a b:Int} (h:uk M W wr w gen m T l sg so sk sc) (hown:w'.ownsRow (T+1) 75 2 Ob (l.length+1) (iZ l++[.int .i64 a,.int .i64 b]))
  (hg:(wr.alloc o).grownBy w' sc.ownBlock) (hv:Ob.ownBlock=sc.ownBlock∨Ob.ownBlock=some (wr.alloc o).heap.size):
  uk M W (w'.setCell ⟨T,4,none⟩ Ob) w gen m T (l++[(a,b)]) sg so sk Ob∧w'.heap[T]? =some (.cells #[.int .i64 (w:Int),sg,.int .i64 (w:Int),sk,sc] 47 (0,0)):=by
 exact FM
theorem uk.slice (h:uk M W wr w gen m T l sg so sk sc):∃a c,sc= .slice a l.length c:=(Row.bG (M:=No) h.own (fun _ _ x=>x)).slice
end
def iF (M:Nat→Prop) (w gen:Nat) (rs:List Nat) (W:World) (e:Ending) (w':World):Prop:=((fu w gen rs w).length≤64→Vg M (jc w gen rs) W e w')∧(64 < (fu w gen rs w).length→acL 7 W e w')
theorem Pf (w m:Nat) (sl:Value) (W:World) (h:aG No W sl w m):
  Calls Tryz.prog 137 #[.agg #[.int .i64 (w:Int),sl]] W (jA (Lo W.heap.size) w m W):=Bz (Lo W.heap.size) w m sl W (fun _ x=>x) h
theorem aG.XW {L w m D:Nat} {w7:World} {sl u0 u1 u2 u3 u4:Value} (h:aG (Lo L) w7 sl w m) (hlt:D < L):aG (Lo L) (((((w7.setCell ⟨D,0,none⟩ u0).setCell ⟨D,1,none⟩ u1).setCell ⟨D,2,none⟩ u2).setCell ⟨D,3,none⟩ u3).setCell ⟨D,4,none⟩ u4) sl w m:=
 h.ext (pF w7 D u0 u1 u2 u3 u4) (fun i _ e=>by cases e;exact hlt)
theorem uk.late {M:Nat→Prop} {W w7:World} {w gen L:Nat} {sg so sk:Value} (hx:Ext No W w7) (hA:w7.heap[W.heap.size]? =some (.cells #[.int .i64 (w:Int),sg,so] 131 (0,0)))
  (hC:w7.heap[W.heap.size+1]? =some (.cells #[.int .i64 0,.slice none 0 0,.int .i64 0,.slice none 0 0,.slice none 0 0] 47 (0,0))) (hs:aG (Lo L) w7 sk w gen) (hL:W.heap.size+1 < L) (hM:∀b,M b→b < W.heap.size):
  uk M W (w7.alloc (.cells #[.int .i64 (w:Int),sg,.int .i64 (w:Int),sk,.slice none 0 0] 47)) w gen gen w7.heap.size [] sg so sk (.slice none 0 0):=
 ⟨hx.alloc _,ay hA,ay hC,ah rfl,(hs.mono (fun i hi e=>by
  unfold Lo
  rcases e with (e|e|e)|e
  ·have:=hM i e;omega
  ·omega
  ·omega
  cases e)).aj ((Ext.refl _ _).alloc _),World.ownsRow_nil _ _ _ _,lt_of_block hC⟩
theorem uk.early {M:Nat→Prop} {W w7:World} {w gen L D:Nat} {sg so sk:Value} (hx:Ext No W w7) (hA:w7.heap[W.heap.size]? =some (.cells #[.int .i64 (w:Int),sg,so] 131 (0,0)))
  (hC:w7.heap[W.heap.size+1]? =some (.cells #[.int .i64 0,.slice none 0 0,.int .i64 0,.slice none 0 0,.slice none 0 0] 47 (0,0))) (hs:aG (Lo L) w7 sk w gen) (hD:W.heap.size+1 < D) (hL:D < L) (hI:w7.heap[D]? =some (.cells #[.int .i64 0,.slice none 0 0,.int .i64 0,.slice none 0 0,.slice none 0 0] 47 (0,0))) (hM:∀b,M b→b < W.heap.size):
  uk M W (((((w7.setCell ⟨D,0,none⟩ (.int .i64 (w:Int))).setCell ⟨D,1,none⟩ sg).setCell ⟨D,2,none⟩ (.int .i64 (w:Int))).setCell ⟨D,3,none⟩ sk).setCell ⟨D,4,none⟩ (.slice none 0 0)) w gen gen D [] sg so sk (.slice none 0 0):=by
 exact FO


import Derived.Test.YtmddchceacmopaaGreatDoorE22
set_option linter.unusedVariables false
set_option linter.unusedSimpArgs false
namespace Go.Proofs.YtmddchceacmopaaGreatDoor
open Go Go.RowKit
theorem Dy {p:Prop} (h:p:=by intro w hSw;(have x0:=cellOf ((show Ext No wx _ from hSw).blk BI ax));go_simp;(try with_reducible rfl)):p:=h
theorem Dz {p:Prop} (h:p:=by intro w hSw;(have x0:=cellOf ((show Ext (fun k=>v.ownBlock=some k) wv _ from hSw).blk BI YR));go_simp;(try with_reducible rfl)):p:=h
theorem DC {p:Prop} (h:p:=by
 refine hHc 11 fun K hK=>?_
 ((have cS:=cellOf hE.out);(have fS:=aH hE.out);go_simp;(clear cS fS))
 refine uK hK (gG (show Ext No U2 _ from hHeld) wE) ?_
 clear hK K hHeld
 intro hHeld
 refine uA 12 ?_
 refine uD ?_
 have eX:Ext No U2 _:=hHeld
 go_wp2_with fail
 go_meet
 exact ⟨gV,a6,c6,rfl,rfl,eX,(az (j:=1) (az (j:=0) hE)).trans rfl,(hS.ext (((Ext.refl (At gV) v2).setAt 0 _).setAt 1 _) (fun i _ e=> .inr e)).mono (fun i _ e=>e.elim),wE⟩):p:=h
theorem cZ.aaV {A:Nat→Prop} {W:World} {base g c N w k m:Nat} {L:LA} {l:bP} {f:cK} (hr:∀p∈l,eO p.2∧p.2.w=w) (h:cZ kA A W base (.slice (some ⟨g,0,none⟩) N c) L) (h2:L.map fJ=aT l) (hk:k < l.length) (hm:(m,f)=l[k]):∃ag cg ak ck ac n cc,
  (W.cell? ⟨g,k*6,none⟩=some (.int .i64 (m:Int))∧W.cell? ⟨g,k*6+1,none⟩=some (.int .i64 (w:Int))∧W.cell? ⟨g,k*6+2,none⟩=some (.slice ag (nw w) cg)∧W.cell? ⟨g,k*6+3,none⟩=some (.int .i64 (w:Int))∧W.cell? ⟨g,k*6+4,none⟩=some (.slice ak (nw w) ck)∧W.cell? ⟨g,k*6+5,none⟩=some (.slice ac n cc))∧
  Hid (dF (fun b=>A b∨b=g) W (.slice ag (nw w) cg) (.slice ak (nw w) ck) (.slice ac n cc) f)∧Hid (f.w=w):=by
 have e2:=congrArg List.length h2
 simp only [List.length_map,dK] at e2
 have hk2:k < L.length:=by omega
 have hNL:N=L.length:=by
  have h9:=h.own.2
  rcases h9 with ⟨h3,_⟩|⟨_,_,_,h3,_⟩
  ·simp at h3
  simp only [Value.slice.injEq] at h3;exact h3.2.1
 subst hNL
 have g5:bN (fun b=>A b∨Value.ownBlock (.slice (some ⟨g,0,none⟩) L.length c)=some b) W L[k].2.2.1 L[k].2.2.2.1 L[k].2.2.2.2 L[k].2.1:=h.ok _ (List.getElem_mem hk2)
 have g6:fJ L[k]=((m:Int),bM f):=by rw [mJ h2 hk2 hk,←hm]
 have g6a:L[k].1=(m:Int):=congrArg Prod.fst g6
 have Wy:L[k].2.1=bM f:=congrArg Prod.snd g6
 obtain ⟨g7,g8⟩:=hr _ (List.getElem_mem hk)
 rw [←hm] at g7 g8
 simp only at g7 g8
 rw [Wy] at g5
 have g9:=(g5.tr g7).mono (M':=fun b=>A b∨b=g) (fun i _ e=>e.imp id (fun e=>by rw [e];rfl))
 obtain ⟨ag,cg,k1⟩:=g9.gen.slice
 obtain ⟨ak,ck,k2⟩:=g9.kill.slice
 obtain ⟨ac,cc,k3⟩:=Row.slice g9.copies
 rw [k1,k2,k3] at g9
 rw [g8] at g9 k1 k2
 refine ⟨ag,cg,ak,ck,ac,_,cc,⟨?_,?_,?_,?_,?_,?_⟩,g9,g8⟩
 ·refine (show W.cell? ⟨g,k*6,none⟩=some (.int .i64 L[k].1) from h.cellAt (j:=0) hk2 (by decide) rfl).trans ?_
  rw [g6a]
 ·refine (show W.cell? ⟨g,k*6+1,none⟩=some (.int .i64 L[k].2.1.gen.width) from h.cellAt (j:=1) hk2 (by decide) rfl).trans ?_
  rw [Wy];show some (Value.int .i64 ((f.w:Nat):Int))=_;rw [g8]
 ·refine (show W.cell? ⟨g,k*6+2,none⟩=some (L[k].2.2.1) from h.cellAt (j:=2) hk2 (by decide) rfl).trans ?_
  rw [k1]
 ·refine (show W.cell? ⟨g,k*6+3,none⟩=some (.int .i64 L[k].2.1.kill.width) from h.cellAt (j:=3) hk2 (by decide) rfl).trans ?_
  rw [Wy];show some (Value.int .i64 ((f.w:Nat):Int))=_;rw [g8]
 ·refine (show W.cell? ⟨g,k*6+4,none⟩=some (L[k].2.2.2.1) from h.cellAt (j:=4) hk2 (by decide) rfl).trans ?_
  rw [k2]
 refine (show W.cell? ⟨g,k*6+5,none⟩=some (L[k].2.2.2.2) from h.cellAt (j:=5) hk2 (by decide) rfl).trans ?_
 rw [k3]
theorem wW {rn l:bP} {h:cK} {k:Nat} (hk:k < rn.length):jg (rn.take (k+1)) h l=vL (jg (rn.take k) h l) (rn[k].1,gJ rn[k].2 h):=by
 unfold jg
 rw [List.take_succ_eq_append_getElem hk,List.foldl_append]
 rfl
theorem dP.taken {w n:Nat} {l:bP} (h:dP w n l) (k:Nat):dP w n (l.take k):=
 ⟨h.uq.sublist ((List.take_sublist k l).map _),fun p hp=>h.lt p (List.mem_of_mem_take hp),fun p hp=>h.jX p (List.mem_of_mem_take hp)⟩
theorem adJ {α:Type} {l:List α} {t:Nat} {q:α} (ht:t < l.length):q∈l.set t q:=by
 have h:=List.getElem_mem (l:=l.set t q) (n:=t) (by simpa using ht)
 rw [List.getElem_set_self] at h
 exact h
theorem MZ {R:bD} {n t j:Nat} (h:j≠t):rJ R n (t+1) j=rJ R n t j:=by
 unfold rJ
 exact rY
theorem M3 {R:bD} {n t j:Nat} (h:j≠t):rH R n (t+1) j=rH R n t j:=by
 unfold rH
 exact rY
theorem wG {R:bD} {n t i mm:Nat} {f:cK} (h:t≠n) (hi:i=oh (aR R t) n) (hi2:i < (aR R t).length) (hf:(mm,f)=(aR R t)[i]):rJ R n (t+1) t=gP (dA R.bnd t) (bL f (dA R.bnd n))∧rH R n (t+1) t=jg (aR R n) f ((aR R t).eraseIdx i):=by
 subst hi
 have hf2:f=((aR R t)[oh (aR R t) n]).2:=congrArg Prod.snd hf
 unfold rJ rH
 rw [if_pos (by omega),if_pos (by omega)]
 unfold pV pU
 rw [dif_pos ⟨h,hi2⟩,dif_pos ⟨h,hi2⟩,←hf2]
 exact ⟨rfl,rfl⟩
set_option maxRecDepth 100000 in
set_option maxHeartbeats 16000000 in
theorem uI (S:bD) (n base zb gB cB gI cI N:Nat) (LB:LS) (RL:fe) (W:World) (hN:N=S.ins.length) (h:MW W base zb (.slice (some ⟨gB,0,none⟩) N cB) (.slice (some ⟨gI,0,none⟩) N cI) LB RL S) (hT:iQ W) (hlow: 0 < base) (hn:n < N):
  Calls Tryz.prog 49 #[.agg #[.int .i64 (S.w:Int),.slice (some ⟨gB,0,none⟩) N cB,.slice (some ⟨gI,0,none⟩) N cI],.int .i64 (n:Int)] W (AJ (jK S n) base (.slice (some ⟨gB,0,none⟩) N cB) (.slice (some ⟨gI,0,none⟩) N cI) RL W):=by
 have HS:=aa h
 have HN:=aa hN
 have HT:=aa hT
 have hw8:=h.ok.w8
 have hn32:N≤32:=by rw [hN];exact h.ok.n8
 have hlh:=h.x.lh
 have Xd:=aa hlow
 have hnz:(n:Int) < (N:Int):=by omega
 clear h hT hlow hN
 go_enter Tryz.func49,Tryz.ntmps49
 go_upto_region 1 with (fail)
 have Yh:Ext No W (W.alloc (.cells #[.int .i64 (S.w:Int),.slice (some ⟨gB,0,none⟩) N cB,.slice (some ⟨gI,0,none⟩) N cI] 26)):=(Ext.refl _ _).alloc _
 have PN:=aa (ah (w:=W) (o:= .cells #[.int .i64 (S.w:Int),.slice (some ⟨gB,0,none⟩) N cB,.slice (some ⟨gI,0,none⟩) N cI] 26) rfl)
 have Kl:=aa Yh
 clear Yh
 generalize World.alloc W _=V at*
 obtain ⟨bA,Wu⟩:∃bA,bA=W.heap.size:=⟨_,rfl⟩
 rw [←Wu] at PN ⊢
 have HbA:=aa Wu
 clear Wu
 have qA:=cellOf PN.out
 go_wp2_with fail
 clear qA
 refine (zi S n base zb gB cB gI cI N LB RL V HN (HS.aC Kl) (HT.ext Kl) Xd hn).mono ?_
 rintro e1 w1 ⟨rfl,Nu,KS,NM,uu,hx1,hown1⟩
 have hbV:=lt_of_block PN.out
 have Xe:¬aQ (.slice (some ⟨gB,0,none⟩) N cB) (.slice (some ⟨gI,0,none⟩) N cI) RL bA:=fun e=>by have:=(HS.x.own e).2;have:=HbA.out;omega
 have hR0:nV W w1 [(bA,#[.int .i64 (S.w:Int),.slice (some ⟨gB,0,none⟩) N cB,.slice (some ⟨gI,0,none⟩) N cI],26)] base Nu (.slice (some ⟨gB,0,none⟩) N cB) (.slice (some ⟨gI,0,none⟩) N cI) RL KS NM:=by
  refine ⟨Kl.lM.trans hx1,uu.x,fun b hb=>?_,fun k hk=>(hown1 k hk).imp id (fun e=>Nat.le_trans Kl.size e),(HT.ext Kl).xz hx1 (fun e=>by have:=(HS.x.own e).1;have:=Xd.out;omega),Xd⟩
  rcases List.mem_cons.1 hb with rfl|hb
  ·exact ⟨hx1.blk PN Xe,fun e=>by
    rcases hown1.out _ e with e|e
    ·exact Xe e
    simp only at e;omega⟩
  cases hb
 have PL:=aa hR0
 obtain ⟨R,vQ⟩:∃R,R=dN S n:=⟨_,rfl⟩
 rw [←vQ] at uu
 have HRD:=aa vQ
 have hres:=adH HS.ok (n:=n) (by rw [←HN];exact hn)
 rw [←vQ] at hres
 have HRW:=aa hres.2.1
 have IC:=aa (show N=R.ins.length from by rw [hres.2.2];exact HN)
 have uw:=aa hres.1
 have Qf:=aa (uG.start (n:=n) uu IC)
 clear hR0 vQ hres uu hx1 hown1 Xe hbV Kl PN
 have qA:=cellOf (show w1.heap[bA]? =some (.cells #[.int .i64 (S.w:Int),.slice (some ⟨gB,0,none⟩) N cB,.slice (some ⟨gI,0,none⟩) N cI] 26 (0,0)) from (PL.bx (bA,#[.int .i64 (S.w:Int),.slice (some ⟨gB,0,none⟩) N cB,.slice (some ⟨gI,0,none⟩) N cI],26) (by simp)).1)
 go_wp2_with fail
 clear qA
 go_loopw [6,7,8,9,10,12,13,14,24] (fun _ _ _ _ _ _ _ _ s24 wr=>∃(t lim:Nat) (LBt:LS) (ic:fe),s24= .int .i64 t∧t≤N∧Hid (nV W wr [(bA,#[.int .i64 (S.w:Int),.slice (some ⟨gB,0,none⟩) N cB,.slice (some ⟨gI,0,none⟩) N cI],26)] base lim (.slice (some ⟨gB,0,none⟩) N cB) (.slice (some ⟨gI,0,none⟩) N cI) RL LBt ic)∧Hid (uG R n t N LBt ic)) (fun _ _ _ _ _ _ _ _ s24 _=>N - (intOf s24).toNat)
 case atStart=>exact ⟨0,_,_,_,rfl,Nat.zero_le _,PL,Qf⟩
 clear PL Qf
 obtain ⟨t,lim,LBt,ic,rfl,ht,hR,iR⟩:=hrel
 rename World=>wr
 by_cases hlt:t < N
 ·have hlz:(t:Int) < (N:Int):=by omega
  have HKK:Hid (Value.int .i64 ((t:Int)+1)= .int .i64 ((t+1:Nat):Int)):=aa (by rw [show ((t+1:Nat):Int)=(t:Int)+1 from by omega])
  obtain ⟨L0,v0,⟨xQ,hq⟩,hL0⟩:=iR.row hlt
  have HQ:=aa (show ∃xQ:t < ic.length,ic[t]=(L0,v0) from ⟨xQ,hq⟩)
  rw [MV] at hL0
  have G5:=aa hL0
  have har:fq No wr v0 (aR R t):=by have h9:=hR.x.row xQ;rw [hq] at h9;exact ⟨L0,h9,hL0⟩
  have HRO:=aa (uw.ok.row t)
  have hmz:(aR R t).length≤32:=by have:=HRO.len;have:=IC.out;omega
  obtain ⟨a0,cap,hv0⟩:=har.slice
  obtain ⟨m,hm⟩:∃m,m=(aR R t).length:=⟨_,rfl⟩
  rw [←hm] at hv0 hmz
  have HM:=aa hm
  subst hv0
  have NJ:=aa har
  have qI:wr.cell? ⟨gI,t,none⟩=some (.slice a0 m cap):=by have h9:=hR.x.kV iR.lr xQ;rw [hq] at h9;exact h9
  have Cb:=aa qI
  have qA:=cellOf (show wr.heap[bA]? =some (.cells #[.int .i64 (S.w:Int),.slice (some ⟨gB,0,none⟩) N cB,.slice (some ⟨gI,0,none⟩) N cI] 26 (0,0)) from (hR.bx (bA,#[.int .i64 (S.w:Int),.slice (some ⟨gB,0,none⟩) N cB,.slice (some ⟨gI,0,none⟩) N cI],26) (by simp)).1)
  clear hL0 har hm hq xQ
  go_wp2_with fail
  clear qA qI
  refine (Ho n R.w _ (aR R t) _ HRO.jX NJ (by rw [←HM];omega)).mono ?_
  rintro e1 w2 ⟨hh,hx2⟩
  have hR2:=aa (hR.aC hx2)
  have ji:=aa hx2
  clear hR hx2
  by_cases htn:t=n
  ·have HSK:=aa (iR.skip (fun e=>e.1 htn))
   subst htn
   exact DD
  have abp:¬(t:Int)=(n:Int):=by omega
  have ZY:((t:Int)==(n:Int))=false:=by rw [beq_eq_false_iff_ne];exact abp
  rcases hh with ⟨h1,rfl⟩|⟨h1,rfl⟩
  ·obtain ⟨i,hi⟩:∃i,i=oh (aR R t) n:=⟨_,rfl⟩
   have HI:=aa hi
   rw [←hi] at h1 ⊢
   clear hi
   have HI1:=aa h1
   have him:i < m:=by rw [HM];exact h1
   have hiz:(i:Int) < (m:Int):=by omega
   have hi0:¬(i:Int) < 0:=by omega
   have hwi:IntKind.i64.wrap ((i:Int)+1)=(i:Int)+1:=by rw [IntKind.wrap_i64];omega
   have CB:L0.length=m:=by have h9:=congrArg List.length G5.out;rw [List.length_map,dK,←HM] at h9;exact h9
   have xP:=aa CB
   have HOW:=aa (show cZ kA (dW (.slice (some ⟨gB,0,none⟩) N cB) (.slice (some ⟨gI,0,none⟩) N cI) ic lim base) w2 base (.slice a0 m cap) L0 from by obtain ⟨xQ,hq⟩:=HQ.out;have h9:=hR2.x.r _ (List.getElem_mem xQ);rw [hq] at h9;exact h9)
   obtain ⟨g,cap',hsh⟩:=adI HOW.own (by omega)
   simp only [Value.slice.injEq] at hsh
   obtain ⟨rfl,-,rfl⟩:=hsh
   clear CB
   obtain ⟨⟨mm,f⟩,jq⟩:∃q:Nat×cK,q=(aR R t)[i]:=⟨_,rfl⟩
   obtain ⟨ag,cg,ak,ck,ac,nc,cc,gt,HT1,pI⟩:=HOW.aaV HRO.jX G5.out HI1.out jq
   obtain ⟨q0,q1,q2,q3,q4,q5⟩:=gt
   have oP:=aa (show (mm,f)=(aR R t)[i]'HI1.out from jq)
   clear jq h1
   have qA:=cellOf (show w2.heap[bA]? =some (.cells #[.int .i64 (S.w:Int),.slice (some ⟨gB,0,none⟩) N cB,.slice (some ⟨gI,0,none⟩) N cI] 26 (0,0)) from (hR2.bx (bA,#[.int .i64 (S.w:Int),.slice (some ⟨gB,0,none⟩) N cB,.slice (some ⟨gI,0,none⟩) N cI],26) (by simp)).1)
   have qI:=ji.keep Cb
   go_upto_region 10 with (fail)
   have hx3:Ext No w2 (w2.alloc (.cells #[.int .i64 (R.w:Int),.slice ag (nw R.w) cg,.int .i64 (R.w:Int),.slice ak (nw R.w) ck,.slice ac nc cc] 47)):=(Ext.refl _ _).alloc _
   have vS:=aa ((hR2.aC hx3).nM (ah (w:=w2) (o:=(.cells #[.int .i64 (R.w:Int),.slice ag (nw R.w) cg,.int .i64 (R.w:Int),.slice ak (nw R.w) ck,.slice ac nc cc] 47)) rfl) hR2.x.lh)
   have GZ:=aa (ji.af hx3)
   replace HT1:=aa (HT1.aj hx3)
   replace HOW:=aa (HOW.aj hx3)
   have Tk:=aa (show ((dW (.slice (some ⟨gB,0,none⟩) N cB) (.slice (some ⟨gI,0,none⟩) N cI) ic lim base) g∨g=g)∧((dW (.slice (some ⟨gB,0,none⟩) N cB) (.slice (some ⟨gI,0,none⟩) N cI) ic lim base) gI∨gI=g)∧((dW (.slice (some ⟨gB,0,none⟩) N cB) (.slice (some ⟨gI,0,none⟩) N cI) ic lim base) gB∨gB=g) from ⟨.inr rfl,.inl (.inr (.inr (.inl rfl))),.inl (.inr (.inl rfl))⟩)
   clear hR2 ji hx3 q0 q1 q2 q3 q4 q5 qA qI
   generalize World.alloc w2 _=U at*
   generalize w2.heap.size=bH at*
   have BI:=aa (show U.heap[bA]? =some (.cells #[.int .i64 (S.w:Int),.slice (some ⟨gB,0,none⟩) N cB,.slice (some ⟨gI,0,none⟩) N cI] 26 (0,0)) from (vS.bx (bA,#[.int .i64 (S.w:Int),.slice (some ⟨gB,0,none⟩) N cB,.slice (some ⟨gI,0,none⟩) N cI],26) (by simp)).1)
   have GM:=HOW
   have TT:=aa (GZ.keep Cb)
   have W9:=aa (show gI≠g from fun e=>by
    obtain ⟨xQ,hq⟩:=HQ.out
    exact (vS.x.br _ (List.getElem_mem xQ) gI (by rw [hq,e];rfl)).2 rfl)
   have HgI:=aa (show ¬At g gI from fun e=>W9 e)
   have HgA:=aa (show ¬At g bA from fun e=>(vS.bx (bA,#[.int .i64 (S.w:Int),.slice (some ⟨gB,0,none⟩) N cB,.slice (some ⟨gI,0,none⟩) N cI],26) (by simp)).2 (by obtain ⟨xQ,hq⟩:=HQ.out;exact .inr (.inr ⟨_,List.getElem_mem xQ,by rw [hq,show bA=g from e];rfl⟩)))
   obtain ⟨m1,hm1⟩:∃m1,m1=m - 1:=⟨_,rfl⟩
   have Cf:=aa hm1
   clear hm1 HOW
   refine aL [13] (fun w'=>Ext (At g) U w') (by kernel_rfl) ?_ (fun hHeld=>?_)
   ·exact bX
   have HE:=aa (show Ext No U U.drew from (Ext.refl _ _).drew)
   generalize U.drew=v0 at*
   refine uJ [0,1,2,3,4,5,6,7,8,9,10] hHeld ?_
   clear hHeld
   refine uF ?_
   refine uL ?_ (hy:=rX)
   iterate 2 refine uF ?_
   refine uL ?_ (hy:=rX)
   iterate 2 refine uF ?_
   refine uL ?_ (hy:=Dr)
   iterate 3 refine uF ?_
   refine uZ fun hHeld=>?_
   refine uN 11 fun K hK=>?_
   go_simp
   go_at_call 84
   refine (A8 base g m cap i L0 _ (ni GM.ok) (by have h9:=(GM.aj HE).own;rw [xP] at h9;exact h9) xP.symm him (by omega)).mono ?_
   rintro e1 vd ⟨rfl,hown,nJ⟩
   rw [←Cf] at hown ⊢
   go_simp
   refine uK hK (by intro _;exact (HE.lM (M:=At g)).trans nJ) ?_
   clear hK K hHeld
   intro hHeld
   have hI1:vd.ownsRow base 40 1 (.slice (some ⟨gI,0,none⟩) ic.length cI) ic.length (ic.map Prod.snd):=aZ (by have h9:=(vS.aC HE).x.i;rw [iR.lr] at h9;exact h9) nJ (fun k hk e=>by rw [show k=g from e] at hk;exact HgI (Option.some.inj hk))
   have Ae:=aa hI1
   clear hI1
   refine uJ [12] hHeld ?_
   clear hHeld
   refine uF ?_
   refine uZ fun hHeld=>?_
   refine uN 13 fun K hK=>?_
   ((have q0:=World.ownsRow.cellAt Ae.out t (by have:=iR.lr;omega));(have f0:=World.ownsRow.frozenAt Ae t);(rw [List.getElem?_eq_getElem (by rw [List.length_map];have:=iR.lr;omega)] at q0);go_simp;(clear q0 f0))
   refine uK hK bz ?_
   clear hK K hHeld
   intro hHeld
   have qD:=aa (show nV W (vd.setCell ⟨gI,t,none⟩ (.slice (some ⟨g,0,none⟩) m1 cap)) [(bH,#[.int .i64 (R.w:Int),.slice ag (nw R.w) cg,.int .i64 (R.w:Int),.slice ak (nw R.w) ck,.slice ac nc cc],47),(bA,#[.int .i64 (S.w:Int),.slice (some ⟨gB,0,none⟩) N cB,.slice (some ⟨gI,0,none⟩) N cI],26)] base vd.heap.size (.slice (some ⟨gB,0,none⟩) N cB) (.slice (some ⟨gI,0,none⟩) N cI) RL LBt (ic.set t ((L0.eraseIdx i),(.slice (some ⟨g,0,none⟩) m1 cap))) from by
    obtain ⟨xQ,hq⟩:=HQ.out
    exact (vS.aC HE).putRow iR.lr xQ hq (nJ.mono (fun k _ e=>by rw [show k=g from e];rfl)) (by
     have h9:=hown.out
     rw [show m1=(L0.eraseIdx i).length from by rw [List.length_eraseIdx];have:=xP.out;have:=Cf.out;split<;>omega] at h9
     rw [show m1=(L0.eraseIdx i).length from by rw [List.length_eraseIdx];have:=xP.out;have:=Cf.out;split<;>omega]
     exact h9) (fun p hp=>kA.mono (kA.ext ((GM.aj HE).ok p (List.mem_of_mem_eraseIdx hp)) nJ (fun k _ e=> .inr (by rw [show k=g from e];rfl))) (fun k hk e=> .inl (MU (v':=(.slice (some ⟨g,0,none⟩) m1 cap)) xQ hq rfl hk e))) (.inl rfl))
   have Yi:=aa (show Ext (fun k=>k=g∨k=gI) U (vd.setCell ⟨gI,t,none⟩ (.slice (some ⟨g,0,none⟩) m1 cap)) from (HE.lM.trans (nJ.mono (fun k _ e=> .inl e))).trans (((Ext.refl (At gI) vd).setAt t (.slice (some ⟨g,0,none⟩) m1 cap)).mono (fun k _ e=> .inr e)))
   have Cg:=aa (HT1.ext Yi (fun k _ e=>by rcases e with rfl|rfl;exact Tk.1;exact Tk.2.1))
   have vM:=aa (show lim≤((vd.setCell ⟨gI,t,none⟩ (.slice (some ⟨g,0,none⟩) m1 cap))).heap.size from Nat.le_trans vS.x.lh Yi.size)
   clear vS GM TT BI HE nJ hown Ae Yi HT1
   generalize World.setCell vd _ _=U2 at*
   generalize vd.heap.size=Xb at*
   refine uE ?_
   skip
   go_upto_region 11 with (fail)
   have BI:=aa (show U2.heap[bA]? =some (.cells #[.int .i64 (S.w:Int),.slice (some ⟨gB,0,none⟩) N cB,.slice (some ⟨gI,0,none⟩) N cI] 26 (0,0)) from (qD.bx (bA,#[.int .i64 (S.w:Int),.slice (some ⟨gB,0,none⟩) N cB,.slice (some ⟨gI,0,none⟩) N cI],26) (by simp)).1)
   have Vo:=aa (show U2.heap[bH]? =some (.cells #[.int .i64 (R.w:Int),.slice ag (nw R.w) cg,.int .i64 (R.w:Int),.slice ak (nw R.w) ck,.slice ac nc cc] 47 (0,0)) from (qD.bx (bH,#[.int .i64 (R.w:Int),.slice ag (nw R.w) cg,.int .i64 (R.w:Int),.slice ak (nw R.w) ck,.slice ac nc cc],47) (by simp)).1)
   obtain ⟨vn,KR,Tn⟩:=iR.set hn
   rw [Dx] at Tn
   have hsn:aG No U2 vn R.w (dA R.bnd n):=qD.x.rO KR Tn uw.ok.w (uw.ok.bn n)
   obtain ⟨an,cn,rfl⟩:=hsn.slice
   have Tp:=aa hsn
   have HQN:=aa (show U2.cell? ⟨gB,n*2,none⟩=some (.int .i64 (R.w:Int))∧U2.cell? ⟨gB,n*2+1,none⟩=some (.slice an (nw R.w) cn) from by
    have h9:=qD.x.qP iR.lb KR
    rw [Tn] at h9
    exact h9)
   clear hsn Tn KR
   go_cut [9,10] (fun s9 s10 wx=>∃(gV:Nat) (a6:Option Addr) (c6:Nat),s9= .pointer (some ⟨gV,0,none⟩)∧s10= .int .i64 0∧Hid (Ext No U2 wx)∧Hid (wx.heap[gV]? =some (.cells #[.int .i64 (R.w:Int),.slice a6 (nw R.w) c6] 44 (0,0)))∧Hid (aG No wx (.slice a6 (nw R.w) c6) R.w (bL f (dA R.bnd n)))∧U2.heap.size≤gV)
   case first=>
    refine uW (fun w'=>Ext No U2 w') aS fun hHeld=>?_
    generalize U2.drew=v0 at*
    refine uO [0,1,2,3,4,5] ?_
    iterate 2 refine uT ?_ (hy:=(by intro w hSw;(have q0:=cellOf ((show Ext No U2 _ from hSw).blk Vo ax));go_simp;(try with_reducible rfl)))
    iterate 3 refine uT ?_ (hy:=(by intro w hSw;(have q0:=cellOf ((show Ext No U2 _ from hSw).blk BI ax));go_simp;(try with_reducible rfl)))
    refine uT ?_ (hy:=(by intro w hSw;(obtain ⟨p0,p1⟩:=HQN.out);(have x0:=(show Ext No U2 _ from hSw).keep p0);(have x1:=(show Ext No U2 _ from hSw).keep p1);go_simp;(try with_reducible rfl)))
    refine uZ ?_
    refine aN (i:=6) (j:=10) (by kernel_rfl) (aD.mk rfl rfl (fun K hK=>?_)) (aD.mk rfl rfl (fun K hK=>?_))
    ·(go_simp;(go_at_call 53);(have hSz:=aa (show Ext No U2 _ from hHeld));(refine (Ht (Lo v0.heap.size) f R.w (dA R.bnd n) _ _ _ _ _ pI (fun b e=>e) (Cg.no.aj (show Ext No U2 _ from hHeld)) (Tp.aj (show Ext No U2 _ from hHeld))).mono ?_);(rintro e0 v1 ⟨a6,c6,rfl,hS,aF⟩);go_simp)
     refine uK hK (Ext.af (show Ext No U2 _ from hHeld) aF) ?_
     clear hK K hHeld
     intro hHeld
     have PK:=hSz.size
     replace hS:=aa (hS.mono (M':=Lo U2.heap.size) (fun i _ e=>Nat.lt_of_lt_of_le e PK))
     clear aF hSz PK
     refine uO [7,8,9] ?_
     iterate 3 refine uT ?_
     refine uZ ?_
     refine hHc 10 fun K hK=>?_
     ((have wE:=aa (show Ext No U2 _ from hHeld).size);go_simp)
     refine uK hK (Ext.alloc (show Ext No U2 _ from hHeld) _) ?_
     clear hK K hHeld
     intro hHeld
     have hE:=aa (ah (w:=v1) (o:=(.cells #[.int .i64 0,.slice none 0 0] 44)) rfl)
     replace hS:=aa ((hS.mono (M':=fun b=>Lo U2.heap.size b∨b=v1.heap.size) (fun i hi e=>e.elim id (fun e=>absurd hi (by rw [e];exact Nat.lt_irrefl _)))).aj ((Ext.refl No v1).alloc (.cells #[.int .i64 0,.slice none 0 0] 44)))
     generalize World.alloc v1 _=v2 at*
     generalize v1.heap.size=gV at*
     exact DC
    ((have wE:=aa (show Ext No U2 _ from hHeld).size);go_simp)
    refine uK hK (Ext.alloc (show Ext No U2 _ from hHeld) _) ?_
    clear hK K hHeld
    intro hHeld
    have hE:=aa (ah (w:=v0) (o:=(.cells #[.int .i64 0,.slice none 0 0] 44)) rfl)
    generalize World.alloc v0 _=v1 at*
    generalize v0.heap.size=gV at*
    refine hHc 6 fun K hK=>?_
    (go_simp;(go_at_call 53);(have hSz:=aa (show Ext No U2 _ from hHeld));(refine (Ht (Lo v1.heap.size) f R.w (dA R.bnd n) _ _ _ _ _ pI (fun b e=>e) (Cg.no.aj (show Ext No U2 _ from hHeld)) (Tp.aj (show Ext No U2 _ from hHeld))).mono ?_);(rintro e0 v2 ⟨a6,c6,rfl,hS,aF⟩);go_simp)
    refine uK hK (Ext.af (show Ext No U2 _ from hHeld) aF) ?_
    clear hK K hHeld
    intro hHeld
    have PK:=hSz.size
    replace hS:=aa (hS.mono (M':=fun b=>Lo U2.heap.size b∨b=gV) (fun i _ e=>e.elim (fun e=>Nat.lt_of_lt_of_le e PK) (fun e=>(by rw [e];exact lt_of_block hE.out))))
    replace hE:=aa (aF.blk hE ax)
    clear aF hSz PK
    refine uO [7,8,9] ?_
    iterate 3 refine uT ?_
    refine uZ ?_
    exact DC
   case rest=>
   obtain ⟨gV,a6,c6,rfl,rfl,hx6,BH,hS6,wE6⟩:=hcut
   rename World=>wx
   have rE:=aa ((qD.aC hx6).nM (T:= 44) (cs:=#[.int .i64 (R.w:Int),.slice a6 (nw R.w) c6]) BH (Nat.le_trans qD.x.lh wE6))
   replace Cg:=aa (Cg.aj hx6)
   replace vM:=aa (Nat.le_trans vM hx6.size)
   clear qD hx6 BH wE6 BI Vo Tp HQN
   have BI:=aa (show wx.heap[bA]? =some (.cells #[.int .i64 (S.w:Int),.slice (some ⟨gB,0,none⟩) N cB,.slice (some ⟨gI,0,none⟩) N cI] 26 (0,0)) from (rE.bx (bA,#[.int .i64 (S.w:Int),.slice (some ⟨gB,0,none⟩) N cB,.slice (some ⟨gI,0,none⟩) N cI],26) (by simp)).1)
   have ZZ:=aa (show wx.heap[gV]? =some (.cells #[.int .i64 (R.w:Int),.slice a6 (nw R.w) c6] 44 (0,0)) from (rE.bx (gV,#[.int .i64 (R.w:Int),.slice a6 (nw R.w) c6],44) (by simp)).1)
   obtain ⟨vt,htB,Tn⟩:=iR.set hlt
   rw [MX] at Tn
   have hst:aG No wx vt R.w (dA R.bnd t):=rE.x.rO htB Tn uw.ok.w (uw.ok.bn t)
   obtain ⟨an,cn,rfl⟩:=hst.slice
   have HST:=aa hst
   have YS:=aa (show wx.cell? ⟨gB,t*2,none⟩=some (.int .i64 (R.w:Int))∧wx.cell? ⟨gB,t*2+1,none⟩=some (.slice an (nw R.w) cn) from by
    have h9:=rE.x.qP iR.lb htB
    rw [Tn] at h9
    exact h9)
   clear hst Tn htB
   go_upto_region 12 with (fail)
   refine aL [14] (fun w'=>Ext No wx w') (by kernel_rfl) ?_ (fun hHeld=>?_)
   ·exact bX
   have HE:=aa (show Ext No wx wx.drew from (Ext.refl _ _).drew)
   generalize wx.drew=v0 at*
   refine uJ [0,1,2,3,4,5,6,7,8] hHeld ?_
   clear hHeld
   refine uF ?_
   refine uL ?_ (hy:=Dy)
   iterate 2 refine uF ?_
   refine uL ?_ (hy:=Dy)
   iterate 2 refine uF ?_
   refine uL ?_ (hy:=(by intro w hSw;(obtain ⟨p0,p1⟩:=YS.out);(have x0:=(show Ext No wx _ from hSw).keep p0);(have x1:=(show Ext No wx _ from hSw).keep p1);go_simp;(try with_reducible rfl)))
   refine uL ?_ (hy:=(by intro w hSw;(have x0:=cellOf ((show Ext No wx _ from hSw).blk ZZ ax));go_simp;(try with_reducible rfl)))
   refine uZ fun hHeld=>?_
   refine uN 9 fun K hK=>?_
   go_simp
   go_at_call 52
   refine (nu (Lo v0.heap.size) R.w (dA R.bnd t) (bL f (dA R.bnd n)) _ _ _ (fun b e=>e) (HST.aj HE) (hS6.aj HE)).mono ?_
   rintro e0 va ⟨a7,c7,rfl,hs7,aF⟩
   go_simp
   refine uK hK eu ?_
   clear hK K hHeld
   intro hHeld
   have BJ:=aa ((rE.aC (HE.af aF)).top)
   have hw7:=aa (hs7.words.mono (M':=dW (.slice (some ⟨gB,0,none⟩) N cB) (.slice (some ⟨gI,0,none⟩) N cI) (ic.set t ((L0.eraseIdx i),(.slice (some ⟨g,0,none⟩) m1 cap))) va.heap.size base) (fun k hk e=>(rE.aC HE).x.clear hk e))
   replace HE:=aa (HE.af aF)
   clear aF
   refine uJ [10,11,12,13] hHeld ?_
   clear hHeld
   iterate 4 refine uF ?_
   refine uZ fun hHeld=>?_
   refine uN 14 fun K hK=>?_
   ((obtain ⟨q0,q1⟩:=BJ.x.qP iR.lb (t:=t) (by have:=iR.lb;omega));(have f0:=BJ.x.Cn iR.lb (t*2));(have f1:=BJ.x.Cn iR.lb (t*2+1));go_simp;(clear q0 q1 f0 f1))
   refine uK hK bz ?_
   clear hK K hHeld
   intro hHeld
   have Km:=aa (show nV W ((va.setCell ⟨gB,t*2,none⟩ (.int .i64 (R.w:Int))).setCell ⟨gB,t*2+1,none⟩ (.slice a7 (nw R.w) c7)) [(gV,#[.int .i64 (R.w:Int),.slice a6 (nw R.w) c6],44),(bH,#[.int .i64 (R.w:Int),.slice ag (nw R.w) cg,.int .i64 (R.w:Int),.slice ak (nw R.w) ck,.slice ac nc cc],47),(bA,#[.int .i64 (S.w:Int),.slice (some ⟨gB,0,none⟩) N cB,.slice (some ⟨gI,0,none⟩) N cI],26)] base va.heap.size (.slice (some ⟨gB,0,none⟩) N cB) (.slice (some ⟨gI,0,none⟩) N cI) RL (LBt.set t (bJ R.w (gP (dA R.bnd t) (bL f (dA R.bnd n))),.slice a7 (nw R.w) c7)) (ic.set t ((L0.eraseIdx i),(.slice (some ⟨g,0,none⟩) m1 cap))) from BJ.Ad (p:=(bJ R.w (gP (dA R.bnd t) (bL f (dA R.bnd n))),.slice a7 (nw R.w) c7)) iR.lb (by have:=iR.lb;omega) hw7)
   replace Cg:=aa ((Cg.aj HE).ext (show Ext (At gB) va ((va.setCell ⟨gB,t*2,none⟩ (.int .i64 (R.w:Int))).setCell ⟨gB,t*2+1,none⟩ (.slice a7 (nw R.w) c7)) from ((Ext.refl _ _).setAt _ _).setAt _ _) (fun k _ e=>by rw [show k=gB from e];exact Tk.2.2))
   replace vM:=aa (show lim≤(((va.setCell ⟨gB,t*2,none⟩ (.int .i64 (R.w:Int))).setCell ⟨gB,t*2+1,none⟩ (.slice a7 (nw R.w) c7))).heap.size from Nat.le_trans vM (Nat.le_trans HE.size (show Ext (At gB) va ((va.setCell ⟨gB,t*2,none⟩ (.int .i64 (R.w:Int))).setCell ⟨gB,t*2+1,none⟩ (.slice a7 (nw R.w) c7)) from ((Ext.refl _ _).setAt _ _).setAt _ _).size))
   clear rE BJ hw7 hs7 HST YS BI ZZ hS6 HE
   generalize World.setCell (World.setCell va _ _) _ _=U3 at*
   generalize va.heap.size=Xc at*
   refine uE ?_
   skip
   go_upto_region 13 with (fail)
   obtain ⟨PO,KD⟩:∃PO,PO=LBt.set t (bJ R.w (gP (dA R.bnd t) (bL f (dA R.bnd n))),.slice a7 (nw R.w) c7):=⟨_,rfl⟩
   rw [←KD] at Km
   have Qg:=aa KD
   clear KD
   obtain ⟨E,hE0⟩:∃E,E=(aR R t).eraseIdx i:=⟨_,rfl⟩
   have Ww:=aa (show dP R.w R.ins.length E from by rw [hE0];exact HRO.erase)
   have Sj:=aa hE0
   clear hE0
   obtain ⟨Ln,vn,⟨hnR,Wp⟩,hLn⟩:=iR.row hn
   rw [Dw] at hLn
   have HRn:=aa (show ∀q:LA×Value,∃h:n < (ic.set t q).length,(ic.set t q)[n]=(Ln,vn) from fun q=>⟨by rw [List.length_set];exact hnR,by rw [List.getElem_set_ne htn];exact Wp⟩)
   have Z0:=aa (show ∀wq lq Vp q,nV W wq [(gV,#[.int .i64 (R.w:Int),.slice a6 (nw R.w) c6],44),(bH,#[.int .i64 (R.w:Int),.slice ag (nw R.w) cg,.int .i64 (R.w:Int),.slice ak (nw R.w) ck,.slice ac nc cc],47),(bA,#[.int .i64 (S.w:Int),.slice (some ⟨gB,0,none⟩) N cB,.slice (some ⟨gI,0,none⟩) N cI],26)] base lq (.slice (some ⟨gB,0,none⟩) N cB) (.slice (some ⟨gI,0,none⟩) N cI) RL Vp (ic.set t q)→fq No wq vn (aR R n) from fun wq lq Vp q h=>by
    obtain ⟨h1,h2⟩:=HRn.out q
    have h9:=h.x.row h1
    rw [h2] at h9
    exact ⟨Ln,h9,hLn⟩)
   have TV:=aa (show ∀wq lq Vp q,nV W wq [(gV,#[.int .i64 (R.w:Int),.slice a6 (nw R.w) c6],44),(bH,#[.int .i64 (R.w:Int),.slice ag (nw R.w) cg,.int .i64 (R.w:Int),.slice ak (nw R.w) ck,.slice ac nc cc],47),(bA,#[.int .i64 (S.w:Int),.slice (some ⟨gB,0,none⟩) N cB,.slice (some ⟨gI,0,none⟩) N cI],26)] base lq (.slice (some ⟨gB,0,none⟩) N cB) (.slice (some ⟨gI,0,none⟩) N cI) RL Vp (ic.set t q)→wq.cell? ⟨gI,n,none⟩=some vn from fun wq lq Vp q h=>by
    obtain ⟨h1,h2⟩:=HRn.out q
    have h9:=h.x.kV (by rw [List.length_set];exact iR.lr) h1
    rw [h2] at h9
    exact h9)
   obtain ⟨an,cn,BK⟩:=(Z0 _ _ _ _ Km).slice
   obtain ⟨mn,hmn⟩:∃mn,mn=(aR R n).length:=⟨_,rfl⟩
   rw [←hmn] at BK
   have Pz:=aa hmn
   have aaW:mn≤32:=by have:=(uw.ok.row n).len;have:=IC.out;omega
   subst BK
   clear hnR Wp hLn hmn
   have qA:=cellOf (show U3.heap[bA]? =some (.cells #[.int .i64 (S.w:Int),.slice (some ⟨gB,0,none⟩) N cB,.slice (some ⟨gI,0,none⟩) N cI] 26 (0,0)) from (Km.bx (bA,#[.int .i64 (S.w:Int),.slice (some ⟨gB,0,none⟩) N cB,.slice (some ⟨gI,0,none⟩) N cI],26) (by simp)).1)
   have qI:=TV.out _ _ _ _ Km
   go_wp2_with fail
   clear qA qI
   go_loopw [12,13,14,93] (fun _ _ _ s93 wy=>∃(k KE:Nat) (L:LA) (v:Value),s93= .int .i64 k∧k≤mn∧Hid (nV W wy [(gV,#[.int .i64 (R.w:Int),.slice a6 (nw R.w) c6],44),(bH,#[.int .i64 (R.w:Int),.slice ag (nw R.w) cg,.int .i64 (R.w:Int),.slice ak (nw R.w) ck,.slice ac nc cc],47),(bA,#[.int .i64 (S.w:Int),.slice (some ⟨gB,0,none⟩) N cB,.slice (some ⟨gI,0,none⟩) N cI],26)] base KE (.slice (some ⟨gB,0,none⟩) N cB) (.slice (some ⟨gI,0,none⟩) N cI) RL PO (ic.set t (L,v)))∧Hid (L.map fJ=aT (jg ((aR R n).take k) f E))∧Hid (dF (fun b=>(dW (.slice (some ⟨gB,0,none⟩) N cB) (.slice (some ⟨gI,0,none⟩) N cI) ic lim base) b∨b=g) wy (.slice ag (nw R.w) cg) (.slice ak (nw R.w) ck) (.slice ac nc cc) f)∧Hid (∀b,v.ownBlock=some b→(dW (.slice (some ⟨gB,0,none⟩) N cB) (.slice (some ⟨gI,0,none⟩) N cI) ic lim base) b∨b=g)∧Hid (lim≤wy.heap.size)) (fun _ _ _ s93 _=>mn - (intOf s93).toNat)
   case atStart=>exact ⟨0,_,_,_,rfl,Nat.zero_le _,Km,aa (by
    rw [List.take_zero,jg,List.foldl_nil,Sj,aT,List.eraseIdx_eq_take_drop_succ,List.eraseIdx_eq_take_drop_succ,List.map_append,List.map_append,List.map_take,List.map_drop,G5,aT,List.map_take,List.map_drop]),Cg,aa (fun b e=> .inr (Option.some.inj e).symm),vM⟩
   clear Km Cg vM
   obtain ⟨k,KE,L,v,rfl,hk,hRk,vH,Cg,YT,vM⟩:=hrel
   rename World=>wy
   by_cases hlt2:k < mn
   ·have hkz:(k:Int) < (mn:Int):=by omega
    have HKI:Hid (Value.int .i64 ((k:Int)+1)= .int .i64 ((k+1:Nat):Int)):=aa (by rw [show ((k+1:Nat):Int)=(k:Int)+1 from by omega])
    have pJ:=aa (show k < (aR R n).length from by rw [←Pz];exact hlt2)
    obtain ⟨⟨mk,fk⟩,hmk⟩:∃q:Nat×cK,q=(aR R n)[k]'pJ.out:=⟨_,rfl⟩
    have Tq:=aa (show (mk,fk)=(aR R n)[k]'pJ.out from hmk)
    obtain ⟨b,off,cap',pY,cg2,xL,ck2,xM,xN,xO,hsl,gt,G6,Yk⟩:=fq.at (uw.ok.row n).jX (Z0 _ _ _ _ hRk) pJ.out hmk
    rw [←Pz] at hsl
    simp only [Value.slice.injEq] at hsl
    obtain ⟨rfl,-,rfl⟩:=hsl
    obtain ⟨q0,q1,q2,q3,q4,q5⟩:=gt
    clear hmk
    go_upto_region 16 with (fail)
    clear q0 q1 q2 q3 q4 q5
    have qb:Ext No wy (wy.alloc (.cells #[.int .i64 (mk:Int),.int .i64 (R.w:Int),.slice pY (nw R.w) cg2,.int .i64 (R.w:Int),.slice xL (nw R.w) ck2,.slice xM xN xO] 49)):=(Ext.refl _ _).alloc _
    have Wz:=aa ((hRk.aC qb).nM (ah (w:=wy) (o:=(.cells #[.int .i64 (mk:Int),.int .i64 (R.w:Int),.slice pY (nw R.w) cg2,.int .i64 (R.w:Int),.slice xL (nw R.w) ck2,.slice xM xN xO] 49)) rfl) hRk.x.lh)
    replace G6:=aa (G6.aj qb)
    replace Cg:=aa (Cg.aj qb)
    replace vM:=aa (Nat.le_trans vM qb.size)
    clear hRk qb
    generalize World.alloc wy _=Y at*
    generalize wy.heap.size=bK at*
    have YU:=aa (show Y.heap[bK]? =some (.cells #[.int .i64 (mk:Int),.int .i64 (R.w:Int),.slice pY (nw R.w) cg2,.int .i64 (R.w:Int),.slice xL (nw R.w) ck2,.slice xM xN xO] 49 (0,0)) from (Wz.bx (bK,#[.int .i64 (mk:Int),.int .i64 (R.w:Int),.slice pY (nw R.w) cg2,.int .i64 (R.w:Int),.slice xL (nw R.w) ck2,.slice xM xN xO],49) (by simp)).1)
    have Tt:=aa (show Y.heap[bH]? =some (.cells #[.int .i64 (R.w:Int),.slice ag (nw R.w) cg,.int .i64 (R.w:Int),.slice ak (nw R.w) ck,.slice ac nc cc] 47 (0,0)) from (Wz.bx (bH,#[.int .i64 (R.w:Int),.slice ag (nw R.w) cg,.int .i64 (R.w:Int),.slice ak (nw R.w) ck,.slice ac nc cc],47) (by simp)).1)
    have qA:=cellOf YU.out
    have qH:=cellOf Tt.out
    go_wp2_with fail
    clear qA qH
    refine (QI (Lo Y.heap.size) fk f R.w _ _ _ _ _ _ _ Yk pI (fun b e=>e) uw.w8 Wz.tab G6 Cg.no).mono ?_
    rintro e0 wz ⟨d1,e1,d2,e2,d3,n3,e3,rfl,hS9,qb⟩
    go_upto_region 18 with (fail)
    have TW:Ext No Y (wz.alloc (.cells #[.int .i64 (R.w:Int),.slice d1 (nw R.w) e1,.int .i64 (R.w:Int),.slice d2 (nw R.w) e2,.slice d3 n3 e3] 47)):=qb.alloc _
    have hRb:=aa (((Wz.aC TW).nM (T:= 47) (cs:=#[.int .i64 (R.w:Int),.slice d1 (nw R.w) e1,.int .i64 (R.w:Int),.slice d2 (nw R.w) e2,.slice d3 n3 e3]) (ah (w:=wz) (o:=(.cells #[.int .i64 (R.w:Int),.slice d1 (nw R.w) e1,.int .i64 (R.w:Int),.slice d2 (nw R.w) e2,.slice d3 n3 e3] 47)) rfl) (Nat.le_trans Wz.x.lh qb.size)).top)
    have KF:=aa (show eO (gJ fk f)∧(gJ fk f).w=R.w from vV uw.w8 ⟨by rw [show fk=((aR R n)[k]'pJ.out).2 from congrArg Prod.snd Tq.out];exact ((uw.ok.row n).jX _ (List.getElem_mem _)).1,Yk⟩ ⟨by rw [show f=((aR R t)[i]'HI1.out).2 from congrArg Prod.snd oP.out];exact (HRO.jX _ (List.getElem_mem _)).1,pI⟩)
    have Xf:=aa (show dF (fun b=>dW (.slice (some ⟨gB,0,none⟩) N cB) (.slice (some ⟨gI,0,none⟩) N cI) (ic.set t (L,v)) (wz.alloc (.cells #[.int .i64 (R.w:Int),.slice d1 (nw R.w) e1,.int .i64 (R.w:Int),.slice d2 (nw R.w) e2,.slice d3 n3 e3] 47)).heap.size base b∨v.ownBlock=some b) (wz.alloc (.cells #[.int .i64 (R.w:Int),.slice d1 (nw R.w) e1,.int .i64 (R.w:Int),.slice d2 (nw R.w) e2,.slice d3 n3 e3] 47)) (.slice d1 (nw R.w) e1) (.slice d2 (nw R.w) e2) (.slice d3 n3 e3) (gJ fk f) from (hS9.aj ((Ext.refl _ _).alloc _)).mono (fun b hb e=>Wz.x.clear hb (e.elim id (fun e=> .inr (.inr (.inr (.inl ⟨(L,v),adJ (by have:=iR.lr;omega),e⟩)))))))
    replace Cg:=aa (Cg.aj TW)
    replace vM:=aa (Nat.le_trans vM TW.size)
    clear Wz hS9 qb TW G6 YU Tt
    generalize World.alloc wz _=wv at*
    generalize wz.heap.size=bF at*
    have BI:=aa (show wv.heap[bA]? =some (.cells #[.int .i64 (S.w:Int),.slice (some ⟨gB,0,none⟩) N cB,.slice (some ⟨gI,0,none⟩) N cI] 26 (0,0)) from (hRb.bx (bA,#[.int .i64 (S.w:Int),.slice (some ⟨gB,0,none⟩) N cB,.slice (some ⟨gI,0,none⟩) N cI],26) (by simp)).1)
    have YU:=aa (show wv.heap[bK]? =some (.cells #[.int .i64 (mk:Int),.int .i64 (R.w:Int),.slice pY (nw R.w) cg2,.int .i64 (R.w:Int),.slice xL (nw R.w) ck2,.slice xM xN xO] 49 (0,0)) from (hRb.bx (bK,#[.int .i64 (mk:Int),.int .i64 (R.w:Int),.slice pY (nw R.w) cg2,.int .i64 (R.w:Int),.slice xL (nw R.w) ck2,.slice xM xN xO],49) (by simp)).1)
    have HBF:=aa (show wv.heap[bF]? =some (.cells #[.int .i64 (R.w:Int),.slice d1 (nw R.w) e1,.int .i64 (R.w:Int),.slice d2 (nw R.w) e2,.slice d3 n3 e3] 47 (0,0)) from (hRb.bx (bF,#[.int .i64 (R.w:Int),.slice d1 (nw R.w) e1,.int .i64 (R.w:Int),.slice d2 (nw R.w) e2,.slice d3 n3 e3],47) (by simp)).1)
    have YR:=aa (show ¬(fun k=>v.ownBlock=some k) bA from fun e=>(hRb.bx (bA,#[.int .i64 (S.w:Int),.slice (some ⟨gB,0,none⟩) N cB,.slice (some ⟨gI,0,none⟩) N cI],26) (by simp)).2 (.inr (.inr ⟨(L,v),adJ (by have:=iR.lr;omega),e⟩)))
    have HnK:=aa (show ¬(fun k=>v.ownBlock=some k) bK from fun e=>(hRb.bx (bK,#[.int .i64 (mk:Int),.int .i64 (R.w:Int),.slice pY (nw R.w) cg2,.int .i64 (R.w:Int),.slice xL (nw R.w) ck2,.slice xM xN xO],49) (by simp)).2 (.inr (.inr ⟨(L,v),adJ (by have:=iR.lr;omega),e⟩)))
    have HnF:=aa (show ¬(fun k=>v.ownBlock=some k) bF from fun e=>(hRb.bx (bF,#[.int .i64 (R.w:Int),.slice d1 (nw R.w) e1,.int .i64 (R.w:Int),.slice d2 (nw R.w) e2,.slice d3 n3 e3],47) (by simp)).2 (.inr (.inr ⟨(L,v),adJ (by have:=iR.lr;omega),e⟩)))
    have HnI:=aa (show ¬(fun k=>v.ownBlock=some k) gI from fun e=>(hRb.x.br (L,v) (adJ (by have:=iR.lr;omega)) gI e).2 rfl)
    have HLO:=aa (show cZ kA (dW (.slice (some ⟨gB,0,none⟩) N cB) (.slice (some ⟨gI,0,none⟩) N cI) (ic.set t (L,v)) wv.heap.size base) wv base v L from hRb.x.r (L,v) (adJ (by have:=iR.lr;omega)))
    have Z4:=aa (show wv.cell? ⟨gI,t,none⟩=some v from by
     have h9:=hRb.x.kV (by rw [List.length_set];exact iR.lr) (t:=t) (by rw [List.length_set];have:=iR.lr;omega)
     rw [List.getElem_set_self] at h9
     exact h9)
    have KG:=aa (show dP R.w R.ins.length (jg ((aR R n).take k) f E) from qg uw.w8 ⟨by rw [show f=((aR R t)[i]'HI1.out).2 from congrArg Prod.snd oP.out];exact (HRO.jX _ (List.getElem_mem _)).1,pI⟩ _ _ ((uw.ok.row n).taken k) Ww)
    obtain ⟨lk,hlk⟩:∃lk,lk=jg ((aR R n).take k) f E:=⟨_,rfl⟩
    rw [←hlk] at vH KG
    have TY:=aa hlk
    clear hlk
    obtain ⟨fc,hfc⟩:∃fc,fc=gJ fk f:=⟨_,rfl⟩
    rw [←hfc] at KF Xf
    have HFC:=aa hfc
    clear hfc
    have abq:R.ins.length≤256:=by have:=IC.out;omega
    refine aL [17] (fun w'=>Ext (fun k=>v.ownBlock=some k) wv w') (by kernel_rfl) ?_ (fun hHeld=>?_)
    ·exact bX
    have HE:=aa (show Ext No wv wv.drew from (Ext.refl _ _).drew)
    generalize wv.drew=v0 at*
    refine uJ [0,1,2,3,4,5,6,7,8,9,10,11] hHeld ?_
    clear hHeld
    refine uF ?_
    refine uL ?_ (hy:=Dz)
    iterate 2 refine uF ?_
    refine uL ?_ (hy:=Dz)
    iterate 2 refine uF ?_
    refine uL ?_ (hy:=(by intro w hSw;(have x0:=(show Ext (fun k=>v.ownBlock=some k) wv _ from hSw).oK Z4 HnI);go_simp;(try with_reducible rfl)))
    refine uF ?_
    refine uL ?_ (hy:=(by intro w hSw;(have x0:=cellOf ((show Ext (fun k=>v.ownBlock=some k) wv _ from hSw).blk YU HnK));go_simp;(try with_reducible rfl)))
    refine uL ?_ (hy:=(by intro w hSw;(have x0:=cellOf ((show Ext (fun k=>v.ownBlock=some k) wv _ from hSw).blk HBF HnF));go_simp;(try with_reducible rfl)))
    refine uF ?_
    refine uZ fun hHeld=>?_
    refine uN 12 fun K hK=>?_
    go_simp
    go_at_call 86
    refine (Oi (dW (.slice (some ⟨gB,0,none⟩) N cB) (.slice (some ⟨gI,0,none⟩) N cI) (ic.set t (L,v)) wv.heap.size base) base R.ins.length R.w mk n3 v d1 d2 d3 e1 e2 e3 L lk fc v0 (hRb.tab.ext HE) (Nat.le_trans hRb.x.bl (Nat.le_trans hRb.x.lh HE.size)) uw.w8 abq KG vH (HLO.aj HE) KF (Xf.aj HE)).mono ?_
    rintro e0 va ⟨v',L',rfl,hown,hL',nJ,hvv⟩
    go_simp
    refine uK hK (by intro _;exact (HE.lM (M:=fun k=>v.ownBlock=some k)).trans nJ) ?_
    clear hK K hHeld
    intro hHeld
    obtain ⟨a9,c9,hv9⟩:=(Row.bG (M:=No) hown.own (fun _ _ x=>x)).slice
    subst hv9
    have HVV:=aa hvv
    have hI1:va.ownsRow base 40 1 (.slice (some ⟨gI,0,none⟩) ic.length cI) ic.length ((ic.set t (L,v)).map Prod.snd):=aZ (by have h9:=(hRb.aC HE).x.i;rw [List.length_set,iR.lr] at h9;exact h9) nJ (fun k hk e=>(hRb.x.br _ (adJ (q:=(L,v)) (by have:=iR.lr;omega)) k e).2 hk)
    have Ae:=aa hI1
    clear hI1 hvv
    refine uJ [13,14,15,16] hHeld ?_
    clear hHeld
    iterate 4 refine uF ?_
    refine uZ fun hHeld=>?_
    refine uN 17 fun K hK=>?_
    ((have q0:=World.ownsRow.cellAt Ae.out t (by have:=iR.lr;omega));(have f0:=World.ownsRow.frozenAt Ae t);(rw [List.getElem?_eq_getElem (by rw [List.length_map,List.length_set];have:=iR.lr;omega)] at q0);go_simp;(clear q0 f0))
    refine uK hK bz ?_
    clear hK K hHeld
    intro hHeld
    have qD:=aa (show nV W (va.setCell ⟨gI,t,none⟩ (.slice a9 L'.length c9)) [(bF,#[.int .i64 (R.w:Int),.slice d1 (nw R.w) e1,.int .i64 (R.w:Int),.slice d2 (nw R.w) e2,.slice d3 n3 e3],47),(bK,#[.int .i64 (mk:Int),.int .i64 (R.w:Int),.slice pY (nw R.w) cg2,.int .i64 (R.w:Int),.slice xL (nw R.w) ck2,.slice xM xN xO],49),(gV,#[.int .i64 (R.w:Int),.slice a6 (nw R.w) c6],44),(bH,#[.int .i64 (R.w:Int),.slice ag (nw R.w) cg,.int .i64 (R.w:Int),.slice ak (nw R.w) ck,.slice ac nc cc],47),(bA,#[.int .i64 (S.w:Int),.slice (some ⟨gB,0,none⟩) N cB,.slice (some ⟨gI,0,none⟩) N cI],26)] base va.heap.size (.slice (some ⟨gB,0,none⟩) N cB) (.slice (some ⟨gI,0,none⟩) N cI) RL PO (ic.set t (L',(.slice a9 L'.length c9))) from by
     have h9:=(hRb.aC HE).putRow (t:=t) (L':=L') (v':=(.slice a9 L'.length c9)) (q:=(L,v)) (by rw [List.length_set];exact iR.lr) (by rw [List.length_set];have:=iR.lr;omega) (by rw [List.getElem_set_self]) nJ.out hown.own (fun p hp=>kA.mono (hown.ok p hp) (fun b hb e=>by
      have h1:=hRb.x.bl
      have h2:=hRb.x.lh
      have h3:=HE.size
      rcases e with e|e|e|⟨r,hr,e⟩|e
      ·exact .inl ⟨.inl e,by omega⟩
      ·have h4:=hRb.x.lb _ e;exact .inl ⟨.inr (.inl e),by omega⟩
      ·have h4:=hRb.x.li _ e;exact .inl ⟨.inr (.inr (.inl e)),by omega⟩
      ·rcases List.mem_or_eq_of_mem_set hr with hr|rfl
       ·have h4:=hRb.x.lr _ hr _ e;exact .inl ⟨.inr (.inr (.inr (.inl ⟨r,hr,e⟩))),by omega⟩
       exact .inr e
      omega)) (HVV.imp id (fun h k hk=>h k hk))
     rw [List.set_set] at h9
     exact h9)
    have abr:=aa (show dF (fun b=>(dW (.slice (some ⟨gB,0,none⟩) N cB) (.slice (some ⟨gI,0,none⟩) N cI) ic lim base) b∨b=g) (va.setCell ⟨gI,t,none⟩ (.slice a9 L'.length c9)) (.slice ag (nw R.w) cg) (.slice ak (nw R.w) ck) (.slice ac nc cc) f from ((Cg.aj HE).ext nJ (fun b _ e=>YT b e)).ext (show Ext (At gI) va (va.setCell ⟨gI,t,none⟩ (.slice a9 L'.length c9)) from (Ext.refl _ _).setAt _ _) (fun b _ e=>by rw [show b=gI from e];exact Tk.2.1))
    have abu:=aa (show ∀b,Value.ownBlock (.slice a9 L'.length c9)=some b→(dW (.slice (some ⟨gB,0,none⟩) N cB) (.slice (some ⟨gI,0,none⟩) N cI) ic lim base) b∨b=g from fun b e=>by
     rcases HVV.out with h|h
     ·exact YT b (by rw [←h];exact e)
     exact .inl (.inr (.inr (.inr (.inr (Nat.le_trans vM (Nat.le_trans HE.size (h b e))))))))
    have aaX:=aa (show lim≤(va.setCell ⟨gI,t,none⟩ (.slice a9 L'.length c9)).heap.size from Nat.le_trans vM (Nat.le_trans HE.size (Nat.le_trans nJ.size (show Ext (At gI) va (va.setCell ⟨gI,t,none⟩ (.slice a9 L'.length c9)) from (Ext.refl _ _).setAt _ _).size)))
    have abv:=aa (show L'.map fJ=aT (jg ((aR R n).take (k+1)) f E) from by
     rw [hL',TY,HFC,wW pJ.out,←Tq])
    clear hRb Cg YT HVV vM vH HE nJ hown Ae hL' Xf KF KG TY HFC BI YU HBF HLO Z4
    generalize World.setCell va _ _=wn at*
    generalize va.heap.size=abw at*
    refine uJ [18] hHeld ?_
    clear hHeld
    refine uF ?_
    refine uZ fun hHeld=>?_
    refine uE ?_
    go_wp2_with fail
    go_roundw
    case rel=>exact ⟨k+1,abw,L',_,HKI,by omega,qD.cut (fun b hb=>by simp only [List.mem_cons,List.not_mem_nil,or_false] at hb ⊢;rcases hb with h|h|h<;>simp [h]),abv,abr,abu,aaX⟩
    case measure=>simp [intOf];omega
   have hge:¬(k:Int) < (mn:Int):=by omega
   have hkm:k=mn:=by omega
   subst hkm
   go_wp2_with fail
   go_roundw
   case rel=>
    refine ⟨t+1,KE,PO,ic.set t (L,v),HKK,by omega,hRk.cut (fun b hb=>by rw [List.mem_singleton.1 hb];simp),aa ⟨?_,?_,fun j hj=>?_,fun j hj=>?_⟩⟩
    ·rw [Qg,List.length_set];exact iR.lb
    ·rw [List.length_set];exact iR.lr
    ·obtain ⟨g1,g2⟩:=wG htn HI HI1 oP
     rw [Qg,List.getElem?_set]
     by_cases e:t=j
     ·subst e
      rw [if_pos rfl,if_pos (by rw [←iR.lb];exact hj),g1]
      rfl
     rw [if_neg e,MZ (fun h=>e h.symm)]
     exact iR.b j hj
    obtain ⟨g1,g2⟩:=wG htn HI HI1 oP
    rw [List.getElem?_set]
    by_cases e:t=j
    ·subst e
     rw [if_pos rfl,if_pos (by rw [←iR.lr];exact hj),g2,←Sj]
     have h9:=vH.out
     rw [List.take_of_length_le (by rw [←Pz];exact Nat.le_refl _)] at h9
     exact congrArg some h9
    rw [if_neg e,M3 (fun h=>e h.symm)]
    exact iR.r j hj
   case measure=>simp [intOf];omega
  have HSK:=aa (iR.skip (fun e=>h1 e.2))
  exact rZ
 have hge:¬(t:Int) < (N:Int):=by omega
 have Yl:t=N:=by omega
 subst Yl
 go_wp2_with fail
 go_ret
 have YQ:n < S.ins.length:=by rw [←HN];exact hn
 refine ⟨rfl,lim,LBt,ic,aa ?_,hR.ext,hR.own⟩
 have h9:=iR.done hR.x IC (AL uw)
 unfold jK
 rw [←HRD]
 exact h9

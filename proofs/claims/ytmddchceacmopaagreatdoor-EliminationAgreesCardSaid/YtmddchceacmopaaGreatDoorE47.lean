
import Derived.Test.YtmddchceacmopaaGreatDoorE46
set_option linter.unusedVariables false
set_option linter.unusedSimpArgs false
namespace Go.Proofs.YtmddchceacmopaaGreatDoor
open Go Go.RowKit
theorem Ew {p:Prop} (h:p:=by intro w hSw;(have x0:=cellOf ((show Ext No Sr _ from hSw).blk aak ax));go_simp;(try with_reducible rfl)):p:=h
theorem Ex {p:Prop} (h:p:=by
 have Zc:=(az (j:=4) (u:= .slice x3 z3 y3) (az (j:=3) (u:= .slice x2 (nw R.w) y2) (az (j:=2) (u:= .int .i64 (R.w:Int)) (az (j:=1) (u:= .slice x1 (nw R.w) y1) (az (j:=0) (u:= .int .i64 (R.w:Int)) pO))))).trans rfl
 exact yh):p:=h
theorem Ey {p:Prop} (h:p:=by
 have Zc:=(az (j:=1) (u:= .slice a6 (nw R.w) c6) (az (j:=0) (u:= .int .i64 (R.w:Int)) pO)).trans rfl
 have Y3:=HE.aJ I6 (fun i hi e=>by have e2:i=bb:=e;have:=ML.out;omega)
 have hSF:=G8.K9 pO I6
 go_wp2_with fail
 go_meet
 exact ⟨bb,a6,c6,rfl,rfl,Y3,Zc,hSF⟩):p:=h
theorem wK {vb vi:Value} {RL:fe} {t k:Nat} {q:LA×Value} (h:aQ vb vi (RL.set t q) k):aQ vb vi RL k∨q.2.ownBlock=some k:=by
 rcases h with e|e|⟨p,hp,e⟩
 ·exact .inl (.inl e)
 ·exact .inl (.inr (.inl e))
 rcases List.mem_or_eq_of_mem_set hp with hp|rfl
 ·exact .inl (.inr (.inr ⟨p,hp,e⟩))
 exact .inr e
theorem UE {vb vi:Value} {RL:fe} {t k:Nat} {q:LA×Value} (ht:t < RL.length) (h:q.2.ownBlock=some k):aQ vb vi (RL.set t q) k:= .inr (.inr ⟨q,adJ ht,h⟩)
theorem Hy {vb vi:Value} {RL:fe} {lim k:Nat} (hk:k < lim) (e:dW vb vi RL lim 0 k):aQ vb vi RL k:=by
 rcases e with e|e|e|e|e
 ·omega
 ·exact .inl e
 ·exact .inr (.inl e)
 ·exact .inr (.inr e)
 omega
theorem UF {vb vi:Value} {RL:fe} {lim t k z:Nat} {q:LA×Value} (hv:∀k,q.2.ownBlock=some k→z≤k) (hk:k < lim) (e:dW vb vi (RL.set t q) lim 0 k):aQ vb vi RL k∨z≤k:=(wK (Hy hk e)).imp id (hv k)
theorem Rn {vb vi:Value} {RL:fe} {lim t k:Nat} {p q:LA×Value} (hk:k < lim) (e:dW vb vi ((RL.set t p).set t q) lim 0 k):aQ vb vi (RL.set t p) k∨q.2.ownBlock=some k:=wK (Hy hk e)
theorem aU.K9 {M:Nat→Prop} {w w':World} {D:Nat} {sl:Value} {l:List Nat} {x:Int} {a:Option Addr} {n c:Nat} {T:TypeId} (h:aU M w sl l) (hD:w.heap[D]? =some (.cells #[.int .i64 x,.slice a n c] T (0,0))) (hx:Ext (At D) w w'):aU M w' sl l:=by
 have h0:aU (fun b=>M b∨b=D) w sl l:=by
  refine ⟨Row.off h.row (fun off h8=>?_),h.lt⟩
  rcases l with _|⟨y,l⟩
  ·rfl
  have h9:=h8 0 (.int .u64 (y:Int)) rfl
  rw [cellOf hD] at h9
  rcases off with _|_|off<;>simp at h9
 exact (h0.ext hx (fun i _ e=> .inr e)).mono (fun i _ e=> .inl e)
theorem aG.K9 {M:Nat→Prop} {w w':World} {D:Nat} {sl:Value} {u m:Nat} {x:Int} {a:Option Addr} {n c:Nat} {T:TypeId} (h:aG M w sl u m) (hD:w.heap[D]? =some (.cells #[.int .i64 x,.slice a n c] T (0,0))) (hx:Ext (At D) w w'):aG M w' sl u m:=⟨h.words.K9 hD hx,h.hw,h.hm⟩
theorem jk.yw {w:World} {base lim:Nat} {vb vi:Value} {LB:LS} {RL:fe} (h:jk w base lim vb vi LB RL):YW No w vb vi LB RL:=
 ⟨h.b.uy (fun _ _ e=>e) (fun _ e=>e.elim),(show cZ kL No w base vi RL from ⟨by rw [qX];exact h.i,fun p hp=>((h.r p hp).uy (M:=fun b=>No b∨vi.ownBlock=some b) (fun k hk e=>e.elim id (fun e=>(h.br p hp k hk).2 e)) (fun k e=>e.elim (fun e=>e.elim) (fun e=> .inr (.inr (.inl e)))))⟩).uy (fun _ _ e=>e) (fun _ e=>e.elim)⟩
set_option maxRecDepth 100000 in
set_option maxHeartbeats 16000000 in
theorem uQ (S:bD) (n N:Nat) (vb0 Zd:Value) (LB:LS) (Li:fe) (W:World) (hc:CW S (S.w:Int) LB Li) (h8:eY S) (hv:VW (S.w:Int) LB Li) (hy:YW No W vb0 Zd LB Li) (hN:N=S.ins.length) (hn:n < N):
  Calls Tryz.prog 26 #[.agg #[.int .i64 (S.w:Int),vb0,Zd],.int .i64 (n:Int)] W (Hg N (jK S n) W):=by
 obtain ⟨Ze,Zf,rfl⟩:=hy.b.slice
 obtain ⟨Zg,Zh,rfl⟩:=hy.i.slice
 have Kq:Li.length=N:=hc.len.trans hN.symm
 have hlB:LB.length=N:=hv.lb.trans Kq
 have hn32:N≤32:=by rw [hN];exact h8.n8
 have HC:=aa hc
 have Ch:=aa h8
 have HV:=aa hv
 have HN:=aa hN
 rw [Kq,hlB] at hy ⊢
 have HY:=aa hy
 clear hc h8 hv hy hN Kq hlB
 go_enter Tryz.func26,Tryz.ntmps26
 go_upto_region 1 with (fail)
 have hx0:Ext No W ((W.alloc (.cells #[.int .i64 (S.w:Int),.slice Ze N Zf,.slice Zg N Zh] 26)).alloc (.cells #[.int .i64 0,.slice none 0 0,.slice none 0 0] 26)):=((Ext.refl _ _).alloc _).alloc _
 have HA:=aa (zK hx0)
 have HR:=aa (zM hx0)
 have HX0:=aa hx0
 have G7:=aa (HY.aj hx0)
 have Ce:=aa (show W.heap.size+1 < ((W.alloc (.cells #[.int .i64 (S.w:Int),.slice Ze N Zf,.slice Zg N Zh] 26)).alloc (.cells #[.int .i64 0,.slice none 0 0,.slice none 0 0] 26)).heap.size from by simp)
 clear hx0
 generalize World.alloc (World.alloc W _) _=V at*
 have cA:=cellOf HA.out
 go_wp2_with fail
 refine (zn S n N _ _ LB Li V HC Ch HV G7 HN hn).mono ?_
 rintro e1 w1 ⟨gB,cB,gI,cI,zb,KS,NM,rfl,hq,hM⟩
 obtain ⟨R,vQ⟩:∃R,R=dN S n:=⟨_,rfl⟩
 rw [←vQ] at hM ⊢
 have HRD:=aa vQ
 have hres:=adH Ch (n:=n) (by rw [←HN];exact hn)
 rw [←vQ] at hres
 have IC:=aa (show N=R.ins.length from by rw [hres.2.2];exact HN)
 have uw:=aa hres.1
 have Qf:=aa (uG.start (n:=n) hM IC)
 have Sd:=aa hq.out
 clear vQ hres hM hq cA
 go_upto_region 4 with (fail)
 have PY:Ext No w1 (w1.alloc (.cells #[.int .i64 (R.w:Int),.slice (some ⟨gB,0,none⟩) N cB,.slice (some ⟨gI,0,none⟩) N cI] 26)):=(Ext.refl _ _).alloc _
 have PL:=aa ((Sd.aC PY).nM (ah (w:=w1) (o:= .cells #[.int .i64 (R.w:Int),.slice (some ⟨gB,0,none⟩) N cB,.slice (some ⟨gI,0,none⟩) N cI] 26) rfl) Sd.x.lh)
 clear PY Sd
 generalize World.alloc w1 _=U1 at*
 generalize w1.heap.size=bA at*
 have hnz:(n:Int) < (N:Int):=by omega
 have ac6:(0:Int)≤(n:Int):=by omega
 go_wp2_with fail
 go_loopw [8,9,10,11,12,13,14,15] (fun s8 _ _ _ _ _ _ _ wr=>∃(t lim:Nat) (LBt:LS) (ic:fe),s8= .int .i64 t∧t≤N∧Hid (nL V wr [(bA,#[.int .i64 (R.w:Int),.slice (some ⟨gB,0,none⟩) N cB,.slice (some ⟨gI,0,none⟩) N cI],26)] lim (.slice (some ⟨gB,0,none⟩) N cB) (.slice (some ⟨gI,0,none⟩) N cI) LBt ic)∧Hid (uG R n t N LBt ic)) (fun s8 _ _ _ _ _ _ _ _=>N - (intOf s8).toNat)
 case atStart=>exact ⟨0,_,_,_,rfl,Nat.zero_le _,PL,Qf⟩
 clear PL Qf
 obtain ⟨t,lim,LBt,ic,rfl,ht,hR,iR⟩:=hrel
 rename World=>wr
 have qA:=cellOf (show wr.heap[bA]? =some (.cells #[.int .i64 (R.w:Int),.slice (some ⟨gB,0,none⟩) N cB,.slice (some ⟨gI,0,none⟩) N cI] 26 (0,0)) from (hR.bx (bA,#[.int .i64 (R.w:Int),.slice (some ⟨gB,0,none⟩) N cB,.slice (some ⟨gI,0,none⟩) N cI],26) (by simp)).1)
 by_cases hlt:t < N
 ·have hlz:(t:Int) < (N:Int):=by omega
  have IW:(0:Int)≤(t:Int):=by omega
  have HKK:Hid (Value.int .i64 ((t:Int)+1)= .int .i64 ((t+1:Nat):Int)):=aa (by rw [show ((t+1:Nat):Int)=(t:Int)+1 from by omega])
  obtain ⟨L0,v0,⟨xQ,hq⟩,hL0⟩:=iR.row hlt
  have HQ:=aa (show ∃xQ:t < ic.length,ic[t]=(L0,v0) from ⟨xQ,hq⟩)
  rw [MV] at hL0
  have G5:=aa hL0
  have har:jb kA No wr v0 L0:=by have h9:=hR.x.row xQ;rw [hq] at h9;exact h9
  have HRO:=aa (uw.ok.row t)
  have hmz:(aR R t).length≤32:=by have:=HRO.len;have:=IC.out;omega
  obtain ⟨m,hm⟩:∃m,m=(aR R t).length:=⟨_,rfl⟩
  have CB:L0.length=m:=by have h9:=congrArg List.length hL0;rw [List.length_map,dK,←hm] at h9;exact h9
  obtain ⟨a0,cap,hv0⟩:=har.slice
  rw [CB] at hv0
  rw [←hm] at hmz
  have HM:=aa hm
  have xP:=aa CB
  subst hv0
  have Xm:=aa har
  have qI:wr.cell? ⟨gI,t,none⟩=some (.slice a0 m cap):=by have h9:=hR.x.kV iR.lr xQ;rw [hq] at h9;exact h9
  have IP:=aa qI
  clear hL0 har hm hq xQ CB
  go_wp2_with fail
  clear qA qI
  refine (Jp n R.w _ (aR R t) _ HRO.jX (show fq No wr _ _ from ⟨L0,Xm,G5⟩) (by rw [←HM];omega)).mono ?_
  rintro e1 w2 ⟨hh,hx2⟩
  have hR2:=aa (hR.aC hx2)
  have ji:=aa hx2
  clear hR hx2
  by_cases htn:t=n
  ·have HSK:=aa (iR.skip (fun e=>e.1 htn))
   have ZY:((t:Int)==(n:Int))=true:=by rw [beq_iff_eq];omega
   clear htn
   exact DD
  have ZY:((t:Int)==(n:Int))=false:=by rw [beq_eq_false_iff_ne];omega
  rcases hh with ⟨h1,rfl⟩|⟨h1,rfl⟩
  ·obtain ⟨i,hi⟩:∃i,i=oh (aR R t) n:=⟨_,rfl⟩
   have HI:=aa hi
   rw [←hi] at h1 ⊢
   clear hi
   have HI1:=aa h1
   have him:i < m:=by rw [HM];exact h1
   have hiz:(i:Int) < (m:Int):=by omega
   have hi0:¬(i:Int) < 0:=by omega
   have abN:(0:Int)≤(i:Int):=by omega
   have GY:=aa (show i < L0.length from by rw [xP];exact him)
   obtain ⟨⟨mm,f⟩,jq⟩:∃q:Nat×cK,q=(aR R t)[i]:=⟨_,rfl⟩
   have aal:∀p∈L0,kA.ok (aQ (.slice (some ⟨gB,0,none⟩) N cB) (.slice (some ⟨gI,0,none⟩) N cI) ic) w2 p:=by obtain ⟨xQ,hq⟩:=HQ.out;have h9:=hR2.x.rowOk xQ;rw [hq] at h9;exact h9
   obtain ⟨b,off,cap',ag,cg,ak,ck,ac,nc,cc,hsl,gt,HT1,pI⟩:=pQ (M:=(aQ (.slice (some ⟨gB,0,none⟩) N cB) (.slice (some ⟨gI,0,none⟩) N cI) ic)) HRO.jX (Xm.aj ji) G5.out aal HI1.out jq
   rw [←HM] at hsl
   simp only [Value.slice.injEq] at hsl
   obtain ⟨rfl,-,rfl⟩:=hsl
   obtain ⟨q0,q1,q2,q3,q4,q5⟩:=gt
   have oP:=aa (show (mm,f)=(aR R t)[i]'HI1.out from jq)
   clear jq h1 aal
   have qA:=cellOf (show w2.heap[bA]? =some (.cells #[.int .i64 (R.w:Int),.slice (some ⟨gB,0,none⟩) N cB,.slice (some ⟨gI,0,none⟩) N cI] 26 (0,0)) from (hR2.bx (bA,#[.int .i64 (R.w:Int),.slice (some ⟨gB,0,none⟩) N cB,.slice (some ⟨gI,0,none⟩) N cI],26) (by simp)).1)
   have qI:=ji.keep IP
   go_upto_region 10 with (fail)
   have hx3:Ext No w2 (w2.alloc (.cells #[.int .i64 (R.w:Int),.slice ag (nw R.w) cg,.int .i64 (R.w:Int),.slice ak (nw R.w) ck,.slice ac nc cc] 47)):=(Ext.refl _ _).alloc _
   have vS:=aa ((hR2.aC hx3).nM (ah (w:=w2) (o:=(.cells #[.int .i64 (R.w:Int),.slice ag (nw R.w) cg,.int .i64 (R.w:Int),.slice ak (nw R.w) ck,.slice ac nc cc] 47)) rfl) hR2.x.lh)
   have GZ:=aa (ji.af hx3)
   have HSH:=aa ((HT1.mono (M':=fun b=>(aQ (.slice (some ⟨gB,0,none⟩) N cB) (.slice (some ⟨gI,0,none⟩) N cI) ic) b∨w2.heap.size≤b) (fun j hj e=>e.elim id (fun e=>by omega))).aj hx3)
   have Px:=aa (show w2.heap.size≤(w2.alloc (.cells #[.int .i64 (R.w:Int),.slice ag (nw R.w) cg,.int .i64 (R.w:Int),.slice ak (nw R.w) ck,.slice ac nc cc] 47)).heap.size from hx3.size)
   clear hR2 ji hx3 q0 q1 q2 q3 q4 q5 qA qI HT1
   generalize World.alloc w2 _=U at*
   generalize w2.heap.size=bH at*
   have Ca:=aa (show U.heap[bA]? =some (.cells #[.int .i64 (R.w:Int),.slice (some ⟨gB,0,none⟩) N cB,.slice (some ⟨gI,0,none⟩) N cI] 26 (0,0)) from (vS.bx (bA,#[.int .i64 (R.w:Int),.slice (some ⟨gB,0,none⟩) N cB,.slice (some ⟨gI,0,none⟩) N cI],26) (by simp)).1)
   have Tt:=aa (show U.heap[bH]? =some (.cells #[.int .i64 (R.w:Int),.slice ag (nw R.w) cg,.int .i64 (R.w:Int),.slice ak (nw R.w) ck,.slice ac nc cc] 47 (0,0)) from (vS.bx (bH,#[.int .i64 (R.w:Int),.slice ag (nw R.w) cg,.int .i64 (R.w:Int),.slice ak (nw R.w) ck,.slice ac nc cc],47) (by simp)).1)
   have Cb:=aa (GZ.keep IP)
   have Qk:=aa (Xm.aj GZ)
   obtain ⟨m1,hm1⟩:∃m1,m1=m - 1:=⟨_,rfl⟩
   have Cf:=aa hm1
   clear hm1 GZ
   refine aL [11] (fun w'=>Ext No U w') (by kernel_rfl) ?_ (fun hHeld=>?_)
   ·exact bX
   have HE:=aa (show Ext No U U.drew from (Ext.refl _ _).drew)
   generalize U.drew=v0 at*
   refine uJ [0,1,2,3,4,5,6,7,8] hHeld ?_
   clear hHeld
   refine uF ?_
   refine uL ?_ (hy:=sP)
   iterate 2 refine uF ?_
   refine uL ?_ (hy:=sP)
   iterate 2 refine uF ?_
   refine uL ?_ (hy:=Ep)
   refine uF ?_
   refine uZ fun hHeld=>?_
   refine uN 9 fun K hK=>?_
   (go_simp;go_at_call 68;(refine (wY _ L0 i _ (Qk.aj HE) GY (by have:=xP.out;omega)).mono ?_);(rintro e9 vd ⟨v1,rfl,hown,aF⟩);go_simp)
   refine uK hK eu ?_
   clear hK K hHeld
   intro hHeld
   have PX:(L0.eraseIdx i).length=m1:=by rw [List.length_eraseIdx,if_pos GY.out,xP,Cf]
   have hown2:=hown.out
   rw [PX] at hown2
   obtain ⟨a2,c2,hv1⟩:=(Row.bG (M:=No) hown2 (fun _ _ x=>x)).slice
   subst hv1
   have MK:=aa hown2
   have Sn:=aa aF
   have KJ:=aa (vS.aC HE)
   have WH:=aa (show U.heap.size≤v0.heap.size from HE.size)
   replace HE:=aa (HE.af aF)
   clear hown hown2 aF PX
   refine uJ [10] hHeld ?_
   clear hHeld
   refine uF ?_
   refine uZ fun hHeld=>?_
   refine uN 11 fun K hK=>?_
   ((have q0:=(vS.aC HE).x.kV iR.lr (t:=t) (by have:=iR.lr;omega));(have f0:=(vS.aC HE).x.TN iR.lr t);go_simp;(clear q0 f0))
   refine uK hK bz ?_
   clear hK K hHeld
   intro hHeld
   refine uE ?_
   clear hHeld
   have BK:∀k,Value.ownBlock (.slice a2 m1 c2)=some k→v0.heap.size≤k:=fun k hk=>(World.ownsRow.lt MK k hk).1
   have qD:=aa (show nL V (vd.setCell ⟨gI,t,none⟩ (.slice a2 m1 c2)) [(bH,#[.int .i64 (R.w:Int),.slice ag (nw R.w) cg,.int .i64 (R.w:Int),.slice ak (nw R.w) ck,.slice ac nc cc],47),(bA,#[.int .i64 (R.w:Int),.slice (some ⟨gB,0,none⟩) N cB,.slice (some ⟨gI,0,none⟩) N cI],26)] vd.heap.size (.slice (some ⟨gB,0,none⟩) N cB) (.slice (some ⟨gI,0,none⟩) N cI) LBt (ic.set t ((L0.eraseIdx i),(.slice a2 m1 c2))) from by
    obtain ⟨xQ,hq⟩:=HQ.out
    refine KJ.putRow iR.lr xQ hq Sn.lM (by
     have PX:(L0.eraseIdx i).length=m1:=by rw [List.length_eraseIdx,if_pos GY.out,xP,Cf]
     rw [PX]
     exact dY MK (Nat.zero_le _)) (fun p hp=>?_) (.inr BK)
    have h1:kA.ok (aQ (.slice (some ⟨gB,0,none⟩) N cB) (.slice (some ⟨gI,0,none⟩) N cI) ic) v0 p:=KJ.x.rowOk xQ p (by rw [hq];exact List.mem_of_mem_eraseIdx hp)
    exact kA.mono (kA.ext (kA.mono (M':=fun b=>(aQ (.slice (some ⟨gB,0,none⟩) N cB) (.slice (some ⟨gI,0,none⟩) N cI) ic) b∨v0.heap.size≤b) h1 (fun j hj e=>e.elim id (fun e=>by omega))) Sn (fun _ _ e=>e.elim)) (fun j hj e=>UF BK hj e))
   have Ua:=aa (show ∀k,(aQ (.slice (some ⟨gB,0,none⟩) N cB) (.slice (some ⟨gI,0,none⟩) N cI) (ic.set t ((L0.eraseIdx i),(.slice a2 m1 c2)))) k→(aQ (.slice (some ⟨gB,0,none⟩) N cB) (.slice (some ⟨gI,0,none⟩) N cI) ic) k∨bH≤k from fun k e=>(wK e).imp id (fun e=>by have h1:=BK k e;have h2:=WH.out;have h3:=Px.out;omega))
   have NL:=aa ((HSH.aj HE).ext (show Ext (At gI) vd (vd.setCell ⟨gI,t,none⟩ (.slice a2 m1 c2)) from (Ext.refl (At gI) vd).setAt t (.slice a2 m1 c2)) (fun k _ e=> .inl (.inr (.inl (by rw [show k=gI from e];rfl)))))
   have HSG:=aa (show bH≤(vd.setCell ⟨gI,t,none⟩ (.slice a2 m1 c2)).heap.size from by have h1:=Px.out;have h2:=HE.size;have h3:(vd.setCell ⟨gI,t,none⟩ (.slice a2 m1 c2)).heap.size=vd.heap.size:=(by simp);omega)
   clear BK vS MK Sn KJ WH HE HSH Px Qk Ca Tt Cb
   go_upto_region 11 with (fail)
   generalize World.setCell vd _ _=U2 at*
   generalize vd.heap.size=Xb at*
   have Ca:=aa (show U2.heap[bA]? =some (.cells #[.int .i64 (R.w:Int),.slice (some ⟨gB,0,none⟩) N cB,.slice (some ⟨gI,0,none⟩) N cI] 26 (0,0)) from (qD.bx (bA,#[.int .i64 (R.w:Int),.slice (some ⟨gB,0,none⟩) N cB,.slice (some ⟨gI,0,none⟩) N cI],26) (by simp)).1)
   have Tt:=aa (show U2.heap[bH]? =some (.cells #[.int .i64 (R.w:Int),.slice ag (nw R.w) cg,.int .i64 (R.w:Int),.slice ak (nw R.w) ck,.slice ac nc cc] 47 (0,0)) from (qD.bx (bH,#[.int .i64 (R.w:Int),.slice ag (nw R.w) cg,.int .i64 (R.w:Int),.slice ak (nw R.w) ck,.slice ac nc cc],47) (by simp)).1)
   obtain ⟨vbn,Zk,Uc⟩:=iR.set hn
   rw [Dx] at Uc
   have hsn:=qD.x.rO Zk Uc (by have:=uw.w8;omega) (uw.ok.bn n)
   obtain ⟨abn,cbn,rfl⟩:=hsn.slice
   have Sg:=aa hsn
   have Vn:=aa (show U2.cell? ⟨gB,n*2,none⟩=some (.int .i64 (R.w:Int))∧U2.cell? ⟨gB,n*2+1,none⟩=some (.slice abn (nw R.w) cbn) from by
    have h9:=qD.x.qP iR.lb Zk
    rw [Uc] at h9
    exact h9)
   obtain ⟨vbt,hBt,Ud⟩:=iR.set hlt
   rw [MX] at Ud
   have hst:=qD.x.rO hBt Ud (by have:=uw.w8;omega) (uw.ok.bn t)
   obtain ⟨abt,cbt,rfl⟩:=hst.slice
   have aam:=aa hst
   have Xn:=aa (show U2.cell? ⟨gB,t*2,none⟩=some (.int .i64 (R.w:Int))∧U2.cell? ⟨gB,t*2+1,none⟩=some (.slice abt (nw R.w) cbt) from by
    have h9:=qD.x.qP iR.lb hBt
    rw [Ud] at h9
    exact h9)
   clear hsn Uc hst Ud
   go_cut [11,12] (fun s11 s12 wx=>∃(bb:Nat) (a6:Option Addr) (c6:Nat),s11= .pointer (some ⟨bb,0,none⟩)∧s12= .int .i64 0∧Hid (Ext No U2 wx)∧Hid (wx.heap[bb]? =some (.cells #[.int .i64 (R.w:Int),.slice a6 (nw R.w) c6] 44 (0,0)))∧Hid (aG No wx (.slice a6 (nw R.w) c6) R.w (bL f (dA R.bnd n))))
   case first=>
    refine aL [11] (fun w'=>Ext No U2 w') (by kernel_rfl) ?_ (fun hHeld=>?_)
    ·exact bX
    have HE:=aa (show Ext No U2 U2.drew from (Ext.refl _ _).drew)
    generalize U2.drew=v0 at*
    refine uJ [0,1,2,3,4,5] hHeld ?_
    clear hHeld
    refine uL ?_ (hy:=(by intro w hSw;(have x0:=cellOf ((show Ext No U2 _ from hSw).blk Tt ax));go_simp;(try with_reducible rfl)))
    refine uF ?_
    refine uL ?_ (hy:=yj)
    iterate 2 refine uF ?_
    refine uL ?_ (hy:=xW)
    refine uZ fun hHeld=>?_
    refine gT (i:=6) (j:=10) (by kernel_rfl) (iV.mk rfl rfl (fun K hK=>?_)) (iV.mk rfl rfl (fun K hK=>?_))
    ·(go_simp;go_at_call 69;(refine (AP (fun b=>((aQ (.slice (some ⟨gB,0,none⟩) N cB) (.slice (some ⟨gI,0,none⟩) N cI) ic) b∨bH≤b)∧b < v0.heap.size) f R.w (dA R.bnd n) _ _ _ _ _ pI (fun b e=>e.2) ((NL.aj HE).mono (fun j _ e=>e.1)) (Sg.aj HE)).mono ?_);(rintro e0 va ⟨a6,c6,rfl,hs6,aF⟩);go_simp)
     refine uK hK eu ?_
     clear hK K hHeld
     intro hHeld
     have G8:=aa (hs6.mono (M':=No) (fun _ _ e=>e.elim))
     replace HE:=aa (HE.af aF)
     clear aF hs6
     refine uJ [7,8,9] hHeld ?_
     clear hHeld
     iterate 3 refine uF ?_
     refine uZ fun hHeld=>?_
     refine uN 10 fun K hK=>?_
     go_simp
     refine uK hK fF ?_
     clear hK K hHeld
     intro hHeld
     have hya:=(Ext.refl No va).alloc (.cells #[.int .i64 0,.slice none 0 0] 44)
     have pO:=aa (ah (w:=va) (o:= .cells #[.int .i64 0,.slice none 0 0] 44) rfl)
     have ML:=aa (show U2.heap.size≤va.heap.size from HE.size)
     replace G8:=aa (G8.aj hya)
     replace HE:=aa (HE.af hya)
     clear hya
     generalize World.alloc va _=Kt at*
     generalize va.heap.size=bb at*
     refine uN 11 fun K hK=>?_
     ((have cS:=cellOf pO.out);(have fS:=aH pO.out);go_simp;(clear cS fS))
     refine uK hK bz ?_
     clear hK K hHeld
     intro hHeld
     refine uJ [12] hHeld ?_
     clear hHeld
     refine uF ?_
     refine uZ fun hHeld=>?_
     refine uE ?_
     clear hHeld
     have I6:Ext (At bb) Kt ((Kt.setCell ⟨bb,0,none⟩ (.int .i64 (R.w:Int))).setCell ⟨bb,1,none⟩ (.slice a6 (nw R.w) c6)):=((Ext.refl (At bb) Kt).setAt _ _).setAt _ _
     exact Ey
    go_simp
    refine uK hK fF ?_
    clear hK K hHeld
    intro hHeld
    have hya:=(Ext.refl No v0).alloc (.cells #[.int .i64 0,.slice none 0 0] 44)
    have pO:=aa (ah (w:=v0) (o:= .cells #[.int .i64 0,.slice none 0 0] 44) rfl)
    have ML:=aa (show U2.heap.size≤v0.heap.size from HE.size)
    replace HE:=aa (HE.af hya)
    clear hya
    generalize World.alloc v0 _=v02 at*
    generalize v0.heap.size=bb at*
    refine uN 6 fun K hK=>?_
    (go_simp;go_at_call 69;(refine (AP (fun b=>((aQ (.slice (some ⟨gB,0,none⟩) N cB) (.slice (some ⟨gI,0,none⟩) N cI) ic) b∨bH≤b)∧b < v02.heap.size) f R.w (dA R.bnd n) _ _ _ _ _ pI (fun b e=>e.2) ((NL.aj HE).mono (fun j _ e=>e.1)) (Sg.aj HE)).mono ?_);(rintro e0 va ⟨a6,c6,rfl,hs6,aF⟩);go_simp)
    refine uK hK eu ?_
    clear hK K hHeld
    intro hHeld
    replace pO:=aa (aF.blk pO ax)
    have G8:=aa (hs6.mono (M':=No) (fun _ _ e=>e.elim))
    replace HE:=aa (HE.af aF)
    clear aF hs6
    refine uJ [7,8,9] hHeld ?_
    clear hHeld
    iterate 3 refine uF ?_
    refine uZ fun hHeld=>?_
    refine uN 11 fun K hK=>?_
    ((have cS:=cellOf pO.out);(have fS:=aH pO.out);go_simp;(clear cS fS))
    refine uK hK bz ?_
    clear hK K hHeld
    intro hHeld
    refine uJ [12] hHeld ?_
    clear hHeld
    refine uF ?_
    refine uZ fun hHeld=>?_
    refine uE ?_
    clear hHeld
    have I6:Ext (At bb) va ((va.setCell ⟨bb,0,none⟩ (.int .i64 (R.w:Int))).setCell ⟨bb,1,none⟩ (.slice a6 (nw R.w) c6)):=((Ext.refl (At bb) va).setAt _ _).setAt _ _
    exact Ey
   case rest=>
   obtain ⟨bb,a6,c6,rfl,rfl,WK,qM,HSF⟩:=hcut
   rename World=>Sr
   have Ue:=aa (qD.aC WK)
   have aan:=aa (NL.aj WK)
   have aak:=aa (WK.blk Ca ax)
   have aao:=aa (show Sr.cell? ⟨gB,t*2,none⟩=some (.int .i64 (R.w:Int))∧Sr.cell? ⟨gB,t*2+1,none⟩=some (.slice abt (nw R.w) cbt) from ⟨WK.keep Xn.1,WK.keep Xn.2⟩)
   have aap:=aa (aam.aj WK)
   clear qD NL Ca Tt Sg Vn aam Xn WK HSG
   apply_assumption
   go_upto_region 12 with (fail)
   refine aL [11] (fun w'=>Ext No Sr w') (by kernel_rfl) ?_ (fun hHeld=>?_)
   ·exact bX
   have HE:=aa (show Ext No Sr Sr.drew from (Ext.refl _ _).drew)
   generalize Sr.drew=v0 at*
   refine uJ [0,1,2,3,4,5,6,7,8] hHeld ?_
   clear hHeld
   refine uF ?_
   refine uL ?_ (hy:=Ew)
   iterate 2 refine uF ?_
   refine uL ?_ (hy:=Ew)
   iterate 2 refine uF ?_
   refine uL ?_ (hy:=(by intro w hSw;(obtain ⟨p0,p1⟩:=aao.out);(have x0:=(show Ext No Sr _ from hSw).keep p0);(have x1:=(show Ext No Sr _ from hSw).keep p1);go_simp;(try with_reducible rfl)))
   refine uL ?_ (hy:=(by intro w hSw;(have x0:=cellOf ((show Ext No Sr _ from hSw).blk qM ax));go_simp;(try with_reducible rfl)))
   refine uZ fun hHeld=>?_
   refine uN 9 fun K hK=>?_
   (go_simp;go_at_call 71;(refine (oV (aQ (.slice (some ⟨gB,0,none⟩) N cB) (.slice (some ⟨gI,0,none⟩) N cI) (ic.set t ((L0.eraseIdx i),(.slice a2 m1 c2)))) R.w (dA R.bnd t) (bL f (dA R.bnd n)) _ _ _ (fun b e=>by have h1:=((Ue.aC HE).x.own e).2;have h2:=(Ue.aC HE).x.lh;omega) (aap.aj HE) (HSF.aj HE)).mono ?_);(rintro e0 va ⟨a7,c7,rfl,hs6,aF⟩);go_simp)
   refine uK hK eu ?_
   clear hK K hHeld
   intro hHeld
   have rE:=aa ((Ue.aC (HE.af aF)).top)
   have NF:=aa (hs6.words.mono (M':=dW (.slice (some ⟨gB,0,none⟩) N cB) (.slice (some ⟨gI,0,none⟩) N cI) (ic.set t ((L0.eraseIdx i),(.slice a2 m1 c2))) va.heap.size 0) (fun k hk e=>Hy hk e))
   replace HE:=aa (HE.af aF)
   clear aF
   refine uJ [10] hHeld ?_
   clear hHeld
   refine uF ?_
   refine uZ fun hHeld=>?_
   refine uN 11 fun K hK=>?_
   ((obtain ⟨q0,q1⟩:=rE.x.qP iR.lb (t:=t) (by have:=iR.lb;omega));(have f0:=rE.x.Cn iR.lb (t*2));(have f1:=rE.x.Cn iR.lb (t*2+1));go_simp;(clear q0 q1 f0 f1))
   refine uK hK bz ?_
   clear hK K hHeld
   intro hHeld
   refine uE ?_
   clear hHeld
   have BJ:=aa (show nL V ((va.setCell ⟨gB,t*2,none⟩ (.int .i64 (R.w:Int))).setCell ⟨gB,t*2+1,none⟩ (.slice a7 (nw R.w) c7)) [(bH,#[.int .i64 (R.w:Int),.slice ag (nw R.w) cg,.int .i64 (R.w:Int),.slice ak (nw R.w) ck,.slice ac nc cc],47),(bA,#[.int .i64 (R.w:Int),.slice (some ⟨gB,0,none⟩) N cB,.slice (some ⟨gI,0,none⟩) N cI],26)] va.heap.size (.slice (some ⟨gB,0,none⟩) N cB) (.slice (some ⟨gI,0,none⟩) N cI) (LBt.set t (bJ R.w (gP (dA R.bnd t) (bL f (dA R.bnd n))),.slice a7 (nw R.w) c7)) (ic.set t ((L0.eraseIdx i),(.slice a2 m1 c2))) from rE.Ad (p:=(bJ R.w (gP (dA R.bnd t) (bL f (dA R.bnd n))),.slice a7 (nw R.w) c7)) iR.lb (by have:=iR.lb;omega) NF)
   have Zj:=aa ((aan.aj HE).ext (show Ext (At gB) va ((va.setCell ⟨gB,t*2,none⟩ (.int .i64 (R.w:Int))).setCell ⟨gB,t*2+1,none⟩ (.slice a7 (nw R.w) c7)) from ((Ext.refl _ _).setAt _ _).setAt _ _) (fun k _ e=> .inl (.inl (by rw [show k=gB from e];rfl))))
   clear Ue rE NF hs6 HE aan aak aao aap HSF qM
   go_upto_region 13 with (fail)
   generalize World.setCell (World.setCell va _ _) _ _=U3 at*
   generalize va.heap.size=Xc at*
   obtain ⟨PO,KD⟩:∃PO,PO=LBt.set t (bJ R.w (gP (dA R.bnd t) (bL f (dA R.bnd n))),.slice a7 (nw R.w) c7):=⟨_,rfl⟩
   rw [←KD] at BJ
   have Qg:=aa KD
   clear KD
   obtain ⟨E,hE0⟩:∃E,E=(aR R t).eraseIdx i:=⟨_,rfl⟩
   have Ww:=aa (show dP R.w R.ins.length E from by rw [hE0];exact HRO.erase)
   have Sj:=aa hE0
   clear hE0
   obtain ⟨Ln,vn,⟨hnR,Wp⟩,hLn⟩:=iR.row hn
   rw [Dw] at hLn
   have jT:=aa hLn
   obtain ⟨mn,hmn⟩:∃mn,mn=(aR R n).length:=⟨_,rfl⟩
   have Pz:=aa hmn
   have aaW:mn≤32:=by have:=(uw.ok.row n).len;have:=IC.out;omega
   have aaq:Ln.length=mn:=by have h9:=congrArg List.length hLn;rw [List.length_map,dK,←hmn] at h9;exact h9
   have aar:jb kA No U3 vn Ln:=by
    have h9:=BJ.x.row (t:=n) (by rw [List.length_set];exact hnR)
    rw [List.getElem_set_ne htn] at h9
    rw [Wp] at h9
    exact h9
   obtain ⟨an,cn,BK⟩:=aar.slice
   rw [aaq] at BK
   subst BK
   have abT:=aa (show ∀(wq:World) (lq:Nat) (Vp:LS) (q:LA×Value) (Bs:List (Nat×Array Value×TypeId)),nL V wq Bs lq (.slice (some ⟨gB,0,none⟩) N cB) (.slice (some ⟨gI,0,none⟩) N cI) Vp (ic.set t q)→jb kA No wq (.slice an mn cn) Ln∧(∀p∈Ln,kA.ok (aQ (.slice (some ⟨gB,0,none⟩) N cB) (.slice (some ⟨gI,0,none⟩) N cI) (ic.set t q)) wq p)∧wq.cell? ⟨gI,n,none⟩=some (.slice an mn cn) from fun wq lq Vp q Bs hq=>by
    have hl:n < (ic.set t q).length:=by rw [List.length_set];exact hnR
    have he:(ic.set t q)[n]=(Ln,.slice an mn cn):=by rw [List.getElem_set_ne htn,Wp]
    have h1:=hq.x.row hl
    have h2:=hq.x.rowOk hl
    have h3:=hq.x.kV (by rw [List.length_set];exact iR.lr) hl
    rw [he] at h1 h2 h3
    exact ⟨h1,h2,h3⟩)
   have aas:=aa (show bH≤U3.heap.size from by have h1:=lt_of_block (show U3.heap[bH]? =some (.cells #[.int .i64 (R.w:Int),.slice ag (nw R.w) cg,.int .i64 (R.w:Int),.slice ak (nw R.w) ck,.slice ac nc cc] 47 (0,0)) from (BJ.bx (bH,#[.int .i64 (R.w:Int),.slice ag (nw R.w) cg,.int .i64 (R.w:Int),.slice ak (nw R.w) ck,.slice ac nc cc],47) (by simp)).1);omega)
   clear aar hLn hmn Wp aaq
   go_wp2_with fail
   go_loopw [13,14,15] (fun s13 _ _ wy=>∃(k KE:Nat) (L:LA) (av:Option Addr) (nv cv:Nat),s13= .int .i64 k∧k≤mn∧Hid (nL V wy [(bH,#[.int .i64 (R.w:Int),.slice ag (nw R.w) cg,.int .i64 (R.w:Int),.slice ak (nw R.w) ck,.slice ac nc cc],47),(bA,#[.int .i64 (R.w:Int),.slice (some ⟨gB,0,none⟩) N cB,.slice (some ⟨gI,0,none⟩) N cI],26)] KE (.slice (some ⟨gB,0,none⟩) N cB) (.slice (some ⟨gI,0,none⟩) N cI) PO (ic.set t (L,.slice av nv cv)))∧Hid (L.map fJ=aT (jg ((aR R n).take k) f E))∧Hid (dF (fun b=>(aQ (.slice (some ⟨gB,0,none⟩) N cB) (.slice (some ⟨gI,0,none⟩) N cI) ic) b∨bH≤b) wy (.slice ag (nw R.w) cg) (.slice ak (nw R.w) ck) (.slice ac nc cc) f)∧Hid (∀b,Value.ownBlock (.slice av nv cv)=some b→(aQ (.slice (some ⟨gB,0,none⟩) N cB) (.slice (some ⟨gI,0,none⟩) N cI) ic) b∨bH≤b)∧Hid (bH≤wy.heap.size)∧Hid (nv=L.length)) (fun s13 _ _ _=>mn - (intOf s13).toNat)
   case atStart=>exact ⟨0,_,_,_,_,_,rfl,Nat.zero_le _,BJ,aa (by
     rw [List.take_zero,jg,List.foldl_nil,Sj,aT,List.eraseIdx_eq_take_drop_succ,List.eraseIdx_eq_take_drop_succ,List.map_append,List.map_append,List.map_take,List.map_drop,G5,aT,List.map_take,List.map_drop]),Zj,aa (fun b e=>Ua b (UE (by have:=iR.lr;omega) e)),aas,aa (by rw [List.length_eraseIdx,if_pos GY.out,xP,Cf])⟩
   clear BJ Zj aas
   obtain ⟨k,KE,L,av,nv,cv,rfl,hk,hRk,vH,Cg,YT,Vu,HNV⟩:=hrel
   rename World=>wy
   obtain ⟨hrn,V5,hcn⟩:=abT.out _ _ _ _ _ hRk
   have TV:=aa hcn
   have Ca:=aa (show wy.heap[bA]? =some (.cells #[.int .i64 (R.w:Int),.slice (some ⟨gB,0,none⟩) N cB,.slice (some ⟨gI,0,none⟩) N cI] 26 (0,0)) from (hRk.bx (bA,#[.int .i64 (R.w:Int),.slice (some ⟨gB,0,none⟩) N cB,.slice (some ⟨gI,0,none⟩) N cI],26) (by simp)).1)
   have Tt:=aa (show wy.heap[bH]? =some (.cells #[.int .i64 (R.w:Int),.slice ag (nw R.w) cg,.int .i64 (R.w:Int),.slice ak (nw R.w) ck,.slice ac nc cc] 47 (0,0)) from (hRk.bx (bH,#[.int .i64 (R.w:Int),.slice ag (nw R.w) cg,.int .i64 (R.w:Int),.slice ak (nw R.w) ck,.slice ac nc cc],47) (by simp)).1)
   have qcA:=cellOf Ca.out
   by_cases hlt2:k < mn
   ·have hkz:(k:Int) < (mn:Int):=by omega
    have ac7:(0:Int)≤(k:Int):=by omega
    have HKI:Hid (Value.int .i64 ((k:Int)+1)= .int .i64 ((k+1:Nat):Int)):=aa (by rw [show ((k+1:Nat):Int)=(k:Int)+1 from by omega])
    have pJ:=aa (show k < (aR R n).length from by rw [←Pz];exact hlt2)
    obtain ⟨⟨mk,fk⟩,hmk⟩:∃q:Nat×cK,q=(aR R n)[k]'pJ.out:=⟨_,rfl⟩
    have Tq:=aa (show (mk,fk)=(aR R n)[k]'pJ.out from hmk)
    obtain ⟨b,off,cap',pY,cg2,xL,ck2,xM,xN,xO,hsl,gt,G6,Yk⟩:=pQ (M:=(aQ (.slice (some ⟨gB,0,none⟩) N cB) (.slice (some ⟨gI,0,none⟩) N cI) (ic.set t (L,.slice av nv cv)))) (uw.ok.row n).jX hrn jT.out V5 pJ.out hmk
    rw [←Pz] at hsl
    simp only [Value.slice.injEq] at hsl
    obtain ⟨rfl,-,rfl⟩:=hsl
    have PM:=aa gt
    have Nz:=aa (show ∀j,(aQ (.slice (some ⟨gB,0,none⟩) N cB) (.slice (some ⟨gI,0,none⟩) N cI) (ic.set t (L,.slice av nv cv))) j→(aQ (.slice (some ⟨gB,0,none⟩) N cB) (.slice (some ⟨gI,0,none⟩) N cI) ic) j∨bH≤j from fun j e=>(wK e).elim .inl (fun e=>YT j e))
    clear gt hmk hrn V5
    go_upto_region 16 with (fail)
    clear qcA hcn
    go_cut [14,15] (fun s14 s15 wx=>∃(bF:Nat) (x1:Option Addr) (y1:Nat) (x2:Option Addr) (y2:Nat) (x3:Option Addr) (z3 y3:Nat),s14= .pointer (some ⟨bF,0,none⟩)∧s15= .int .i64 0∧Hid (wy.heap.size≤bF)∧Hid (Ext No wy wx)∧Hid (wx.heap[bF]? =some (.cells #[.int .i64 (R.w:Int),.slice x1 (nw R.w) y1,.int .i64 (R.w:Int),.slice x2 (nw R.w) y2,.slice x3 z3 y3] 47 (0,0)))∧Hid (dF (aQ (.slice (some ⟨gB,0,none⟩) N cB) (.slice (some ⟨gI,0,none⟩) N cI) (ic.set t (L,.slice av nv cv))) wx (.slice x1 (nw R.w) y1) (.slice x2 (nw R.w) y2) (.slice x3 z3 y3) (gJ fk f)))
    case first=>
     refine aL [15] (fun w'=>Ext No wy w') (by kernel_rfl) ?_ (fun hHeld=>?_)
     ·exact bX
     have HE:=aa (show Ext No wy wy.drew from (Ext.refl _ _).drew)
     generalize wy.drew=v0 at*
     refine uJ [0,1,2,3,4,5,6,7,8,9] hHeld ?_
     clear hHeld
     refine uF ?_
     refine uL ?_ (hy:=(by intro w hSw;(have x0:=cellOf ((show Ext No wy _ from hSw).blk Ca ax));go_simp;(try with_reducible rfl)))
     iterate 2 refine uF ?_
     refine uL ?_ (hy:=(by intro w hSw;(have x0:=(show Ext No wy _ from hSw).keep TV);go_simp;(try with_reducible rfl)))
     iterate 3 refine uF ?_
     refine uL ?_ (hy:=(by intro w hSw;(obtain ⟨p0,p1,p2,p3,p4,p5⟩:=PM.out);(have x0:=(show Ext No wy _ from hSw).keep p0);(have x1:=(show Ext No wy _ from hSw).keep p1);(have x2:=(show Ext No wy _ from hSw).keep p2);(have x3:=(show Ext No wy _ from hSw).keep p3);(have x4:=(show Ext No wy _ from hSw).keep p4);(have x5:=(show Ext No wy _ from hSw).keep p5);go_simp;(try with_reducible rfl)))
     refine uL ?_ (hy:=(by intro w hSw;(have x0:=cellOf ((show Ext No wy _ from hSw).blk Tt ax));go_simp;(try with_reducible rfl)))
     refine uZ fun hHeld=>?_
     refine gT (i:=10) (j:=14) (by kernel_rfl) (iV.mk rfl rfl (fun K hK=>?_)) (iV.mk rfl rfl (fun K hK=>?_))
     ·(go_simp;go_at_call 70;(refine (zY (aQ (.slice (some ⟨gB,0,none⟩) N cB) (.slice (some ⟨gI,0,none⟩) N cI) (ic.set t (L,.slice av nv cv))) fk f R.w _ _ _ _ _ _ _ Yk pI uw.w8 (fun b e=>by have h1:=((hRk.aC HE).x.own e).2;have h2:=(hRk.aC HE).x.lh;omega) (G6.aj HE) ((Cg.aj HE).mono (fun j _ e=>Nz j e))).mono ?_);(rintro e0 va ⟨x1,y1,x2,y2,x3,z3,y3,rfl,hs6,aF⟩);go_simp)
      refine uK hK eu ?_
      clear hK K hHeld
      intro hHeld
      have G8:=aa hs6.out
      replace HE:=aa (HE.af aF)
      clear aF hs6
      refine uJ [11,12,13] hHeld ?_
      clear hHeld
      iterate 3 refine uF ?_
      refine uZ fun hHeld=>?_
      refine uN 14 fun K hK=>?_
      go_simp
      refine uK hK fF ?_
      clear hK K hHeld
      intro hHeld
      have hya:=(Ext.refl No va).alloc (.cells #[.int .i64 0,.slice none 0 0,.int .i64 0,.slice none 0 0,.slice none 0 0] 47)
      have pO:=aa (ah (w:=va) (o:= .cells #[.int .i64 0,.slice none 0 0,.int .i64 0,.slice none 0 0,.slice none 0 0] 47) rfl)
      have ML:=aa (show wy.heap.size≤va.heap.size from HE.size)
      replace G8:=aa (G8.aj hya)
      replace HE:=aa (HE.af hya)
      clear hya
      generalize World.alloc va _=Kt at*
      generalize va.heap.size=bF at*
      refine uN 15 fun K hK=>?_
      ((have cS:=cellOf pO.out);(have fS:=aH pO.out);go_simp;(clear cS fS))
      refine uK hK bz ?_
      clear hK K hHeld
      intro hHeld
      refine uJ [16] hHeld ?_
      clear hHeld
      refine uF ?_
      refine uZ fun hHeld=>?_
      refine uE ?_
      clear hHeld
      have I6:Ext (At bF) Kt (((((Kt.setCell ⟨bF,0,none⟩ (.int .i64 (R.w:Int))).setCell ⟨bF,1,none⟩ (.slice x1 (nw R.w) y1)).setCell ⟨bF,2,none⟩ (.int .i64 (R.w:Int))).setCell ⟨bF,3,none⟩ (.slice x2 (nw R.w) y2)).setCell ⟨bF,4,none⟩ (.slice x3 z3 y3)):=(((((Ext.refl (At bF) Kt).setAt _ _).setAt _ _).setAt _ _).setAt _ _).setAt _ _
      exact Ex
     go_simp
     refine uK hK fF ?_
     clear hK K hHeld
     intro hHeld
     have hya:=(Ext.refl No v0).alloc (.cells #[.int .i64 0,.slice none 0 0,.int .i64 0,.slice none 0 0,.slice none 0 0] 47)
     have pO:=aa (ah (w:=v0) (o:= .cells #[.int .i64 0,.slice none 0 0,.int .i64 0,.slice none 0 0,.slice none 0 0] 47) rfl)
     have ML:=aa (show wy.heap.size≤v0.heap.size from HE.size)
     replace HE:=aa (HE.af hya)
     clear hya
     generalize World.alloc v0 _=v02 at*
     generalize v0.heap.size=bF at*
     refine uN 10 fun K hK=>?_
     (go_simp;go_at_call 70;(refine (zY (aQ (.slice (some ⟨gB,0,none⟩) N cB) (.slice (some ⟨gI,0,none⟩) N cI) (ic.set t (L,.slice av nv cv))) fk f R.w _ _ _ _ _ _ _ Yk pI uw.w8 (fun b e=>by have h1:=((hRk.aC HE).x.own e).2;have h2:=(hRk.aC HE).x.lh;omega) (G6.aj HE) ((Cg.aj HE).mono (fun j _ e=>Nz j e))).mono ?_);(rintro e0 va ⟨x1,y1,x2,y2,x3,z3,y3,rfl,hs6,aF⟩);go_simp)
     refine uK hK eu ?_
     clear hK K hHeld
     intro hHeld
     replace pO:=aa (aF.blk pO ax)
     have G8:=aa hs6.out
     replace HE:=aa (HE.af aF)
     clear aF hs6
     refine uJ [11,12,13] hHeld ?_
     clear hHeld
     iterate 3 refine uF ?_
     refine uZ fun hHeld=>?_
     refine uN 15 fun K hK=>?_
     ((have cS:=cellOf pO.out);(have fS:=aH pO.out);go_simp;(clear cS fS))
     refine uK hK bz ?_
     clear hK K hHeld
     intro hHeld
     refine uJ [16] hHeld ?_
     clear hHeld
     refine uF ?_
     refine uZ fun hHeld=>?_
     refine uE ?_
     clear hHeld
     have I6:Ext (At bF) va (((((va.setCell ⟨bF,0,none⟩ (.int .i64 (R.w:Int))).setCell ⟨bF,1,none⟩ (.slice x1 (nw R.w) y1)).setCell ⟨bF,2,none⟩ (.int .i64 (R.w:Int))).setCell ⟨bF,3,none⟩ (.slice x2 (nw R.w) y2)).setCell ⟨bF,4,none⟩ (.slice x3 z3 y3)):=(((((Ext.refl (At bF) va).setAt _ _).setAt _ _).setAt _ _).setAt _ _).setAt _ _
     exact Ex
    case rest=>
    obtain ⟨bF,x1,y1,x2,y2,x3,z3,y3,rfl,rfl,ML,vR,aag,TB⟩:=hcut
    rename World=>wx
    have PZ:=aa (hRk.aC vR)
    have aah:=aa (vR.blk Ca ax)
    have aa0:=aa (vR.keep TV)
    have Qm:t < (ic.set t (L,.slice av nv cv)).length:=by rw [List.length_set];have:=iR.lr;omega
    have aa1:=aa (show wx.cell? ⟨gI,t,none⟩=some (.slice av nv cv) from by
     have h9:=PZ.x.kV (by rw [List.length_set];exact iR.lr) (t:=t) Qm
     rw [List.getElem_set_self] at h9
     exact h9)
    have IG:=aa (show jb kA No wx (.slice av nv cv) L from by have h9:=PZ.x.row Qm;rw [List.getElem_set_self] at h9;exact h9)
    have P5:=aa (show ∀p∈L,kA.ok (aQ (.slice (some ⟨gB,0,none⟩) N cB) (.slice (some ⟨gI,0,none⟩) N cI) (ic.set t (L,.slice av nv cv))) wx p from by have h9:=PZ.x.rowOk Qm;rw [List.getElem_set_self] at h9;exact h9)
    have abU:=aa (show (Value.slice av nv cv= .slice none 0 0∧L=[])∨∃g c,Value.slice av nv cv= .slice (some ⟨g,0,none⟩) L.length c from by
     have h9:=(PZ.x.r _ (List.getElem_mem Qm)).own
     rw [List.getElem_set_self] at h9
     rcases h9.2 with ⟨h1,h2⟩|⟨g,c,cur,h1,_⟩
     ·exact .inl ⟨h1,List.length_eq_zero_iff.1 h2⟩
     exact .inr ⟨g,c,h1⟩)
    have KF:=vV uw.w8 (show eO fk∧fk.w=R.w from ⟨by rw [show fk=((aR R n)[k]'pJ.out).2 from congrArg Prod.snd Tq.out];exact ((uw.ok.row n).jX _ (List.getElem_mem _)).1,Yk⟩) (show eO f∧f.w=R.w from ⟨by rw [show f=((aR R t)[i]'HI1.out).2 from congrArg Prod.snd oP.out];exact (HRO.jX _ (List.getElem_mem _)).1,pI⟩)
    have KG:=aa (show dP R.w R.ins.length (jg ((aR R n).take k) f E) from qg uw.w8 ⟨by rw [show f=((aR R t)[i]'HI1.out).2 from congrArg Prod.snd oP.out];exact (HRO.jX _ (List.getElem_mem _)).1,pI⟩ _ _ ((uw.ok.row n).taken k) Ww)
    obtain ⟨lk,hlk⟩:∃lk,lk=jg ((aR R n).take k) f E:=⟨_,rfl⟩
    rw [←hlk] at vH KG
    have TY:=aa hlk
    have aa2:=aa (show lk.length≤32 from by have:=KG.len;have:=IC.out;omega)
    obtain ⟨fc,hfc⟩:∃fc,fc=gJ fk f:=⟨_,rfl⟩
    rw [←hfc] at KF TB
    have HFC:=aa hfc
    have HFW:=aa KF.2
    clear hlk hfc KF Qm
    apply_assumption
    go_upto_region 19 with (fail)
    refine aL [24] (fun w'=>Ext No wx w') (by kernel_rfl) ?_ (fun hHeld=>?_)
    ·exact bX
    have HE:=aa (show Ext No wx wx.drew from (Ext.refl _ _).drew)
    generalize wx.drew=v0 at*
    refine uJ [0,1,2,3,4,5,6,7,8,9,10,11,12,13,14,15,16,17,18] hHeld ?_
    clear hHeld
    refine uF ?_
    refine uL ?_ (hy:=sQ)
    iterate 2 refine uF ?_
    refine uL ?_ (hy:=sQ)
    iterate 2 refine uF ?_
    refine uL ?_ (hy:=(by intro w hSw;(have x0:=(show Ext No wx _ from hSw).keep aa1);go_simp;(try with_reducible rfl)))
    refine uF ?_
    refine uL ?_ (hy:=sQ)
    iterate 2 refine uF ?_
    refine uL ?_ (hy:=(by intro w hSw;(have x0:=(show Ext No wx _ from hSw).keep aa0);go_simp;(try with_reducible rfl)))
    iterate 3 refine uF ?_
    refine uL ?_ (hy:=(by intro w hSw;(obtain ⟨p0,-,-,-,-,-⟩:=PM.out);(have x0:=(show Ext No wx _ from hSw).keep (vR.keep p0));go_simp;(try with_reducible rfl)))
    refine uL ?_ (hy:=Er)
    refine uF ?_
    refine uZ fun hHeld=>?_
    refine uN 19 fun K hK=>?_
    (go_simp;go_at_call 72;(refine (LF (aQ (.slice (some ⟨gB,0,none⟩) N cB) (.slice (some ⟨gI,0,none⟩) N cI) (ic.set t (L,.slice av nv cv))) R.w R.ins.length mk fc _ L lk _ _ _ _ _ _ _ v0 (fun b e=>by have h1:=((PZ.aC HE).x.own e).2;have h2:=(PZ.aC HE).x.lh;omega) uw.w8 KG HFW (IG.aj HE) abU vH (fun p hp=>kA.ext (P5 p hp) HE (fun _ _ e=>e.elim)) (TB.aj HE) aa2).mono ?_);(rintro e9 vd ⟨v1,L1,rfl,hown,V6,IV,aF⟩);go_simp)
    refine uK hK eu ?_
    clear hK K hHeld
    intro hHeld
    obtain ⟨a9,c9,hv1⟩:=(Row.bG (M:=No) hown (fun _ _ x=>x)).slice
    obtain ⟨nl,hnl⟩:∃nl,nl=L1.length:=⟨_,rfl⟩
    rw [←hnl] at hv1
    subst hv1
    have abV:=aa hnl
    have MK:=aa hown.out
    have Sn:=aa aF
    have HRv:=aa (PZ.aC HE)
    have Xi:=aa IV.out
    have aa3:=aa V6.out
    have WH:=aa (show wx.heap.size≤v0.heap.size from HE.size)
    replace HE:=aa (HE.af aF)
    clear hown aF IV V6 hnl
    refine uJ [20,21,22,23] hHeld ?_
    clear hHeld
    iterate 4 refine uF ?_
    refine uZ fun hHeld=>?_
    refine uN 24 fun K hK=>?_
    ((have q0:=(PZ.aC HE).x.kV (by rw [List.length_set];exact iR.lr) (t:=t) (by rw [List.length_set];have:=iR.lr;omega));(have f0:=(PZ.aC HE).x.TN (by rw [List.length_set];exact iR.lr) t);go_simp;(clear q0 f0))
    refine uK hK bz ?_
    clear hK K hHeld
    intro hHeld
    refine uJ [25] hHeld ?_
    clear hHeld
    refine uF ?_
    refine uZ fun hHeld=>?_
    refine uE ?_
    clear hHeld
    have BK:∀k,Value.ownBlock (.slice a9 nl c9)=some k→v0.heap.size≤k:=fun k hk=>(World.ownsRow.lt MK k hk).1
    have Km:=aa (show nL V (vd.setCell ⟨gI,t,none⟩ (.slice a9 nl c9)) [(bH,#[.int .i64 (R.w:Int),.slice ag (nw R.w) cg,.int .i64 (R.w:Int),.slice ak (nw R.w) ck,.slice ac nc cc],47),(bA,#[.int .i64 (R.w:Int),.slice (some ⟨gB,0,none⟩) N cB,.slice (some ⟨gI,0,none⟩) N cI],26)] vd.heap.size (.slice (some ⟨gB,0,none⟩) N cB) (.slice (some ⟨gI,0,none⟩) N cI) PO (ic.set t (L1,.slice a9 nl c9)) from by
     have h:=HRv.putRow (L':=L1) (v':= .slice a9 nl c9) (by rw [List.length_set];exact iR.lr) (t:=t) (by rw [List.length_set];have:=iR.lr;omega) (List.getElem_set_self _) Sn.lM (dY MK (Nat.zero_le _)) (fun p hp=>kA.mono (Xi p hp) (fun j hj e=>Rn hj e)) (.inr BK)
     rw [List.set_set] at h
     exact h)
    have HS9:=aa (((Cg.aj vR).aj HE).ext (show Ext (At gI) vd (vd.setCell ⟨gI,t,none⟩ (.slice a9 nl c9)) from (Ext.refl (At gI) vd).setAt t _) (fun k _ e=> .inl (.inr (.inl (by rw [show k=gI from e];rfl)))))
    have abW:=aa (show ∀b,Value.ownBlock (.slice a9 nl c9)=some b→(aQ (.slice (some ⟨gB,0,none⟩) N cB) (.slice (some ⟨gI,0,none⟩) N cI) ic) b∨bH≤b from fun b e=> .inr (by have h1:=BK b e;have h2:=WH.out;have h3:=vR.size;have h4:=Vu.out;omega))
    have abX:=aa (show bH≤(vd.setCell ⟨gI,t,none⟩ (.slice a9 nl c9)).heap.size from by have h1:=Vu.out;have h2:=vR.size;have h3:=HE.size;have h4:(vd.setCell ⟨gI,t,none⟩ (.slice a9 nl c9)).heap.size=vd.heap.size:=(by simp);omega)
    go_wp2_with fail
    go_roundw
    case rel=>exact ⟨k+1,_,L1,_,_,_,HKI,by omega,Km,aa (by rw [wW pJ.out,←TY,aa3,←Tq,HFC]),HS9,abW,abX,abV⟩
    case measure=>simp [intOf];omega
   have hge:¬(k:Int) < (mn:Int):=by omega
   have hkm:k=mn:=by omega
   subst hkm
   go_wp2_with fail
   go_roundw
   case rel=>
    refine ⟨t+1,KE,PO,(ic.set t (L,.slice av nv cv)),HKK,by omega,hRk.cut (fun b hb=>by rw [List.mem_singleton.1 hb];simp),aa ⟨?_,?_,fun j hj=>?_,fun j hj=>?_⟩⟩
    ·rw [Qg,List.length_set];exact iR.lb
    ·rw [List.length_set];exact iR.lr
    ·obtain ⟨g1,g2⟩:=wG htn HI HI1 oP
     rw [Qg,List.getElem?_set]
     by_cases e:t=j
     ·subst e
      rw [if_pos rfl,if_pos (by rw [←iR.lb];exact hj),g1]
      rfl
     rw [if_neg e,MZ (fun h=>e h.symm)]
     exact iR.b j hj
    obtain ⟨g1,g2⟩:=wG htn HI HI1 oP
    rw [List.getElem?_set]
    by_cases e:t=j
    ·subst e
     rw [if_pos rfl,if_pos (by rw [←iR.lr];exact hj),g2,←Sj]
     have h9:=vH.out
     rw [List.take_of_length_le (by rw [←Pz];exact Nat.le_refl _)] at h9
     exact congrArg some h9
    rw [if_neg e,M3 (fun h=>e h.symm)]
    exact iR.r j hj
   case measure=>simp [intOf];omega
  have HSK:=aa (iR.skip (fun e=>h1 e.2))
  exact rZ
 have hge:¬(t:Int) < (N:Int):=by omega
 have Yl:t=N:=by omega
 have hmx:=iR.out
 rw [Yl] at hmx
 have uu:=hmx.done hR.x IC (AL uw)
 have oF:=aa uu
 clear uu hmx Yl
 go_wp2_with fail
 refine (kr (R.w:Int) _ _ LBt ic wr hR.x.yw).mono ?_
 rintro e2 w2 ⟨b2,rfl,hb2,hx2⟩
 obtain rfl:b2=true:=hb2.2 (show VW (R.w:Int) LBt ic from V4 (S:=qQ R n) oF)
 have hR2:=aa (hR.aC hx2)
 have Uf:=aa (oF.aC hx2)
 have zV:=aa (hR2.ext.blk HR ax)
 have qA2:=cellOf (show w2.heap[bA]? =some (.cells #[.int .i64 (R.w:Int),.slice (some ⟨gB,0,none⟩) N cB,.slice (some ⟨gI,0,none⟩) N cI] 26 (0,0)) from (hR2.bx (bA,#[.int .i64 (R.w:Int),.slice (some ⟨gB,0,none⟩) N cB,.slice (some ⟨gI,0,none⟩) N cI],26) (by simp)).1)
 have cR:=cellOf zV.out
 have fR:=aH zV.out
 clear hb2 qA
 go_wp2_with fail
 have jR:Ext (At (W.heap.size+1)) w2 (((w2.setCell ⟨W.heap.size+1,0,none⟩ (.int .i64 (R.w:Int))).setCell ⟨W.heap.size+1,1,none⟩ (.slice (some ⟨gB,0,none⟩) N cB)).setCell ⟨W.heap.size+1,2,none⟩ (.slice (some ⟨gI,0,none⟩) N cI)):=jw _ _ _ _ _
 have hbF:=(az (j:=2) (u:= .slice (some ⟨gI,0,none⟩) N cI) (az (j:=1) (u:= .slice (some ⟨gB,0,none⟩) N cB) (az (j:=0) (u:= .int .i64 (R.w:Int)) zV))).trans rfl
 generalize World.setCell (World.setCell (World.setCell w2 _ _) _ _) _ _=WF at*
 have cF:=cellOf hbF
 refine aW rfl ?_
 simp [results,Tryz.results26,go_sem,cF]
 have Vz:=hR2.toW HX0 zV Ce (Nat.le_succ _) jR
 have hew:jK S n=qQ R n:=by unfold jK;rw [←HRD]
 rw [hew]
 exact ⟨gB,cB,gI,cI,lim,LBt,ic,rfl,Vz,aa ⟨Vz.x,Uf.ok,Uf.bnd,Uf.len,Uf.rows⟩⟩

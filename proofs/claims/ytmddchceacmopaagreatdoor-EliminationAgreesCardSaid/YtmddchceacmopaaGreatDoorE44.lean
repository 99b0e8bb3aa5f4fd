
import Derived.Test.YtmddchceacmopaaGreatDoorE43
set_option linter.unusedVariables false
set_option linter.unusedSimpArgs false
namespace Go.Proofs.YtmddchceacmopaaGreatDoor
open Go Go.RowKit
theorem Eo {p:Prop} (h:p:=by
 have Zc:=(az (j:=4) (u:= .slice x3 z3 y3) (az (j:=3) (u:= .slice x2 (nw S.w) y2) (az (j:=2) (u:= .int .i64 (S.w:Int)) (az (j:=1) (u:= .slice x1 (nw S.w) y1) (az (j:=0) (u:= .int .i64 (S.w:Int)) pO))))).trans rfl
 exact yh):p:=h
theorem nL.toW {W V1 wr w':World} {Bs:List (Nat×Array Value×TypeId)} {lim D:Nat} {vb vi:Value} {LB:LS} {RL:fe} {T:TypeId} {x:Int} {a1 a2:Option Addr} {n1 n2 c1 c2:Nat} (h:nL V1 wr Bs lim vb vi LB RL) (hW:Ext No W V1) (hD:wr.heap[D]? =some (.cells #[.int .i64 x,.slice a1 n1 c1,.slice a2 n2 c2] T (0,0))) (YF:D < V1.heap.size) (hDW:W.heap.size≤D) (hx:Ext (At D) wr w'):nL W w' [] lim vb vi LB RL:=by
 refine ⟨(hW.af h.ext).aJ hx (fun i hi e=>by have e2:i=D:=e;omega),h.x.pW hD (fun e=>by have:=h.own D e;omega) hx,fun b hb=>(List.not_mem_nil hb).elim,fun k hk=>Nat.le_trans hW.size (h.own k hk)⟩
theorem aU.xH {M:Nat→Prop} {w:World} {D:Nat} {sl:Value} {l:List Nat} {x y:Int} {a1 a2 a3:Option Addr} {n1 n2 n3 c1 c2 c3:Nat} {T:TypeId} (h:aU M w sl l) (hD:w.heap[D]? =some (.cells #[.int .i64 x,.slice a1 n1 c1,.int .i64 y,.slice a2 n2 c2,.slice a3 n3 c3] T (0,0))):aU (fun b=>M b∨b=D) w sl l:=by
 obtain ⟨⟨h1,h2,a,cap,h3,hcp,h4⟩,hlt⟩:=h
 refine ⟨⟨h1,h2,a,cap,h3,hcp,?_⟩,hlt⟩
 rcases h4 with h4|⟨b,off,h5,h6,h7,h8⟩
 ·exact .inl h4
 by_cases h0:l.length=0
 ·exact .inl h0
 refine .inr ⟨b,off,h5,h6,?_,h8⟩
 rintro (e|e)
 ·exact h7 e
 subst e
 have:=h8 0 _ (AQ l 0 (by omega))
 rw [cellOf hD] at this
 rcases off with _|_|_|_|_|n<;>simp at this
theorem fo.xH {M:Nat→Prop} {w:World} {D:Nat} {sl:Value} {l:List (Int×Int)} {x y:Int} {a1 a2 a3:Option Addr} {n1 n2 n3 c1 c2 c3:Nat} {T:TypeId} (h:fo M w sl l) (hD:w.heap[D]? =some (.cells #[.int .i64 x,.slice a1 n1 c1,.int .i64 y,.slice a2 n2 c2,.slice a3 n3 c3] T (0,0))):fo (fun b=>M b∨b=D) w sl l:=by
 obtain ⟨h1,h2,a,cap,h3,hcp,h4⟩:=h
 refine ⟨h1,h2,a,cap,h3,hcp,?_⟩
 rcases h4 with h4|⟨b,off,h5,h6,h7,h8⟩
 ·exact .inl h4
 by_cases h0:l.length=0
 ·exact .inl h0
 refine .inr ⟨b,off,h5,h6,?_,h8⟩
 rintro (e|e)
 ·exact h7 e
 subst e
 have e0:=h8 0 _ ((sO l 0 0 (by omega) (by omega)).trans rfl)
 have e1:=h8 1 _ ((sO l 0 1 (by omega) (by omega)).trans rfl)
 rw [cellOf hD] at e0 e1
 rcases off with _|_|_|_|_|n<;>simp at e0 e1
theorem bN.xH {M:Nat→Prop} {w:World} {D:Nat} {sg sk sc:Value} {r:dS} {x y:Int} {a1 a2 a3:Option Addr} {n1 n2 n3 c1 c2 c3:Nat} {T:TypeId} (h:bN M w sg sk sc r) (hD:w.heap[D]? =some (.cells #[.int .i64 x,.slice a1 n1 c1,.int .i64 y,.slice a2 n2 c2,.slice a3 n3 c3] T (0,0))):bN (fun b=>M b∨b=D) w sg sk sc r:=
 ⟨h.gen.xH hD,h.kill.xH hD,fo.xH h.copies hD⟩
theorem bN.XP {M:Nat→Prop} {w w':World} {D:Nat} {sg sk sc:Value} {r:dS} {x y:Int} {T:TypeId} (h:bN M w sg sk sc r) (hD:w.heap[D]? =some (.cells #[.int .i64 x,.slice none 0 0,.int .i64 y,.slice none 0 0,.slice none 0 0] T (0,0))) (hx:Ext (At D) w w'):bN M w' sg sk sc r:=
 ((h.xH hD).ext hx (fun i _ e=> .inr e)).mono (fun i _ e=> .inl e)
theorem Rl {vb vi v:Value} {RL:fe} {n k:Nat} {L L':LA} (h:aQ vb vi (RL.set n (L,v)) k):aQ vb vi (RL.set n (L',v)) k:=by
 rcases h with e|e|⟨q,hq,e⟩
 ·exact .inl e
 ·exact .inr (.inl e)
 obtain ⟨j,hj,rfl⟩:=List.getElem_of_mem hq
 have hj2:j < RL.length:=by simpa using hj
 refine .inr (.inr ⟨(RL.set n (L',v))[j]'(by simpa using hj2),List.getElem_mem _,?_⟩)
 by_cases ej:n=j
 ·subst ej;rw [List.getElem_set_self] at e ⊢;exact e
 rw [List.getElem_set_ne ej] at e ⊢;exact e
def Hg (N:Nat) (S':bD) (W:World) (e:Ending) (w':World):Prop:=∃(gB cB gI cI lim:Nat) (LB:LS) (RL:fe),e= .returned (.tuple #[.agg #[.int .i64 (S'.w:Int),(.slice (some ⟨gB,0,none⟩) N cB),(.slice (some ⟨gI,0,none⟩) N cI)],.int .i64 0])∧Hid (nL W w' [] lim (.slice (some ⟨gB,0,none⟩) N cB) (.slice (some ⟨gI,0,none⟩) N cI) LB RL)∧Hid (MW w' 0 lim (.slice (some ⟨gB,0,none⟩) N cB) (.slice (some ⟨gI,0,none⟩) N cI) LB RL S')
set_option maxRecDepth 100000 in
set_option maxHeartbeats 16000000 in
theorem zn (S:bD) (n N:Nat) (vb0 Zd:Value) (LB:LS) (Li:fe) (W:World) (hc:CW S (S.w:Int) LB Li) (h8:eY S) (hv:VW (S.w:Int) LB Li) (hy:YW No W vb0 Zd LB Li) (hN:N=S.ins.length) (hn:n < N):
  Calls Tryz.prog 24 #[.agg #[.int .i64 (S.w:Int),vb0,Zd],.int .i64 (n:Int)] W (Hg N (dN S n) W):=by
 obtain ⟨Ze,Zf,rfl⟩:=hy.b.slice
 obtain ⟨Zg,Zh,rfl⟩:=hy.i.slice
 have Kq:Li.length=N:=hc.len.trans hN.symm
 have hlB:LB.length=N:=hv.lb.trans Kq
 have hw8:=h8.w8
 have hn32:N≤32:=by rw [hN];exact h8.n8
 have HUN:=aa (show adK (n:Int) Li.length from by rw [Kq];exact ⟨by omega,by omega⟩)
 have HC:=aa hc
 have Ch:=aa h8
 have HV:=aa hv
 have HN:=aa hN
 have Ny:=aa (show ∀p∈Li,p.1.length≤1000 from fun p hp=>by
  obtain ⟨j,hj,rfl⟩:=List.getElem_of_mem hp
  have h1:=congrArg List.length (hc.rows j hj)
  rw [List.length_map,dK] at h1
  have h2:=(h8.ok.row j).len
  omega)
 rw [Kq,hlB] at hy ⊢
 have HY:=aa hy
 have HLI:=aa Kq
 have HLB:=aa hlB
 clear hc h8 hv hy hN Kq hlB
 go_enter Tryz.func24,Tryz.ntmps24
 go_upto_region 1 with (fail)
 have hx0:Ext No W ((W.alloc (.cells #[.int .i64 (S.w:Int),.slice Ze N Zf,.slice Zg N Zh] 26)).alloc (.cells #[.int .i64 0,.slice none 0 0,.slice none 0 0] 26)):=((Ext.refl _ _).alloc _).alloc _
 have HA:=aa (zK hx0)
 have HR:=aa (zM hx0)
 have HX0:=aa hx0
 have G7:=aa (HY.aj hx0)
 have TA:=aa (show ((W.alloc (.cells #[.int .i64 (S.w:Int),.slice Ze N Zf,.slice Zg N Zh] 26)).alloc (.cells #[.int .i64 0,.slice none 0 0,.slice none 0 0] 26)).heap.size=W.heap.size+2 from by simp)
 clear hx0
 generalize World.alloc (World.alloc W _) _=V at*
 have cA:=cellOf HA.out
 go_wp2_with fail
 refine (wZ (S.w:Int) _ _ LB Li (n:Int) V G7).mono ?_
 rintro e1 V1 ⟨rfl,hx1⟩
 rw [XO HV HUN]
 have nK:=aa hx1
 have aaf:=aa (HX0.af hx1)
 have HR1:=aa (hx1.blk HR ax)
 have Ce:=aa (show W.heap.size+1 < V1.heap.size from by have:=hx1.size;have:=TA.out;omega)
 have cA1:=cellOf (hx1.blk HA ax)
 clear hx1 cA
 go_wp2_with fail
 refine (Bc (S.w:Int) _ _ LB Li V1 (G7.aj nK) (by have:=HLB.out;omega) (by have:=HLI.out;omega) Ny).mono ?_
 rintro e2 w2 ⟨vb,vi,RL,rfl,hq,he⟩
 have hM:=VZ HC Ch hq he
 obtain ⟨gB,cB,hvb⟩:=nU hM.x.b.own (by have:=HLB.out;omega)
 obtain ⟨gI,cI,zU⟩:=nU hM.x.i (by have h1:=hM.len;have h2:=HN.out;omega)
 rw [HLB] at hvb
 rw [hM.len,←HN] at zU
 subst hvb zU
 have WG:=aa hq.out
 have KP:=aa hM
 clear hq he hM cA1
 go_upto_region 5 with (fail)
 have PY:Ext No w2 (w2.alloc (.cells #[.int .i64 (S.w:Int),.slice (some ⟨gB,0,none⟩) N cB,.slice (some ⟨gI,0,none⟩) N cI] 26)):=(Ext.refl _ _).alloc _
 have hR2:=aa ((WG.aC PY).nM (ah (w:=w2) (o:= .cells #[.int .i64 (S.w:Int),.slice (some ⟨gB,0,none⟩) N cB,.slice (some ⟨gI,0,none⟩) N cI] 26) rfl) (Nat.le_refl _))
 have HS:=aa (KP.aC PY)
 have BI:=aa (show w2.heap.size≤(w2.alloc (.cells #[.int .i64 (S.w:Int),.slice (some ⟨gB,0,none⟩) N cB,.slice (some ⟨gI,0,none⟩) N cI] 26)).heap.size from PY.size)
 clear PY WG KP
 generalize World.alloc w2 _=U1 at*
 generalize w2.heap.size=bA at*
 have HRO:=aa (HS.ok.ok.row n)
 have hnR:n < RL.length:=by rw [HS.len,←HN];exact hn
 have vG:=aa (show N=RL.length from by rw [HS.len,←HN])
 obtain ⟨⟨L0,v0⟩,hq⟩:∃q:LA×Value,RL[n]=q:=⟨_,rfl⟩
 have HQ:=aa (show ∃hnR:n < RL.length,RL[n]=(L0,v0) from ⟨hnR,hq⟩)
 have G5:=aa (show L0.map fJ=aT (aR S n) from by have h9:=HS.rows n hnR;rw [hq] at h9;exact h9)
 have har:jb kA No U1 v0 L0:=by have h9:=HS.x.row hnR;rw [hq] at h9;exact h9
 have hmz:(aR S n).length≤32:=by have:=HRO.len;have:=HN.out;omega
 obtain ⟨m,hm⟩:∃m,m=(aR S n).length:=⟨_,rfl⟩
 have HM:=aa hm
 have CB:L0.length=m:=by have h9:=congrArg List.length G5.out;rw [List.length_map,dK,←hm] at h9;exact h9
 obtain ⟨a0,cap,hv0⟩:=har.slice
 rw [CB] at hv0
 subst hv0
 have T9:=aa har
 have xP:=aa CB
 have Xj:=aa (show U1.cell? ⟨gI,n,none⟩=some (.slice a0 m cap) from by have h9:=HS.x.kV vG.out hnR;rw [hq] at h9;exact h9)
 rw [←hm] at hmz
 have qF:=aa (show N=LB.length from HLB.symm)
 obtain ⟨ab,cb,hsb⟩:=(HS.set (t:=n) (by have:=qF.out;omega)).slice
 have HB1:=aa (show ∃KR:n < LB.length,LB[n]=(bJ S.w (dA S.bnd n),.slice ab (nw S.w) cb) from ⟨by have:=qF.out;omega,Prod.ext (by
  have h1:=congrArg (fun l=>l[n]?) HS.bnd
  have ht2:n < S.bnd.length:=by rw [Ch.ok.lb,←HN];exact hn
  simp only [List.getElem?_map,List.getElem?_eq_getElem (show n < LB.length by have:=qF.out;omega),List.getElem?_eq_getElem ht2,Option.map_some,Option.some.injEq] at h1
  rw [h1,kI ht2]) hsb⟩)
 have hnz:(n:Int) < (N:Int):=by omega
 have qA:=cellOf (show U1.heap[bA]? =some (.cells #[.int .i64 (S.w:Int),.slice (some ⟨gB,0,none⟩) N cB,.slice (some ⟨gI,0,none⟩) N cI] 26 (0,0)) from (hR2.bx (bA,#[.int .i64 (S.w:Int),.slice (some ⟨gB,0,none⟩) N cB,.slice (some ⟨gI,0,none⟩) N cI],26) (by simp)).1)
 have qI:=Xj.out
 clear hsb hq har hm CB hnR
 go_wp2_with fail
 clear qA qI
 refine (Jp n S.w _ (aR S n) _ HRO.jX (show fq No U1 _ _ from ⟨L0,T9,G5⟩) (by rw [←HM];omega)).mono ?_
 rintro e3 w3 ⟨hh,hx3⟩
 have Si:=aa (hR2.aC hx3)
 have pK:=aa hx3
 have HB3:=aa (Nat.le_trans BI hx3.size)
 clear hx3
 have qA:=cellOf (show w3.heap[bA]? =some (.cells #[.int .i64 (S.w:Int),.slice (some ⟨gB,0,none⟩) N cB,.slice (some ⟨gI,0,none⟩) N cI] 26 (0,0)) from (Si.bx (bA,#[.int .i64 (S.w:Int),.slice (some ⟨gB,0,none⟩) N cB,.slice (some ⟨gI,0,none⟩) N cI],26) (by simp)).1)
 have qI:=pK.keep Xj
 rcases hh with ⟨h1,rfl⟩|⟨h1,rfl⟩
 ·obtain ⟨i,hi⟩:∃i,i=oh (aR S n) n:=⟨_,rfl⟩
  have HI:=aa hi
  rw [←hi] at h1 ⊢
  have HI1:=aa h1
  have him:i < m:=by rw [HM];exact h1
  have hiz:(i:Int) < (m:Int):=by omega
  have hi0:¬(i:Int) < 0:=by omega
  have abN:(0:Int)≤(i:Int):=by omega
  have GY:=aa (show i < L0.length from by rw [xP];exact him)
  obtain ⟨⟨mm,t⟩,jq⟩:∃q:Nat×cK,q=(aR S n)[i]:=⟨_,rfl⟩
  obtain ⟨b,off,cap',ag',cg',ak',ck',qN,nc',cc',hsl,gt,HT1,pI⟩:=pQ (M:=No) HRO.jX (T9.aj pK) G5.out (fun q hq=>((T9.aj pK).ok q hq)) HI1.out jq
  rw [←HM] at hsl
  simp only [Value.slice.injEq] at hsl
  obtain ⟨rfl,-,rfl⟩:=hsl
  obtain ⟨q0,q1,q2,q3,q4,q5⟩:=gt
  have abO:=aa (show (mm,t)=(aR S n)[i]'HI1.out from jq)
  have hso:=Hr hw8 (show eO t∧t.w=S.w from by rw [show t=((aR S n)[i]'HI1.out).2 from congrArg Prod.snd jq];exact HRO.jX _ (List.getElem_mem _))
  have Vm:=aa hso
  clear jq h1 hso hi
  go_wp2_with fail
  refine (UC (Lo w3.heap.size) t S.w _ _ _ _ pI hw8 (fun b e=>e) HT1).mono ?_
  rintro e0 w4 ⟨d1,e1,d2,e2,d3,n3,e3,rfl,hS,hx4⟩
  have Xk:=aa (Si.aC hx4)
  clear q0 q1 q2 q3 q4 q5 qA qI
  go_upto_region 11 with (fail)
  have hx5:Ext No w4 (w4.alloc (.cells #[.int .i64 (S.w:Int),.slice d1 (nw S.w) e1,.int .i64 (S.w:Int),.slice d2 (nw S.w) e2,.slice d3 n3 e3] 47)):=(Ext.refl _ _).alloc _
  have vS:=aa ((Xk.aC hx5).nM (ah (w:=w4) (o:= .cells #[.int .i64 (S.w:Int),.slice d1 (nw S.w) e1,.int .i64 (S.w:Int),.slice d2 (nw S.w) e2,.slice d3 n3 e3] 47) rfl) Xk.x.lh)
  have GZ:=aa ((pK.af hx4).af hx5)
  have HS2:=aa ((hS.mono (M':=fun b=>b < w3.heap.size∨w4.heap.size≤b) (fun j hj e=>by unfold Lo;omega)).aj hx5)
  have Px:=aa (show w4.heap.size≤(w4.alloc (.cells #[.int .i64 (S.w:Int),.slice d1 (nw S.w) e1,.int .i64 (S.w:Int),.slice d2 (nw S.w) e2,.slice d3 n3 e3] 47)).heap.size from hx5.size)
  have Zi:=aa (show ∀k,aQ (.slice (some ⟨gB,0,none⟩) N cB) (.slice (some ⟨gI,0,none⟩) N cI) RL k→k < w3.heap.size from fun k e=>Nat.lt_of_lt_of_le (Si.x.own e).2 HB3)
  clear Xk hx4 hx5 hS Si pK HB3
  generalize World.alloc w4 _=U at*
  generalize w4.heap.size=bS at*
  generalize w3.heap.size=k1 at*
  have Ca:=aa (show U.heap[bA]? =some (.cells #[.int .i64 (S.w:Int),.slice (some ⟨gB,0,none⟩) N cB,.slice (some ⟨gI,0,none⟩) N cI] 26 (0,0)) from (vS.bx (bA,#[.int .i64 (S.w:Int),.slice (some ⟨gB,0,none⟩) N cB,.slice (some ⟨gI,0,none⟩) N cI],26) (by simp)).1)
  have NZ:=aa (show U.heap[bS]? =some (.cells #[.int .i64 (S.w:Int),.slice d1 (nw S.w) e1,.int .i64 (S.w:Int),.slice d2 (nw S.w) e2,.slice d3 n3 e3] 47 (0,0)) from (vS.bx (bS,#[.int .i64 (S.w:Int),.slice d1 (nw S.w) e1,.int .i64 (S.w:Int),.slice d2 (nw S.w) e2,.slice d3 n3 e3],47) (by simp)).1)
  have Cb:=aa (GZ.keep Xj)
  have Qk:=aa (T9.aj GZ)
  obtain ⟨m1,hm1⟩:∃m1,m1=m - 1:=⟨_,rfl⟩
  have Cf:=aa hm1
  clear hm1 GZ
  refine aL [11] (fun w'=>Ext No U w') (by kernel_rfl) ?_ (fun hHeld=>?_)
  ·exact bX
  have HE:=aa (show Ext No U U.drew from (Ext.refl _ _).drew)
  generalize U.drew=v0 at*
  refine uJ [0,1,2,3,4,5,6,7,8] hHeld ?_
  clear hHeld
  refine uF ?_
  refine uL ?_ (hy:=sP)
  iterate 2 refine uF ?_
  refine uL ?_ (hy:=sP)
  iterate 2 refine uF ?_
  refine uL ?_ (hy:=Ep)
  refine uF ?_
  refine uZ fun hHeld=>?_
  refine uN 9 fun K hK=>?_
  (go_simp;go_at_call 68;(refine (wY _ L0 i _ (Qk.aj HE) GY (by have:=xP.out;omega)).mono ?_);(rintro e9 vd ⟨v1,rfl,hown,aF⟩);go_simp)
  refine uK hK eu ?_
  clear hK K hHeld
  intro hHeld
  have PX:(L0.eraseIdx i).length=m1:=by rw [List.length_eraseIdx,if_pos GY.out,xP,Cf]
  have hown2:=hown.out
  rw [PX] at hown2
  obtain ⟨a2,c2,hv1⟩:=(Row.bG (M:=No) hown2 (fun _ _ x=>x)).slice
  subst hv1
  have MK:=aa hown2
  have Sn:=aa aF
  have KJ:=aa (vS.aC HE)
  have HEv:=HE
  replace HE:=aa (HE.af aF)
  have YI:=aa (show v0.heap.size≤vd.heap.size from aF.size)
  have WH:=aa (show U.heap.size≤v0.heap.size from HEv.size)
  clear hown hown2 aF PX
  refine uJ [10] hHeld ?_
  clear hHeld
  refine uF ?_
  refine uZ fun hHeld=>?_
  refine uN 11 fun K hK=>?_
  ((have q0:=(vS.aC HE).x.kV vG.out (t:=n) (by have:=vG.out;omega));(have f0:=(vS.aC HE).x.TN vG n);go_simp;(clear q0 f0))
  refine uK hK bz ?_
  clear hK K hHeld
  intro hHeld
  refine uE ?_
  clear hHeld
  have BK:∀k,Value.ownBlock (.slice a2 m1 c2)=some k→v0.heap.size≤k:=fun k hk=>(World.ownsRow.lt MK k hk).1
  have qD:=aa (show nL V1 (vd.setCell ⟨gI,n,none⟩ (.slice a2 m1 c2)) [(bS,#[.int .i64 (S.w:Int),.slice d1 (nw S.w) e1,.int .i64 (S.w:Int),.slice d2 (nw S.w) e2,.slice d3 n3 e3],47),(bA,#[.int .i64 (S.w:Int),.slice (some ⟨gB,0,none⟩) N cB,.slice (some ⟨gI,0,none⟩) N cI],26)] vd.heap.size (.slice (some ⟨gB,0,none⟩) N cB) (.slice (some ⟨gI,0,none⟩) N cI) LB (RL.set n ((L0.eraseIdx i),(.slice a2 m1 c2))) from by
   obtain ⟨hnR,hq⟩:=HQ.out
   refine KJ.putRow vG.out hnR hq Sn.lM (by
    have PX:(L0.eraseIdx i).length=m1:=by rw [List.length_eraseIdx,if_pos GY.out,xP,Cf]
    rw [PX]
    exact dY MK (Nat.zero_le _)) (fun p hp=>?_) (.inr BK)
   have h1:kA.ok (aQ (.slice (some ⟨gB,0,none⟩) N cB) (.slice (some ⟨gI,0,none⟩) N cI) RL) v0 p:=KJ.x.rowOk hnR p (by rw [hq];exact List.mem_of_mem_eraseIdx hp)
   refine kA.mono (kA.ext (kA.mono (M':=fun b=>aQ (.slice (some ⟨gB,0,none⟩) N cB) (.slice (some ⟨gI,0,none⟩) N cI) RL b∨v0.heap.size≤b) h1 (fun j hj e=>e.elim id (fun e=>by omega))) Sn (fun _ _ e=>e.elim)) (fun j hj e=>?_)
   rcases e with e|e|e|⟨q,hq2,e⟩|e
   ·omega
   ·exact .inl (.inl e)
   ·exact .inl (.inr (.inl e))
   ·rcases List.mem_or_eq_of_mem_set hq2 with hq2|rfl
    ·exact .inl (.inr (.inr ⟨q,hq2,e⟩))
    exact .inr (BK j e)
   omega)
  have Ua:=aa (show ∀k,(aQ (.slice (some ⟨gB,0,none⟩) N cB) (.slice (some ⟨gI,0,none⟩) N cI) (RL.set n ((L0.eraseIdx i),(.slice a2 m1 c2)))) k→k < k1∨bS≤k from fun k e=>by
   rcases e with e|e|⟨q,hq2,e⟩
   ·exact .inl (Zi k (.inl e))
   ·exact .inl (Zi k (.inr (.inl e)))
   rcases List.mem_or_eq_of_mem_set hq2 with hq2|rfl
   ·exact .inl (Zi k (.inr (.inr ⟨q,hq2,e⟩)))
   have h1:=BK k e;have h2:=WH.out;have h3:=Px.out;exact .inr (by omega))
  have NL:=aa ((HS2.aj HE).ext (show Ext (At gI) vd (vd.setCell ⟨gI,n,none⟩ (.slice a2 m1 c2)) from (Ext.refl (At gI) vd).setAt n (.slice a2 m1 c2)) (fun k _ e=> .inl (by rw [show k=gI from e];exact Zi gI (.inr (.inl rfl)))))
  clear BK vS MK Sn KJ HEv HE YI WH HS2 Px Qk Ca NZ Cb
  go_upto_region 12 with (fail)
  generalize World.setCell vd _ _=U2 at*
  generalize vd.heap.size=Xb at*
  have Ca:=aa (show U2.heap[bA]? =some (.cells #[.int .i64 (S.w:Int),.slice (some ⟨gB,0,none⟩) N cB,.slice (some ⟨gI,0,none⟩) N cI] 26 (0,0)) from (qD.bx (bA,#[.int .i64 (S.w:Int),.slice (some ⟨gB,0,none⟩) N cB,.slice (some ⟨gI,0,none⟩) N cI],26) (by simp)).1)
  have NZ:=aa (show U2.heap[bS]? =some (.cells #[.int .i64 (S.w:Int),.slice d1 (nw S.w) e1,.int .i64 (S.w:Int),.slice d2 (nw S.w) e2,.slice d3 n3 e3] 47 (0,0)) from (qD.bx (bS,#[.int .i64 (S.w:Int),.slice d1 (nw S.w) e1,.int .i64 (S.w:Int),.slice d2 (nw S.w) e2,.slice d3 n3 e3],47) (by simp)).1)
  have Sg:=aa (show aG No U2 (.slice ab (nw S.w) cb) S.w (dA S.bnd n) from by
   obtain ⟨KR,hq⟩:=HB1.out
   exact qD.x.rO KR hq (by omega) (Ch.ok.bn n))
  have Vn:=aa (show U2.cell? ⟨gB,n*2,none⟩=some (.int .i64 (S.w:Int))∧U2.cell? ⟨gB,n*2+1,none⟩=some (.slice ab (nw S.w) cb) from by
   obtain ⟨KR,hq⟩:=HB1.out
   have h9:=qD.x.qP qF.out KR
   rw [hq] at h9
   exact h9)
  refine aL [14] (fun w'=>Ext No U2 w') (by kernel_rfl) ?_ (fun hHeld=>?_)
  ·exact bX
  have HE:=aa (show Ext No U2 U2.drew from (Ext.refl _ _).drew)
  generalize U2.drew=v0 at*
  refine uJ [0,1,2,3,4,5,6,7,8] hHeld ?_
  clear hHeld
  refine uF ?_
  refine uL ?_ (hy:=yj)
  refine uF ?_
  refine uL ?_ (hy:=(by intro w hSw;(have x0:=cellOf ((show Ext No U2 _ from hSw).blk NZ ax));go_simp;(try with_reducible rfl)))
  refine uF ?_
  refine uL ?_ (hy:=yj)
  iterate 2 refine uF ?_
  refine uL ?_ (hy:=xW)
  refine uZ fun hHeld=>?_
  refine uN 9 fun K hK=>?_
  (go_simp;go_at_call 69;(refine (AP (aQ (.slice (some ⟨gB,0,none⟩) N cB) (.slice (some ⟨gI,0,none⟩) N cI) (RL.set n ((L0.eraseIdx i),(.slice a2 m1 c2)))) (gm t) S.w (dA S.bnd n) _ _ _ _ _ Vm.2 (fun b e=>by have h1:=((qD.aC HE).x.own e).2;have h2:=(qD.aC HE).x.lh;omega) ((NL.aj HE).mono (fun j _ e=>Ua j e)) (Sg.aj HE)).mono ?_);(rintro e0 va ⟨a6,c6,rfl,hs6,aF⟩);go_simp)
  refine uK hK eu ?_
  clear hK K hHeld
  intro hHeld
  have rE:=aa ((qD.aC (HE.af aF)).top)
  have NF:=aa (hs6.words.mono (M':=dW (.slice (some ⟨gB,0,none⟩) N cB) (.slice (some ⟨gI,0,none⟩) N cI) (RL.set n ((L0.eraseIdx i),(.slice a2 m1 c2))) va.heap.size 0) (fun k hk e=>by
   rcases e with e|e|e|e|e
   ·omega
   ·exact .inl e
   ·exact .inr (.inl e)
   ·exact .inr (.inr e)
   omega))
  replace HE:=aa (HE.af aF)
  clear aF
  refine uJ [10,11,12,13] hHeld ?_
  clear hHeld
  iterate 4 refine uF ?_
  refine uZ fun hHeld=>?_
  refine uN 14 fun K hK=>?_
  ((obtain ⟨q0,q1⟩:=rE.x.qP qF.out (t:=n) (by have:=qF.out;omega));(have f0:=rE.x.Cn qF (n*2));(have f1:=rE.x.Cn qF (n*2+1));go_simp;(clear q0 q1 f0 f1))
  refine uK hK bz ?_
  clear hK K hHeld
  intro hHeld
  refine uE ?_
  clear hHeld
  have BJ:=aa (show nL V1 ((va.setCell ⟨gB,n*2,none⟩ (.int .i64 (S.w:Int))).setCell ⟨gB,n*2+1,none⟩ (.slice a6 (nw S.w) c6)) [(bS,#[.int .i64 (S.w:Int),.slice d1 (nw S.w) e1,.int .i64 (S.w:Int),.slice d2 (nw S.w) e2,.slice d3 n3 e3],47),(bA,#[.int .i64 (S.w:Int),.slice (some ⟨gB,0,none⟩) N cB,.slice (some ⟨gI,0,none⟩) N cI],26)] va.heap.size (.slice (some ⟨gB,0,none⟩) N cB) (.slice (some ⟨gI,0,none⟩) N cI) (LB.set n (bJ S.w (bL (gm t) (dA S.bnd n)),.slice a6 (nw S.w) c6)) (RL.set n ((L0.eraseIdx i),(.slice a2 m1 c2))) from rE.Ad (p:=(bJ S.w (bL (gm t) (dA S.bnd n)),.slice a6 (nw S.w) c6)) qF (by have:=qF.out;omega) NF)
  have Zj:=aa ((NL.aj HE).ext (show Ext (At gB) va ((va.setCell ⟨gB,n*2,none⟩ (.int .i64 (S.w:Int))).setCell ⟨gB,n*2+1,none⟩ (.slice a6 (nw S.w) c6)) from ((Ext.refl _ _).setAt _ _).setAt _ _) (fun k _ e=> .inl (by rw [show k=gB from e];exact Zi gB (.inl rfl))))
  clear qD rE NF hs6 HE NL Sg Vn Ca NZ
  go_upto_region 13 with (fail)
  generalize World.setCell (World.setCell va _ _) _ _=U3 at*
  generalize va.heap.size=Xc at*
  have aaU:m1≤32:=by have:=Cf.out;omega
  obtain ⟨IB,GL⟩:∃IB,IB=LB.set n (bJ S.w (bL (gm t) (dA S.bnd n)),.slice a6 (nw S.w) c6):=⟨_,rfl⟩
  rw [←GL] at BJ
  have ZW:=aa GL
  clear GL
  obtain ⟨E,hE0⟩:∃E,E=(aR S n).eraseIdx i:=⟨_,rfl⟩
  have hEl:E.length=m1:=by rw [hE0,List.length_eraseIdx,if_pos HI1.out,←HM,Cf]
  have Tm:=aa hEl
  have Ww:=aa (show dP S.w S.ins.length E from by rw [hE0];exact HRO.erase)
  have Sj:=aa hE0
  clear hEl hE0
  go_wp2_with fail
  go_loopw [10,11,12] (fun s10 _ _ wr=>∃(k lim:Nat) (L:LA),s10= .int .i64 k∧k≤m1∧Hid (nL V1 wr [(bS,#[.int .i64 (S.w:Int),.slice d1 (nw S.w) e1,.int .i64 (S.w:Int),.slice d2 (nw S.w) e2,.slice d3 n3 e3],47),(bA,#[.int .i64 (S.w:Int),.slice (some ⟨gB,0,none⟩) N cB,.slice (some ⟨gI,0,none⟩) N cI],26)] lim (.slice (some ⟨gB,0,none⟩) N cB) (.slice (some ⟨gI,0,none⟩) N cI) IB (RL.set n (L,(.slice a2 m1 c2))))∧Hid (L.length=m1)∧Hid (L.map fJ=aT (pG E (gm t) k))∧Hid (dF (fun b=>b < k1∨bS≤b) wr (.slice d1 (nw S.w) e1) (.slice d2 (nw S.w) e2) (.slice d3 n3 e3) (gm t))) (fun s10 _ _ _=>m1 - (intOf s10).toNat)
  case atStart=>exact ⟨0,_,_,rfl,Nat.zero_le _,BJ,aa (by rw [List.length_eraseIdx,if_pos GY.out,xP,Cf]),aa (by rw [Jj,Sj,aT,List.eraseIdx_eq_take_drop_succ,List.eraseIdx_eq_take_drop_succ,List.map_append,List.map_append,List.map_take,List.map_drop,G5,aT,List.map_take,List.map_drop]),Zj⟩
  clear BJ Zj
  obtain ⟨k,lim,L,rfl,hk,hR,vH,Yj,HSk⟩:=hrel
  rename World=>wr
  have GN:n < (RL.set n (L,(.slice a2 m1 c2))).length:=by rw [List.length_set];have:=vG.out;omega
  have IP:=aa (show wr.cell? ⟨gI,n,none⟩=some (.slice a2 m1 c2) from by
   have h:=hR.x.kV (by rw [List.length_set];exact vG) (t:=n) GN
   rw [List.getElem_set_self] at h
   exact h)
  have Ca:=aa (show wr.heap[bA]? =some (.cells #[.int .i64 (S.w:Int),.slice (some ⟨gB,0,none⟩) N cB,.slice (some ⟨gI,0,none⟩) N cI] 26 (0,0)) from (hR.bx (bA,#[.int .i64 (S.w:Int),.slice (some ⟨gB,0,none⟩) N cB,.slice (some ⟨gI,0,none⟩) N cI],26) (by simp)).1)
  have NZ:=aa (show wr.heap[bS]? =some (.cells #[.int .i64 (S.w:Int),.slice d1 (nw S.w) e1,.int .i64 (S.w:Int),.slice d2 (nw S.w) e2,.slice d3 n3 e3] 47 (0,0)) from (hR.bx (bS,#[.int .i64 (S.w:Int),.slice d1 (nw S.w) e1,.int .i64 (S.w:Int),.slice d2 (nw S.w) e2,.slice d3 n3 e3],47) (by simp)).1)
  have Nz:=aa (show ∀j,(aQ (.slice (some ⟨gB,0,none⟩) N cB) (.slice (some ⟨gI,0,none⟩) N cI) (RL.set n (L,(.slice a2 m1 c2)))) j→j < k1∨bS≤j from fun j e=>Ua j (Rl e))
  have qcA:=cellOf Ca.out
  have qcI:=IP.out
  by_cases hlt:k < m1
  ·have hlz:(k:Int) < (m1:Int):=by omega
   have IW:(0:Int)≤(k:Int):=by omega
   have HKK:Hid (Value.int .i64 ((k:Int)+1)= .int .i64 ((k+1:Nat):Int)):=aa (by rw [show ((k+1:Nat):Int)=(k:Int)+1 from by omega])
   have Wx:=aa (show k < E.length from by rw [Tm];exact hlt)
   obtain ⟨⟨mm,f⟩,jq⟩:∃q:Nat×cK,q=E[k]'Wx.out:=⟨_,rfl⟩
   have oP:=aa (show (mm,f)=E[k]'Wx.out from jq)
   have hrow:jb kA No wr (.slice a2 m1 c2) L:=by have h9:=hR.x.row GN;rw [List.getElem_set_self] at h9;exact h9
   obtain ⟨b,off,cap',pY,cg2,xL,ck2,xM,xN,xO,hsl,gt,G6,hfw⟩:=pQ (M:=(aQ (.slice (some ⟨gB,0,none⟩) N cB) (.slice (some ⟨gI,0,none⟩) N cI) (RL.set n (L,(.slice a2 m1 c2))))) (QH hw8 Ww Vm k) hrow Yj.out (fun q hq=>hR.x.rowOk GN q (by rw [List.getElem_set_self];exact hq)) (k:=k) (by rw [mK];exact Wx) (jq.trans (K6 Wx.out).symm)
   have Jc:wr.ownsRow 0 49 6 (.slice a2 m1 c2) L.length (L.flatMap kA.cells):=by have h9:=(hR.x.r _ (List.getElem_mem GN)).own;rw [List.getElem_set_self] at h9;exact h9
   obtain ⟨g,ac3,Xl⟩:=adI Jc (by have:=vH.out;omega)
   rw [vH] at Xl
   simp only [Value.slice.injEq] at Xl
   obtain ⟨rfl,-,rfl⟩:=Xl
   rw [mK,Tm] at hsl
   simp only [Value.slice.injEq,Option.some.injEq,Addr.mk.injEq,and_true,true_and] at hsl
   obtain ⟨⟨rfl,rfl⟩,rfl⟩:=hsl
   simp only [Nat.zero_add] at gt
   have PM:=aa gt.2
   have Vl:k < L.length:=by rw [vH];exact hlt
   clear gt jq hrow Jc GN
   go_upto_region 16 with (fail)
   clear qcA qcI
   go_cut [11,12] (fun s11 s12 wx=>∃(bF:Nat) (x1:Option Addr) (y1:Nat) (x2:Option Addr) (y2:Nat) (x3:Option Addr) (z3 y3:Nat),s11= .pointer (some ⟨bF,0,none⟩)∧s12= .int .i64 0∧Hid (wr.heap.size≤bF)∧Hid (Ext No wr wx)∧Hid (wx.heap[bF]? =some (.cells #[.int .i64 (S.w:Int),.slice x1 (nw S.w) y1,.int .i64 (S.w:Int),.slice x2 (nw S.w) y2,.slice x3 z3 y3] 47 (0,0)))∧Hid (dF (aQ (.slice (some ⟨gB,0,none⟩) N cB) (.slice (some ⟨gI,0,none⟩) N cI) (RL.set n (L,(.slice (some ⟨g,0,none⟩) m1 c2)))) wx (.slice x1 (nw S.w) y1) (.slice x2 (nw S.w) y2) (.slice x3 z3 y3) (gJ f (gm t))))
   case first=>
    refine aL [15] (fun w'=>Ext No wr w') (by kernel_rfl) ?_ (fun hHeld=>?_)
    ·exact bX
    have HE:=aa (show Ext No wr wr.drew from (Ext.refl _ _).drew)
    generalize wr.drew=v0 at*
    refine uJ [0,1,2,3,4,5,6,7,8,9] hHeld ?_
    clear hHeld
    refine uF ?_
    refine uL ?_ (hy:=De)
    iterate 2 refine uF ?_
    refine uL ?_ (hy:=xX)
    iterate 3 refine uF ?_
    refine uL ?_ (hy:=Dt)
    refine uL ?_ (hy:=(by intro w hSw;(have x0:=cellOf ((show Ext No wr _ from hSw).blk NZ ax));go_simp;(try with_reducible rfl)))
    refine uZ fun hHeld=>?_
    refine gT (i:=10) (j:=14) (by kernel_rfl) (iV.mk rfl rfl (fun K hK=>?_)) (iV.mk rfl rfl (fun K hK=>?_))
    ·(go_simp;go_at_call 70;(refine (zY (aQ (.slice (some ⟨gB,0,none⟩) N cB) (.slice (some ⟨gI,0,none⟩) N cI) (RL.set n (L,(.slice (some ⟨g,0,none⟩) m1 c2)))) f (gm t) S.w _ _ _ _ _ _ _ hfw Vm.2 hw8 (fun b e=>by have h1:=((hR.aC HE).x.own e).2;have h2:=(hR.aC HE).x.lh;omega) (G6.aj HE) ((HSk.aj HE).mono (fun j _ e=>Nz j e))).mono ?_);(rintro e0 va ⟨x1,y1,x2,y2,x3,z3,y3,rfl,hs6,aF⟩);go_simp)
     refine uK hK eu ?_
     clear hK K hHeld
     intro hHeld
     have G8:=aa hs6.out
     replace HE:=aa (HE.af aF)
     clear aF hs6
     refine uJ [11,12,13] hHeld ?_
     clear hHeld
     iterate 3 refine uF ?_
     refine uZ fun hHeld=>?_
     refine uN 14 fun K hK=>?_
     go_simp
     refine uK hK fF ?_
     clear hK K hHeld
     intro hHeld
     have hya:=(Ext.refl No va).alloc (.cells #[.int .i64 0,.slice none 0 0,.int .i64 0,.slice none 0 0,.slice none 0 0] 47)
     have pO:=aa (ah (w:=va) (o:= .cells #[.int .i64 0,.slice none 0 0,.int .i64 0,.slice none 0 0,.slice none 0 0] 47) rfl)
     have ML:=aa (show wr.heap.size≤va.heap.size from HE.size)
     replace G8:=aa (G8.aj hya)
     replace HE:=aa (HE.af hya)
     clear hya
     generalize World.alloc va _=Kt at*
     generalize va.heap.size=bF at*
     refine uN 15 fun K hK=>?_
     ((have cS:=cellOf pO.out);(have fS:=aH pO.out);go_simp;(clear cS fS))
     refine uK hK bz ?_
     clear hK K hHeld
     intro hHeld
     refine uJ [16] hHeld ?_
     clear hHeld
     refine uF ?_
     refine uZ fun hHeld=>?_
     refine uE ?_
     clear hHeld
     have I6:Ext (At bF) Kt (((((Kt.setCell ⟨bF,0,none⟩ (.int .i64 (S.w:Int))).setCell ⟨bF,1,none⟩ (.slice x1 (nw S.w) y1)).setCell ⟨bF,2,none⟩ (.int .i64 (S.w:Int))).setCell ⟨bF,3,none⟩ (.slice x2 (nw S.w) y2)).setCell ⟨bF,4,none⟩ (.slice x3 z3 y3)):=(((((Ext.refl (At bF) Kt).setAt _ _).setAt _ _).setAt _ _).setAt _ _).setAt _ _
     exact Eo
    go_simp
    refine uK hK fF ?_
    clear hK K hHeld
    intro hHeld
    have hya:=(Ext.refl No v0).alloc (.cells #[.int .i64 0,.slice none 0 0,.int .i64 0,.slice none 0 0,.slice none 0 0] 47)
    have pO:=aa (ah (w:=v0) (o:= .cells #[.int .i64 0,.slice none 0 0,.int .i64 0,.slice none 0 0,.slice none 0 0] 47) rfl)
    have ML:=aa (show wr.heap.size≤v0.heap.size from HE.size)
    replace HE:=aa (HE.af hya)
    clear hya
    generalize World.alloc v0 _=v02 at*
    generalize v0.heap.size=bF at*
    refine uN 10 fun K hK=>?_
    (go_simp;go_at_call 70;(refine (zY (aQ (.slice (some ⟨gB,0,none⟩) N cB) (.slice (some ⟨gI,0,none⟩) N cI) (RL.set n (L,(.slice (some ⟨g,0,none⟩) m1 c2)))) f (gm t) S.w _ _ _ _ _ _ _ hfw Vm.2 hw8 (fun b e=>by have h1:=((hR.aC HE).x.own e).2;have h2:=(hR.aC HE).x.lh;omega) (G6.aj HE) ((HSk.aj HE).mono (fun j _ e=>Nz j e))).mono ?_);(rintro e0 va ⟨x1,y1,x2,y2,x3,z3,y3,rfl,hs6,aF⟩);go_simp)
    refine uK hK eu ?_
    clear hK K hHeld
    intro hHeld
    replace pO:=aa (aF.blk pO ax)
    have G8:=aa hs6.out
    replace HE:=aa (HE.af aF)
    clear aF hs6
    refine uJ [11,12,13] hHeld ?_
    clear hHeld
    iterate 3 refine uF ?_
    refine uZ fun hHeld=>?_
    refine uN 15 fun K hK=>?_
    ((have cS:=cellOf pO.out);(have fS:=aH pO.out);go_simp;(clear cS fS))
    refine uK hK bz ?_
    clear hK K hHeld
    intro hHeld
    refine uJ [16] hHeld ?_
    clear hHeld
    refine uF ?_
    refine uZ fun hHeld=>?_
    refine uE ?_
    clear hHeld
    have I6:Ext (At bF) va (((((va.setCell ⟨bF,0,none⟩ (.int .i64 (S.w:Int))).setCell ⟨bF,1,none⟩ (.slice x1 (nw S.w) y1)).setCell ⟨bF,2,none⟩ (.int .i64 (S.w:Int))).setCell ⟨bF,3,none⟩ (.slice x2 (nw S.w) y2)).setCell ⟨bF,4,none⟩ (.slice x3 z3 y3)):=(((((Ext.refl (At bF) va).setAt _ _).setAt _ _).setAt _ _).setAt _ _).setAt _ _
    exact Eo
   case rest=>
   obtain ⟨bF,x1,y1,x2,y2,x3,z3,y3,rfl,rfl,ML,vR,aag,TB⟩:=hcut
   rename World=>wx
   have PZ:=aa (hR.aC vR)
   have aah:=aa (vR.blk Ca ax)
   have abP:=aa (vR.keep IP)
   apply_assumption
   go_upto_region 19 with (fail)
   refine aL [9] (fun w'=>Ext No wx w') (by kernel_rfl) ?_ (fun hHeld=>?_)
   ·exact bX
   have HE:=aa (show Ext No wx wx.drew from (Ext.refl _ _).drew)
   have rE:=aa ((PZ.aC HE).top)
   have TU:=aa (show kA.ok (dW (.slice (some ⟨gB,0,none⟩) N cB) (.slice (some ⟨gI,0,none⟩) N cI) (RL.set n (L,(.slice (some ⟨g,0,none⟩) m1 c2))) wx.drew.heap.size 0) wx.drew ((L[k].1,bM (gJ f (gm t)),Value.slice x1 (nw S.w) y1,Value.slice x2 (nw S.w) y2,Value.slice x3 z3 y3):Int×dS×Value×Value×Value) from (TB.aj HE).raw.mono (fun i hi e=>by
    rcases e with e|e|e|e|e
    ·omega
    ·exact .inl e
    ·exact .inr (.inl e)
    ·exact .inr (.inr e)
    omega))
   have abQ:=aa ((HSk.aj vR).aj HE)
   generalize wx.drew=v0 at*
   refine uJ [0,1,2,3,4,5,6,7,8] hHeld ?_
   clear hHeld
   refine uF ?_
   refine uL ?_ (hy:=sQ)
   iterate 2 refine uF ?_
   refine uL ?_ (hy:=(by intro w hSw;(have x0:=(show Ext No wx _ from hSw).keep abP);go_simp;(try with_reducible rfl)))
   refine uF ?_
   refine uL ?_ (hy:=Er)
   iterate 2 refine uF ?_
   refine uZ fun hHeld=>?_
   refine uN 9 fun K hK=>?_
   ((obtain ⟨⟨u0,u1,u2,u3,u4,u5,q0,q1,q2,q3,q4,q5⟩,f0,f1,f2,f3,f4,f5⟩:=rE.x.xA (t:=n) (i:=k) (L:=L) (g:=g) (c:=c2) (N:=m1) (by rw [List.length_set];have:=vG.out;omega) (by rw [List.getElem_set_self]) vH.symm (by have:=vH.out;omega));go_simp;(clear q0 q1 q2 q3 q4 q5 f0 f1 f2 f3 f4 f5))
   refine uK hK bz ?_
   clear hK K hHeld
   intro hHeld
   refine uE ?_
   clear hHeld
   have Km:=aa (show nL V1 (((((v0.setCell ⟨g,k*6+1,none⟩ (.int .i64 (S.w:Int))).setCell ⟨g,k*6+2,none⟩ (.slice x1 (nw S.w) y1)).setCell ⟨g,k*6+3,none⟩ (.int .i64 (S.w:Int))).setCell ⟨g,k*6+4,none⟩ (.slice x2 (nw S.w) y2)).setCell ⟨g,k*6+5,none⟩ (.slice x3 z3 y3)) [(bS,#[.int .i64 (S.w:Int),.slice d1 (nw S.w) e1,.int .i64 (S.w:Int),.slice d2 (nw S.w) e2,.slice d3 n3 e3],47),(bA,#[.int .i64 (S.w:Int),.slice (some ⟨gB,0,none⟩) N cB,.slice (some ⟨gI,0,none⟩) N cI],26)] v0.heap.size (.slice (some ⟨gB,0,none⟩) N cB) (.slice (some ⟨gI,0,none⟩) N cI) IB (RL.set n (L.set k ((L[k].1,bM (gJ f (gm t)),Value.slice x1 (nw S.w) y1,Value.slice x2 (nw S.w) y2,Value.slice x3 z3 y3):Int×dS×Value×Value×Value),(.slice (some ⟨g,0,none⟩) m1 c2))) from by
    have h:=rE.xB (p:=((L[k].1,bM (gJ f (gm t)),Value.slice x1 (nw S.w) y1,Value.slice x2 (nw S.w) y2,Value.slice x3 z3 y3):Int×dS×Value×Value×Value)) (t:=n) (k:=k) (g:=g) (c:=c2) (L:=L) (by rw [List.length_set];exact vG) (by rw [List.length_set];have:=vG.out;omega) (by rw [List.getElem_set_self,vH]) (by have:=vH.out;omega) rfl TU.out
    rw [List.set_set,vH] at h
    have PI:(gJ f (gm t)).w=S.w:=hfw
    simp only [bM,bJ,PI] at h ⊢
    exact h)
   have HS9:=aa (abQ.ext (show Ext (At g) v0 (((((v0.setCell ⟨g,k*6+1,none⟩ (.int .i64 (S.w:Int))).setCell ⟨g,k*6+2,none⟩ (.slice x1 (nw S.w) y1)).setCell ⟨g,k*6+3,none⟩ (.int .i64 (S.w:Int))).setCell ⟨g,k*6+4,none⟩ (.slice x2 (nw S.w) y2)).setCell ⟨g,k*6+5,none⟩ (.slice x3 z3 y3)) from (((((Ext.refl _ _).setAt _ _).setAt _ _).setAt _ _).setAt _ _).setAt _ _) (fun j _ e=>Nz j (.inr (.inr ⟨(L,(.slice (some ⟨g,0,none⟩) m1 c2)),List.mem_iff_getElem.2 ⟨n,by rw [List.length_set];have:=vG.out;omega,by rw [List.getElem_set_self]⟩,by rw [show j=g from e];rfl⟩))))
   go_wp2_with fail
   go_roundw
   case rel=>exact ⟨k+1,_,L.set k ((L[k].1,bM (gJ f (gm t)),Value.slice x1 (nw S.w) y1,Value.slice x2 (nw S.w) y2,Value.slice x3 z3 y3):Int×dS×Value×Value×Value),HKK,by omega,Km,aa (by rw [List.length_set];exact vH),Jk Yj.out Wx.out oP.out,HS9⟩
   case measure=>simp [intOf];omega
  have hge:¬(k:Int) < (m1:Int):=by omega
  have hkm:k=m1:=by omega
  subst hkm
  have zV:=aa (hR.ext.blk HR1 ax)
  have cR:=cellOf zV.out
  have fR:=aH zV.out
  go_wp2_with fail
  have jR:Ext (At (W.heap.size+1)) wr (((wr.setCell ⟨W.heap.size+1,0,none⟩ (.int .i64 (S.w:Int))).setCell ⟨W.heap.size+1,1,none⟩ (.slice (some ⟨gB,0,none⟩) N cB)).setCell ⟨W.heap.size+1,2,none⟩ (.slice (some ⟨gI,0,none⟩) N cI)):=jw _ _ _ _ _
  have hbF:=(az (j:=2) (u:=(.slice (some ⟨gI,0,none⟩) N cI)) (az (j:=1) (u:=(.slice (some ⟨gB,0,none⟩) N cB)) (az (j:=0) (u:= .int .i64 (S.w:Int)) zV))).trans rfl
  generalize World.setCell (World.setCell (World.setCell wr _ _) _ _) _ _=WF at*
  have cF:=cellOf hbF
  refine aW rfl ?_
  simp [results,Tryz.results24,go_sem,cF]
  have Vz:=hR.toW aaf zV Ce (Nat.le_succ _) jR
  have YQ:n < S.ins.length:=by rw [←HN];exact hn
  have hres:dN S n=Nt S n (gm t):=by
   unfold dN
   rw [dif_pos (by rw [←HI];exact HI1)]
   simp only [←HI.out,←abO.out]
  have hsw:(dN S n).w=S.w:=by rw [hres];rfl
  refine ⟨gB,cB,gI,cI,lim,IB,(RL.set n (L,(.slice a2 k c2))),by rw [hsw],Vz,aa ⟨Vz.x,(adH Ch YQ).1,?_,?_,?_⟩⟩
  ·exact Du
  ·rw [hres]
   show (RL.set n (L,(.slice a2 k c2))).length=(S.ins.set n _).length
   rw [List.length_set,List.length_set]
   exact HS.len
  exact Dv
 have H1:=aa h1
 have zV:=aa (Si.ext.blk HR1 ax)
 have cR:=cellOf zV.out
 have fR:=aH zV.out
 clear h1
 go_wp2_with fail
 have jR:Ext (At (W.heap.size+1)) w3 (((w3.setCell ⟨W.heap.size+1,0,none⟩ (.int .i64 (S.w:Int))).setCell ⟨W.heap.size+1,1,none⟩ (.slice (some ⟨gB,0,none⟩) N cB)).setCell ⟨W.heap.size+1,2,none⟩ (.slice (some ⟨gI,0,none⟩) N cI)):=jw _ _ _ _ _
 have hbF:=(az (j:=2) (u:=(.slice (some ⟨gI,0,none⟩) N cI)) (az (j:=1) (u:=(.slice (some ⟨gB,0,none⟩) N cB)) (az (j:=0) (u:= .int .i64 (S.w:Int)) zV))).trans rfl
 generalize World.setCell (World.setCell (World.setCell w3 _ _) _ _) _ _=WF at*
 have cF:=cellOf hbF
 refine aW rfl ?_
 simp [results,Tryz.results24,go_sem,cF]
 have Vz:=Si.toW aaf zV Ce (Nat.le_succ _) jR
 have hres:dN S n=S:=by
  unfold dN
  rw [dif_neg H1.out]
 rw [hres]
 exact ⟨gB,cB,gI,cI,bA,LB,RL,rfl,Vz,aa ⟨Vz.x,HS.ok,HS.bnd,HS.len,HS.rows⟩⟩

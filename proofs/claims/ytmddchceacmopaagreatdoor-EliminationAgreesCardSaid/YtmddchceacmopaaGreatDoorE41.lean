
import Derived.Test.YtmddchceacmopaaGreatDoorE28
import Derived.Test.YtmddchceacmopaaGreatDoorE38
set_option linter.unusedVariables false
set_option linter.unusedSimpArgs false
namespace Go.Proofs.YtmddchceacmopaaGreatDoor
open Go Go.RowKit
theorem Ef {p:Prop} (h:p:=by intro w hSw;(have x0:=cellOf ((show Ext (At tb) wz _ from hSw).blk HOz HnD));go_simp;(try with_reducible rfl)):p:=h
theorem Eg {p:Prop} (h:p:=by intro w hSw;(have fG:Ext No V _:=hSw);(have x0:=cellOf (fG.blk HA ax));go_simp;(try with_reducible rfl)):p:=h
theorem yc {p:Prop} (h:p:=by intro _;exact HE.aJ (show Ext (fun bq=>Value.ownBlock (.slice (some ⟨EB,0,none⟩) 0 0)=some bq) _ _ from (Ext.refl _ _).grown hg1 (fun bq hk _=>hk)) (fun k hk e=>by have h1:=NU.out;have:EB=k:=Option.some.inj e;omega)):p:=h
theorem Eh {p:Prop} (h:p:=by
 obtain ⟨Xh,hc2⟩:=dM h.i e
 exact jm hc hc2 (by decide) rfl):p:=h
theorem Ei {p:Prop} (h:p:=by
 refine uN 8 fun K hK=>?_
 ((have cS:=cellOf HD.out);(have fS:=aH HD.out);go_simp;(clear cS fS))
 refine uK hK bz ?_
 clear hK K hHeld
 intro hHeld
 refine uE ?_
 clear hHeld
 have I6:Ext (At DB) Mx (((Mx.setCell ⟨DB,0,none⟩ (.int .i64 x)).setCell ⟨DB,1,none⟩ (.slice a1 N c1)).setCell ⟨DB,2,none⟩ (.slice none 0 0)):=(((Ext.refl (At DB) Mx).setAt 0 (.int .i64 x)).setAt 1 (.slice a1 N c1)).setAt 2 (.slice none 0 0)
 have hDF:=(az (j:=2) (u:= .slice none 0 0) (az (j:=1) (u:= .slice a1 N c1) (az (j:=0) (u:= .int .i64 x) HD))).trans rfl
 have hOF:=aZ HO I6 (fun k hk e=>by
  obtain ⟨cur,hc⟩:=dM HO hk
  exact jm HD hc (by decide) (show k=DB from e).symm)
 have Y3:=HE.aJ I6 (fun i hi e=>by have e2:i=DB:=e;have:=MF.out;omega)
 go_wp2_with fail
 go_meet
 exact ⟨DB,a1,c1,rfl,MF,Y3,hDF,hOF⟩):p:=h
theorem Ej {p:Prop} (h:p:=by
 refine uN 5 fun K hK=>?_
 ((refine jY _ (.tmp 7) (.tmp 9) 23 rfl V.heap.size 44 iS _ 2 32 Tryz.underlying23 Tv hS0 hS1 hS2 rfl (by omega) (.slice (some ⟨EB,0,none⟩) 0 0) 0 [] rfl (Bb PU NU) No ab N cb (LB.flatMap kS.cells) rfl (YY.aj HE) (El HOB) (by omega) (by omega) HE.size ?_);(intro v' w9 hown1 hg1 hv1))
 refine uK hK yc ?_
 clear hK K hHeld
 intro hHeld
 simp only [Nat.zero_add,List.nil_append] at hown1
 have kU:=(show Ext (fun bq=>Value.ownBlock (.slice (some ⟨EB,0,none⟩) 0 0)=some bq) _ _ from (Ext.refl _ _).grown hg1 (fun bq hk _=>hk))
 replace HD:=aa (kU.blk HD (fun e=>jm HD PU (by decide) (Option.some.inj e).symm))
 have hgv:=NU.out
 replace HE:=aa (HE.aJ kU (fun k hk e=>by have:EB=k:=Option.some.inj e;omega))
 have HO:=aa hown1
 clear hown1 hg1 hv1 kU PU NU hgv
 obtain ⟨a1,c1,hv1⟩:=(Row.bG (M:=No) HO (fun _ _ x=>x)).slice
 subst hv1
 generalize w9=Mx at*
 refine uJ [6] hHeld ?_
 clear hHeld
 refine uF ?_
 refine uZ fun hHeld=>?_
 exact Ei):p:=h
theorem dP.abJ {w n k:Nat} {l:bP} {f:cK} (h:dP w n l) (hk:k < l.length) (hf:eO f∧f.w=w):dP w n (l.set k (l[k].1,f)):=by
 refine ⟨?_,fun p hp=>?_,fun p hp=>?_⟩
 ·have e:dR (l.set k (l[k].1,f))=dR l:=by
   unfold dR
   rw [List.map_set]
   refine List.ext_getElem (by simp) (fun j h1 h2=>?_)
   rw [List.getElem_set]
   split
   ·rename_i e;subst e;simp
   rfl
  rw [e];exact h.uq
 ·rcases List.mem_or_eq_of_mem_set hp with hp|rfl
  ·exact h.lt p hp
  show l[k].1 < n
  exact h.lt _ (List.getElem_mem hk)
 rcases List.mem_or_eq_of_mem_set hp with hp|rfl
 ·exact h.jX p hp
 exact hf
theorem XJ {w w':World} {base lim lim' i j:Nat} {vb vi v:Value} {LB:LS} {RL:fe} {S:bD} {L:LA} {p:Int×dS×Value×Value×Value} {f:cK} (h:MW w base lim vb vi LB RL S) (hi:i < RL.length) (hq:RL[i]=(L,v)) (hj:j < L.length) (hp:p.1=L[j].1) (hf:p.2.1=bM f) (hok:eO f∧f.w=S.w) (hx:jk w' base lim' vb vi LB (RL.set i (L.set j p,v))):
  ∃S':bD,MW w' base lim' vb vi LB (RL.set i (L.set j p,v)) S'∧S'.w=S.w∧S'.ins.length=S.ins.length∧∀k,aQ vb vi (RL.set i (L.set j p,v)) k→aQ vb vi RL k:=by
 have Tv:i < S.ins.length:=by rw [←h.len];exact hi
 have hrow:L.map fJ=aT (aR S i):=by have h9:=h.rows i hi;rw [hq] at h9;exact h9
 have hjl:j < (aR S i).length:=by have h9:=congrArg List.length hrow;rw [List.length_map,dK] at h9;omega
 have h1:=mJ hrow hj hjl
 have h2:L[j].1=((aR S i)[j].1:Int):=congrArg Prod.fst h1
 have hcut:fJ p=(((aR S i)[j].1:Int),bM f):=by rw [←h2,←hp,←hf];rfl
 have hro:=h.ok.ok.row i
 refine ⟨⟨S.w,S.ins.set i ((aR S i).set j ((aR S i)[j].1,f)),S.bnd⟩,⟨hx,?_,h.bnd,by rw [List.length_set,List.length_set];exact h.len,fun k hk=>?_⟩,rfl,List.length_set,fun k hk=>?_⟩
 ·refine sD h.ok.w8 (by rw [List.length_set];exact h.ok.ok.n1) (by rw [List.length_set];exact h.ok.n8) (by rw [List.length_set];exact h.ok.ok.lb) (fun l hl=>?_) h.ok.ok.bnd
  rw [List.length_set]
  rcases List.mem_or_eq_of_mem_set hl with hl|rfl
  ·obtain ⟨n,hn,rfl⟩:=List.getElem_of_mem hl
   have h9:=h.ok.ok.row n
   rw [wH hn] at h9
   exact h9
  exact hro.abJ hjl hok
 ·have hk2:k < RL.length:=by simpa using hk
  rw [Jo Tv,List.getElem_set]
  by_cases e:i=k
  ·rw [if_pos e,if_pos e.symm]
   show (L.set j p).map fJ=_
   rw [List.map_set,hrow,hcut]
   simp only [aT,List.map_set]
  rw [if_neg e,if_neg (fun h=>e h.symm)]
  exact h.rows k hk2
 rcases hk with e|e|⟨q,hq2,e⟩
 ·exact .inl e
 ·exact .inr (.inl e)
 rcases List.mem_or_eq_of_mem_set hq2 with hq2|rfl
 ·exact .inr (.inr ⟨q,hq2,e⟩)
 exact .inr (.inr ⟨RL[i],List.getElem_mem hi,by rw [hq];exact e⟩)
theorem MW.vU {w w':World} {base lim:Nat} {vb vi:Value} {LB:LS} {RL:fe} {S:bD} {M:Nat→Prop} (h:MW w base lim vb vi LB RL S) (hx:Ext M w w') (hM:∀i,i < w.heap.size→M i→i < base):MW w' base lim vb vi LB RL S:=⟨h.x.vU hx hM,h.ok,h.bnd,h.len,h.rows⟩
theorem XK {w:World} {base lim:Nat} {vb vi:Value} {LB:LS} {RL:fe} {S:mU} (hx:jk w base lim vb vi LB RL) (hS:qR S) (h8:S.w≤8) (hn:S.deps.length≤32) (hb:LB.map Prod.fst=S.bnd.map (bJ S.w)) (hl:RL.length=S.deps.length) (hr:∀i (h:i < RL.length),RL[i].1.map fJ=mF S i):MW w base lim vb vi LB RL (oL S):=
 ⟨hx,Oo hS h8 hn,hb,by rw [hl,lF],fun i hi=>by
  rw [hr i hi,Om (by rw [←hl];exact hi)]
  simp [mF,aT,List.map_map,Function.comp_def]⟩
theorem MW.top {w:World} {base lim:Nat} {vb vi:Value} {LB:LS} {RL:fe} {S:bD} (h:MW w base lim vb vi LB RL S):MW w base w.heap.size vb vi LB RL S:=⟨h.x.lift h.x.lh (Nat.le_refl _),h.ok,h.bnd,h.len,h.rows⟩
def XL (tb n:Nat) (W:World) (e:Ending) (w':World):Prop:=
 ∃(S:bD) (vb vi:Value),e= .returned (.agg #[.int .i64 (S.w:Int),vb,vi])∧Hid (eY S)∧S.ins.length≤n∧Hid (je (Lo W.heap.size) w' vb vi S)∧bB w' tb∧Ext (At tb) W w'
set_option maxRecDepth 100000 in
set_option maxHeartbeats 16000000 in
theorem Oy (tb n:Nat) (W:World) (hn:1≤n) (hn2:n≤32) (ht:bB W tb):Calls Tryz.prog 7 #[.pointer (some ⟨tb,0,none⟩),.int .i64 (n:Int)] W (XL tb n W):=by
 have IU:=ht.lt
 have HT0:=aa ht
 clear ht
 go_enter Tryz.func7,Tryz.ntmps7
 go_upto_region 1 with (fail)
 have hx0:Ext No W (W.alloc (.cells #[.int .i64 0,.slice none 0 0,.slice none 0 0] 26)):=(Ext.refl _ _).alloc _
 have HC:=aa (ah (w:=W) (o:= .cells #[.int .i64 0,.slice none 0 0,.slice none 0 0] 26) rfl)
 have IA:=aa (show (W.alloc (.cells #[.int .i64 0,.slice none 0 0,.slice none 0 0] 26)).heap.size=W.heap.size+1 from by simp)
 have HX:=aa hx0
 clear hx0
 generalize World.alloc W _=V at*
 have Vx:=aa (HT0.ext HX)
 go_wp2_with fail
 refine (Lu tb n V hn (by omega) Vx).mono ?_
 rintro e1 w1 ⟨S0,vd,vt,vb,rfl,Yp,hSn,hS0,hT1,hx1⟩
 obtain ⟨ad,cd,MG,ct,ab,cb,rfl,rfl,rfl⟩:=hS0.slices
 have HT1:=aa hT1
 have nK:=aa hx1
 clear hT1 hx1
 go_upto_region 2 with (fail)
 have hx2:Ext No w1 (w1.alloc (.cells #[.int .i64 (S0.w:Int),.slice ad S0.deps.length cd,.slice MG S0.deps.length ct,.slice ab S0.deps.length cb] 55)):=(Ext.refl _ _).alloc _
 have HB2:=aa (ah (w:=w1) (o:= .cells #[.int .i64 (S0.w:Int),.slice ad S0.deps.length cd,.slice MG S0.deps.length ct,.slice ab S0.deps.length cb] 55) rfl)
 have ji:=aa hx2
 clear hx2
 generalize World.alloc w1 _=w2 at*
 have cB:=cellOf HB2.out
 go_wp2_with fail
 clear cB
 refine (Ou V.heap.size S0 _ _ _ w2 (Nat.le_trans nK.size ji.size) (hS0.ext ji (fun _ _ e=>e.elim))).mono ?_
 rintro e3 w3 ⟨vB,vI,LB,uj,rfl,hMx,CE,Y4,hRr,hx3⟩
 have uu:=XK hMx.out hS0.ok (by omega) (by omega) CE.out Y4.out hRr.out
 obtain ⟨N,hN⟩:∃N,N=uj.length:=⟨_,rfl⟩
 have hN1:1≤N:=by rw [hN,Y4];exact hS0.ok.n1
 have hNn:N≤n:=by rw [hN,Y4];exact hSn
 obtain ⟨gI,cI,rfl⟩:=hMx.XM (by omega)
 rw [←hN] at uu hMx ⊢
 have HN0:=aa (show (oL S0).ins.length=N from by rw [lF,←Y4,hN])
 obtain ⟨MH,MI,hvB⟩:=uu.at.bnd.slice
 have hbl:(oL S0).bnd.length=N:=by rw [uu.ok.ok.lb];exact HN0
 rw [hbl] at hvB
 subst hvB
 clear CE Y4 hRr hN hbl
 obtain ⟨x,hx⟩:∃x,x=S0.w:=⟨_,rfl⟩
 have pK:=aa (ji.af hx3)
 have Wv:=aa hx
 have oF:=aa uu
 rw [←hx] at Yp ⊢
 clear uu hMx hx3 hS0 hx
 go_upto_region 3 with (fail)
 have HO:=aa (ah (w:=w3) (o:= .cells #[.int .i64 (x:Int),.slice MH N MI,.slice (some ⟨gI,0,none⟩) N cI] 26) rfl)
 have hx4:Ext No w3 (w3.alloc (.cells #[.int .i64 (x:Int),.slice MH N MI,.slice (some ⟨gI,0,none⟩) N cI] 26)):=(Ext.refl _ _).alloc _
 have hbV:V.heap.size=W.heap.size+1:=IA
 have hs1:=nK.size
 have hs3:=pK.size
 have hlV:=oF.x.lh
 have NV:=aa ((oF.aC hx4).top)
 have Ab:=aa (show ¬(aQ (.slice MH N MI) (.slice (some ⟨gI,0,none⟩) N cI) uj) w3.heap.size from fun e=>by have:=(oF.x.own e).2;omega)
 have NN:=aa (HT1.ext (pK.af hx4))
 have qO:=aa (nK.af (pK.af hx4))
 have IE:=aa (qO.blk HC (fun e=>by unfold At at e;omega))
 have NW:=aa (show tb < V.heap.size from by omega)
 have Y5:=aa (show V.heap.size≤w3.heap.size from by omega)
 have uf:=aa (HX.lM.trans qO)
 have PN:=aa hbV
 clear hx4 nK pK oF HC HT1 qO ji HB2 Vx IA HX HT0 hs1 hs3 hbV hlV
 generalize World.alloc w3 _=w4 at*
 generalize w3.heap.size=D at*
 generalize V.heap.size=base at*
 go_wp2_with fail
 go_loopw [8,9] (fun s8 _ wr=>∃(i:Nat) (S:bD) (RL:fe),s8= .int .i64 i∧i≤N∧Hid (MW wr base wr.heap.size (.slice MH N MI) (.slice (some ⟨gI,0,none⟩) N cI) LB RL S)∧Hid (S.w=x∧S.ins.length=N)∧Hid (¬(aQ (.slice MH N MI) (.slice (some ⟨gI,0,none⟩) N cI) RL) D)∧Hid (bB wr tb)∧Hid (Ext (fun k=>k=tb∨(base≤k∧k≠D)) w4 wr)) (fun s8 _ _=>N - (intOf s8).toNat)
 case atStart=>exact ⟨0,_,uj,rfl,Nat.zero_le _,NV,aa ⟨Wv.symm,HN0⟩,Ab,NN,Ext.refl _ _⟩
 clear NV Ab NN
 obtain ⟨i,S,RL,rfl,hi,Cq,Kr,Ab,Y6,Y7⟩:=hrel
 rename World=>wr
 have hDF:¬(fun k=>k=tb∨(base≤k∧k≠D)) D:=fun e=>by have:=NW.out;have:=Y5.out;rcases e with e|e<;>omega
 have HDF:=aa hDF
 clear hDF
 have HOr:=aa (Y7.blk HO HDF)
 have cO:=cellOf HOr.out
 by_cases hlt:i < N
 ·have hlz:(i:Int) < (N:Int):=by omega
  have YK:Hid (Value.int .i64 ((i:Int)+1)= .int .i64 ((i+1:Nat):Int)):=aa (by rw [show ((i+1:Nat):Int)=(i:Int)+1 from by omega])
  have vG:=aa (show N=RL.length from by rw [Cq.len,Kr.2])
  have Ty:=aa (show i < RL.length from by have:=vG.out;omega)
  obtain ⟨⟨L0,v0⟩,hq0⟩:∃q,q=RL[i]'Ty.out:=⟨_,rfl⟩
  have hr0:=Cq.x.r _ (List.getElem_mem Ty.out)
  rw [←hq0] at hr0
  obtain ⟨ar,c,hv0⟩:=hr0.slice
  obtain ⟨m,hm⟩:∃m,m=L0.length:=⟨_,rfl⟩
  simp only at hv0
  rw [←hm] at hv0
  subst hv0
  have aad:m≤32:=by
   have h9:=Cq.rowLen Ty.out
   rw [←hq0] at h9
   have h8:=(Cq.ok.ok.row i).len
   rw [Kr.2] at h8
   simp only at h9
   omega
  have HQr:=aa (show ∃(L:LA) (hi:i < RL.length),RL[i]=(L,.slice ar m c)∧L.length=m from ⟨L0,Ty,hq0.symm,hm.symm⟩)
  clear hr0 hq0 hm vG Ty
  have hCI:wr.cell? ⟨gI,i,none⟩=some (.slice ar m c):=by
   obtain ⟨L,Vy,hq,hl⟩:=HQr.out
   have h9:=Cq.x.kV (by rw [Cq.len,Kr.2]) Vy
   rw [hq] at h9
   exact h9
  go_wp2_with fail
  clear cO hCI
  go_loopw [9] (fun s9 wx=>∃(j:Nat) (S:bD) (RL:fe),s9= .int .i64 j∧j≤m∧Hid (MW wx base wx.heap.size (.slice MH N MI) (.slice (some ⟨gI,0,none⟩) N cI) LB RL S)∧Hid (S.w=x∧S.ins.length=N)∧Hid (¬(aQ (.slice MH N MI) (.slice (some ⟨gI,0,none⟩) N cI) RL) D)∧Hid (bB wx tb)∧Hid (Ext (fun k=>k=tb∨(base≤k∧k≠D)) w4 wx)∧Hid (∃(L:LA) (hi:i < RL.length),RL[i]=(L,.slice ar m c)∧L.length=m)) (fun s9 _=>m - (intOf s9).toNat)
  case atStart=>exact ⟨0,S,RL,rfl,Nat.zero_le _,Cq,Kr,Ab,Y6,Y7,HQr⟩
  clear Cq Kr Ab Y6 Y7 HQr HOr
  obtain ⟨j,S,RL,rfl,hj,GU,Kr,Ab,HTx,vR,HQx⟩:=hrel
  rename World=>wx
  have YM:=aa (vR.blk HO HDF)
  have cO:=cellOf YM.out
  have hCI:wx.cell? ⟨gI,i,none⟩=some (.slice ar m c):=by
   obtain ⟨L,Vy,hq,hl⟩:=HQx.out
   have h9:=GU.x.kV (by rw [GU.len,Kr.2]) Vy
   rw [hq] at h9
   exact h9
  by_cases hlt2:j < m
  ·have hjz:(j:Int) < (m:Int):=by omega
   have Sk:Hid (Value.int .i64 ((j:Int)+1)= .int .i64 ((j+1:Nat):Int)):=aa (by rw [show ((j+1:Nat):Int)=(j:Int)+1 from by omega])
   have Cb:=aa hCI
   go_wp2_with fail
   clear cO hCI
   refine (jB tb 2 (by decide) (by decide) wx HTx).mono ?_
   rintro e9 wz ⟨r,rfl,hr,Y8,qb,-⟩
   have Nw:=aa ((GU.vU qb (fun k _ e=>by have:=NW.out;unfold At at e;omega)).top)
   have Y9:=aa Y8
   have WC:=aa (vR.trans (qb.mono (fun k _ e=> .inl e)))
   by_cases hr1:r=1
   ·subst hr1
    obtain ⟨L,Vy,hq,hl⟩:=HQx.out
    obtain ⟨g,cap',hsh⟩:=adI (GU.x.r _ (List.getElem_mem Vy)).own (by rw [hq];simp only;omega)
    rw [hq] at hsh
    simp only [Value.slice.injEq] at hsh
    obtain ⟨rfl,-,rfl⟩:=hsh
    have Ty:=aa Vy
    have HQ:=aa (show RL[i]'Ty.out=(L,.slice (some ⟨g,0,none⟩) m c)∧L.length=m from ⟨hq,hl⟩)
    have HjL:=aa (show j < L.length from by rw [HQ.2];exact hlt2)
    obtain ⟨fz,hfz⟩:∃z:Int,z=(L[j]'HjL.out).1:=⟨_,rfl⟩
    have HFZ:=aa hfz
    clear hfz
    have vG:=aa (show N=RL.length from by rw [GU.len,Kr.2])
    have HOz:=aa (WC.blk HO HDF)
    have HnD:=aa (show ¬At tb D from fun e=>HDF (.inl e))
    have HnI:=aa (show ¬At tb gI from fun e=>by have h1:=(GU.x.own (k:=gI) (.inr (.inl rfl))).1;have:=NW.out;unfold At at e;omega)
    have HCz:=aa (qb.oK Cb HnI)
    have hgo:(aQ (.slice MH N MI) (.slice (some ⟨gI,0,none⟩) N cI) RL) g:= .inr (.inr ⟨_,List.getElem_mem Vy,by rw [hq];rfl⟩)
    have HgB:=aa (GU.x.own hgo).1
    have HgT:=aa (show tb < g from by have:=HgB.out;have:=NW.out;omega)
    have HgD:=aa (show g≠D from fun e=>Ab (e▸hgo))
    have abK:=Nw
    clear hq hl Vy hgo GU HTx vR HQx YM Y8 qb Cb
    go_upto_region 10 with (fail)
    refine aL [12] (fun w'=>Ext (At tb) wz w') (by kernel_rfl) ?_ (fun hHeld=>?_)
    ·exact bX
    have HE:=aa (show Ext No wz wz.drew from (Ext.refl _ _).drew)
    generalize wz.drew=v0 at*
    refine uJ [0,1,2,3,4,5,6,7,8] hHeld ?_
    clear hHeld
    refine uF ?_
    refine uL ?_ (hy:=Ef)
    iterate 2 refine uF ?_
    refine uL ?_ (hy:=(by intro w hSw;(have x0:=(show Ext (At tb) wz _ from hSw).oK HCz HnI);go_simp;(try with_reducible rfl)))
    iterate 3 refine uF ?_
    refine uL ?_ (hy:=Ef)
    refine uZ fun hHeld=>?_
    refine uN 9 fun K hK=>?_
    ((go_simp);(go_at_call 22);(refine (M7 tb x v0 (by omega) (Y9.ext HE)).mono ?_);(rintro e1 va ⟨tr,sg,sk,sc,hw,rfl,hS,Y8,qb⟩);(go_simp))
    refine uK hK (by intro _;exact HE.lM.trans qb) ?_
    clear hK K hHeld
    intro hHeld
    have Yq:=aa hw
    have Xi:=aa hS.ok
    obtain ⟨x1,y1,hs1⟩:=hS.gen.slice
    obtain ⟨x2,y2,hs2⟩:=hS.kill.slice
    obtain ⟨x3,y3,hs3⟩:=Row.slice hS.copies
    rw [hw] at hs1 hs2
    subst hs1 hs2 hs3
    obtain ⟨z3,hz3⟩:∃z3,z3=tr.copies.length:=⟨_,rfl⟩
    rw [←hz3] at hS ⊢
    clear hz3 hw
    have hMz:jk va base va.heap.size (.slice MH N MI) (.slice (some ⟨gI,0,none⟩) N cI) LB RL:=((Nw.x.aC HE).vU qb (fun i _ e=>by have:=NW.out;unfold At at e;omega)).lift (Nat.le_trans Nw.x.lh (Nat.le_trans HE.size qb.size)) (Nat.le_refl _)
    have IV:=aa (show kA.ok (dW (.slice MH N MI) (.slice (some ⟨gI,0,none⟩) N cI) RL va.heap.size base) va ((fz,bM tr,Value.slice x1 (nw x) y1,Value.slice x2 (nw x) y2,Value.slice x3 z3 y3):Int×dS×Value×Value×Value) from hS.raw.mono (fun i hi e=>(Nw.x.aC HE).clear hi e))
    have HMz:=aa hMz
    have Tz:=aa Y8
    replace HE:=aa (HE.lM.trans qb)
    clear hMz Y8 qb hS
    refine uJ [10,11] hHeld ?_
    clear hHeld
    iterate 2 refine uF ?_
    refine uZ fun hHeld=>?_
    refine uN 12 fun K hK=>?_
    ((obtain ⟨⟨u0,u1,u2,u3,u4,u5,q0,q1,q2,q3,q4,q5⟩,f0,f1,f2,f3,f4,f5⟩:=HMz.xA (L:=L) Ty.out HQ.1 HQ.2.symm HjL.out);go_simp;(clear q0 q1 q2 q3 q4 q5 f0 f1 f2 f3 f4 f5))
    refine uK hK bz ?_
    clear hK K hHeld
    intro hHeld
    have Km:jk (((((va.setCell ⟨g,j*6+1,none⟩ (.int .i64 (x:Int))).setCell ⟨g,j*6+2,none⟩ (.slice x1 (nw x) y1)).setCell ⟨g,j*6+3,none⟩ (.int .i64 (x:Int))).setCell ⟨g,j*6+4,none⟩ (.slice x2 (nw x) y2)).setCell ⟨g,j*6+5,none⟩ (.slice x3 z3 y3)) base va.heap.size (.slice MH N MI) (.slice (some ⟨gI,0,none⟩) N cI) LB (RL.set i (L.set j ((fz,bM tr,Value.slice x1 (nw x) y1,Value.slice x2 (nw x) y2,Value.slice x3 z3 y3):Int×dS×Value×Value×Value),(.slice (some ⟨g,0,none⟩) m c))):=by
     have CB:=HQ.2
     have h:=HMz.xB (p:=((fz,bM tr,Value.slice x1 (nw x) y1,Value.slice x2 (nw x) y2,Value.slice x3 z3 y3):Int×dS×Value×Value×Value)) (t:=i) (k:=j) (g:=g) (c:=c) (L:=L) vG.out Ty.out (by rw [HQ.1,CB]) HjL.out HFZ.out IV.out
     rw [CB] at h
     have PI:tr.w=x:=Yq
     simp only [bM,bJ,PI] at h ⊢
     exact h
    have nJ:Ext (At g) va (((((va.setCell ⟨g,j*6+1,none⟩ (.int .i64 (x:Int))).setCell ⟨g,j*6+2,none⟩ (.slice x1 (nw x) y1)).setCell ⟨g,j*6+3,none⟩ (.int .i64 (x:Int))).setCell ⟨g,j*6+4,none⟩ (.slice x2 (nw x) y2)).setCell ⟨g,j*6+5,none⟩ (.slice x3 z3 y3)):=(((((Ext.refl _ _).setAt _ _).setAt _ _).setAt _ _).setAt _ _).setAt _ _
    have HR9:=aa (Km.lift nJ.size (Nat.le_refl _))
    have HTn:=aa (Tz.gM nJ (fun b hb e=>by have:=HgT.out;unfold At at e;omega))
    have HXn:=aa (show Ext (fun k=>k=tb∨(base≤k∧k≠D)) w4 (((((va.setCell ⟨g,j*6+1,none⟩ (.int .i64 (x:Int))).setCell ⟨g,j*6+2,none⟩ (.slice x1 (nw x) y1)).setCell ⟨g,j*6+3,none⟩ (.int .i64 (x:Int))).setCell ⟨g,j*6+4,none⟩ (.slice x2 (nw x) y2)).setCell ⟨g,j*6+5,none⟩ (.slice x3 z3 y3)) from (WC.trans (HE.mono (fun k _ e=> .inl e))).trans (nJ.mono (fun k _ e=> .inr (by rw [show k=g from e];exact ⟨HgB.out,HgD⟩))))
    clear HMz HE nJ Km IV Tz WC Nw Y9 HOz HCz
    generalize World.setCell (World.setCell (World.setCell (World.setCell (World.setCell va _ _) _ _) _ _) _ _) _ _=wn at*
    refine uE ?_
    go_wp2_with fail
    obtain ⟨S',h1,h2,h3,h4⟩:=XJ abK.out Ty.out HQ.1 HjL.out (p:=((fz,bM tr,Value.slice x1 (nw x) y1,Value.slice x2 (nw x) y2,Value.slice x3 z3 y3):Int×dS×Value×Value×Value)) (f:=tr) HFZ.out rfl ⟨Xi.out,by rw [Yq];exact Kr.1.symm⟩ HR9.out
    go_roundw
    case rel=>exact ⟨j+1,S',(RL.set i (L.set j ((fz,bM tr,Value.slice x1 (nw x) y1,Value.slice x2 (nw x) y2,Value.slice x3 z3 y3):Int×dS×Value×Value×Value),(.slice (some ⟨g,0,none⟩) m c))),Sk,by omega,h1,aa ⟨by rw [h2];exact Kr.1,by rw [h3];exact Kr.2⟩,aa (fun e=>Ab (h4 _ e)),HTn,HXn,aa ⟨L.set j ((fz,bM tr,Value.slice x1 (nw x) y1,Value.slice x2 (nw x) y2,Value.slice x3 z3 y3):Int×dS×Value×Value×Value),by rw [List.length_set];exact Ty,by rw [List.getElem_set_self],by rw [List.length_set];exact HQ.2⟩⟩
    case measure=>simp [intOf];omega
   have hr0:¬(r:Int)=1:=by omega
   have hrb:((r:Int)==1)=false:=by rw [beq_eq_false_iff_ne];exact hr0
   go_wp2_with fail
   go_roundw
   case rel=>exact ⟨j+1,S,RL,Sk,by omega,Nw,Kr,Ab,Y9,WC,HQx⟩
   case measure=>simp [intOf];omega
  have hge:¬(j:Int) < (m:Int):=by omega
  go_wp2_with fail
  go_roundw
  case rel=>exact ⟨i+1,S,RL,YK,by omega,GU,Kr,Ab,HTx,vR⟩
  case measure=>simp [intOf];omega
 have hge:¬(i:Int) < (N:Int):=by omega
 have hC:=Y7.blk IE (fun e=>by have:=PN.out;rcases e with e|e<;>omega)
 have cC:=cellOf hC
 have fC:=aH hC
 have jR:Ext (At W.heap.size) wr (((wr.setCell ⟨W.heap.size,0,none⟩ (.int .i64 (x:Int))).setCell ⟨W.heap.size,1,none⟩ (.slice MH N MI)).setCell ⟨W.heap.size,2,none⟩ (.slice (some ⟨gI,0,none⟩) N cI)):=jw _ _ _ _ _
 have hbF:=(az (j:=2) (u:=(.slice (some ⟨gI,0,none⟩) N cI)) (az (j:=1) (u:=(.slice MH N MI)) (az (j:=0) (u:= .int .i64 (x:Int)) hC))).trans rfl
 go_wp2_with fail
 generalize World.setCell (World.setCell (World.setCell wr _ _) _ _) _ _=WF at*
 have cF:=cellOf hbF
 refine aW rfl ?_
 simp [results,Tryz.results7,go_sem,cF]
 have Yn:=PN.out
 exact ⟨S,_,_,by rw [Kr.1],Cq.ok,by rw [Kr.2];exact hNn,(Cq.at.ext jR (fun k _ e=>by unfold At at e;show k < _;omega)).mono (fun k _ e=>by have:k < W.heap.size:=e;omega),Y6.gM jR (fun k hk e=>by unfold At at e;omega),(uf.aJ Y7 (fun k hk e=>by rcases e with e|e;exact e;omega)).aJ jR (fun k hk e=>by unfold At at e;omega)⟩
end Go.Proofs.YtmddchceacmopaaGreatDoor

namespace Go.Proofs.YtmddchceacmopaaGreatDoor
open Go Go.RowKit
structure nL (W wr:World) (Bs:List (Nat×Array Value×TypeId)) (lim:Nat) (vb vi:Value) (LB:LS) (RL:fe):Prop where
 ext:Ext No W wr
 x:jk wr 0 lim vb vi LB RL
 bx:∀b∈Bs,wr.heap[b.1]? =some (.cells b.2.1 b.2.2 (0,0))∧¬aQ vb vi RL b.1
 own:∀k,aQ vb vi RL k→W.heap.size≤k
section
variable {W wr w':World} {Bs:List (Nat×Array Value×TypeId)} {lim lim':Nat} {vb vi v':Value} {RL:fe} {LB:LS}
theorem nL.aC (h:nL W wr Bs lim vb vi LB RL) (hx:Ext No wr w'):nL W w' Bs lim vb vi LB RL:=
 ⟨h.ext.af hx,h.x.aC hx,fun b hb=>⟨hx.blk (h.bx b hb).1 ax,(h.bx b hb).2⟩,h.own⟩
theorem nL.lift (h:nL W wr Bs lim vb vi LB RL) (h1:lim≤lim') (h2:lim'≤wr.heap.size):nL W wr Bs lim' vb vi LB RL:=⟨h.ext,h.x.lift h1 h2,h.bx,h.own⟩
theorem nL.top (h:nL W wr Bs lim vb vi LB RL):nL W wr Bs wr.heap.size vb vi LB RL:=h.lift h.x.lh (Nat.le_refl _)
theorem nL.nM (h:nL W wr Bs lim vb vi LB RL) {d:Nat} {cs:Array Value} {T:TypeId} (hb:wr.heap[d]? =some (.cells cs T (0,0))) (hd:lim≤d):nL W wr ((d,cs,T)::Bs) lim vb vi LB RL:=
 ⟨h.ext,h.x,fun b hb2=>by
  rcases List.mem_cons.1 hb2 with rfl|hb2
  ·exact ⟨hb,fun e=>by have:=(h.x.own e).2;simp only at this;omega⟩
  exact h.bx b hb2,h.own⟩
theorem nL.cut {YO:List (Nat×Array Value×TypeId)} (h:nL W wr Bs lim vb vi LB RL) (hs:∀b∈YO,b∈Bs):nL W wr YO lim vb vi LB RL:=⟨h.ext,h.x,fun b hb=>h.bx b (hs b hb),h.own⟩
theorem nL.change {M:Nat→Prop} {YP:LS} {Wt:fe} (h:nL W wr Bs lim vb vi LB RL) (hx:Ext M wr w') (hM:∀k,k < wr.heap.size→M k→aQ vb vi RL k) (hx2:jk w' 0 lim' vb vi YP Wt) (ho:∀k,aQ vb vi Wt k→aQ vb vi RL k∨wr.heap.size≤k):nL W w' Bs lim' vb vi YP Wt:=by
 have hsz:=h.ext.size
 refine ⟨h.ext.aJ hx (fun i hi e=>?_),hx2,fun b hb=>?_,fun k hk=>?_⟩
 ·have:=h.own i (hM i (by omega) e);omega
 ·exact Dn
 rcases ho k hk with e|e
 ·exact h.own k e
 omega
theorem nL.Ad {g c t N:Nat} {p:bC×Value} (hN:N=LB.length) (h:nL W wr Bs lim (.slice (some ⟨g,0,none⟩) N c) vi LB RL) (ht:t < LB.length) (hp:aU (dW (.slice (some ⟨g,0,none⟩) N c) vi RL lim 0) wr p.2 p.1.words):
  nL W ((wr.setCell ⟨g,t*2,none⟩ (.int .i64 p.1.width)).setCell ⟨g,t*2+1,none⟩ p.2) Bs lim (.slice (some ⟨g,0,none⟩) N c) vi (LB.set t p) RL:=
 h.change (((Ext.refl (At g) wr).setAt _ _).setAt _ _) (fun k _ e=> .inl (by rw [show k=g from e];rfl)) (h.x.Ad hN ht hp) (fun k hk=> .inl hk)
theorem nL.xB {g c t k:Nat} {gI cI NI:Nat} {L:LA} {p:Int×dS×Value×Value×Value} (h:nL W wr Bs lim vb (.slice (some ⟨gI,0,none⟩) NI cI) LB RL) (rD:NI=RL.length) (ht:t < RL.length) (GV:RL[t]=(L,.slice (some ⟨g,0,none⟩) L.length c)) (hk:k < L.length) (hp:p.1=L[k].1)
  (hok:kA.ok (dW vb (.slice (some ⟨gI,0,none⟩) NI cI) RL lim 0) wr p):
  nL W (((((wr.setCell ⟨g,k*6+1,none⟩ (.int .i64 p.2.1.gen.width)).setCell ⟨g,k*6+2,none⟩ p.2.2.1).setCell ⟨g,k*6+3,none⟩ (.int .i64 p.2.1.kill.width)).setCell ⟨g,k*6+4,none⟩ p.2.2.2.1).setCell ⟨g,k*6+5,none⟩ p.2.2.2.2) Bs lim vb (.slice (some ⟨gI,0,none⟩) NI cI) LB (RL.set t (L.set k p,.slice (some ⟨g,0,none⟩) L.length c)):=by
 exact Dp
theorem nL.putRow {g c t N:Nat} {L':LA} {q:LA×Value} (hN:N=RL.length) (h:nL W wr Bs lim vb (.slice (some ⟨g,0,none⟩) N c) LB RL) (ht:t < RL.length) (hq:RL[t]=q)
  (hx:Ext (fun k=>q.2.ownBlock=some k) wr w') (hown:w'.ownsRow 0 49 6 v' L'.length (L'.flatMap kA.cells)) (hok:∀p∈L',kA.ok (dW vb (.slice (some ⟨g,0,none⟩) N c) (RL.set t (L',v')) w'.heap.size 0) w' p)
  (hv:v'.ownBlock=q.2.ownBlock∨∀k,v'.ownBlock=some k→wr.heap.size≤k):
  nL W (w'.setCell ⟨g,t,none⟩ v') Bs w'.heap.size vb (.slice (some ⟨g,0,none⟩) N c) LB (RL.set t (L',v')):=by
 exact Dq
end
end Go.Proofs.YtmddchceacmopaaGreatDoor

namespace Go.Proofs.YtmddchceacmopaaGreatDoor
open Go Go.RowKit
set_option maxRecDepth 100000 in
set_option maxHeartbeats 4000000 in
theorem Jp (n w:Nat) (sl:Value) (l:bP) (W:World) (hr:∀p∈l,eO p.2∧p.2.w=w) (h:fq No W sl l) (hl:l.length≤1024):
  Calls Tryz.prog 66 #[sl,.int .i64 (n:Int)] W (K5 l n W):=by
 have H:=aa h
 have HR:=aa hr
 obtain ⟨a,cap,rfl⟩:=h.slice
 obtain ⟨N,hN⟩:∃N,N=l.length:=⟨_,rfl⟩
 rw [←hN] at hl ⊢
 have HN:=aa hN
 clear h hr hN
 go_enter Tryz.func66,Tryz.ntmps66
 go_wp2_with fail
 go_loopw [5] (fun i wr=>∃k:Nat,i= .int .i64 k∧k≤N∧Hid (Ext No W wr)∧Hid (∀j (hj:j < l.length),j < k→l[j].1≠n)) (fun i _=>N - (intOf i).toNat)
 case atStart=>exact si
 obtain ⟨k,rfl,hk,hx,hm⟩:=hrel
 rename World=>wr
 by_cases hlt:k < N
 ·have hlz:(k:Int) < (N:Int):=by omega
  have HKK:Hid (Value.int .i64 ((k:Int)+1)= .int .i64 ((k+1:Nat):Int)):=aa (by rw [show ((k+1:Nat):Int)=(k:Int)+1 from by omega])
  have hkl:k < l.length:=by have:=HN.out;omega
  have pJ:=aa hkl
  obtain ⟨⟨m,f⟩,jq⟩:∃q:Nat×cK,q=l[k]'pJ.out:=⟨_,rfl⟩
  obtain ⟨b,off,cap',ag,cg,ak,ck,ac,nc,cc,hsl,gt,-,-⟩:=fq.at HR.out (H.aj hx) pJ.out jq
  rw [←HN] at hsl
  simp only [Value.slice.injEq] at hsl
  obtain ⟨rfl,-,rfl⟩:=hsl
  obtain ⟨q0,-⟩:=gt
  have oP:=aa jq
  clear jq hkl
  by_cases hc:m=n
  ·have hc1:(m:Int)=(n:Int):=by omega
   have hcb:((m:Int)==(n:Int))=true:=by rw [beq_iff_eq];exact hc1
   have HC:=aa hc
   clear hc hc1
   go_wp2_with fail
   go_ret
   have e:oh l n=k:=by
    unfold oh
    rw [List.findIdx_eq pJ.out]
    refine ⟨by simp [←oP.out,HC.out],fun j hj=>?_⟩
    simpa using hm j (by have:=pJ.out;omega) hj
   exact ⟨.inl ⟨by rw [e];exact pJ,by rw [e];rfl⟩,hx⟩
  have hc1:¬(m:Int)=(n:Int):=by omega
  have hcb:((m:Int)==(n:Int))=false:=by rw [beq_eq_false_iff_ne];exact hc1
  have HC:=aa hc
  clear hc
  go_wp2_with fail
  go_roundw
  case rel=>exact ⟨k+1,HKK,by omega,hx,aa (fun j hj hjk=>by
   by_cases e:j=k
   ·subst e;rw [←oP];exact HC
   exact hm j hj (by omega))⟩
  case measure=>simp [intOf];omega
 have hge:¬(k:Int) < (N:Int):=by omega
 go_wp2_with fail
 go_ret
 exact ⟨.inr ⟨QE (fun j hj=>hm j hj (by have:=HN.out;omega)),rfl⟩,hx⟩
theorem oZ {w:World} {g base:Nat} (h:w.heap[g]? =some (.cells #[] 49 (0,0))) (hb:base≤g):w.ownsRow base 49 6 (.slice (some ⟨g,0,none⟩) 0 0) 0 []:=
 ⟨rfl,.inr ⟨g,0,#[],rfl,hb,h,Nat.le_refl _,by simp only [maxLen];omega,by simp,by simp⟩⟩
theorem nC {M:Nat→Prop} {w:World} {L:LA} (h:∀r∈L,kA.ok M w r) (L':LA):(∀r∈L',r∈L)→∀u∈L'.flatMap kA.cells,u.oneCell'=true:=fun hs=>ni (fun r hr=>h r (hs r hr))
theorem Em {β:Type} (K:EK β) (L:List β) (i:Nat):(L.flatMap K.cells).take (i*K.s)=(L.take i).flatMap K.cells:=by
 induction L generalizing i with
 |nil=>simp
 |cons b L ih=>
  cases i with
  |zero=>simp
  |succ i=>
   rw [List.flatMap_cons,List.take_succ_cons,List.flatMap_cons,List.take_append,K.len,show (i+1)*K.s - K.s=i*K.s from by rw [Nat.add_mul];omega,ih,List.take_of_length_le (by rw [K.len,Nat.add_mul];omega)]
theorem En {β:Type} (K:EK β) (L:List β) (i:Nat):(L.flatMap K.cells).drop (i*K.s)=(L.drop i).flatMap K.cells:=by
 induction L generalizing i with
 |nil=>simp
 |cons b L ih=>
  cases i with
  |zero=>simp
  |succ i=>
   rw [List.flatMap_cons,List.drop_succ_cons,List.drop_append,K.len,show (i+1)*K.s - K.s=i*K.s from by rw [Nat.add_mul];omega,ih,List.drop_of_length_le (by rw [K.len,Nat.add_mul];omega),List.nil_append]
def XN (L:LA) (i:Nat) (W:World) (e:Ending) (w':World):Prop:=∃v':Value,e= .returned v'∧Hid (w'.ownsRow W.heap.size 49 6 v' (L.eraseIdx i).length ((L.eraseIdx i).flatMap kA.cells))∧Ext No W w'
set_option maxRecDepth 100000 in
set_option maxHeartbeats 4000000 in
theorem wY (sl:Value) (L:LA) (i:Nat) (W:World) (h:jb kA No W sl L) (hi:i < L.length) (hl:L.length≤1024):
  Calls Tryz.prog 68 #[sl,.int .i64 (i:Int)] W (XN L i W):=by
 obtain ⟨iA,um,rC,hA1,hA2⟩:=info_parts Hf
 obtain ⟨b,off,cap,kC,-,-,-⟩:=h.Yo hi
 subst kC
 have hcap:=h.row.caps
 have HAL:=aa h.ok
 obtain ⟨n,hn⟩:∃n,n=L.length:=⟨_,rfl⟩
 rw [←hn] at h hi hl hcap ⊢
 have HN:=aa hn
 have HR1:=aa (show Row No W 6 (.slice (some ⟨b,off,none⟩) i cap) i ((L.take i).flatMap kA.cells) from by
  have h9:=Row.takeC (k:=i) (by have h8:=h.row;rw [←hn] at h8;exact h8) (by omega)
  rw [Em kA] at h9
  exact h9)
 obtain ⟨A,hA⟩:∃A,A=(if cap=i+1 then some (⟨b,off,none⟩:Addr) else some ⟨b,off+(i+1)*6,none⟩):=⟨_,rfl⟩
 have HR2:=aa (show Row No W 6 (.slice A (n - (i+1)) (cap - (i+1))) (n - (i+1)) ((L.drop (i+1)).flatMap kA.cells) from by
  by_cases hc:cap=i+1
  ·have e1:n - (i+1)=0:=by omega
   have e2:L.drop (i+1)=[]:=List.drop_of_length_le (by have:=HN.out;omega)
   rw [e1,e2]
   exact Row.nil _ _ _ _ _ (by omega)
  have h9:=Row.drop (k:=i+1) (by have h8:=h.row;rw [←hn] at h8;exact h8) (by omega)
  rw [En kA] at h9
  rw [hA,if_neg hc]
  exact h9)
 have abL:=hA.symm
 clear hA
 have hic:i≤cap:=by omega
 have hp1:0≤(i:Int)+1:=by omega
 have hp2:(i:Int)+1≤(n:Int):=by omega
 have hiz:(i:Int) < (n:Int):=by omega
 have hi1:IntKind.i64.wrap ((i:Int)+1)=((i+1:Nat):Int):=by rw [IntKind.wrap_i64];omega
 clear h hn
 go_enter Tryz.func68,Tryz.ntmps68
 go_upto_region 1 with (fail)
 refine uW (fun w'=>Ext No W w') aS fun hHeld=>?_
 have HE:=aa (show Ext No W W.drew from (Ext.refl _ _).drew)
 generalize W.drew=v0 at*
 refine uO [1,2,3,5,6,7,8] ?_
 iterate 7 refine uT ?_
 refine uZ ?_
 refine hHc 0 fun K hK=>?_
 go_simp
 refine uK hK nA ?_
 clear hK K hHeld
 intro hHeld
 have aF:=(Ext.refl No v0).alloc (.cells #[] 49)
 have hE:=aa (ah (w:=v0) (o:=(.cells #[] 49)) rfl)
 have WE:=aa (show W.heap.size≤v0.heap.size from HE.size)
 replace HE:=aa (HE.af aF)
 clear aF
 generalize World.alloc v0 _=v1 at*
 generalize v0.heap.size=EB at*
 refine hHc 4 fun K hK=>?_
 ((refine jY _ (.tmp 5) (.tmp 8) 40 rfl W.heap.size 49 iA _ 6 96 Tryz.underlying40 um rC hA1 hA2 rfl (by omega) (.slice (some ⟨EB,0,none⟩) 0 0) 0 [] rfl (oZ hE WE) No (some ⟨b,off,none⟩) i cap ((L.take i).flatMap kA.cells) rfl (HR1.aj HE) (nC HAL _ (fun r hr=>by first|exact List.mem_of_mem_take hr|exact List.mem_of_mem_drop hr)) (by omega) (by omega) HE.size ?_);(intro v' w9 hown1 hg1 hv1))
 refine uK hK (by exact (Ext.aJ HE (show Ext (fun bq=>Value.ownBlock (.slice (some ⟨EB,0,none⟩) 0 0)=some bq) _ _ from (Ext.refl _ _).grown hg1 (fun bq hk _=>hk)) (fun k hk e=>by have h1:=WE.out;have:EB=k:=Option.some.inj e;omega))) ?_
 clear hK K hHeld
 intro hHeld
 simp only [Nat.zero_add,List.nil_append] at hown1
 have kU:Ext (fun bq=>Value.ownBlock (.slice (some ⟨EB,0,none⟩) 0 0)=some bq) v1 w9:=(Ext.refl _ _).grown hg1 (fun bq hk _=>hk)
 have hgv:=WE.out
 replace HE:=aa (HE.aJ kU (fun k hk e=>by have:EB=k:=Option.some.inj e;omega))
 have Za:=aa hown1
 clear hown1 hg1 hv1 kU hE WE hgv
 obtain ⟨a1,c1,hv1⟩:=(Row.bG (M:=No) Za (fun _ _ x=>x)).slice
 subst hv1
 generalize w9=v2 at*
 refine hHc 9 fun K hK=>?_
 ((refine jY _ (.tmp 9) (.tmp 13) 40 rfl W.heap.size 49 iA _ 6 96 Tryz.underlying40 um rC hA1 hA2 rfl (by omega) (.slice a1 i c1) i ((L.take i).flatMap kA.cells) rfl Za No A (n - (i+1)) (cap - (i+1)) ((L.drop (i+1)).flatMap kA.cells) rfl (HR2.aj HE) (nC HAL _ (fun r hr=>by first|exact List.mem_of_mem_take hr|exact List.mem_of_mem_drop hr)) (by omega) (by omega) HE.size ?_);(intro v' w9 hown1 hg1 hv1))
 refine uK hK (by exact (Ext.aJ HE (show Ext (fun bq=>Value.ownBlock (.slice a1 i c1)=some bq) _ _ from (Ext.refl _ _).grown hg1 (fun bq hk _=>hk)) (fun k hk e=>by have:=(World.ownsRow.lt Za k e).1;omega))) ?_
 clear hK K hHeld
 intro hHeld
 have kU:Ext (fun bq=>Value.ownBlock (.slice a1 i c1)=some bq) v2 w9:=(Ext.refl _ _).grown hg1 (fun bq hk _=>hk)
 replace HE:=aa (HE.aJ kU (fun k hk e=>by have:=(World.ownsRow.lt Za k e).1;omega))
 have hO2:=aa hown1
 clear hown1 hg1 hv1 kU Za
 obtain ⟨a2,c2,hv2⟩:=(Row.bG (M:=No) hO2 (fun _ _ x=>x)).slice
 subst hv2
 generalize w9=v3 at*
 refine uA 10 ?_
 refine uD ?_
 go_wp2_with fail
 go_ret
 refine ⟨_,rfl,aa ?_,HE⟩
 have h9:=hO2.out
 rw [←List.flatMap_append] at h9
 have e1:L.take i++L.drop (i+1)=L.eraseIdx i:=(List.eraseIdx_eq_take_drop_succ ..).symm
 rw [e1] at h9
 have e2:(L.eraseIdx i).length=i+(n - (i+1)):=by rw [List.length_eraseIdx,if_pos (by rw [←HN];exact hi),←HN];omega
 rw [e2]
 exact h9
end Go.Proofs.YtmddchceacmopaaGreatDoor

namespace Go.Proofs.YtmddchceacmopaaGreatDoor
open Go Go.RowKit
theorem jm {w:World} {a b:Nat} {cs cs':Array Value} {T T':TypeId} {f f':Nat×Nat} (h:w.heap[a]? =some (.cells cs T f)) (h':w.heap[b]? =some (.cells cs' T' f')) (hT:T≠T'):a≠b:=fun e=>by
 subst e
 rw [h] at h'
 simp only [Option.some.injEq,Obj.cells.injEq] at h'
 exact hT h'.2.1
theorem dM {w:World} {B s n g:Nat} {T:TypeId} {v:Value} {xs:List Value} (h:w.ownsRow B T s v n xs) (hk:v.ownBlock=some g):∃cur,w.heap[g]? =some (.cells cur T (0,0)):=by
 rcases h.2 with ⟨rfl,_⟩|⟨g',c,cur,rfl,hb,hg,_⟩
 ·cases hk
 cases hk
 exact ⟨cur,hg⟩
theorem Bb {w:World} {g base:Nat} (h:w.heap[g]? =some (.cells #[] 44 (0,0))) (hb:base≤g):w.ownsRow base 44 2 (.slice (some ⟨g,0,none⟩) 0 0) 0 []:=
 ⟨rfl,.inr ⟨g,0,#[],rfl,hb,h,Nat.le_refl _,by simp only [maxLen];omega,by simp,by simp⟩⟩
theorem El {M:Nat→Prop} {w:World} {L:LS} (h:∀r∈L,kS.ok M w r):∀u∈L.flatMap kS.cells,u.oneCell'=true:=fun u hu=>by
 obtain ⟨p,hp,hu⟩:=List.mem_flatMap.1 hu
 obtain ⟨a,c,e⟩:=(show aU M w p.2 p.1.words from h p hp).slice
 simp only [kS,List.mem_cons,List.not_mem_nil,or_false] at hu
 rcases hu with rfl|rfl
 ·rfl
 rw [e];rfl
structure MJ (W wr:World) (n0 D:Nat) (x:Int) (vb vi:Value) (LB:LS) (RL:fe):Prop where
 ext:Ext No W wr
 n0w:W.heap.size≤n0
 n0l:n0 < wr.heap.size
 box:wr.heap[D]? =some (.cells #[.int .i64 x,vb,vi] 26 (0,0))
 dn:n0≤D
 b:wr.ownsRow n0 44 2 vb LB.length (LB.flatMap kS.cells)
 i:wr.ownsRow n0 40 1 vi RL.length (RL.map Prod.snd)
 r:∀p∈RL,wr.ownsRow n0 49 6 p.2 p.1.length (p.1.flatMap kA.cells)
 zN:∀i j (hi:i < RL.length) (hj:j < RL.length),i≠j→∀k,RL[i].2.ownBlock=some k→RL[j].2.ownBlock≠some k
 okB:∀p∈LB,kS.ok (fun b=>W.heap.size≤b) wr p
 okR:∀p∈RL,∀q∈p.1,kA.ok (fun b=>W.heap.size≤b) wr q
section
variable {W wr w' w1 w2:World} {n0 D:Nat} {x:Int} {vb vi v v':Value} {LB:LS} {RL:fe} {L:LA}
theorem MJ.step {M:Nat→Prop} (h:MJ W wr n0 D x vb vi LB RL) (hx:Ext M wr w') (hM:∀k,M k→W.heap.size≤k) (hD:¬M D) (hb:∀k,vb.ownBlock=some k→¬M k) (hi:∀k,vi.ownBlock=some k→¬M k) (hr:∀p∈RL,∀k,p.2.ownBlock=some k→¬M k):MJ W w' n0 D x vb vi LB RL:=
 ⟨h.ext.aJ hx (fun i hi2 e=>absurd hi2 (Nat.not_lt.2 (hM i e))),h.n0w,Nat.lt_of_lt_of_le h.n0l hx.size,hx.blk h.box hD,h.dn,aZ h.b hx hb,aZ h.i hx hi,fun p hp=>aZ (h.r p hp) hx (hr p hp),h.zN,fun p hp=>kS.ext (h.okB p hp) hx (fun i _ e=>hM i e),fun p hp q hq=>kA.ext (h.okR p hp q hq) hx (fun i _ e=>hM i e)⟩
theorem MJ.aC (h:MJ W wr n0 D x vb vi LB RL) (hx:Ext No wr w'):MJ W w' n0 D x vb vi LB RL:=
 h.step hx (fun _ e=>e.elim) (fun e=>e) (fun _ _ e=>e) (fun _ _ e=>e) (fun _ _ _ _ e=>e)
theorem MJ.push (h:MJ W wr n0 D x vb vi LB RL) (hx1:Ext No wr w1) (hown:w1.ownsRow wr.heap.size 49 6 v L.length (L.flatMap kA.cells)) (hok:∀q∈L,kA.ok (fun b=>W.heap.size≤b) w1 q)
  (hi:w2.ownsRow n0 40 1 v' (RL.length+1) (RL.map Prod.snd++[v])) (hx2:Ext (fun k=>vi.ownBlock=some k) w1 w2) (hv:v'.ownBlock=vi.ownBlock∨v'.ownBlock=some w1.heap.size):
  MJ W (w2.setCell ⟨D,2,none⟩ v') n0 D x vb v' LB (RL++[(L,v)]):=by
 have h1:=h.aC hx1
 have hs1:=hx1.size
 have hn:=h1.n0w
 have hE:Ext (At D) w2 (w2.setCell ⟨D,2,none⟩ v'):=(Ext.refl (At D) w2).setAt 2 v'
 have hlo:∀k,vi.ownBlock=some k→n0≤k:=fun k hk=>(World.ownsRow.lt h1.i k hk).1
 have hDi:¬vi.ownBlock=some D:=fun e=>by
  obtain ⟨cur,hc⟩:=dM h1.i e
  exact jm h1.box hc (by decide) rfl
 have hbi:∀k,vb.ownBlock=some k→¬vi.ownBlock=some k:=fun k hk e=>by
  obtain ⟨cur,hc⟩:=dM h1.b hk
  obtain ⟨Xh,hc2⟩:=dM h1.i e
  exact jm hc hc2 (by decide) rfl
 have hri:∀p∈RL,∀k,p.2.ownBlock=some k→¬vi.ownBlock=some k:=fun p hp k hk e=>by
  obtain ⟨cur,hc⟩:=dM (h1.r p hp) hk
  obtain ⟨Xh,hc2⟩:=dM h1.i e
  exact jm hc hc2 (by decide) rfl
 have zU:∀k,v.ownBlock=some k→¬vi.ownBlock=some k:=fun k hk e=>by
  have h2:=(World.ownsRow.lt hown k hk).1
  have h3:=(World.ownsRow.lt h.i k e).2
  omega
 have VY:=hx2.blk h1.box hDi
 have hDt:∀k cur T,w2.heap[k]? =some (.cells cur T (0,0))→ 26 ≠T→¬At D k:=fun k cur T hk hT e=>jm VY hk hT (show k=D from e).symm
 have hb2:=aZ h1.b hx2 hbi
 have hv2:=aZ hown hx2 zU
 have hr2:∀p∈RL,w2.ownsRow n0 49 6 p.2 p.1.length (p.1.flatMap kA.cells):=fun p hp=>aZ (h1.r p hp) hx2 (hri p hp)
 have hE2:Ext (fun k=>W.heap.size≤k) w1 (w2.setCell ⟨D,2,none⟩ v'):=(hx2.mono (fun i _ e=>Nat.le_trans hn (hlo i e))).trans (hE.mono (fun i _ e=>by have e2:i=D:=e;have:=h1.dn;omega))
 refine ⟨h1.ext.aJ hE2 (fun i hi2 e=>absurd hi2 (Nat.not_lt.2 e)),h1.n0w,Nat.lt_of_lt_of_le h1.n0l hE2.size,(az (j:=2) (u:=v') VY).trans rfl,h1.dn,aZ hb2 hE (fun k hk=>?_),?_,fun p hp=>?_,fun i j hi1 hj1 hij k hk=>?_,fun p hp=>kS.ext (h1.okB p hp) hE2 (fun i _ e=>e),fun p hp q hq=>?_⟩
 ·obtain ⟨cur,hc⟩:=dM hb2 hk
  exact hDt k cur _ hc (by decide)
 ·have h3:=aZ hi hE (fun k hk=>by
   obtain ⟨cur,hc⟩:=dM hi hk
   exact hDt k cur _ hc (by decide))
  rw [List.length_append,List.length_singleton,List.map_append]
  exact h3
 ·rcases List.mem_append.1 hp with hp|hp
  ·exact aZ (hr2 p hp) hE (fun k hk=>by
    obtain ⟨cur,hc⟩:=dM (hr2 p hp) hk
    exact hDt k cur _ hc (by decide))
  rw [List.mem_singleton.1 hp]
  exact dY (aZ hv2 hE (fun k hk=>by
   obtain ⟨cur,hc⟩:=dM hv2 hk
   exact hDt k cur _ hc (by decide))) (Nat.le_of_lt h.n0l)
 ·have hnew:∀(j:Nat) (hj:j < RL.length),RL[j].2.ownBlock=some k→¬v.ownBlock=some k:=fun j hj e1 e2=>by
   have h2:=(World.ownsRow.lt hown k e2).1
   have h3:=(World.ownsRow.lt (h.r _ (List.getElem_mem hj)) k e1).2
   omega
  have hli:i < RL.length+1:=by simpa using hi1
  have hlj:j < RL.length+1:=by simpa using hj1
  by_cases ei:i < RL.length
  ·rw [List.getElem_append_left ei] at hk
   by_cases ej:j < RL.length
   ·rw [List.getElem_append_left ej]
    exact h.zN i j ei ej hij k hk
   have:j=RL.length:=by omega
   subst this
   rw [List.getElem_concat_length rfl]
   exact hnew i ei hk
  have:i=RL.length:=by omega
  subst this
  rw [List.getElem_concat_length rfl] at hk
  have ej:j < RL.length:=by omega
  rw [List.getElem_append_left ej]
  exact fun e=>hnew j ej e hk
 rcases List.mem_append.1 hp with hp|hp
 ·exact kA.ext (h1.okR p hp q hq) hE2 (fun i _ e=>e)
 rw [List.mem_singleton.1 hp] at hq
 exact kA.ext (hok q hq) hE2 (fun i _ e=>e)
theorem MJ.fin (h:MJ W wr n0 D x vb vi LB RL):nL W wr [] wr.heap.size vb vi LB RL:=by
 have hn:=h.n0w
 have hlo:∀k,(vb.ownBlock=some k∨vi.ownBlock=some k∨∃p∈RL,p.2.ownBlock=some k)→n0≤k∧k < wr.heap.size:=fun k hk=>by
  rcases hk with hk|hk|⟨p,hp,hk⟩
  ·exact World.ownsRow.lt h.b k hk
  ·exact World.ownsRow.lt h.i k hk
  exact World.ownsRow.lt (h.r p hp) k hk
 have hot:∀i,i < wr.heap.size→dW vb vi RL wr.heap.size 0 i→W.heap.size≤i:=fun i hi e=>by
  rcases e with e|e|e|e|e
  ·omega
  ·have:=(hlo i (.inl e)).1;omega
  ·have:=(hlo i (.inr (.inl e))).1;omega
  ·have:=(hlo i (.inr (.inr e))).1;omega
  omega
 refine ⟨h.ext,⟨Nat.zero_le _,Nat.le_refl _,⟨dY h.b (Nat.zero_le _),fun p hp=>kS.mono (h.okB p hp) (fun i hi e=>?_)⟩,dY h.i (Nat.zero_le _),fun p hp=>⟨dY (h.r p hp) (Nat.zero_le _),fun q hq=>kA.mono (h.okR p hp q hq) (fun i hi e=>?_)⟩,fun k hk e=>?_,fun p hp k hk=>⟨fun e=>?_,fun e=>?_⟩,h.zN,fun k hk=>(hlo k (.inl hk)).2,fun k hk=>(hlo k (.inr (.inl hk))).2,fun p hp k hk=>(hlo k (.inr (.inr ⟨p,hp,hk⟩))).2⟩,fun b hb=>(List.not_mem_nil hb).elim,fun k hk=>Nat.le_trans hn (hlo k hk).1⟩
 ·rcases e with e|e
  ·exact hot i hi e
  exact Nat.le_trans hn (hlo i (.inl e)).1
 ·rcases e with e|e
  ·exact hot i hi e
  exact Nat.le_trans hn (hlo i (.inr (.inr ⟨p,hp,e⟩))).1
 ·obtain ⟨cur,hc⟩:=dM h.b hk
  exact Eh
 ·obtain ⟨cur,hc⟩:=dM (h.r p hp) hk
  obtain ⟨Xh,hc2⟩:=dM h.b e
  exact jm hc hc2 (by decide) rfl
 obtain ⟨cur,hc⟩:=dM (h.r p hp) hk
 exact Eh
end
def aaZ (x:Int) (LB:LS) (Li:fe) (W:World) (e:Ending) (w':World):Prop:=∃vb vi RL,e= .returned (.agg #[.int .i64 x,vb,vi])∧Hid (nL W w' [] w'.heap.size vb vi LB RL)∧Hid (RL.map Prod.fst=Li.map Prod.fst)
set_option maxRecDepth 100000 in
set_option maxHeartbeats 8000000 in
theorem Bc (x:Int) (vb vi:Value) (LB:LS) (Li:fe) (W:World) (h:YW No W vb vi LB Li) (hB:LB.length≤1000) (hI:Li.length≤1000) (hR:∀p∈Li,p.1.length≤1000):
  Calls Tryz.prog 65 #[.agg #[.int .i64 x,vb,vi]] W (aaZ x LB Li W):=by
 obtain ⟨iS,Tv,hS0,hS1,hS2⟩:=info_parts yZ
 obtain ⟨iA,um,rC,hA1,hA2⟩:=info_parts Hf
 obtain ⟨iL,GX,hL0,hL1,hL2⟩:=info_parts QK
 obtain ⟨ab,cb,rfl⟩:=h.b.slice
 obtain ⟨ai,ci,rfl⟩:=h.i.slice
 have HY:=aa h
 have Ce:=aa hR
 obtain ⟨N,hN⟩:∃N,N=LB.length:=⟨_,rfl⟩
 obtain ⟨NI,rD⟩:∃NI,NI=Li.length:=⟨_,rfl⟩
 have aae:=aa (show Row No W 2 (.slice ab N cb) N (LB.flatMap kS.cells) from by have h9:=h.b.row;rw [←hN] at h9;exact h9)
 rw [←hN] at HY hB ⊢
 rw [←rD] at HY hI ⊢
 have HN:=aa hN
 have NY:=aa rD
 clear h hR hN rD
 go_enter Tryz.func65,Tryz.ntmps65
 go_upto_region 1 with (fail)
 have hx0:Ext No W ((W.alloc (.cells #[.int .i64 x,.slice ab N cb,.slice ai NI ci] 26)).alloc (.cells #[.int .i64 0,.slice none 0 0,.slice none 0 0] 26)):=((Ext.refl _ _).alloc _).alloc _
 have HA:=aa (zK hx0)
 have HR:=aa (zM hx0)
 have HX0:=aa hx0
 have G7:=aa (HY.aj hx0)
 have YY:=aa (aae.aj hx0)
 have HOB:=aa G7.b.ok
 have TA:=aa (show ((W.alloc (.cells #[.int .i64 x,.slice ab N cb,.slice ai NI ci] 26)).alloc (.cells #[.int .i64 0,.slice none 0 0,.slice none 0 0] 26)).heap.size=W.heap.size+2 from by simp)
 clear hx0 aae
 generalize World.alloc (World.alloc W _) _=V at*
 go_cut [3] (fun s3 wx=>∃(DB:Nat) (a1:Option Addr) (c1:Nat),s3= .pointer (some ⟨DB,0,none⟩)∧Hid (V.heap.size≤DB)∧Hid (Ext No V wx)∧Hid (wx.heap[DB]? =some (.cells #[.int .i64 x,.slice a1 N c1,.slice none 0 0] 26 (0,0)))∧Hid (wx.ownsRow V.heap.size 44 2 (.slice a1 N c1) N (LB.flatMap kS.cells)))
 case first=>
  refine aL [8] (fun w'=>Ext No V w') (by kernel_rfl) ?_ (fun hHeld=>?_)
  ·exact bX
  have HE:=aa (show Ext No V V.drew from (Ext.refl _ _).drew)
  generalize V.drew=v0 at*
  refine uJ [0,1,3,4] hHeld ?_
  clear hHeld
  refine uF ?_
  refine uL ?_ (hy:=Eg)
  refine uF ?_
  refine uL ?_ (hy:=Eg)
  refine uZ fun hHeld=>?_
  refine gT (i:=2) (j:=7) (by kernel_rfl) (iV.mk rfl rfl (fun K hK=>?_)) (iV.mk rfl rfl (fun K hK=>?_))
  ·go_simp
   refine uK hK fF ?_
   clear hK K hHeld
   intro hHeld
   have hya:=(Ext.refl No v0).alloc (.cells #[] 44)
   have PU:=aa (ah (w:=v0) (o:=(.cells #[] 44)) rfl)
   have NU:=aa (show V.heap.size≤v0.heap.size from HE.size)
   replace HE:=aa (HE.af hya)
   clear hya
   generalize World.alloc v0 _=PV at*
   generalize v0.heap.size=EB at*
   refine gT (i:=5) (j:=7) (by kernel_rfl) (iV.mk rfl rfl (fun K hK=>?_)) (iV.mk rfl rfl (fun K hK=>?_))
   ·((refine jY _ (.tmp 7) (.tmp 9) 23 rfl V.heap.size 44 iS _ 2 32 Tryz.underlying23 Tv hS0 hS1 hS2 rfl (by omega) (.slice (some ⟨EB,0,none⟩) 0 0) 0 [] rfl (Bb PU NU) No ab N cb (LB.flatMap kS.cells) rfl (YY.aj HE) (El HOB) (by omega) (by omega) HE.size ?_);(intro v' w9 hown1 hg1 hv1))
    refine uK hK yc ?_
    clear hK K hHeld
    intro hHeld
    simp only [Nat.zero_add,List.nil_append] at hown1
    have kU:=(show Ext (fun bq=>Value.ownBlock (.slice (some ⟨EB,0,none⟩) 0 0)=some bq) _ _ from (Ext.refl _ _).grown hg1 (fun bq hk _=>hk))
    have hgv:=NU.out
    replace HE:=aa (HE.aJ kU (fun k hk e=>by have:EB=k:=Option.some.inj e;omega))
    have HO:=aa hown1
    clear hown1 hg1 hv1 kU PU NU hgv
    obtain ⟨a1,c1,hv1⟩:=(Row.bG (M:=No) HO (fun _ _ x=>x)).slice
    subst hv1
    generalize w9=KH at*
    refine uJ [6] hHeld ?_
    clear hHeld
    refine uF ?_
    refine uZ fun hHeld=>?_
    refine uN 7 fun K hK=>?_
    go_simp
    refine uK hK fF ?_
    clear hK K hHeld
    intro hHeld
    have hya:=(Ext.refl No KH).alloc (.cells #[.int .i64 0,.slice none 0 0,.slice none 0 0] 26)
    have HD:=aa (ah (w:=KH) (o:= .cells #[.int .i64 0,.slice none 0 0,.slice none 0 0] 26) rfl)
    have MF:=aa (show V.heap.size≤KH.heap.size from HE.size)
    replace HO:=aa (aZ HO hya (fun _ _ e=>e))
    replace HE:=aa (HE.af hya)
    clear hya
    generalize World.alloc KH _=Mx at*
    generalize KH.heap.size=DB at*
    exact Ei
   go_simp
   refine uK hK fF ?_
   clear hK K hHeld
   intro hHeld
   have hya:=(Ext.refl No PV).alloc (.cells #[.int .i64 0,.slice none 0 0,.slice none 0 0] 26)
   have HD:=aa (ah (w:=PV) (o:= .cells #[.int .i64 0,.slice none 0 0,.slice none 0 0] 26) rfl)
   have MF:=aa (show V.heap.size≤PV.heap.size from HE.size)
   replace PU:=aa (hya.blk PU ax)
   replace HE:=aa (HE.af hya)
   clear hya
   generalize World.alloc PV _=KH at*
   generalize PV.heap.size=DB at*
   exact Ej
  go_simp
  refine uK hK fF ?_
  clear hK K hHeld
  intro hHeld
  have hya:=(Ext.refl No v0).alloc (.cells #[.int .i64 0,.slice none 0 0,.slice none 0 0] 26)
  have HD:=aa (ah (w:=v0) (o:= .cells #[.int .i64 0,.slice none 0 0,.slice none 0 0] 26) rfl)
  have MF:=aa (show V.heap.size≤v0.heap.size from HE.size)
  replace HE:=aa (HE.af hya)
  clear hya
  generalize World.alloc v0 _=PV at*
  generalize v0.heap.size=DB at*
  refine uN 2 fun K hK=>?_
  go_simp
  refine uK hK fF ?_
  clear hK K hHeld
  intro hHeld
  have hya:=(Ext.refl No PV).alloc (.cells #[] 44)
  have PU:=aa (ah (w:=PV) (o:=(.cells #[] 44)) rfl)
  have NU:=aa (show V.heap.size≤PV.heap.size from HE.size)
  replace HD:=aa (hya.blk HD ax)
  replace HE:=aa (HE.af hya)
  clear hya
  generalize World.alloc PV _=KH at*
  generalize PV.heap.size=EB at*
  exact Ej
 case rest=>
 obtain ⟨DB,a1,c1,rfl,MF,Kl,Y5,MK⟩:=hcut
 rename World=>wx
 have Vw:=aa (show MJ V wx V.heap.size DB x (.slice a1 N c1) (.slice none 0 0) LB [] from ⟨Kl.out,Nat.le_refl _,Nat.lt_of_le_of_lt MF (lt_of_block Y5.out),Y5,MF,by rw [←HN];exact MK,⟨rfl,.inl ⟨rfl,rfl⟩⟩,fun p hp=>(List.not_mem_nil hp).elim,fun i j hi=>absurd hi (Nat.not_lt_zero _),fun p hp=>kS.mono (kS.ext (kS.mono (M':=fun b=>W.heap.size≤b) (HY.b.ok p hp) (fun i hi e=>by omega)) (HX0.af Kl) (fun _ _ e=>e.elim)) (fun i hi e=>Nat.le_trans HX0.size e),fun p hp=>(List.not_mem_nil hp).elim⟩)
 apply_assumption
 clear YY HOB MF Kl Y5 MK
 go_wp2_with fail
 go_loopw [4] (fun s4 wr=>∃(k:Nat) (vi:Value) (RL:fe),s4= .int .i64 k∧k≤NI∧Hid (MJ V wr V.heap.size DB x (.slice a1 N c1) vi LB RL)∧Hid (RL.map Prod.fst=(Li.map Prod.fst).take k)) (fun s4 _=>NI - (intOf s4).toNat)
 case atStart=>exact ⟨0,_,[],rfl,Nat.zero_le _,Vw,rfl⟩
 clear Vw
 obtain ⟨k,vi,RL,rfl,hk,HQ,oP⟩:=hrel
 rename World=>wr
 have KT:=aa (HQ.ext.blk HA ax)
 have cA:=cellOf KT.out
 by_cases hlt:k < NI
 ·have hlz:(k:Int) < (NI:Int):=by omega
  have IW:(0:Int)≤(k:Int):=by omega
  have HKK:Hid (Value.int .i64 ((k:Int)+1)= .int .i64 ((k+1:Nat):Int)):=aa (by rw [show ((k+1:Nat):Int)=(k:Int)+1 from by omega])
  have hki:k < Li.length:=by have:=NY.out;omega
  have HKI:=aa hki
  have pJ:=aa (show RL.length=k from by have h9:=congrArg List.length oP.out;simp only [List.length_map,List.length_take] at h9;omega)
  obtain ⟨bi,oi,pi,hsl,-,-,hc⟩:=(G7.i.aj HQ.ext).at hki
  rw [←NY] at hsl
  simp only [Value.slice.injEq] at hsl
  obtain ⟨rfl,-,rfl⟩:=hsl
  have hci:=hc k hki 0 _ (by decide) rfl
  have hn0:=Ce.out _ (List.getElem_mem hki)
  have hor:=HY.i.ok _ (List.getElem_mem hki)
  obtain ⟨p0,hp0⟩:∃p0,p0=Li[k]'hki:=⟨_,rfl⟩
  rw [←hp0] at hci hn0 hor
  obtain ⟨L,slr⟩:=p0
  have HLE:=aa (show [(Li[k]'HKI.out).1]=[L] from by rw [←hp0])
  replace hor:jb kA No W slr L:=hor
  obtain ⟨ar,cr,rfl⟩:=hor.slice
  obtain ⟨n,hn⟩:∃n,n=L.length:=⟨_,rfl⟩
  have hrr:Row No wr 6 (.slice ar n cr) n (L.flatMap kA.cells):=by
   have h9:=(hor.aj (HX0.af HQ.ext)).row
   rw [←hn] at h9
   exact h9
  have HRR:=aa hrr
  have HOR:=aa (hor.aj (HX0.af HQ.ext)).ok
  have abM:=aa (show ∀q∈L,kA.ok (fun b=>V.heap.size≤b) wr q from fun q hq=>kA.mono (kA.ext (kA.mono (M':=fun b=>W.heap.size≤b) (hor.ok q hq) (fun i hi e=>by omega)) (HX0.af HQ.ext) (fun _ _ e=>e.elim)) (fun i hi e=>Nat.le_trans HX0.size e))
  rw [←hn] at hci hn0
  have PS:=aa hn.symm
  have Cb:=aa (show wr.cell? ⟨bi,oi+k,none⟩=some (.slice ar n cr) from by have h9:=hci;simp only [kL,Nat.mul_one,Nat.add_zero] at h9;exact h9)
  obtain ⟨vq,cq,Zb⟩:=(Row.bG (M:=No) HQ.i (fun _ _ x=>x)).slice
  rw [pJ] at Zb
  subst Zb
  have Vn:=aa HQ.box
  clear hc hp0 hor hrr hki hci hn
  go_upto_region 5 with (fail)
  clear cA
  refine aL [10,12] (fun w'=>Ext No wr w') (by kernel_rfl) ?_ (fun hHeld=>?_)
  ·exact bX
  have HE:=aa (show Ext No wr wr.drew from (Ext.refl _ _).drew)
  generalize wr.drew=v0 at*
  refine uJ [0,1,3,4,5,6,7] hHeld ?_
  clear hHeld
  refine uF ?_
  refine uL ?_ (hy:=(by intro w hSw;(have fG:Ext No wr _:=hSw);(have x0:=cellOf (fG.blk Vn ax));go_simp;(try with_reducible rfl)))
  refine uF ?_
  refine uL ?_ (hy:=(by intro w hSw;(have fG:Ext No wr _:=hSw);(have x0:=cellOf (fG.blk KT ax));go_simp;(try with_reducible rfl)))
  iterate 2 refine uF ?_
  refine uL ?_ (hy:=(by intro w hSw;(have fG:Ext No wr _:=hSw);(have x0:=fG.keep Cb);go_simp;(try with_reducible rfl)))
  refine uZ fun hHeld=>?_
  refine uN 2 fun K hK=>?_
  go_simp
  refine uK hK fF ?_
  clear hK K hHeld
  intro hHeld
  have hya:=(Ext.refl No v0).alloc (.cells #[] 49)
  have PU:=aa (ah (w:=v0) (o:=(.cells #[] 49)) rfl)
  have NU:=aa (show wr.heap.size≤v0.heap.size from HE.size)
  replace HE:=aa (HE.af hya)
  clear hya
  generalize World.alloc v0 _=v1 at*
  generalize v0.heap.size=EB at*
  refine uN 8 fun K hK=>?_
  ((refine jY _ (.tmp 21) (.tmp 26) 40 rfl wr.heap.size 49 iA _ 6 96 Tryz.underlying40 um rC hA1 hA2 rfl (by omega) (.slice (some ⟨EB,0,none⟩) 0 0) 0 [] rfl (oZ PU NU) No ar n cr (L.flatMap kA.cells) rfl (HRR.aj HE) (ni HOR) (by omega) (by omega) HE.size ?_);(intro v' w9 hown1 hg1 hv1))
  refine uK hK yc ?_
  clear hK K hHeld
  intro hHeld
  simp only [Nat.zero_add,List.nil_append] at hown1
  have kU:=(show Ext (fun bq=>Value.ownBlock (.slice (some ⟨EB,0,none⟩) 0 0)=some bq) _ _ from (Ext.refl _ _).grown hg1 (fun bq hk _=>hk))
  have hgv:=NU.out
  replace HE:=aa (HE.aJ kU (fun k hk e=>by have:EB=k:=Option.some.inj e;omega))
  have HO:=aa hown1
  clear hown1 hg1 hv1 kU PU NU hgv
  obtain ⟨a1,c1,hv1⟩:=(Row.bG (M:=No) HO (fun _ _ x=>x)).slice
  subst hv1
  generalize w9=v2 at*
  refine uN 9 fun K hK=>?_
  go_simp
  refine uK hK fF ?_
  clear hK K hHeld
  intro hHeld
  have hya:=(Ext.refl No v2).alloc (.cells #[.slice a1 n c1] 40)
  have Sg:=aa (ah (w:=v2) (o:=(.cells #[.slice a1 n c1] 40)) rfl)
  replace HE:=aa (HE.af hya)
  replace HO:=aa (aZ HO hya (fun _ _ e=>e))
  have HQ3:=aa (HQ.aC HE)
  have HI3:=aa (show World.ownsRow _ V.heap.size 40 1 (.slice vq k cq) k (RL.map Prod.snd) from by have h9:=HQ3.i;rw [pJ] at h9;exact h9)
  clear hya
  generalize World.alloc v2 _=v3 at*
  generalize v2.heap.size=sb at*
  refine uN 10 fun K hK=>?_
  ((refine jY _ (.tmp 20) (.tmp 28) 24 rfl V.heap.size 40 iL _ 1 24 Tryz.underlying24 GX hL0 hL1 hL2 rfl (by omega) (.slice vq k cq) k (RL.map Prod.snd) rfl HI3 No (some ⟨sb,0,none⟩) 1 1 [.slice a1 n c1] rfl (Row.block (cs:=#[.slice a1 n c1]) Sg rfl ax (by omega)) (by simp [Value.oneCell']) (by omega) (by omega) (Nat.le_trans (Nat.le_of_lt HQ.n0l) HE.size) ?_);(intro v' w9 hown1 hg1 hv1))
  refine uK hK bz ?_
  clear hK K hHeld
  intro hHeld
  have kU:=(show Ext (fun bq=>(Value.slice vq k cq).ownBlock=some bq) v3 w9 from (Ext.refl _ _).grown hg1 (fun bq hk _=>hk))
  have I7:=aa kU
  have Yr:=aa hown1
  have HV9:=aa hv1
  have HB9:=aa (kU.blk HQ3.box (fun e=>by
   obtain ⟨cur,hc⟩:=dM HI3 e
   exact jm HQ3.box hc (by decide) rfl))
  obtain ⟨a9,c9,hv9⟩:=(Row.bG (M:=No) hown1 (fun _ _ x=>x)).slice
  subst hv9
  clear hown1 hg1 hv1 kU
  refine uJ [11] hHeld ?_
  clear hHeld
  refine uF ?_
  refine uZ fun hHeld=>?_
  refine uN 12 fun K hK=>?_
  ((have cS:=cellOf HB9.out);(have fS:=aH HB9.out);go_simp;(clear cS fS))
  refine uK hK bz ?_
  clear hK K hHeld
  intro hHeld
  refine uE ?_
  clear hHeld
  have hP:=HQ.push (L:=L) (v:= .slice a1 n c1) HE (by rw [PS];exact HO) (fun q hq=>kA.mono (kA.ext (abM q hq) HE (fun _ _ e=>e.elim)) (fun _ _ e=>e)) (by rw [pJ];exact Yr) I7 HV9
  have HP:=aa hP
  clear hP
  go_wp2_with fail
  go_roundw
  case rel=>exact ⟨k+1,_,RL++[(L,.slice a1 n c1)],HKK,by omega,HP,aa (by rw [List.map_append,oP,List.take_succ_eq_append_getElem (by rw [List.length_map];have:=NY.out;omega),List.getElem_map,HLE];rfl)⟩
  case measure=>simp [intOf];omega
 have hge:¬(k:Int) < (NI:Int):=by omega
 have hkn:k=NI:=by omega
 have hF:=HQ.fin
 have zV:=aa (HQ.ext.blk HR ax)
 obtain ⟨vq,cq,Zb⟩:=(Row.bG (M:=No) HQ.i (fun _ _ x=>x)).slice
 have PX:RL.length=NI:=by have h9:=congrArg List.length oP.out;have h8:=NY.out;simp only [List.length_map,List.length_take] at h9;omega
 rw [PX] at Zb
 subst Zb
 have cD:=cellOf HQ.box
 have cR:=cellOf zV.out
 have fR:=aH zV.out
 have HF:=aa hF
 clear hF
 go_wp2_with fail
 have jR:Ext (At (W.heap.size+1)) wr (((wr.setCell ⟨W.heap.size+1,0,none⟩ (.int .i64 x)).setCell ⟨W.heap.size+1,1,none⟩ (.slice a1 N c1)).setCell ⟨W.heap.size+1,2,none⟩ (.slice vq NI cq)):=jw _ _ _ _ _
 have hbF:=(az (j:=2) (u:= .slice vq NI cq) (az (j:=1) (u:= .slice a1 N c1) (az (j:=0) (u:= .int .i64 x) zV))).trans rfl
 generalize World.setCell (World.setCell (World.setCell wr _ _) _ _) _ _=WF at*
 have cF:=cellOf hbF
 refine aW rfl ?_
 simp [results,Tryz.results65,go_sem,cF]
 have hon:¬aQ (.slice a1 N c1) (.slice vq NI cq) RL (W.heap.size+1):=fun e=>by
  have h9:=HF.own _ e
  have h8:=TA.out
  omega
 refine ⟨_,_,RL,rfl,aa ⟨(HX0.af HQ.ext).aJ jR (fun i hi e=>by have e2:i=W.heap.size+1:=e;omega),(HF.x.pW zV hon jR).lift jR.size (Nat.le_refl _),fun b hb=>(List.not_mem_nil hb).elim,fun q hq=>Nat.le_trans HX0.size (HF.own q hq)⟩,aa ?_⟩
 rw [oP,hkn,NY,List.take_of_length_le (by rw [List.length_map];exact Nat.le_refl _)]

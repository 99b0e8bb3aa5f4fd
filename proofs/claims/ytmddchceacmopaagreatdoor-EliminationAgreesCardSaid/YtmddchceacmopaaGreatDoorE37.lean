
import Derived.Test.YtmddchceacmopaaGreatDoorE26
set_option linter.unusedVariables false
set_option linter.unusedSimpArgs false
namespace Go.Proofs.YtmddchceacmopaaGreatDoor
open Go Go.RowKit
structure YW (M:Nat→Prop) (W:World) (vb vi:Value) (LB:LS) (Li:fe):Prop where
 b:jb kS M W vb LB
 i:jb kL M W vi Li
section
variable {M M':Nat→Prop} {W W':World} {vb vi:Value} {LB:LS} {Li:fe}
theorem YW.ext (h:YW M W vb vi LB Li) (hx:Ext M' W W') (hm:∀i,i < W.heap.size→M' i→M i):YW M W' vb vi LB Li:=⟨h.b.ext hx hm,h.i.ext hx hm⟩
theorem YW.aj (h:YW M W vb vi LB Li) (hx:Ext No W W'):YW M W' vb vi LB Li:=h.ext hx (fun _ _ x=>x.elim)
theorem YW.no (h:YW M W vb vi LB Li):YW No W vb vi LB Li:=⟨h.b.mono (fun _ _ x=>x.elim),h.i.mono (fun _ _ x=>x.elim)⟩
end
def dZ (L:LA):List Int:=L.map (·.1)
def jS (Li:fe) (k:Nat):Nat:=((Li.take k).map fun p=>p.1.length).sum
theorem sF {Li:fe} {k:Nat} (hk:k < Li.length):jS Li (k+1)=jS Li k+Li[k].1.length:=by
 unfold jS
 exact D8
def Qi (x:Int) (N:Nat) (L:LA):Prop:=oI (dZ L) N∧∀q∈L,Af x q.2.1
structure VW (x:Int) (LB:LS) (Li:fe):Prop where
 w:0≤x∧x≤256
 n:1≤Li.length∧Li.length≤256
 lb:LB.length=Li.length
 bn:∀p∈LB,ze x p.1
 row:∀k (h:k < Li.length),jS Li (k+1)≤1024∧Qi x Li.length Li[k].1
def mD (Li:fe):Prop:=∀p∈Li,p.1.length≤1500000000000
set_option maxRecDepth 100000 in
set_option maxHeartbeats 8000000 in
theorem oC (x:Int) (vb vi:Value) (LB:LS) (Li:fe) (W:World) (h:YW No W vb vi LB Li) (hre:mD Li):
  Calls Tryz.prog 10 #[.agg #[.int .i64 x,vb,vi]] W (kz (VW x LB Li) W):=by
 obtain ⟨i0,hi0,hz0,hz1,hz2⟩:=info_parts QJ
 have H:=aa h
 have IK:=aa hre
 obtain ⟨ab,cb,rfl⟩:=h.b.slice
 obtain ⟨ai,ci,rfl⟩:=h.i.slice
 obtain ⟨N,hN⟩:∃N,N=Li.length:=⟨_,rfl⟩
 rw [←hN] at H ⊢
 have HN:=aa hN
 have abC:=h.i.row.2.1
 rw [←hN] at abC
 have abD:=h.b.row.2.1
 clear h hre hN
 go_enter Tryz.func10,Tryz.ntmps10
 go_wp2_with fail
 have hx0:Ext No W (W.alloc (.cells #[.int .i64 x,.slice ab LB.length cb,.slice ai N ci] 26)):=(Ext.refl _ _).alloc _
 have HB:=aa (ah (w:=W) (o:=(.cells #[.int .i64 x,.slice ab LB.length cb,.slice ai N ci] 26)) rfl)
 have HX:=aa hx0
 clear hx0
 generalize World.alloc W _=V at*
 have hVs:=lt_of_block HB.out
 refine (DL _ _ _).mono ?_
 rintro e1 w1 ⟨b1,rfl,hb1,hx1⟩
 have cB:=cellOf (hx1.blk HB ax)
 cases b1 with
 |false=>
  have HF:=aa (ig hb1)
  clear hb1
  go_wp2_with fail
  go_ret
  exact aP (fun h=>HF ⟨h.w,by have:=h.n.1;have:=HN.out;omega,by have:=h.n.2;have:=HN.out;omega⟩) (HX.af hx1)
 |true=>
 have HZ:=aa (iG hb1)
 have hn1:1≤N:=by have:=HZ.2.1;omega
 have hn2:N≤256:=by have:=HZ.2.2;omega
 clear hb1
 by_cases hbl:LB.length=N
 ·obtain ⟨B,hB⟩:∃B,B=LB.length:=⟨_,rfl⟩
  rw [←hB] at HB H cB abD ⊢
  have Vu:=aa hB
  have hBN:B=N:=hB.trans hbl
  clear hB hbl
  subst hBN
  go_wp2_with fail
  clear cB
  refine (Jl _ _ LB _ (by have h9:=(H.aj (HX.af hx1)).b;exact h9)).mono ?_
  rintro e2 w2 ⟨b2,rfl,hb2,hx2⟩
  have ji:=aa (hx1.af hx2)
  clear hx1 hx2
  have cB:=cellOf (ji.blk HB ax)
  cases b2 with
  |false=>
   have HF:=aa (ig hb2)
   clear hb2
   go_wp2_with fail
   go_ret
   exact aP (fun h=>HF h.bn) (HX.af ji)
  |true=>
  have HFS:=aa (iG hb2)
  clear hb2
  go_wp2_with fail
  clear cB
  go_loopw [4,6,7,9,36] (fun s4 _ _ _ WA wr=>∃k:Nat,WA= .int .i64 k∧s4= .int .i64 (jS Li k:Int)∧k≤B∧jS Li k≤1024∧Hid (∀j (h:j < Li.length),j < k→jS Li (j+1)≤1024∧Qi x Li.length Li[j].1)∧Hid (Ext No V wr)) (fun _ _ _ _ WA _=>B - (intOf WA).toNat)
  case atStart=>exact ⟨0,rfl,rfl,Nat.zero_le _,Nat.zero_le _,aa (fun j _ hj=>absurd hj (Nat.not_lt_zero _)),ji⟩
  clear ji
  obtain ⟨k,rfl,rfl,hk,hsk,hrk,hx⟩:=hrel
  rename World=>wr
  by_cases hlt:k < B
  ·have hlz:(k:Int) < (B:Int):=by omega
   have HKK:Hid (Value.int .i64 ((k:Int)+1)= .int .i64 ((k+1:Nat):Int)):=aa (by rw [show ((k+1:Nat):Int)=(k:Int)+1 from by omega])
   have hkl:k < Li.length:=by have:=HN.out;omega
   have pJ:=aa hkl
   obtain ⟨bi,oi,ki,kC,-,-,hcell⟩:=(H.aj HX).i.atL hkl
   rw [←HN] at kC
   simp only [Value.slice.injEq] at kC
   obtain ⟨rfl,-,rfl⟩:=kC
   have Y1:=hcell k hkl
   obtain ⟨⟨L,sl⟩,hq⟩:∃q,q=Li[k]'pJ.out:=⟨_,rfl⟩
   have hrow:jb kA No V sl L:=by have h9:=(H.aj HX).i.ok _ (List.getElem_mem hkl);rw [←hq] at h9;exact h9
   rw [←hq] at Y1
   have hs1:=sF hkl
   rw [←hq] at hs1
   simp only at hs1 Y1
   have hln:L.length≤1500000000000:=by have h9:=IK.out _ (List.getElem_mem hkl);rw [←hq] at h9;exact h9
   have HQ:=aa hq
   obtain ⟨aA,cA,rfl⟩:=hrow.slice
   obtain ⟨n,hn⟩:∃n,n=L.length:=⟨_,rfl⟩
   have PS:=aa hn
   have HR:=aa hrow
   rw [←hn] at Y1 hs1 hln HR
   have ga:=hx.keep Y1
   clear hcell Y1 hq hn hrow hkl
   go_wp2_with fail
   clear ga
   have hbs:=hx.size
   go_loopw [7,9,42] (fun s7 _ i wx=>∃j:Nat,i= .int .i64 j∧j≤n∧Hid (wx.ownsRow V.heap.size 3 1 s7 j (((dZ L).take j).map (.int .i64)))∧Hid (Ext No V wx)) (fun _ _ i _=>n - (intOf i).toNat)
   case atStart=>exact DN
   clear hx hbs
   obtain ⟨j,rfl,hj,hown,hx⟩:=hrel
   rename World=>wx
   obtain ⟨s1,t1,hs7⟩:=(Row.bG (M:=No) hown (fun _ _ x=>x)).slice
   subst hs7
   by_cases hlt2:j < n
   ·have hjz:(j:Int) < (n:Int):=by omega
    have Sk:Hid (Value.int .i64 ((j:Int)+1)= .int .i64 ((j+1:Nat):Int)):=aa (by rw [show ((j+1:Nat):Int)=(j:Int)+1 from by omega])
    have hjd:j < L.length:=by have:=PS.out;omega
    obtain ⟨ba,oa,ka,kC,_,_,h4⟩:=(HR.aj hx).Yo hjd
    rw [←PS] at kC
    simp only [Value.slice.injEq] at kC
    obtain ⟨rfl,-,rfl⟩:=kC
    obtain ⟨cz,c0,c1,c2,c3,c4⟩:=h4 j hjd
    have g5:bN No wx L[j].2.2.1 L[j].2.2.2.1 L[j].2.2.2.2 L[j].2.1:=(HR.aj hx).ok _ (List.getElem_mem hjd)
    obtain ⟨ag,cg,e1⟩:=g5.gen.slice
    obtain ⟨ak,ck,e2⟩:=g5.kill.slice
    obtain ⟨ac,cc,e3⟩:=Row.slice g5.copies
    rw [e1] at c1
    rw [e2] at c3
    rw [e3] at c4
    have YV:=aa (show ((dZ L).take (j+1)).map (Value.int .i64)=((dZ L).take j).map (Value.int .i64)++[.int .i64 L[j].1] by
     rw [List.take_succ_eq_append_getElem (by simp [dZ];exact hjd),List.map_append]
     simp [dZ])
    generalize L[j].1=z0 at*
    generalize L[j].2.1.gen.width=z1 at*
    generalize L[j].2.1.kill.width=z2 at*
    generalize L[j].2.1.gen.words.length=n1 at*
    generalize L[j].2.1.kill.words.length=n2 at*
    generalize L[j].2.1.copies.length=n3 at*
    clear h4 g5 e1 e2 e3 hjd
    go_upto_region 12 with (fail)
    clear cz c0 c1 c2 c3 c4
    have Ko:=hx.af ((Ext.refl No wx).alloc (.cells #[.int .i64 z0,.int .i64 z1,.slice ag n1 cg,.int .i64 z2,.slice ak n2 ck,.slice ac n3 cc] 49))
    have HF:=aa (ah (w:=wx) (o:=(.cells #[.int .i64 z0,.int .i64 z1,.slice ag n1 cg,.int .i64 z2,.slice ak n2 ck,.slice ac n3 cc] 49)) rfl)
    have HOWN:=aa (dG hown ((Ext.refl No wx).alloc (.cells #[.int .i64 z0,.int .i64 z1,.slice ag n1 cg,.int .i64 z2,.slice ak n2 ck,.slice ac n3 cc] 49)) (fun _ _ x=>x))
    have hbb:=Ko.size
    have uf:=aa Ko
    clear hown hx Ko
    generalize World.alloc wx _=wf at*
    generalize wx.heap.size=B6 at*
    have cF:=cellOf HF.out
    go_wp2_with (at_builtin;(refine bE _ rfl (.tmp 46) (.tmp 49) 22 rfl V.heap.size 3 i0 _ 1 8 Tryz.underlying22 hi0 hz0 hz1 hz2 rfl (by omega) (.slice s1 j t1) j (((dZ L).take j).map (.int .i64)) rfl (dG HOWN.out ((Ext.refl No _).alloc _) (fun _ _ x=>x)) No (some ⟨wf.heap.size,0,none⟩) 1 1 [.int .i64 z0] rfl (Row.block (ah rfl) rfl ax (by omega)) (by simp [Value.oneCell']) (by omega) (by omega) ?_ ?_);(first|exact hbb|(simp;omega));(intro v1 w9 hown1 hg1 hv1);(have lg:=aa (M4 uf.out hg1 (fun b hb=>(World.ownsRow.lt HOWN.out b hb).1) (Nat.le_refl _)));(have ho9:=aa hown1);(clear hown1 hg1 hv1))
    exact DR
   have hge:¬(j:Int) < (n:Int):=by omega
   have hjn:j=n:=by omega
   have HI:=aa (show Ints No wx .i64 (.slice s1 n t1) (dZ L) from by
    have h:=Row.bG (M:=No) hown (fun _ _ x=>x)
    have e2:=PS.out
    rw [hjn,List.take_of_length_le (by simp [dZ];omega)] at h
    have e:(dZ L).length=n:=by simp [dZ,e2]
    unfold Ints
    rw [e]
    exact h)
   have hadd:IntKind.i64.wrap ((jS Li k:Int)+(n:Int))=(jS Li (k+1):Int):=by rw [IntWalk.i64_in _ (by omega)];omega
   have GQ:=aa (show Value.int .i64 ((jS Li k:Int)+(n:Int))= .int .i64 (jS Li (k+1):Int) from by rw [show ((jS Li (k+1):Nat):Int)=(jS Li k:Int)+(n:Int) from by omega])
   clear hown
   by_cases hsum:jS Li (k+1)≤1024
   ·have hle:¬((1024:Int) < (jS Li (k+1):Int)):=by omega
    go_wp2_with fail
    refine (uM _ _ _ _ HI).mono ?_
    rintro e3 w3 ⟨b3,rfl,hb3,hx3⟩
    have pK:=aa (hx.af hx3)
    cases b3 with
    |false=>
     have HF:=aa (ig hb3)
     clear hb3
     go_wp2_with fail
     go_ret
     exact aP (fun h=>HF (by have h9:=(h.row k pJ.out).2.1;rw [←HQ] at h9;rw [←HN] at h9;exact h9)) (HX.af pK)
    |true=>
    have HAS:=aa (iG hb3)
    have c0:=aa (show w3.cell? ⟨W.heap.size,0,none⟩=some (.int .i64 x) from cellOf (pK.blk HB ax) 0)
    have HRw:=aa (HR.aj pK)
    clear hx3 hx hb3
    go_wp2_with fail
    refine (uP x W.heap.size _ L _ (by have h9:=HRw.out;exact h9) c0.out).mono ?_
    rintro e4 w4 ⟨b4,rfl,hb4,hx4⟩
    have qO:=aa (pK.af hx4)
    cases b4 with
    |true=>
     have HF:=aa (iG hb4)
     clear hb4
     go_wp2_with fail
     go_ret
     exact aP (fun h=>by
      obtain ⟨q,hq,hne⟩:=HF.out
      have h9:=(h.row k pJ.out).2.2
      rw [←HQ] at h9
      exact hne (h9 _ (List.getElem_mem hq))) (HX.af qO)
    |false=>
     have HF:=aa (ig hb4)
     clear hb4 hx4
     go_wp2_with fail
     go_roundw
     case rel=>exact ⟨k+1,HKK,GQ,by omega,hsum,aa (fun j hj hjk=>by
      by_cases e:j=k
      ·subst e
       refine ⟨hsum,?_⟩
       rw [←HQ,←HN]
       refine ⟨HAS.out,fun q hq=>?_⟩
       obtain ⟨i,hi,rfl⟩:=List.getElem_of_mem hq
       exact Classical.not_not.1 (fun hne=>HF ⟨i,hi,hne⟩)
      exact hrk j hj (by omega)),qO⟩
     case measure=>simp [intOf];omega
   have hgt:(1024:Int) < (jS Li (k+1):Int):=by omega
   have HS:=aa hsum
   clear hsum
   go_wp2_with fail
   go_ret
   exact aP (fun h=>HS (h.row k pJ.out).1) (HX.af hx)
  have hge:¬(k:Int) < (B:Int):=by omega
  go_wp2_with fail
  go_ret
  exact iw ⟨HZ.1,⟨by have:=HN.out;omega,by have:=HN.out;omega⟩,by rw [←Vu,HN],HFS,fun j hj=>hrk j hj (by have:=HN.out;omega)⟩ (HX.af hx)
 have abE:¬(LB.length:Int)=(N:Int):=by omega
 have acZ:((LB.length:Int)==(N:Int))=false:=by rw [beq_eq_false_iff_ne];exact abE
 have HF:=aa hbl
 clear hbl
 go_wp2_with fail
 go_ret
 exact aP (fun h=>HF (by rw [h.lb,HN])) (HX.af hx1)
end Go.Proofs.YtmddchceacmopaaGreatDoor

namespace Go.Proofs.YtmddchceacmopaaGreatDoor
open Go Go.RowKit
structure CW (S:bD) (x:Int) (LB:LS) (Li:fe):Prop where
 w:x=(S.w:Int)
 ok:nI S
 bnd:LB.map Prod.fst=S.bnd.map (bJ S.w)
 len:Li.length=S.ins.length
 rows:∀i (h:i < Li.length),Li[i].1.map fJ=aT (aR S i)
theorem CW.at {M:Nat→Prop} {W:World} {S:bD} {x:Int} {vb vi:Value} {LB:LS} {Li:fe} (h:CW S x LB Li) (hy:YW M W vb vi LB Li):je M W vb vi S:=
 ⟨h.ok,hy.b.Mw h.bnd h.ok.w h.ok.bnd,Li,hy.i,h.len,h.rows⟩
theorem adS {α β:Type} {P:α→β→Prop}:∀(l:List α),(∀a∈l,∃b,P a b)→∃m:List β,m.length=l.length∧∀i (h:i < l.length) (h2:i < m.length),P l[i] m[i]
 |[],_=>⟨[],rfl,fun i h=>absurd h (Nat.not_lt_zero _)⟩
 |a::l,h=>by
  obtain ⟨b,hb⟩:=h a (List.mem_cons_self ..)
  obtain ⟨m,h1,h2⟩:=adS l (fun q hq=>h q (List.mem_cons_of_mem _ hq))
  refine ⟨b::m,by simp [h1],fun i hi hi2=>?_⟩
  cases i with
  |zero=>exact hb
  |succ i=>exact h2 i (by simpa using hi) (by simpa using hi2)
theorem Re {w N:Nat} {W:World} {sl:Value} {L:LA} (h:Qi (w:Int) N L) (hm:jb kA No W sl L):∃l:bP,L.map fJ=aT l∧dP w N l:=by
 obtain ⟨l,h1,h2⟩:=adS (P:=fun (q:Int×dS×Value×Value×Value) (p:Nat×cK)=>q.1=(p.1:Int)∧q.2.1=bM p.2∧eO p.2∧p.2.w=w∧p.1 < N) L (fun q hq=>by
  have h3:=h.2 q hq
  have h4:bN No W q.2.2.1 q.2.2.2.1 q.2.2.2.2 q.2.1:=hm.ok q hq
  obtain ⟨t,ho,he⟩:=D9 h3.1 h4.gen.lt h4.kill.lt
  obtain ⟨i,hi,rfl⟩:=List.getElem_of_mem hq
  have h5:=h.1 i (by simpa [dZ] using hi)
  simp only [dZ,List.getElem_map] at h5
  have h6:=h3.2
  rw [he] at h6
  have h7:((t.w:Nat):Int)=(w:Int):=h6
  exact ⟨(L[i].1.toNat,t),by simp only;omega,he,ho,by simp only;omega,by simp only;omega⟩)
 have hget:∀i (hi:i < l.length),(dZ L)[i]'(by simp [dZ];omega)=((l[i].1:Nat):Int):=fun i hi=>by
  simp only [dZ,List.getElem_map]
  exact (h2 i (by omega) hi).1
 refine ⟨l,?_,?_,fun p hp=>?_,fun p hp=>?_⟩
 ·refine List.ext_getElem (by simp [aT,h1]) (fun i hi1 hi2=>?_)
  have hi:i < L.length:=by simpa using hi1
  have hil:i < l.length:=by omega
  obtain ⟨g1,g2,-⟩:=h2 i hi hil
  simp only [List.getElem_map,aT]
  exact Prod.ext g1 g2
 ·rw [List.pairwise_iff_getElem]
  have hstep:∀j (hj:j+1 < l.length),l[j].1 < l[j+1].1:=fun j hj=>by
   have h5:=(h.1 (j+1) (by simp [dZ];omega)).2.2 (by omega)
   have e1:=hget (j+1) hj
   have e2:=hget j (by omega)
   simp only [Nat.add_sub_cancel] at h5
   omega
  intro i j hi hj hij
  have hi2:i < l.length:=by simpa [dR] using hi
  have hj2:j < l.length:=by simpa [dR] using hj
  simp only [dR,List.getElem_map]
  have hlt:∀d (hd:i+d+1 < l.length),l[i].1 < l[i+d+1].1:=fun d=>by
   induction d with
   |zero=>intro hd;exact hstep i hd
   |succ d ih=>intro hd;exact Nat.lt_trans (ih (by omega)) (hstep (i+d+1) (by omega))
  have h9:=hlt (j - i - 1) (by omega)
  have e:i+(j - i - 1)+1=j:=by omega
  simp only [e] at h9
  exact h9
 ·obtain ⟨i,hi,rfl⟩:=List.getElem_of_mem hp
  exact (h2 i (by omega) hi).2.2.2.2
 obtain ⟨i,hi,rfl⟩:=List.getElem_of_mem hp
 exact ⟨(h2 i (by omega) hi).2.2.1,(h2 i (by omega) hi).2.2.2.1⟩
theorem VW.cw {W:World} {x:Int} {vb vi:Value} {LB:LS} {Li:fe} (h:VW x LB Li) (hy:YW No W vb vi LB Li):∃S:bD,CW S x LB Li:=by
 obtain ⟨w,rfl⟩:∃w:Nat,x=w:=⟨x.toNat,by have:=h.w;omega⟩
 have hw:w≤256:=by have:=h.w;omega
 obtain ⟨B,hB⟩:=lift_map (f:=fun m:{m:Nat // m < 2 ^ w}=>bJ w m.1) LB (fun p hp=>by
  have h1:=h.bn p hp
  have h2:aU No W p.2 p.1.words:=hy.b.ok p hp
  obtain ⟨w',m,_,hm,he⟩:=(nT h2.lt).1 h1.1
  have h3:=h1.2
  rw [he] at h3
  have h4:((w':Nat):Int)=(w:Int):=h3
  obtain rfl:w'=w:=by omega
  exact ⟨⟨m,hm⟩,he⟩)
 obtain ⟨ins,g1,g2⟩:=adS (P:=fun (p:LA×Value) (l:bP)=>p.1.map fJ=aT l∧dP w Li.length l) Li (fun p hp=>by
  obtain ⟨k,hk,rfl⟩:=List.getElem_of_mem hp
  have hm:jb kA No W Li[k].2 Li[k].1:=hy.i.ok _ (List.getElem_mem hk)
  exact Re (h.row k hk).2 hm)
 have eB:=congrArg List.length hB
 simp only [List.length_map] at eB
 have hlen:∀k,k≤Li.length→((ins.take k).map List.length).sum=jS Li k:=by
  intro k
  induction k with
  |zero=>intro _;rfl
  |succ k ih=>
   intro hk
   have hkl:k < Li.length:=by omega
   have hki:k < ins.length:=by omega
   rw [sF hkl,List.take_succ_eq_append_getElem hki,List.map_append,List.sum_append,ih (by omega)]
   have h9:=congrArg List.length (g2 k hkl hki).1
   simp only [List.length_map,aT] at h9
   simp [h9]
 refine ⟨⟨w,ins,B.map Subtype.val⟩,rfl,⟨hw,by have:=h.n;simp only;omega,by have:=h.n;simp only;omega,by have:=h.lb;simp only [List.length_map];omega,fun l hl=>?_,fun l hl p hp=>?_,?_,fun l hl p hp=>?_,fun m hm=>?_⟩,?_,g1.symm,fun i hi=>?_⟩
 ·obtain ⟨k,hk,rfl⟩:=List.getElem_of_mem hl
  have hk2:k < ins.length:=hk
  exact (g2 k (by omega) hk2).2.uq
 ·obtain ⟨k,hk,rfl⟩:=List.getElem_of_mem hl
  have hk2:k < ins.length:=hk
  have h9:=(g2 k (by omega) hk2).2.lt p hp
  simp only;omega
 ·have h9:=hlen Li.length (Nat.le_refl _)
  rw [List.take_of_length_le (by omega)] at h9
  have h8:=(h.row (Li.length - 1) (by have:=h.n;omega)).1
  rw [show Li.length - 1+1=Li.length by have:=h.n;omega] at h8
  simp only
  omega
 ·obtain ⟨k,hk,rfl⟩:=List.getElem_of_mem hl
  have hk2:k < ins.length:=hk
  exact (g2 k (by omega) hk2).2.jX p hp
 ·obtain ⟨⟨m',hm'⟩,_,rfl⟩:=List.mem_map.1 hm
  exact hm'
 ·rw [hB,List.map_map]
  rfl
 have hi2:i < ins.length:=by omega
 rw [(g2 i hi hi2).1]
 simp [aR,hi2]
structure Vv (W:World) (vb vi:Value) (S:bD):Prop where
 bnd:fM No W vb S.w S.bnd
 ex:∃Li:fe,jb kL No W vi Li∧Li.length=S.ins.length∧∀i (h:i < Li.length),Li[i].1.map fJ=aT (aR S i)
 tr:∀i,∀p∈aR S i,eO p.2∧p.2.w=S.w
 small:S.ins.length≤256∧S.bnd.length≤256∧∀i,(aR S i).length≤1024
theorem je.c {W:World} {vb vi:Value} {S:bD} (h:je No W vb vi S):Vv W vb vi S:=by
 refine ⟨h.bnd,h.ex,fun i p hp=>h.ok.tr hp,h.ok.n2,by rw [h.ok.lb];exact h.ok.n2,fun i=>?_⟩
 have:=(h.ok.row i).len
 have:=h.ok.n2
 omega
theorem Vv.aj {W W':World} {vb vi:Value} {S:bD} (h:Vv W vb vi S) (hx:Ext No W W'):Vv W' vb vi S:=by
 obtain ⟨Li,h1,h2⟩:=h.ex
 exact ⟨h.bnd.aj hx,⟨Li,h1.aj hx,h2⟩,h.tr,h.small⟩
def zW:bD:=⟨0,[],[]⟩
theorem VX (W:World):Vv W (.slice none 0 0) (.slice none 0 0) zW:=by
 have hb:jb kS No W (.slice none 0 0) ([]:LS):=⟨Row.nil _ _ _ _ _ (by omega),fun p hp=>by cases hp⟩
 have hi:jb kL No W (.slice none 0 0) ([]:fe):=⟨Row.nil _ _ _ _ _ (by omega),fun p hp=>by cases hp⟩
 refine ⟨hb.Mw rfl (by decide) (fun m hm=>by cases hm),⟨[],hi,rfl,fun i h=>absurd h (Nat.not_lt_zero _)⟩,fun i p hp=>by simp [aR,zW] at hp,by decide,by decide,fun i=>by simp [aR,zW]⟩
def GR (E:Int) (Q:bD) (W:World) (e:Ending) (w':World):Prop:=
 ∃(vb vi:Value),e= .returned (.tuple #[.agg #[.int .i64 (Q.w:Int),vb,vi],.int .i64 E])∧Hid (Vv w' vb vi Q)∧Ext No W w'
theorem xC.ans {Q:bD} {W w':World} {e:Ending} (h:xC Q W e w'):GR 0 Q W e w':=by
 obtain ⟨vb,vi,h1,h2,h3⟩:=h
 exact ⟨vb,vi,h1,h2.c,h3⟩
theorem lV {E:Int} {W w':World} {e:Ending} (h:kG (.agg #[.int .i64 0,.slice none 0 0,.slice none 0 0]) E W e w'):GR E zW W e w':=⟨_,_,h.1,VX _,h.2⟩
end Go.Proofs.YtmddchceacmopaaGreatDoor

namespace Go.Proofs.YtmddchceacmopaaGreatDoor
open Go Go.RowKit
def Ap (f:bD→Nat→bD) (x:Int) (LB:LS) (Li:fe) (n:Int) (E:Int) (Q:bD):Prop:=
 (¬VW x LB Li∧E=1∧Q=zW)∨∃S:bD,CW S x LB Li∧eY S∧((¬adK n S.ins.length∧E=9∧Q=zW)∨∃k:Nat,n=k∧k < S.ins.length∧E=0∧Q=f S k)
def xD (x:Int) (LB:LS) (Li:fe) (ks:List Int) (E:Int) (Q:bD):Prop:=
 (¬VW x LB Li∧E=1∧Q=zW)∨∃S:bD,CW S x LB Li∧eY S∧(((∃n∈ks,¬adK n S.ins.length)∧E=9∧Q=zW)∨((∀n∈ks,adK n S.ins.length)∧E=0∧Q=dJ S (fun t:Nat=>decide ((t:Int)∈ks)) S.ins.length))
def uX (x:Int) (LB:LS) (Li:fe):Prop:=VW x LB Li→x≤8∧Li.length≤32
theorem Jn {W:World} {x:Int} {vb vi:Value} {LB:LS} {Li:fe} (h:uX x LB Li) (hv:VW x LB Li) (hy:YW No W vb vi LB Li):∃S:bD,CW S x LB Li∧eY S:=by
 obtain ⟨S,hS⟩:=hv.cw hy
 obtain ⟨h1,h2⟩:=h hv
 exact ⟨S,hS,hS.ok,by have:=hS.w;omega,by rw [←hS.len];exact h2⟩
theorem Ea (f:bD→Nat→bD) {W:World} {x:Int} {vb vi:Value} {LB:LS} {Li:fe} (n:Int) (h:uX x LB Li) (hy:YW No W vb vi LB Li):∃E Q,Ap f x LB Li n E Q:=by
 by_cases hv:VW x LB Li
 ·obtain ⟨S,h1,h2⟩:=Jn h hv hy
  by_cases hn:adK n S.ins.length
  ·obtain ⟨k,rfl⟩:∃k:Nat,n=k:=⟨n.toNat,by have:=hn.1;omega⟩
   exact ⟨0,f S k,.inr ⟨S,h1,h2,.inr ⟨k,rfl,by have:=hn.2;omega,rfl,rfl⟩⟩⟩
  exact ⟨9,zW,.inr ⟨S,h1,h2,.inl ⟨hn,rfl,rfl⟩⟩⟩
 exact ⟨1,zW,.inl ⟨hv,rfl,rfl⟩⟩
theorem Eb {W:World} {x:Int} {vb vi:Value} {LB:LS} {Li:fe} (ks:List Int) (h:uX x LB Li) (hy:YW No W vb vi LB Li):∃E Q,xD x LB Li ks E Q:=by
 by_cases hv:VW x LB Li
 ·obtain ⟨S,h1,h2⟩:=Jn h hv hy
  by_cases hn:∃n∈ks,¬adK n S.ins.length
  ·exact ⟨9,zW,.inr ⟨S,h1,h2,.inl ⟨hn,rfl,rfl⟩⟩⟩
  exact ⟨0,_,.inr ⟨S,h1,h2,.inr ⟨fun n h3=>Classical.not_not.1 (fun h4=>hn ⟨n,h3,h4⟩),rfl,rfl⟩⟩⟩
 exact ⟨1,zW,.inl ⟨hv,rfl,rfl⟩⟩
set_option maxRecDepth 100000 in
set_option maxHeartbeats 4000000 in
theorem Ih (x:Int) (vb vi:Value) (LB:LS) (Li:fe) (n:Int) (W:World) (h:YW No W vb vi LB Li) (hre:mD Li) (hn:¬VW x LB Li):
  Calls Tryz.prog 23 #[.agg #[.int .i64 x,vb,vi],.int .i64 n] W (kG (.agg #[.int .i64 0,.slice none 0 0,.slice none 0 0]) 1 W):=by
 have H:=aa h
 have HN:=aa hn
 have IK:=aa hre
 obtain ⟨ab,cb,rfl⟩:=h.b.slice
 obtain ⟨ai,ci,rfl⟩:=h.i.slice
 clear h hn hre
 go_enter Tryz.func23,Tryz.ntmps23
 go_upto_region 1 with (fail)
 have hx0:Ext No W ((W.alloc (.cells #[.int .i64 x,.slice ab LB.length cb,.slice ai Li.length ci] 26)).alloc (.cells #[.int .i64 0,.slice none 0 0,.slice none 0 0] 26)):=((Ext.refl _ _).alloc _).alloc _
 have HA:=aa (zK hx0)
 have HC:=aa (zM hx0)
 have HX:=aa hx0
 clear hx0
 generalize World.alloc (World.alloc W _) _=V at*
 have cA:=cellOf HA.out
 go_wp2_with fail
 clear cA
 refine (oC x _ _ LB Li _ (H.aj HX) IK).mono ?_
 rintro e1 w2 ⟨b1,rfl,hb1,hx1⟩
 obtain rfl:=ow hb1 HN
 clear hb1
 have ji:=aa hx1
 clear hx1
 exact DT
set_option maxRecDepth 100000 in
set_option maxHeartbeats 4000000 in
theorem BP (x:Int) (vb vi:Value) (LB:LS) (Li:fe) (n:Int) (W:World) (h:YW No W vb vi LB Li) (hre:mD Li) (hn:¬VW x LB Li):
  Calls Tryz.prog 25 #[.agg #[.int .i64 x,vb,vi],.int .i64 n] W (kG (.agg #[.int .i64 0,.slice none 0 0,.slice none 0 0]) 1 W):=by
 have H:=aa h
 have HN:=aa hn
 have IK:=aa hre
 obtain ⟨ab,cb,rfl⟩:=h.b.slice
 obtain ⟨ai,ci,rfl⟩:=h.i.slice
 clear h hn hre
 go_enter Tryz.func25,Tryz.ntmps25
 go_upto_region 1 with (fail)
 have hx0:Ext No W ((W.alloc (.cells #[.int .i64 x,.slice ab LB.length cb,.slice ai Li.length ci] 26)).alloc (.cells #[.int .i64 0,.slice none 0 0,.slice none 0 0] 26)):=((Ext.refl _ _).alloc _).alloc _
 have HA:=aa (zK hx0)
 have HC:=aa (zM hx0)
 have HX:=aa hx0
 clear hx0
 generalize World.alloc (World.alloc W _) _=V at*
 have cA:=cellOf HA.out
 go_wp2_with fail
 clear cA
 refine (oC x _ _ LB Li _ (H.aj HX) IK).mono ?_
 rintro e1 w2 ⟨b1,rfl,hb1,hx1⟩
 obtain rfl:=ow hb1 HN
 clear hb1
 have ji:=aa hx1
 clear hx1
 exact DU
set_option maxRecDepth 100000 in
set_option maxHeartbeats 4000000 in
theorem JU (x:Int) (vb vi:Value) (LB:LS) (Li:fe) (ak:Option Addr) (ck:Nat) (ks:List Int) (W:World) (h:YW No W vb vi LB Li) (hre:mD Li) (hn:¬VW x LB Li):
  Calls Tryz.prog 13 #[.agg #[.int .i64 x,vb,vi],.slice ak ks.length ck] W (kG (.agg #[.int .i64 0,.slice none 0 0,.slice none 0 0]) 1 W):=by
 have H:=aa h
 have HN:=aa hn
 have IK:=aa hre
 obtain ⟨ab,cb,rfl⟩:=h.b.slice
 obtain ⟨ai,ci,rfl⟩:=h.i.slice
 clear h hn hre
 go_enter Tryz.func13,Tryz.ntmps13
 go_upto_region 1 with (fail)
 have hx0:Ext No W ((W.alloc (.cells #[.int .i64 x,.slice ab LB.length cb,.slice ai Li.length ci] 26)).alloc (.cells #[.int .i64 0,.slice none 0 0,.slice none 0 0] 26)):=((Ext.refl _ _).alloc _).alloc _
 have HA:=aa (zK hx0)
 have HC:=aa (zM hx0)
 have HX:=aa hx0
 clear hx0
 generalize World.alloc (World.alloc W _) _=V at*
 have cA:=cellOf HA.out
 go_wp2_with fail
 clear cA
 refine (oC x _ _ LB Li _ (H.aj HX) IK).mono ?_
 rintro e1 w2 ⟨b1,rfl,hb1,hx1⟩
 obtain rfl:=ow hb1 HN
 clear hb1
 have ji:=aa hx1
 clear hx1
 exact DX
theorem Ii (x:Int) (vb vi:Value) (LB:LS) (Li:fe) (n E:Int) (Q:bD) (W:World) (h:YW No W vb vi LB Li) (hre:mD Li) (hT:iQ W) (ha:Ap dN x LB Li n E Q):
  Calls Tryz.prog 23 #[.agg #[.int .i64 x,vb,vi],.int .i64 n] W (GR E Q W):=by
 rcases ha with ⟨h1,rfl,rfl⟩|⟨S,hS,h8,⟨h1,rfl,rfl⟩|⟨k,rfl,hk,rfl,rfl⟩⟩
 ·exact (Ih x vb vi LB Li n W h hre h1).mono (fun _ _ h=>lV h)
 ·rw [hS.w]
  exact (Ig S n vb vi W (hS.at h) h1).mono (fun _ _ h=>lV h)
 rw [hS.w]
 exact (wX S k vb vi W h8 (hS.at h) hT hk).mono (fun _ _ h=>h.ans)
theorem BQ (x:Int) (vb vi:Value) (LB:LS) (Li:fe) (n E:Int) (Q:bD) (W:World) (h:YW No W vb vi LB Li) (hre:mD Li) (hT:iQ W) (ha:Ap jK x LB Li n E Q):
  Calls Tryz.prog 25 #[.agg #[.int .i64 x,vb,vi],.int .i64 n] W (GR E Q W):=by
 rcases ha with ⟨h1,rfl,rfl⟩|⟨S,hS,h8,⟨h1,rfl,rfl⟩|⟨k,rfl,hk,rfl,rfl⟩⟩
 ·exact (BP x vb vi LB Li n W h hre h1).mono (fun _ _ h=>lV h)
 ·rw [hS.w]
  exact (BN S n vb vi W (hS.at h) h1).mono (fun _ _ h=>lV h)
 rw [hS.w]
 exact (BO S k vb vi W h8 (hS.at h) hT hk).mono (fun _ _ h=>h.ans)
theorem zm (x:Int) (vb vi sl:Value) (LB:LS) (Li:fe) (ks:List Int) (E:Int) (Q:bD) (W:World) (h:YW No W vb vi LB Li) (hre:mD Li) (hT:iQ W) (hk:Ints No W .i64 sl ks) (ha:xD x LB Li ks E Q):
  Calls Tryz.prog 13 #[.agg #[.int .i64 x,vb,vi],sl] W (GR E Q W):=by
 rcases ha with ⟨h1,rfl,rfl⟩|⟨S,hS,h8,⟨h1,rfl,rfl⟩|⟨h1,rfl,rfl⟩⟩
 ·obtain ⟨ak,ck,rfl⟩:=Ints.slice hk
  exact (JU x vb vi LB Li ak ck ks W h hre h1).mono (fun _ _ h=>lV h)
 ·rw [hS.w]
  exact (JR S ks vb vi sl W (hS.at h) hk h1).mono (fun _ _ h=>lV h)
 rw [hS.w]
 exact (JS S ks vb vi sl W h8 (hS.at h) hT hk h1).mono (fun _ _ h=>h.ans)
def aac (E:Int) (Q:bD) (W:World) (e:Ending) (w':World):Prop:=∃sl:Value,e= .returned (.tuple #[sl,.int .i64 E])∧Hid (fM No w' sl Q.w Q.bnd)∧Ext No W w'
set_option maxRecDepth 100000 in
set_option maxHeartbeats 4000000 in
theorem Ls (x:Int) (vb vi:Value) (LB:LS) (Li:fe) (E:Int) (Q:bD) (W:World) (h:YW No W vb vi LB Li) (hre:mD Li) (hT:iQ W) (ha:xD x LB Li [] E Q):
  Calls Tryz.prog 19 #[.agg #[.int .i64 x,vb,vi]] W (aac E Q W):=by
 have H:=aa h
 have HT:=aa hT
 have IK:=aa hre
 have HAN:=aa ha
 obtain ⟨ab,cb,rfl⟩:=h.b.slice
 obtain ⟨ai,ci,rfl⟩:=h.i.slice
 clear h hT hre ha
 go_enter Tryz.func19,Tryz.ntmps19
 go_wp2_with fail
 have hx0:Ext No W (W.alloc (.cells #[.int .i64 x,.slice ab LB.length cb,.slice ai Li.length ci] 26)):=(Ext.refl _ _).alloc _
 refine (zm x _ _ _ LB Li [] E Q _ (H.aj hx0) IK (HT.ext hx0) (Row.nil _ _ _ _ _ (by omega)) HAN).mono ?_
 rintro e1 w1 ⟨vb1,Tx,rfl,hW,hx1⟩
 obtain ⟨NQ,NR,hvb⟩:=hW.bnd.slice
 subst hvb
 obtain ⟨IL,hL1,-,-⟩:=hW.ex
 obtain ⟨NS,NT,zU⟩:=hL1.slice
 subst zU
 have HX:=aa (hx0.af hx1)
 clear hx0 hx1
 go_wp2_with fail
 refine aW rfl ?_
 simp [results,Tryz.results19,go_sem]
 exact ⟨_,rfl,hW.bnd.aj ((Ext.refl _ _).alloc _),HX.alloc _⟩

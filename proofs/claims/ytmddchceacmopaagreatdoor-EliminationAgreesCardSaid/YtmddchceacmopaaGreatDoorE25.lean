
import Derived.Test.YtmddchceacmopaaGreatDoorE23
set_option linter.unusedVariables false
set_option linter.unusedSimpArgs false
namespace Go.Proofs.YtmddchceacmopaaGreatDoor
open Go Go.RowKit
theorem DF {p:Prop} (h:p:=by intro w hSw;(have q0:=cellOf ((show Ext (aQ (.slice (some ⟨gB,0,none⟩) S.ins.length cB) (.slice (some ⟨gI,0,none⟩) S.ins.length cI) RL) w4 _ from hSw).blk HO Ab));go_simp;(try with_reducible rfl)):p:=h
theorem DI {p:Prop} (h:p:=by
 go_wp2_with fail
 refine H.mono ?_
 rintro e w1 ⟨z,rfl,hz,hx⟩
 go_wp2_with fail
 go_ret
 exact ⟨decide (0≤z),rfl,by rw [decide_eq_true_iff];exact hz,hx⟩):p:=h
theorem DJ {p:Prop} (h:p:=by
 exact ⟨_,_,by rw [hok.2.1],(vN.at.ext jR (fun i _ e=>by unfold At at e;show i < _;omega)).no,(Kn.aJ HE (fun i hi e=>by have:=(oF.x.own e).1;omega)).aJ jR (fun i hi e=>by unfold At at e;omega)⟩):p:=h
theorem QJ:(Tryz.prog.info? 3).map (fun i=>(i.zero,i.size,i.bytes))=some (some (.int .i64 0),1,8):=by kernel_rfl
def nW (S:bD) (k:Nat):Nat:=((S.ins.take k).map List.length).sum
theorem DK {S:bD} {k:Nat} (hk:k < S.ins.length):nW S (k+1)=nW S k+(aR S k).length:=by
 unfold nW
 rw [List.take_succ_eq_append_getElem hk,List.map_append,List.sum_append]
 simp [aR,hk]
theorem Hu {S:bD} (hS:nI S) (k:Nat):nW S k≤1024:=by
 have h:=hS.tot
 have h2:(S.ins.map List.length).sum=nW S k+((S.ins.drop k).map List.length).sum:=by
  unfold nW
  rw [←List.sum_append,←List.map_append,List.take_append_drop]
 omega
theorem Us {S:bD} (hS:nI S) {k:Nat} (hk:k < S.ins.length):oI (dh (dR (aR S k))) S.ins.length:=fun i h=>by
 have hi:i < (dR (aR S k)).length:=by simpa [dh] using h
 have e:∀j (hj:j < (dR (aR S k)).length),(dh (dR (aR S k)))[j]'(by simpa [dh] using hj)=(((dR (aR S k))[j]:Nat):Int):=fun j hj=>by simp [dh]
 have h1:(dR (aR S k)).Pairwise (· < ·):=by rw [wH hk];exact hS.uq _ (List.getElem_mem hk)
 rw [e i hi]
 have h2:(dR (aR S k))[i] < S.ins.length:=by
  have:=List.getElem_mem hi
  obtain ⟨p,hp,h3⟩:=List.mem_map.1 this
  rw [←h3]
  exact hS.dep hp
 refine ⟨by omega,by omega,fun h0=>?_⟩
 rw [e (i - 1) (by omega)]
 have:=List.pairwise_iff_getElem.1 h1 (i - 1) i (by omega) hi (by omega)
 omega
theorem Ut {S:bD} (hS:nI S) {L:LA} {i:Nat} (h:L.map fJ=aT (aR S i)):¬∃(k:Nat) (hk:k < L.length),¬Af (S.w:Int) L[k].2.1:=fun ⟨k,hk,e⟩=>e (by
 have h1:fJ L[k]∈aT (aR S i):=by rw [←h];exact List.mem_map.2 ⟨_,List.getElem_mem hk,rfl⟩
 obtain ⟨p,hp,he⟩:=List.mem_map.1 h1
 obtain ⟨h2,h3⟩:=hS.tr hp
 have h4:L[k].2.1=bM p.2:=(congrArg Prod.snd he).symm
 rw [h4]
 exact ⟨kg h2,by show ((p.2.w:Nat):Int)=_;rw [h3]⟩)
set_option maxRecDepth 100000 in
set_option maxHeartbeats 8000000 in
theorem nS (S:bD) (vb vi:Value) (W:World) (h:je No W vb vi S):
  Calls Tryz.prog 10 #[.agg #[.int .i64 (S.w:Int),vb,vi]] W (bZ true W):=by
 obtain ⟨i0,hi0,hz0,hz1,hz2⟩:=info_parts QJ
 have H:=aa h
 obtain ⟨ab,cb,ai,ci,rfl,rfl⟩:=h.slices
 have hok:=h.ok
 have Ac:=aa hok
 have hnn:=hok.n2
 have hn1:=hok.n1
 have hww:=hok.w
 clear h hok
 go_enter Tryz.func10,Tryz.ntmps10
 go_wp2_with fail
 have hx0:Ext No W (W.alloc (.cells #[.int .i64 (S.w:Int),.slice ab S.ins.length cb,.slice ai S.ins.length ci] 26)):=(Ext.refl _ _).alloc _
 have HB:=aa (ah (w:=W) (o:= .cells #[.int .i64 (S.w:Int),.slice ab S.ins.length cb,.slice ai S.ins.length ci] 26) rfl)
 have HX:=aa hx0
 clear hx0
 generalize World.alloc W _=V at*
 have hVs:=lt_of_block HB.out
 refine (DL _ _ _).mono ?_
 rintro e1 w1 ⟨b1,rfl,hb1,hx1⟩
 cases b1 with
 |false=>exact absurd ⟨by omega,by omega⟩ (ig hb1)
 |true=>
 clear hb1
 have nK:=aa hx1
 have cB:=cellOf (hx1.blk HB ax)
 clear hx1
 go_wp2_with fail
 clear cB
 obtain ⟨Lb,CE,CB,hLl⟩:=(H.bnd.aj (HX.af nK)).list
 refine (Jl _ _ Lb _ (by rw [Ac.lb] at*;exact CE)).mono ?_
 rintro e2 w2 ⟨b2,rfl,hb2,hx2⟩
 cases b2 with
 |false=>exact absurd (Ba CB H.bnd.hw H.bnd.hm) (ig hb2)
 |true=>
 clear hb2 CE CB hLl
 have ji:=aa (nK.af hx2)
 clear hx2 nK
 have cB:=cellOf (ji.blk HB ax)
 go_wp2_with fail
 clear cB
 go_loopw [4,6,7,9,36] (fun s4 _ _ _ WA wr=>∃k:Nat,WA= .int .i64 k∧s4= .int .i64 (nW S k:Int)∧k≤S.ins.length∧Hid (Ext No V wr)) (fun _ _ _ _ WA _=>S.ins.length - (intOf WA).toNat)
 case atStart=>exact ⟨0,rfl,rfl,Nat.zero_le _,ji⟩
 clear ji
 obtain ⟨k,rfl,rfl,hk,hx⟩:=hrel
 rename World=>wr
 by_cases hlt:k < S.ins.length
 ·have hlz:(k:Int) < (S.ins.length:Int):=by omega
  have HKK:Hid (Value.int .i64 ((k:Int)+1)= .int .i64 ((k+1:Nat):Int)):=aa (by rw [show ((k+1:Nat):Int)=(k:Int)+1 from by omega])
  obtain ⟨bi,oi,ki,aA,cA,kC,ga,Nv⟩:=(H.aj HX).Nn hlt
  simp only [Value.slice.injEq] at kC
  obtain ⟨rfl,-,rfl⟩:=kC
  obtain ⟨n,hn⟩:∃n,n=(aR S k).length:=⟨_,rfl⟩
  have HN:=aa hn
  rw [←hn] at Nv ga
  replace ga:=hx.keep ga
  have hs1:=DK hlt
  rw [←hn] at hs1
  have hs2:=Hu Ac (k+1)
  clear hn
  go_wp2_with fail
  clear ga
  have hbs:=hx.size
  go_loopw [7,9,42] (fun s7 _ i wx=>∃j:Nat,i= .int .i64 j∧j≤n∧Hid (wx.ownsRow V.heap.size 3 1 s7 j (((dh (dR (aR S k))).take j).map (.int .i64)))∧Hid (Ext No V wx)) (fun _ _ i _=>n - (intOf i).toNat)
  case atStart=>exact DN
  clear hx hbs
  obtain ⟨j,rfl,hj,hown,hx⟩:=hrel
  rename World=>wx
  obtain ⟨s1,t1,hs7⟩:=(Row.bG (M:=No) hown (fun _ _ x=>x)).slice
  subst hs7
  by_cases hlt2:j < n
  ·have hjz:(j:Int) < (n:Int):=by omega
   have Sk:Hid (Value.int .i64 ((j:Int)+1)= .int .i64 ((j+1:Nat):Int)):=aa (by rw [show ((j+1:Nat):Int)=(j:Int)+1 from by omega])
   have hjd:j < (aR S k).length:=by have:=HN.out;omega
   obtain ⟨⟨m,f⟩,Vq⟩:∃q:Nat×cK,q=(aR S k)[j]:=⟨_,rfl⟩
   have hmm:m=(dR (aR S k))[j]'(by simpa [dR] using hjd):=by simp [dR,←Vq]
   have YV:=aa (show ((dh (dR (aR S k))).take (j+1)).map (Value.int .i64)=((dh (dR (aR S k))).take j).map (Value.int .i64)++[.int .i64 (m:Int)] by
    rw [List.take_succ_eq_append_getElem (by simp [dh,dR];exact hjd),List.map_append]
    simp [dh,hmm])
   obtain ⟨ba,oa,ka,ag,cg,ak,ck,ac,nc,cc,kC,gt,-,-⟩:=fq.at (fun p hp=>Ac.tr (i:=k) hp) (Nv.aj hx) hjd Vq
   simp only [Value.slice.injEq] at kC
   obtain ⟨rfl,-,rfl⟩:=kC
   obtain ⟨q0,q1,q2,q3,q4,q5⟩:=gt
   clear Vq hmm
   go_upto_region 12 with (fail)
   clear q0 q1 q2 q3 q4 q5
   have Ko:=hx.af ((Ext.refl No wx).alloc (.cells #[.int .i64 (m:Int),.int .i64 (S.w:Int),.slice ag (nw S.w) cg,.int .i64 (S.w:Int),.slice ak (nw S.w) ck,.slice ac nc cc] 49))
   have HF:=aa (ah (w:=wx) (o:= .cells #[.int .i64 (m:Int),.int .i64 (S.w:Int),.slice ag (nw S.w) cg,.int .i64 (S.w:Int),.slice ak (nw S.w) ck,.slice ac nc cc] 49) rfl)
   have HOWN:=aa (dG hown ((Ext.refl No wx).alloc (.cells #[.int .i64 (m:Int),.int .i64 (S.w:Int),.slice ag (nw S.w) cg,.int .i64 (S.w:Int),.slice ak (nw S.w) ck,.slice ac nc cc] 49)) (fun _ _ x=>x))
   have hbb:=Ko.size
   have uf:=aa Ko
   clear hown hx Ko
   generalize World.alloc wx _=wf at*
   generalize wx.heap.size=B6 at*
   have cF:=cellOf HF.out
   go_wp2_with (at_builtin;(refine bE _ rfl (.tmp 46) (.tmp 49) 22 rfl V.heap.size 3 i0 _ 1 8 Tryz.underlying22 hi0 hz0 hz1 hz2 rfl (by omega) (.slice s1 j t1) j (((dh (dR (aR S k))).take j).map (.int .i64)) rfl (dG HOWN.out ((Ext.refl No _).alloc _) (fun _ _ x=>x)) No (some ⟨wf.heap.size,0,none⟩) 1 1 [.int .i64 (m:Int)] rfl (Row.block (ah rfl) rfl ax (by omega)) (by simp [Value.oneCell']) (by omega) (by omega) ?_ ?_);(first|exact hbb|(simp;omega));(intro v1 w9 hown1 hg1 hv1);(have lg:=aa (M4 uf.out hg1 (fun b hb=>(World.ownsRow.lt HOWN.out b hb).1) (Nat.le_refl _)));(have ho9:=aa hown1);(clear hown1 hg1 hv1))
   exact DR
  have hge:¬(j:Int) < (n:Int):=by omega
  have hjn:j=n:=by omega
  have HI:=aa (show Ints No wx .i64 (.slice s1 n t1) (dh (dR (aR S k))) from by
   have h:=Row.bG (M:=No) hown (fun _ _ x=>x)
   have e2:=HN.out
   rw [hjn,List.take_of_length_le (by simp [dh,dR];omega)] at h
   have e:(dh (dR (aR S k))).length=n:=by simp [dh,dR,e2]
   unfold Ints
   rw [e]
   exact h)
  have hadd:IntKind.i64.wrap ((nW S k:Int)+(n:Int))=(nW S (k+1):Int):=by rw [IntWalk.i64_in _ (by omega)];omega
  have GQ:=aa (show Value.int .i64 ((nW S k:Int)+(n:Int))= .int .i64 (nW S (k+1):Int) from by rw [show ((nW S (k+1):Nat):Int)=(nW S k:Int)+(n:Int) from by omega])
  have hle:¬((1024:Int) < (nW S (k+1):Int)):=by omega
  have cB:=cellOf (hx.blk HB ax)
  clear hown
  go_wp2_with fail
  clear cB
  refine (uM _ _ _ _ HI).mono ?_
  rintro e3 w3 ⟨b3,rfl,hb3,hx3⟩
  cases b3 with
  |false=>exact absurd (Us Ac hlt) (ig hb3)
  |true=>
  clear hb3
  have pK:=aa (hx.af hx3)
  obtain ⟨La,hLa,YJ⟩:=Nv.aj pK
  have cB:=cellOf (pK.blk HB ax)
  have cB0:=cB 0
  have c0:=aa (show w3.cell? ⟨W.heap.size,0,none⟩=some (.int .i64 (S.w:Int)) from cellOf (pK.blk HB ax) 0)
  clear cB hx3 hx cB0
  go_wp2_with fail
  refine (uP (S.w:Int) W.heap.size _ La _ hLa c0.out).mono ?_
  rintro e4 w4 ⟨b4,rfl,hb4,hx4⟩
  cases b4 with
  |true=>exact absurd (iG hb4) (Ut Ac.out YJ)
  |false=>
  clear hb4
  have qO:=aa (pK.af hx4)
  clear hx4 hLa YJ
  go_wp2_with fail
  go_roundw
  case rel=>exact ⟨k+1,HKK,GQ,by omega,qO⟩
  case measure=>simp [intOf];omega
 have hge:¬(k:Int) < (S.ins.length:Int):=by omega
 go_wp2_with fail
 go_ret
 exact ⟨rfl,HX.af hx⟩
end Go.Proofs.YtmddchceacmopaaGreatDoor

namespace Go.Proofs.YtmddchceacmopaaGreatDoor
open Go Go.RowKit
def oL (S:mU):bD:=⟨S.w,(List.range S.deps.length).map fun i=>(kP S i).map fun m=>(m,xR S m),S.bnd⟩
section
variable {S:mU}
theorem lF (S:mU):(oL S).ins.length=S.deps.length:=by simp [oL]
theorem Om {i:Nat} (hi:i < S.deps.length):aR (oL S) i=(kP S i).map fun m=>(m,xR S m):=by simp [aR,oL,hi]
theorem Q7 {l:List Nat} {n:Int} (h:oI (dh l) n):l.Pairwise (· < ·):=by
 have h1:∀i (hi:i+1 < l.length),l[i] < l[i+1]:=fun i hi=>by
  have:=(h (i+1) (by simpa [dh] using hi)).2.2 (by omega)
  simp [dh] at this
  omega
 rw [List.pairwise_iff_getElem]
 intro i j hi hj hij
 have h2:∀d (hd:i+1+d < l.length),l[i] < l[i+1+d]:=fun d=>by
  induction d with
  |zero=>exact fun hd=>h1 i hd
  |succ d ih=>exact fun hd=>Nat.lt_trans (ih (by omega)) (h1 (i+1+d) (by omega))
 obtain ⟨d,rfl⟩:∃d,j=i+1+d:=⟨j - (i+1),by omega⟩
 exact h2 d hj
theorem Q8 (hS:qR S):nI (oL S):=by
 have hmem:∀l∈(oL S).ins,∃i,i < S.deps.length∧l=(kP S i).map fun m=>(m,xR S m):=fun l hl=>by
  obtain ⟨i,hi,rfl⟩:=List.mem_map.1 hl
  exact ⟨i,List.mem_range.1 hi,rfl⟩
 refine ⟨hS.w,by rw [lF];exact hS.n1,by rw [lF];exact hS.n2,by rw [lF];exact hS.lb,fun l hl=>?_,fun l hl p hp=>?_,?_,fun l hl p hp=>?_,hS.bnd⟩
 ·obtain ⟨i,hi,rfl⟩:=hmem l hl
  have e:dR ((kP S i).map fun m=>(m,xR S m))=kP S i:=by simp [dR,List.map_map,Function.comp_def]
  rw [e]
  exact Q7 (hS.uq _ (by simp [kP,hi]))
 ·obtain ⟨i,hi,rfl⟩:=hmem l hl
  obtain ⟨m,hm,rfl⟩:=List.mem_map.1 hp
  rw [lF]
  exact hS.dep hm
 ·have h:=hS.tot
  have e:(oL S).ins.map List.length=S.deps.map List.length:=by
   refine List.ext_getElem (by simp [oL]) (fun i h1 h2=>?_)
   have hi:i < S.deps.length:=by simpa using h2
   simp [oL,kP,hi]
  rw [e];exact h
 obtain ⟨i,hi,rfl⟩:=hmem l hl
 obtain ⟨m,hm,rfl⟩:=List.mem_map.1 hp
 exact hS.tr (hS.dep hm)
theorem Oo (hS:qR S) (h8:S.w≤8) (hn:S.deps.length≤32):eY (oL S):=⟨Q8 hS,h8,by rw [lF];exact hn⟩
end
end Go.Proofs.YtmddchceacmopaaGreatDoor

namespace Go.Proofs.YtmddchceacmopaaGreatDoor
open Go Go.RowKit
theorem Ints.slice {M:Nat→Prop} {w:World} {sl:Value} {l:List Int} (h:Ints M w .i64 sl l):∃a c,sl= .slice a l.length c:=Row.slice h
theorem Ints.len {M:Nat→Prop} {w:World} {sl:Value} {l:List Int} (h:Ints M w .i64 sl l):l.length≤9223372036854775807:=by
 exact h.2.1
def adK (n:Int) (N:Nat):Prop:=0≤n∧n < (N:Int)
set_option maxHeartbeats 1000000 in
theorem adL (x n:Int) (vb:Value) (a:Option Addr) (N c:Nat) (W:World):
  Calls Tryz.prog 45 #[.agg #[.int .i64 x,vb,.slice a N c],.int .i64 n] W (kz (adK n N) W):=by
 have hx0:Ext No W (W.alloc (.cells #[.int .i64 x,vb,.slice a N c] 26)):=(Ext.refl _ _).alloc _
 by_cases h1:0≤n
 ·by_cases h2:n < (N:Int)
  ·go_enter Tryz.func45,Tryz.ntmps45
   go_wp2_with fail
   go_ret
   exact iw ⟨h1,h2⟩ hx0
  go_enter Tryz.func45,Tryz.ntmps45
  go_wp2_with fail
  go_ret
  exact aP (fun e=>by have:=e.2;omega) hx0
 go_enter Tryz.func45,Tryz.ntmps45
 go_wp2_with fail
 go_ret
 exact aP (fun e=>by have:=e.1;omega) hx0
def abx (x:Nat) (vb vi:Value) (W:World) (e:Ending) (w':World):Prop:=e= .returned (.tuple #[.agg #[.int .i64 (x:Int),vb,vi],.int .i64 0])∧Ext No W w'
set_option maxRecDepth 100000 in
set_option maxHeartbeats 4000000 in
theorem oz (x:Nat) (S:bD) (vb vi:Value) (W:World) (h:je No W vb vi S):
  Calls Tryz.prog 48 #[.agg #[.int .i64 (x:Int),vb,vi],.int .i64 0] W (abx x vb vi W):=by
 have H:=aa h
 obtain ⟨ab,cb,ai,ci,rfl,rfl⟩:=h.slices
 have Ac:=aa h.ok
 have hnn:=h.ok.n2
 clear h
 go_enter Tryz.func48,Tryz.ntmps48
 go_upto_region 2 with (fail)
 have hx0:Ext No W ((W.alloc (.cells #[.int .i64 (x:Int),.slice ab S.ins.length cb,.slice ai S.ins.length ci] 26)).alloc (.cells #[.int .i64 0,.slice none 0 0,.slice none 0 0] 26)):=((Ext.refl _ _).alloc _).alloc _
 have HA:=aa (zK hx0)
 have HC:=aa (zM hx0)
 have HX:=aa hx0
 clear hx0
 generalize World.alloc (World.alloc W _) _=V at*
 have cA:=cellOf HA.out
 go_wp2_with fail
 clear cA
 go_loopw [6,8,12] (fun s6 _ s12 wr=>∃k:Nat,s12= .int .i64 k∧s6= .int .i64 (nW S k:Int)∧k≤S.ins.length∧Hid (Ext No V wr)) (fun _ _ s12 _=>S.ins.length - (intOf s12).toNat)
 case atStart=>exact ⟨0,rfl,rfl,Nat.zero_le _,Ext.refl _ _⟩
 obtain ⟨k,rfl,rfl,hk,hx⟩:=hrel
 rename World=>wr
 by_cases hlt:k < S.ins.length
 ·have hlz:(k:Int) < (S.ins.length:Int):=by omega
  have HKK:Hid (Value.int .i64 ((k:Int)+1)= .int .i64 ((k+1:Nat):Int)):=aa (by rw [show ((k+1:Nat):Int)=(k:Int)+1 from by omega])
  obtain ⟨bi,oi,ki,aA,cA,kC,ga,Nv⟩:=(H.aj HX).Nn hlt
  simp only [Value.slice.injEq] at kC
  obtain ⟨rfl,-,rfl⟩:=kC
  obtain ⟨n,hn⟩:∃n,n=(aR S k).length:=⟨_,rfl⟩
  have HN:=aa hn
  rw [←hn] at Nv ga
  replace ga:=hx.keep ga
  have hs1:=DK hlt
  rw [←hn] at hs1
  have hs2:=Hu Ac (k+1)
  have hadd:IntKind.i64.wrap ((nW S k:Int)+(n:Int))=(nW S (k+1):Int):=by rw [IntWalk.i64_in _ (by omega)];omega
  have GQ:=aa (show Value.int .i64 ((nW S k:Int)+(n:Int))= .int .i64 (nW S (k+1):Int) from by rw [show ((nW S (k+1):Nat):Int)=(nW S k:Int)+(n:Int) from by omega])
  clear hn Nv
  go_wp2_with fail
  clear ga
  go_roundw
  case rel=>exact ⟨k+1,HKK,by first|exact GQ|rfl,by omega,hx⟩
  case measure=>simp [intOf];omega
 have hge:¬(k:Int) < (S.ins.length:Int):=by omega
 have hs2:=Hu Ac k
 have hle:¬((1024:Int) < (nW S k:Int)):=by omega
 have hA:=hx.blk HA ax
 have hC:=hx.blk HC ax
 have cA:=cellOf hA
 have cC:=cellOf hC
 have fC:=aH hC
 have jR:Ext (At (W.heap.size+1)) wr (((wr.setCell ⟨W.heap.size+1,0,none⟩ (.int .i64 (x:Int))).setCell ⟨W.heap.size+1,1,none⟩ (.slice ab S.ins.length cb)).setCell ⟨W.heap.size+1,2,none⟩ (.slice ai S.ins.length ci)):=jw _ _ _ _ _
 have hbF:=(az (j:=2) (u:= .slice ai S.ins.length ci) (az (j:=1) (u:= .slice ab S.ins.length cb) (az (j:=0) (u:= .int .i64 (x:Int)) hC))).trans rfl
 go_wp2_with fail
 generalize World.setCell (World.setCell (World.setCell wr _ _) _ _) _ _=WF at*
 have cF:=cellOf hbF
 refine aW rfl ?_
 simp [results,Tryz.results48,go_sem,cF]
 exact ⟨rfl,(HX.af hx).aJ jR (fun i hi e=>by unfold At at e;omega)⟩
set_option maxHeartbeats 2000000 in
theorem Lp (n:Int) (sl:Value) (l:List Int) (W:World) (h:Ints No W .i64 sl l):
  Calls Tryz.prog 82 #[sl,.int .i64 n] W (fun e w'=>∃z:Int,e= .returned (.int .i64 z)∧Hid (0≤z↔n∈l)∧Ext No W w'):=by
 have H:=aa h
 obtain ⟨a,cap,rfl⟩:=Ints.slice h
 have hlen:=Ints.len h
 clear h
 go_enter Tryz.func82,Tryz.ntmps82
 go_wp2_with fail
 go_loopw [5,8] (fun _ i wr=>∃k:Nat,i= .int .i64 k∧k≤l.length∧Hid (Ext No W wr)∧Hid (∀j (hj:j < l.length),j < k→l[j]≠n)) (fun _ i _=>l.length - (intOf i).toNat)
 case atStart=>exact si
 obtain ⟨k,rfl,hk,hx,hm⟩:=hrel
 rename World=>wr
 by_cases hlt:k < l.length
 ·have hlz:(k:Int) < (l.length:Int):=by omega
  have HKK:Hid (Value.int .i64 ((k:Int)+1)= .int .i64 ((k+1:Nat):Int)):=aa (by rw [show ((k+1:Nat):Int)=(k:Int)+1 from by omega])
  obtain ⟨b,off,cap',hsl,hb1,_,hcell⟩:=Ints.at H.out hlt
  simp only [Value.slice.injEq] at hsl
  obtain ⟨rfl,_,rfl⟩:=hsl
  have q0:=hx.keep (hcell k hlt)
  obtain ⟨y,hy⟩:∃y,y=l[k]:=⟨_,rfl⟩
  rw [←hy] at q0
  have HY:=aa hy
  clear hcell hb1 hy
  by_cases he:n=y
  ·have HE:=aa he
   have hb:(n==y)=true:=by simpa using he
   clear he
   go_wp2_with fail
   go_ret
   exact ⟨(k:Int),rfl,aa ⟨fun _=>by rw [HE,HY];exact List.getElem_mem _,fun _=>by omega⟩,hx⟩
  have HE:=aa he
  have hb:(n==y)=false:=by simpa using he
  go_wp2_with fail
  go_roundw
  case rel=>exact ⟨k+1,HKK,by omega,hx,aa (fun j hj hjk=>by
   by_cases e:j=k
   ·subst e;rw [←HY];exact fun e=>HE e.symm
   exact hm j hj (by omega))⟩
  case measure=>simp [intOf];omega
 have hge:¬(k:Int) < (l.length:Int):=by omega
 go_wp2_with fail
 go_ret
 exact ⟨-1,rfl,aa ⟨fun e=>absurd e (by decide),fun e=>by
  obtain ⟨j,hj,h9⟩:=List.getElem_of_mem e
  exact absurd h9 (hm j hj (by omega))⟩,hx⟩
theorem Cs (n:Int) (sl:Value) (l:List Int) (W:World) (h:Ints No W .i64 sl l):
  Calls Tryz.prog 47 #[sl,.int .i64 n] W (kz (n∈l) W):=by
 have H:=aa (Lp n sl l W h)
 obtain ⟨a,cap,rfl⟩:=Ints.slice h
 clear h
 go_enter Tryz.func47,Tryz.ntmps47
 exact DI
theorem JQ (x n:Int) (vb:Value) (a:Option Addr) (N c g:Nat) (W:World) (hg:W.heap[g]? =some (.cells #[.int .i64 x,vb,.slice a N c] 26 (0,0))):
  Calls Tryz.prog 44 #[.int .i64 n,.pointer (some ⟨g,0,none⟩)] W (kz (¬adK n N) W):=by
 have cA:=cellOf hg
 clear hg
 go_enter Tryz.func44,Tryz.ntmps44
 go_wp2_with fail
 refine (adL x n vb a N c _).mono ?_
 rintro e w1 ⟨b,rfl,hb,hx⟩
 cases b with
 |true=>
  have HB:=aa (iG hb)
  clear hb
  go_wp2_with fail
  go_ret
  exact aP (fun e=>e HB) hx
 |false=>
  have HB:=aa (ig hb)
  clear hb
  go_wp2_with fail
  go_ret
  exact iw HB hx
set_option maxHeartbeats 2000000 in
theorem Ie (x:Int) (vb:Value) (a:Option Addr) (N c g:Nat) (sl:Value) (l:List Int) (W:World) (h:Ints No W .i64 sl l) (hg:W.heap[g]? =some (.cells #[.int .i64 x,vb,.slice a N c] 26 (0,0))):
  Calls Tryz.prog 80 #[sl,.func (.func 44) #[] #[.pointer (some ⟨g,0,none⟩)]] W (fun e w'=>∃z:Int,e= .returned (.int .i64 z)∧Hid (0≤z↔∃n∈l,¬adK n N)∧Ext No W w'):=by
 have H:=aa h
 have HG:=aa hg
 obtain ⟨al,cap,rfl⟩:=Ints.slice h
 have hlen:=Ints.len h
 clear h hg
 go_enter Tryz.func80,Tryz.ntmps80
 go_wp2_with fail
 go_loopw [5,8] (fun _ i wr=>∃k:Nat,i= .int .i64 k∧k≤l.length∧Hid (Ext No W wr)∧Hid (∀j (hj:j < l.length),j < k→adK l[j] N)) (fun _ i _=>l.length - (intOf i).toNat)
 case atStart=>exact si
 obtain ⟨k,rfl,hk,hx,hm⟩:=hrel
 rename World=>wr
 by_cases hlt:k < l.length
 ·have hlz:(k:Int) < (l.length:Int):=by omega
  have HKK:Hid (Value.int .i64 ((k:Int)+1)= .int .i64 ((k+1:Nat):Int)):=aa (by rw [show ((k+1:Nat):Int)=(k:Int)+1 from by omega])
  obtain ⟨b,off,cap',hsl,hb1,_,hcell⟩:=Ints.at H.out hlt
  simp only [Value.slice.injEq] at hsl
  obtain ⟨rfl,_,rfl⟩:=hsl
  have q0:=hx.keep (hcell k hlt)
  obtain ⟨y,hy⟩:∃y,y=l[k]:=⟨_,rfl⟩
  rw [←hy] at q0
  have HY:=aa hy
  clear hcell hb1 hy
  go_wp2_with fail
  go_at_call 44
  refine (JQ x y vb a N c g _ (hx.blk HG ax)).mono ?_
  rintro e1 w1 ⟨bb,rfl,hbb,hx1⟩
  clear q0
  cases bb with
  |true=>
   have HB:=aa (iG hbb)
   clear hbb
   go_wp2_with fail
   go_ret
   exact ⟨(k:Int),rfl,aa ⟨fun _=>⟨_,List.getElem_mem hlt,by rw [←HY];exact HB⟩,fun _=>by omega⟩,hx.af hx1⟩
  |false=>
   have HB:=aa (Classical.not_not.1 (ig hbb))
   clear hbb
   go_wp2_with fail
   go_roundw
   case rel=>exact ⟨k+1,HKK,by omega,hx.af hx1,aa (fun j hj hjk=>by
    by_cases e:j=k
    ·subst e;rw [←HY];exact HB
    exact hm j hj (by omega))⟩
   case measure=>simp [intOf];omega
 have hge:¬(k:Int) < (l.length:Int):=by omega
 go_wp2_with fail
 go_ret
 exact ⟨-1,rfl,aa ⟨fun e=>absurd e (by decide),fun ⟨n,hn,e⟩=>by
  obtain ⟨j,hj,h9⟩:=List.getElem_of_mem hn
  exact absurd (hm j hj (by omega)) (by rw [h9];exact e)⟩,hx⟩
theorem qE (x:Int) (vb:Value) (a:Option Addr) (N c g:Nat) (sl:Value) (l:List Int) (W:World) (h:Ints No W .i64 sl l) (hg:W.heap[g]? =some (.cells #[.int .i64 x,vb,.slice a N c] 26 (0,0))):
  Calls Tryz.prog 43 #[sl,.func (.func 44) #[] #[.pointer (some ⟨g,0,none⟩)]] W (kz (∃n∈l,¬adK n N) W):=by
 have H:=aa (Ie x vb a N c g sl l W h hg)
 obtain ⟨al,cap,rfl⟩:=Ints.slice h
 clear h hg
 go_enter Tryz.func43,Tryz.ntmps43
 exact DI
end Go.Proofs.YtmddchceacmopaaGreatDoor

namespace Go.Proofs.YtmddchceacmopaaGreatDoor
open Go Go.RowKit
def xC (S':bD) (W:World) (e:Ending) (w':World):Prop:=∃(vb vi:Value),e= .returned (.tuple #[.agg #[.int .i64 (S'.w:Int),vb,vi],.int .i64 0])∧Hid (je No w' vb vi S')∧Ext No W w'
set_option maxRecDepth 100000 in
set_option maxHeartbeats 4000000 in
theorem Ig (S:bD) (n:Int) (vb vi:Value) (W:World) (h:je No W vb vi S) (hn:¬adK n S.ins.length):
  Calls Tryz.prog 23 #[.agg #[.int .i64 (S.w:Int),vb,vi],.int .i64 n] W (kG (.agg #[.int .i64 0,.slice none 0 0,.slice none 0 0]) 9 W):=by
 have H:=aa h
 have HN:=aa hn
 obtain ⟨ab,cb,ai,ci,rfl,rfl⟩:=h.slices
 clear h hn
 go_enter Tryz.func23,Tryz.ntmps23
 go_upto_region 1 with (fail)
 have hx0:Ext No W ((W.alloc (.cells #[.int .i64 (S.w:Int),.slice ab S.ins.length cb,.slice ai S.ins.length ci] 26)).alloc (.cells #[.int .i64 0,.slice none 0 0,.slice none 0 0] 26)):=((Ext.refl _ _).alloc _).alloc _
 have HA:=aa (zK hx0)
 have HC:=aa (zM hx0)
 have HX:=aa hx0
 have IA:=aa (show ((W.alloc (.cells #[.int .i64 (S.w:Int),.slice ab S.ins.length cb,.slice ai S.ins.length ci] 26)).alloc (.cells #[.int .i64 0,.slice none 0 0,.slice none 0 0] 26)).heap.size=W.heap.size+2 from by simp)
 clear hx0
 generalize World.alloc (World.alloc W _) _=V at*
 have cA:=cellOf HA.out
 go_wp2_with fail
 refine (nS S _ _ _ (H.aj HX)).mono ?_
 rintro e1 w1 ⟨rfl,hx1⟩
 clear cA
 have nK:=aa hx1
 clear hx1
 have cA:=cellOf (nK.blk HA ax)
 go_wp2_with fail
 clear cA
 refine (adL (S.w:Int) n _ _ S.ins.length ci _).mono ?_
 rintro e2 w2 ⟨b2,rfl,hb2,hx2⟩
 obtain rfl:=ow hb2 HN
 clear hb2
 have ji:=aa (nK.af hx2)
 clear hx2 nK
 exact DT
set_option maxRecDepth 100000 in
set_option maxHeartbeats 4000000 in
theorem wX (S:bD) (n:Nat) (vb vi:Value) (W:World) (h8:eY S) (h:je No W vb vi S) (hT:iQ W) (hn:n < S.ins.length):
  Calls Tryz.prog 23 #[.agg #[.int .i64 (S.w:Int),vb,vi],.int .i64 (n:Int)] W (xC (dN S n) W):=by
 have H:=aa h
 have HT:=aa hT
 have H8:=aa h8
 obtain ⟨ab,cb,ai,ci,rfl,rfl⟩:=h.slices
 clear h hT h8
 go_enter Tryz.func23,Tryz.ntmps23
 go_upto_region 1 with (fail)
 have hx0:Ext No W ((W.alloc (.cells #[.int .i64 (S.w:Int),.slice ab S.ins.length cb,.slice ai S.ins.length ci] 26)).alloc (.cells #[.int .i64 0,.slice none 0 0,.slice none 0 0] 26)):=((Ext.refl _ _).alloc _).alloc _
 have HA:=aa (zK hx0)
 have HC:=aa (zM hx0)
 have HX:=aa hx0
 have IA:=aa (show ((W.alloc (.cells #[.int .i64 (S.w:Int),.slice ab S.ins.length cb,.slice ai S.ins.length ci] 26)).alloc (.cells #[.int .i64 0,.slice none 0 0,.slice none 0 0] 26)).heap.size=W.heap.size+2 from by simp)
 clear hx0
 generalize World.alloc (World.alloc W _) _=V at*
 have cA:=cellOf HA.out
 go_wp2_with fail
 refine (nS S _ _ _ (H.aj HX)).mono ?_
 rintro e1 w1 ⟨rfl,hx1⟩
 clear cA
 have nK:=aa hx1
 clear hx1
 have cA:=cellOf (nK.blk HA ax)
 go_wp2_with fail
 clear cA
 refine (adL (S.w:Int) (n:Int) _ _ S.ins.length ci _).mono ?_
 rintro e2 w2 ⟨b2,rfl,hb2,hx2⟩
 obtain rfl:=mM hb2 ⟨by omega,by omega⟩
 clear hb2
 have ji:=aa (nK.af hx2)
 clear hx2
 have cA:=cellOf (ji.blk HA ax)
 go_wp2_with fail
 clear cA
 refine (ry S _ _ _ H8 (H.aj (HX.af ji))).mono ?_
 rintro e3 w3 ⟨gB,cB,gI,cI,lim,LB,RL,rfl,uu,hx3⟩
 have pK:=aa (ji.af hx3)
 go_upto_region 6 with (fail)
 have HO:=aa (ah (w:=w3) (o:= .cells #[.int .i64 (S.w:Int),.slice (some ⟨gB,0,none⟩) S.ins.length cB,.slice (some ⟨gI,0,none⟩) S.ins.length cI] 26) rfl)
 have hx4:Ext No w3 (w3.alloc (.cells #[.int .i64 (S.w:Int),.slice (some ⟨gB,0,none⟩) S.ins.length cB,.slice (some ⟨gI,0,none⟩) S.ins.length cI] 26)):=(Ext.refl _ _).alloc _
 have oF:=aa (uu.aC hx4)
 have qO:=aa (pK.af hx4)
 have hlm:=uu.x.lh
 have Ab:=aa (show ¬(aQ (.slice (some ⟨gB,0,none⟩) S.ins.length cB) (.slice (some ⟨gI,0,none⟩) S.ins.length cI) RL) w3.heap.size from fun e=>by have:=(uu.x.own e).2;omega)
 have HT2:=aa ((HT.ext (HX.af ji)).pos)
 have NN:=aa (HT.ext (HX.af qO))
 have IE:=aa (qO.blk HC ax)
 have hC2:=lt_of_block (ji.blk HC ax)
 have HnC:=aa (show ¬(aQ (.slice (some ⟨gB,0,none⟩) S.ins.length cB) (.slice (some ⟨gI,0,none⟩) S.ins.length cI) RL) (W.heap.size+1) from fun e=>by have:=(uu.x.own e).1;omega)
 have Kn:=aa (HX.af qO)
 clear pK hx3 hx4 uu
 generalize World.alloc w3 _=w4 at*
 generalize w3.heap.size=bO at*
 refine aL [7] (fun w'=>Ext (aQ (.slice (some ⟨gB,0,none⟩) S.ins.length cB) (.slice (some ⟨gI,0,none⟩) S.ins.length cI) RL) w4 w') (by kernel_rfl) ?_ (fun hHeld=>?_)
 ·exact bX
 have HE:=aa (show Ext No w4 w4.drew from (Ext.refl _ _).drew)
 generalize w4.drew=v0 at*
 refine uJ [0,1,2] hHeld ?_
 clear hHeld
 iterate 2 refine uL ?_ (hy:=DF)
 refine uF ?_
 refine uZ fun hHeld=>?_
 refine uN 3 fun K hK=>?_
 go_simp
 go_at_call 63
 refine (zi S n w2.heap.size lim gB cB gI cI S.ins.length LB RL v0 rfl (oF.aC HE) (NN.ext HE) HT2 hn).mono ?_
 rintro e1 va ⟨rfl,Nu,KS,NM,vN,hx5,hown1⟩
 go_simp
 refine uK hK (by intro _;exact HE.lM.trans hx5) ?_
 clear hK K hHeld
 intro hHeld
 replace HE:=aa (HE.lM.trans hx5)
 clear hx5
 refine uN 4 fun K hK=>?_
 go_simp
 go_at_call 48
 refine (oz S.w (dN S n) _ _ va vN.at.no).mono ?_
 rintro e2 vb ⟨rfl,hx6⟩
 go_simp
 refine uK hK sj ?_
 clear hK K hHeld
 intro hHeld
 replace vN:=aa (vN.aC hx6)
 replace HE:=aa (HE.af hx6)
 clear hx6
 have uh:=aa (HE.blk IE HnC)
 refine uJ [5,6] hHeld ?_
 clear hHeld
 iterate 2 refine uF ?_
 refine uZ fun hHeld=>?_
 refine uN 7 fun K hK=>?_
 ((have cS:=cellOf uh.out);(have fS:=aH uh.out);go_simp;(clear cS fS))
 refine uK hK bz ?_
 clear hK K hHeld
 intro hHeld
 have jR:Ext (At (W.heap.size+1)) vb (((vb.setCell ⟨W.heap.size+1,0,none⟩ (.int .i64 (S.w:Int))).setCell ⟨W.heap.size+1,1,none⟩ (.slice (some ⟨gB,0,none⟩) S.ins.length cB)).setCell ⟨W.heap.size+1,2,none⟩ (.slice (some ⟨gI,0,none⟩) S.ins.length cI)):=jw _ _ _ _ _
 have hbF:=(az (j:=2) (u:=(.slice (some ⟨gI,0,none⟩) S.ins.length cI)) (az (j:=1) (u:=(.slice (some ⟨gB,0,none⟩) S.ins.length cB)) (az (j:=0) (u:= .int .i64 (S.w:Int)) uh))).trans rfl
 generalize World.setCell (World.setCell (World.setCell vb _ _) _ _) _ _=WF at*
 refine uJ [8] hHeld ?_
 clear hHeld
 refine uF ?_
 refine uZ fun hHeld=>?_
 refine uE ?_
 go_wp2_with fail
 have cF:=cellOf hbF
 refine aW rfl ?_
 simp [results,Tryz.results23,go_sem,cF]
 have hVW:=IA.out
 have hs1:=nK.size
 have hs2:=ji.size
 have hok:=adH H8 hn
 exact DJ
set_option maxRecDepth 100000 in
set_option maxHeartbeats 4000000 in
theorem BN (S:bD) (n:Int) (vb vi:Value) (W:World) (h:je No W vb vi S) (hn:¬adK n S.ins.length):
  Calls Tryz.prog 25 #[.agg #[.int .i64 (S.w:Int),vb,vi],.int .i64 n] W (kG (.agg #[.int .i64 0,.slice none 0 0,.slice none 0 0]) 9 W):=by
 have H:=aa h
 have HN:=aa hn
 obtain ⟨ab,cb,ai,ci,rfl,rfl⟩:=h.slices
 clear h hn
 go_enter Tryz.func25,Tryz.ntmps25
 go_upto_region 1 with (fail)
 have hx0:Ext No W ((W.alloc (.cells #[.int .i64 (S.w:Int),.slice ab S.ins.length cb,.slice ai S.ins.length ci] 26)).alloc (.cells #[.int .i64 0,.slice none 0 0,.slice none 0 0] 26)):=((Ext.refl _ _).alloc _).alloc _
 have HA:=aa (zK hx0)
 have HC:=aa (zM hx0)
 have HX:=aa hx0
 have IA:=aa (show ((W.alloc (.cells #[.int .i64 (S.w:Int),.slice ab S.ins.length cb,.slice ai S.ins.length ci] 26)).alloc (.cells #[.int .i64 0,.slice none 0 0,.slice none 0 0] 26)).heap.size=W.heap.size+2 from by simp)
 clear hx0
 generalize World.alloc (World.alloc W _) _=V at*
 have cA:=cellOf HA.out
 go_wp2_with fail
 refine (nS S _ _ _ (H.aj HX)).mono ?_
 rintro e1 w1 ⟨rfl,hx1⟩
 clear cA
 have nK:=aa hx1
 clear hx1
 have cA:=cellOf (nK.blk HA ax)
 go_wp2_with fail
 clear cA
 refine (adL (S.w:Int) n _ _ S.ins.length ci _).mono ?_
 rintro e2 w2 ⟨b2,rfl,hb2,hx2⟩
 obtain rfl:=ow hb2 HN
 clear hb2
 have ji:=aa (nK.af hx2)
 clear hx2 nK
 exact DU
set_option maxRecDepth 100000 in
set_option maxHeartbeats 4000000 in
theorem BO (S:bD) (n:Nat) (vb vi:Value) (W:World) (h8:eY S) (h:je No W vb vi S) (hT:iQ W) (hn:n < S.ins.length):
  Calls Tryz.prog 25 #[.agg #[.int .i64 (S.w:Int),vb,vi],.int .i64 (n:Int)] W (xC (jK S n) W):=by
 have H:=aa h
 have HT:=aa hT
 have H8:=aa h8
 obtain ⟨ab,cb,ai,ci,rfl,rfl⟩:=h.slices
 clear h hT h8
 go_enter Tryz.func25,Tryz.ntmps25
 go_upto_region 1 with (fail)
 have hx0:Ext No W ((W.alloc (.cells #[.int .i64 (S.w:Int),.slice ab S.ins.length cb,.slice ai S.ins.length ci] 26)).alloc (.cells #[.int .i64 0,.slice none 0 0,.slice none 0 0] 26)):=((Ext.refl _ _).alloc _).alloc _
 have HA:=aa (zK hx0)
 have HC:=aa (zM hx0)
 have HX:=aa hx0
 have IA:=aa (show ((W.alloc (.cells #[.int .i64 (S.w:Int),.slice ab S.ins.length cb,.slice ai S.ins.length ci] 26)).alloc (.cells #[.int .i64 0,.slice none 0 0,.slice none 0 0] 26)).heap.size=W.heap.size+2 from by simp)
 clear hx0
 generalize World.alloc (World.alloc W _) _=V at*
 have cA:=cellOf HA.out
 go_wp2_with fail
 refine (nS S _ _ _ (H.aj HX)).mono ?_
 rintro e1 w1 ⟨rfl,hx1⟩
 clear cA
 have nK:=aa hx1
 clear hx1
 have cA:=cellOf (nK.blk HA ax)
 go_wp2_with fail
 clear cA
 refine (adL (S.w:Int) (n:Int) _ _ S.ins.length ci _).mono ?_
 rintro e2 w2 ⟨b2,rfl,hb2,hx2⟩
 obtain rfl:=mM hb2 ⟨by omega,by omega⟩
 clear hb2
 have ji:=aa (nK.af hx2)
 clear hx2
 have cA:=cellOf (ji.blk HA ax)
 go_wp2_with fail
 clear cA
 refine (ry S _ _ _ H8 (H.aj (HX.af ji))).mono ?_
 rintro e3 w3 ⟨gB,cB,gI,cI,lim,LB,RL,rfl,uu,hx3⟩
 have pK:=aa (ji.af hx3)
 go_upto_region 6 with (fail)
 have HO:=aa (ah (w:=w3) (o:= .cells #[.int .i64 (S.w:Int),.slice (some ⟨gB,0,none⟩) S.ins.length cB,.slice (some ⟨gI,0,none⟩) S.ins.length cI] 26) rfl)
 have hx4:Ext No w3 (w3.alloc (.cells #[.int .i64 (S.w:Int),.slice (some ⟨gB,0,none⟩) S.ins.length cB,.slice (some ⟨gI,0,none⟩) S.ins.length cI] 26)):=(Ext.refl _ _).alloc _
 have oF:=aa (uu.aC hx4)
 have qO:=aa (pK.af hx4)
 have hlm:=uu.x.lh
 have Ab:=aa (show ¬(aQ (.slice (some ⟨gB,0,none⟩) S.ins.length cB) (.slice (some ⟨gI,0,none⟩) S.ins.length cI) RL) w3.heap.size from fun e=>by have:=(uu.x.own e).2;omega)
 have HT2:=aa ((HT.ext (HX.af ji)).pos)
 have NN:=aa (HT.ext (HX.af qO))
 have IE:=aa (qO.blk HC ax)
 have hC2:=lt_of_block (ji.blk HC ax)
 have HnC:=aa (show ¬(aQ (.slice (some ⟨gB,0,none⟩) S.ins.length cB) (.slice (some ⟨gI,0,none⟩) S.ins.length cI) RL) (W.heap.size+1) from fun e=>by have:=(uu.x.own e).1;omega)
 have Kn:=aa (HX.af qO)
 clear pK hx3 hx4 uu
 generalize World.alloc w3 _=w4 at*
 generalize w3.heap.size=bO at*
 refine aL [7] (fun w'=>Ext (aQ (.slice (some ⟨gB,0,none⟩) S.ins.length cB) (.slice (some ⟨gI,0,none⟩) S.ins.length cI) RL) w4 w') (by kernel_rfl) ?_ (fun hHeld=>?_)
 ·exact bX
 have HE:=aa (show Ext No w4 w4.drew from (Ext.refl _ _).drew)
 generalize w4.drew=v0 at*
 refine uJ [0,1,2] hHeld ?_
 clear hHeld
 iterate 2 refine uL ?_ (hy:=DF)
 refine uF ?_
 refine uZ fun hHeld=>?_
 refine uN 3 fun K hK=>?_
 go_simp
 go_at_call 49
 refine (uI S n w2.heap.size lim gB cB gI cI S.ins.length LB RL v0 rfl (oF.aC HE) (NN.ext HE) HT2 hn).mono ?_
 rintro e1 va ⟨rfl,Nu,KS,NM,vN,hx5,hown1⟩
 go_simp
 refine uK hK (by intro _;exact HE.lM.trans hx5) ?_
 clear hK K hHeld
 intro hHeld
 replace HE:=aa (HE.lM.trans hx5)
 clear hx5
 refine uN 4 fun K hK=>?_
 go_simp
 go_at_call 48
 refine (oz S.w (jK S n) _ _ va vN.at.no).mono ?_
 rintro e2 vb ⟨rfl,hx6⟩
 go_simp
 refine uK hK sj ?_
 clear hK K hHeld
 intro hHeld
 replace vN:=aa (vN.aC hx6)
 replace HE:=aa (HE.af hx6)
 clear hx6
 have uh:=aa (HE.blk IE HnC)
 refine uJ [5,6] hHeld ?_
 clear hHeld
 iterate 2 refine uF ?_
 refine uZ fun hHeld=>?_
 refine uN 7 fun K hK=>?_
 ((have cS:=cellOf uh.out);(have fS:=aH uh.out);go_simp;(clear cS fS))
 refine uK hK bz ?_
 clear hK K hHeld
 intro hHeld
 have jR:Ext (At (W.heap.size+1)) vb (((vb.setCell ⟨W.heap.size+1,0,none⟩ (.int .i64 (S.w:Int))).setCell ⟨W.heap.size+1,1,none⟩ (.slice (some ⟨gB,0,none⟩) S.ins.length cB)).setCell ⟨W.heap.size+1,2,none⟩ (.slice (some ⟨gI,0,none⟩) S.ins.length cI)):=jw _ _ _ _ _
 have hbF:=(az (j:=2) (u:=(.slice (some ⟨gI,0,none⟩) S.ins.length cI)) (az (j:=1) (u:=(.slice (some ⟨gB,0,none⟩) S.ins.length cB)) (az (j:=0) (u:= .int .i64 (S.w:Int)) uh))).trans rfl
 generalize World.setCell (World.setCell (World.setCell vb _ _) _ _) _ _=WF at*
 refine uJ [8] hHeld ?_
 clear hHeld
 refine uF ?_
 refine uZ fun hHeld=>?_
 refine uE ?_
 go_wp2_with fail
 have cF:=cellOf hbF
 refine aW rfl ?_
 simp [results,Tryz.results25,go_sem,cF]
 have hVW:=IA.out
 have hs1:=nK.size
 have hs2:=ji.size
 have hok:=M5 H8 hn
 exact DJ


import Derived.Test.YtmddchceacmopaaGreatDoorE52
import Derived.Test.YtmddchceacmopaaGreatDoorE30
set_option linter.unusedVariables false
set_option linter.unusedSimpArgs false
namespace Go.Proofs.YtmddchceacmopaaGreatDoor
open Go Go.RowKit
theorem yo {p:Prop} (h:p:=by intro w hSw;(have fG:Ext (At tb) V1 _:=hSw.1);(have q0:=cellOf (fG.blk HB Zv));go_simp;(try with_reducible rfl)):p:=h
theorem sV {p:Prop} (h:p:=by exact ⟨hE.trans VC,P6⟩):p:=h
theorem yt {p:Prop} (h:p:=by exact ⟨hE.af aF,xw.ext aF⟩):p:=h
theorem sW {p:Prop} (h:p:=by
 go_wp2_with fail
 go_ret
 exact ⟨rfl,HX⟩):p:=h
theorem EM {p:Prop} (h:p:=by
 refine uZ ?_
 refine uD ?_
 obtain ⟨hE,xw⟩:=(show Ext (At tb) V1 _∧bB _ tb from hHeld)
 clear hHeld
 go_wp2_with fail
 go_meet
 exact ⟨rfl,hE,xw⟩):p:=h
theorem Ro {M:Nat→Prop} {W:World} {vb vi:Value} {S:bD} (h:je M W vb vi S):∃LB Li,YW M W vb vi LB Li∧CW S (S.w:Int) LB Li:=by
 obtain ⟨LB,h1,h2,-⟩:=h.bnd.list
 obtain ⟨Li,h4,h5,h6⟩:=h.ex
 exact ⟨LB,Li,⟨h1,h4⟩,rfl,h.ok,h2,h5,h6⟩
theorem Rp {S:bD} {x:Int} {LB:LS} {Li:fe} (h:CW S x LB Li):mD Li:=fun p hp=>by
 obtain ⟨i,hi,rfl⟩:=List.getElem_of_mem hp
 have h9:=congrArg List.length (h.rows i hi)
 rw [List.length_map,dK] at h9
 have:=(h.ok.row i).len
 have:=h.ok.n2
 omega
theorem LK {S:bD} {LB:LS} {Li:fe} (h8:eY S) (hc:CW S (S.w:Int) LB Li) {r:Nat} (hr:(r:Int) < 2):uX ((S.w:Int)+(r:Int)) LB Li:=fun hv=>by
 have hw:=h8.w8
 have hl:Li.length≤32:=by rw [hc.len];exact h8.n8
 refine ⟨?_,hl⟩
 by_cases h0:r=0
 ·omega
 have h1:=hv.n
 have h2:=hv.lb
 have hm:=List.getElem_mem (l:=LB) (n:=0) (by omega)
 have h3:=(hv.bn _ hm).2
 have h4:=(Ba hc.bnd h8.ok.w h8.ok.bnd _ hm).2
 omega
set_option maxRecDepth 100000 in
set_option maxHeartbeats 16000000 in
theorem qJ (tl:Value) (zs:List Int) (x:Int) (vb vi sl:Value) (LB:LS) (Li:fe) (n:Int) (ks:List Int) (w:World) (hT:iQ w) (ht:Ints No w .i64 tl zs) (h:YW No w vb vi LB Li) (hre:mD Li) (hk:Ints No w .i64 sl ks):
  Calls Tryz.prog 3 #[tl,.agg #[.int .i64 x,vb,vi],.int .i64 n,sl] w (bZ true w):=by
 have HT:=aa ht
 have NW:=aa hT
 have H:=aa h
 have IK:=aa hre
 have Zu:=aa hk
 obtain ⟨at',ct',rfl⟩:=Row.slice ht
 obtain ⟨ab,cb,rfl⟩:=h.b.slice
 obtain ⟨ai,ci,rfl⟩:=h.i.slice
 obtain ⟨ak,ck,rfl⟩:=Ints.slice hk
 clear ht hT h hre hk
 go_enter Tryz.func3,Tryz.ntmps3
 go_upto_region 1 with (fail)
 have HX0:=aa (show Ext No w (w.alloc (.cells #[.int .i64 x,.slice ab LB.length cb,.slice ai Li.length ci] 26)) from (Ext.refl _ _).alloc _)
 have HA:=aa (ah (w:=w) (o:= .cells #[.int .i64 x,.slice ab LB.length cb,.slice ai Li.length ci] 26) rfl)
 generalize World.alloc w _=v at*
 generalize hqa:w.heap.size=qa at HA ⊢
 go_wp2_with fail
 refine (UG _ zs _ (Row.aj HT HX0)).mono ?_
 rintro e0 w0 ⟨rfl,ht0,hx0,hs0⟩
 obtain ⟨tb,htb⟩:∃tb,tb=v.heap.size:=⟨_,rfl⟩
 rw [←htb] at ht0 ⊢
 have Hqt:=aa (show qa < tb by have:=lt_of_block HA.out;omega)
 have WQ:=aa (show w.heap.size≤tb by have:=HX0.size;omega)
 have YR:=aa (show ¬At tb qa from fun e=>by unfold At at e;have:=Hqt.out;omega)
 replace HA:=aa (hx0.blk HA ax)
 have HX:=aa (HX0.af hx0)
 have VD:=aa ht0
 clear ht0 hx0 hs0 HX0 hqa htb v HT
 go_wp2_with fail
 go_loopw [10,11,12] (fun s10 _ _ wr=>∃k:Nat,s10= .int .i64 k∧k≤4∧Hid (Ext No w wr)∧Hid (bB wr tb)∧Hid (wr.heap[qa]? =some (.cells #[.int .i64 x,.slice ab LB.length cb,.slice ai Li.length ci] 26 (0,0)))) (fun s10 _ _ _=>4 - (intOf s10).toNat)
 case atStart=>exact ⟨0,rfl,by omega,HX,VD,HA⟩
 clear HX VD HA w0
 obtain ⟨k,rfl,hk,HX,VD,HA⟩:=hrel
 rename World=>wr
 by_cases hlt:k < 4
 ·have hlz:(k:Int) < 4:=by omega
  have HKK:Hid (Value.int .i64 ((k:Int)+1)= .int .i64 ((k+1:Nat):Int)):=aa (by rw [show ((k+1:Nat):Int)=(k:Int)+1 from by omega])
  go_wp2_with fail
  refine (Oy tb 5 _ (by decide) (by decide) VD).mono ?_
  rintro e1 w1 ⟨S,vb1,Tx,rfl,N8,hn5,hW,ht1,hx1⟩
  have htl:=VD.lt
  obtain ⟨KS,IL,hY,hC⟩:=Ro (hW.mono (M':=fun b=>b=tb∨b=w1.heap.size) (fun i hi e=>by show i < _;omega))
  have HCW:=aa hC
  have HR1:=aa (Rp hC)
  have HS1:=aa (show uX (S.w:Int) KS IL from fun _=>⟨by have:=N8.w8;omega,by rw [hC.len];exact N8.n8⟩)
  obtain ⟨N,hN⟩:∃N,N=IL.length:=⟨_,rfl⟩
  obtain ⟨NB,qB⟩:∃NB,NB=KS.length:=⟨_,rfl⟩
  have hN5:N≤5:=by rw [hN,hC.len];exact hn5
  have hN1:1≤N:=by rw [hN,hC.len];exact hC.ok.n1
  obtain ⟨NQ,NR,rfl⟩:=hY.b.slice
  obtain ⟨NS,NT,rfl⟩:=hY.i.slice
  rw [←hN,←qB] at hY
  rw [←hN,←qB]
  clear hW hC hN qB hn5
  go_upto_region 6 with (fail)
  have hxa:Ext No w1 (w1.alloc (.cells #[.int .i64 (S.w:Int),.slice NQ NB NR,.slice NS N NT] 26)):=(Ext.refl _ _).alloc _
  have HB:=aa (ah (w:=w1) (o:= .cells #[.int .i64 (S.w:Int),.slice NQ NB NR,.slice NS N NT] 26) rfl)
  have hE:Ext (At tb) wr _:=hx1.af hxa
  have hXn:=HX.aJ hE (fun i hi e=>by unfold At at e;have:=WQ.out;omega)
  replace HX:=aa hXn
  replace HA:=aa (hE.blk HA YR)
  replace VD:=aa (ht1.ext hxa)
  have HY:=aa (hY.aj hxa)
  have HBt:=aa (show tb < w1.heap.size from ht1.lt)
  clear hY hxa hE hXn ht1 hx1 htl
  generalize World.alloc w1 _=V1 at*
  generalize w1.heap.size=B at*
  have Zv:=aa (show ¬At tb B from fun e=>by unfold At at e;have:=HBt.out;omega)
  have ade:IntKind.i64.wrap ((N:Int)+1)=(N:Int)+1:=IntWalk.i64_in _ (by omega)
  have hwr2:IntKind.i64.wrap ((N:Int)+2)=(N:Int)+2:=IntWalk.i64_in _ (by omega)
  have hw8:(S.w:Int)≤8:=by have:=N8.w8;omega
  have cB:=cellOf HB.out
  go_upto_region 7 with (fail)
  clear cB
  go_cut [60] (fun s60 wx=>s60= .bool false∧Hid (Ext (At tb) V1 wx)∧Hid (bB wx tb))
  case first=>
   refine uW (fun w'=>Ext (At tb) V1 w'∧bB w' tb) (⟨(Ext.refl _ _).drew,VD.ext ((Ext.refl _ _).drew)⟩) fun hHeld=>?_
   generalize V1.drew=v0 at*
   refine uO [0,1,2,4,5] ?_
   iterate 5 refine uT ?_ (hy:=yo)
   refine uZ ?_
   refine hHc 3 fun K hK=>?_
   ((obtain ⟨hE,xw⟩:=(show Ext (At tb) V1 _∧bB _ tb from hHeld));go_simp;go_at_call 9;(refine (jB tb _ (by omega) (by omega) _ xw).mono ?_);(rintro q1 w1 ⟨r1,rfl,hr1,P6,VC,-⟩);go_simp)
   refine uK hK sV ?_
   clear hK K hHeld
   intro hHeld
   clear hE xw P6 VC
   refine hHc 6 fun K hK=>?_
   ((obtain ⟨hE,xw⟩:=(show Ext (At tb) V1 _∧bB _ tb from hHeld));go_simp;go_at_call 9;(refine (jB tb _ (by omega) (by omega) _ xw).mono ?_);(rintro q2 w2 ⟨r2,rfl,hr2,P6,VC,-⟩);go_simp)
   refine uK hK sV ?_
   clear hK K hHeld
   intro hHeld
   clear hE xw P6 VC
   refine hHc 7 fun K hK=>?_
   ((obtain ⟨hE,xw⟩:=(show Ext (At tb) V1 _∧bB _ tb from hHeld));go_simp)
   refine uK hK (⟨hE.alloc _,xw.ext ((Ext.refl _ _).alloc _)⟩) ?_
   clear hK K hHeld
   intro hHeld
   have HI:=aa (show Ints No (w2.alloc (.cells #[.int .i64 (r2:Int)] 3)) .i64 (.slice (some ⟨w2.heap.size,0,none⟩) 1 1) [(r2:Int)] from Row.block (ah rfl) rfl ax (by omega))
   clear hE xw
   refine hHc 8 fun K hK=>?_
   ((obtain ⟨hE,xw⟩:=(show Ext (At tb) V1 _∧bB _ tb from hHeld));(have TF:=HX.aJ hE (fun i hi e=>by unfold At at e;have:=WQ.out;omega));go_simp;go_at_call 8;(refine (kR (S.w:Int) _ _ _ KS IL _ _ _ (HY.ext hE (fun _ _ e=> .inl e)).no HR1 HS1 (NW.ext TF) HI).mono ?_);(rintro q4 w4 ⟨rfl,aF⟩);go_simp)
   refine uK hK yt ?_
   clear hK K hHeld
   intro hHeld
   clear hE xw TF aF HI
   refine uO [9,10,11,12,13,14,17,18,19] ?_
   iterate 9 refine uT ?_ (hy:=yo)
   refine uZ ?_
   refine hHc 15 fun K hK=>?_
   ((obtain ⟨hE,xw⟩:=(show Ext (At tb) V1 _∧bB _ tb from hHeld));go_simp;go_at_call 9;(refine (jB tb _ (by omega) (by omega) _ xw).mono ?_);(rintro q5 w5 ⟨r5,rfl,hr5,P6,VC,-⟩);go_simp)
   refine uK hK sV ?_
   clear hK K hHeld
   intro hHeld
   clear hE xw P6 VC
   refine uA 16 ?_
   refine hHc 20 fun K hK=>?_
   ((obtain ⟨hE,xw⟩:=(show Ext (At tb) V1 _∧bB _ tb from hHeld));go_simp;go_at_call 9;(refine (jB tb _ (by omega) (by omega) _ xw).mono ?_);(rintro q6 w6 ⟨r6,rfl,hr6,P6,VC,-⟩);go_simp)
   refine uK hK sV ?_
   clear hK K hHeld
   intro hHeld
   clear hE xw P6 VC
   refine hHc 21 fun K hK=>?_
   ((obtain ⟨hE,xw⟩:=(show Ext (At tb) V1 _∧bB _ tb from hHeld));go_simp)
   refine uK hK (⟨hE.alloc _,xw.ext ((Ext.refl _ _).alloc _)⟩) ?_
   clear hK K hHeld
   intro hHeld
   have HI:=aa (show Ints No (w6.alloc (.cells #[.int .i64 (r6:Int)] 3)) .i64 (.slice (some ⟨w6.heap.size,0,none⟩) 1 1) [(r6:Int)] from Row.block (ah rfl) rfl ax (by omega))
   clear hE xw
   refine hHc 22 fun K hK=>?_
   ((obtain ⟨hE,xw⟩:=(show Ext (At tb) V1 _∧bB _ tb from hHeld));(have TF:=HX.aJ hE (fun i hi e=>by unfold At at e;have:=WQ.out;omega));go_simp;go_at_call 8;(refine (kR (S.w:Int) _ _ _ KS IL _ _ _ (HY.ext hE (fun _ _ e=> .inl e)).no HR1 HS1 (NW.ext TF) HI).mono ?_);(rintro q8 w8 ⟨rfl,aF⟩);go_simp)
   refine uK hK yt ?_
   clear hK K hHeld
   intro hHeld
   clear hE xw TF aF HI
   refine uO [23,24,25,26,27] ?_
   iterate 5 refine uT ?_
   refine uZ ?_
   by_cases h20:(ks.length:Int) < 20
   ·refine sZ (i:=28) (v:=?_) rfl (by kernel_rfl) (by kernel_rfl) (by kernel_rfl) (fun _ _ _ h=>h) rfl (fun w hSw=>?_) hHeld ?_
    rotate_left
    ·exact iH
    refine uO [29,30,31,32] ?_
    iterate 4 refine uT ?_ (hy:=yo)
    refine uZ ?_
    refine hHc 33 fun K hK=>?_
    ((obtain ⟨hE,xw⟩:=(show Ext (At tb) V1 _∧bB _ tb from hHeld));(have TF:=HX.aJ hE (fun i hi e=>by unfold At at e;have:=WQ.out;omega));go_simp;go_at_call 8;(refine (kR (S.w:Int) _ _ _ KS IL _ ks _ (HY.ext hE (fun _ _ e=> .inl e)).no HR1 HS1 (NW.ext TF) (Row.aj Zu TF)).mono ?_);(rintro q9 w9 ⟨rfl,aF⟩);go_simp)
    refine uK hK yt ?_
    clear hK K hHeld
    intro hHeld
    clear hE xw TF aF
    refine uO [34,35,36] ?_
    iterate 3 refine uT ?_
    exact EM
   refine sZ (i:=28) (v:=?_) rfl (by kernel_rfl) (by kernel_rfl) (by kernel_rfl) (fun _ _ _ h=>h) rfl (fun w hSw=>?_) hHeld ?_
   rotate_left
   ·exact iH
   refine uO [29,30,31,32,33,34,35,36] ?_
   refine uT ?_
   iterate 5 refine uS ?_
   iterate 2 refine uT ?_
   exact EM
  case rest=>
  obtain ⟨rfl,hE,Y9⟩:=hcut
  rename World=>wz
  have WC:=aa (HX.aJ hE (fun i hi e=>by unfold At at e;have:=WQ.out;omega))
  have HAz:=aa (hE.blk HA YR)
  have HBz:=aa (hE.blk HB Zv)
  have HYz:=aa (HY.ext hE (fun _ _ e=> .inl e))
  clear hE HX HA HB HY VD V1
  apply_assumption
  go_upto_region 9 with (fail)
  refine aL [6] (fun w'=>Ext (At tb) wz w') (by kernel_rfl) ?_ (fun hHeld=>?_)
  ·exact bX
  have HE:=aa (show Ext No wz wz.drew from (Ext.refl _ _).drew)
  have Tz:=aa (Y9.ext HE)
  generalize wz.drew=v0 at*
  refine uJ [0,1,2] hHeld ?_
  clear hHeld
  refine uF ?_
  refine uL ?_ (hy:=(by intro w hSw;(have fG:Ext (At tb) wz _:=hSw);(have x0:=cellOf (fG.blk HBz Zv));go_simp;(try with_reducible rfl)))
  refine uF ?_
  refine uZ fun hHeld=>?_
  refine uN 3 fun K hK=>?_
  (go_simp;go_at_call 9;(refine (jB tb 2 (by decide) (by decide) _ Tz).mono ?_);(rintro q9 va ⟨r9,rfl,hr9,VE,qb,-⟩);go_simp)
  refine uK hK (by intro _;exact HE.lM.trans qb) ?_
  clear hK K hHeld
  intro hHeld
  have ace:IntKind.i64.wrap ((S.w:Int)+(r9:Int))=(S.w:Int)+(r9:Int):=IntWalk.i64_in _ (by omega)
  replace Tz:=aa VE
  have Sw:=aa (HE.lM.trans qb)
  clear VE qb HE
  refine uJ [4,5] hHeld ?_
  clear hHeld
  iterate 2 refine uF ?_
  refine uZ fun hHeld=>?_
  refine uN 6 fun K hK=>?_
  ((have Sy:=Sw.blk HBz Zv);(have x0:=cellOf Sy);(have f0:=aH Sy);go_simp;(clear x0 f0 Sy))
  refine uK hK bz ?_
  clear hK K hHeld
  intro hHeld
  refine uE ?_
  have Sy:=Sw.blk HBz Zv
  have hE2:Ext (At B) va (va.setCell ⟨B,0,none⟩ (.int .i64 ((S.w:Int)+(r9:Int)))):=(Ext.refl (At B) va).setAt _ _
  have HBn:=aa (show (va.setCell ⟨B,0,none⟩ (.int .i64 ((S.w:Int)+(r9:Int)))).heap[B]? =some (.cells #[.int .i64 ((S.w:Int)+(r9:Int)),.slice NQ NB NR,.slice NS N NT] 26 (0,0)) from (az (j:=0) (u:= .int .i64 ((S.w:Int)+(r9:Int))) Sy).trans rfl)
  have HTn:=aa (Tz.gM hE2 (fun b hb e=>by unfold At at e;have:=HBt.out;omega))
  have hXa:=WC.aJ Sw (fun i hi e=>by unfold At at e;have:=WQ.out;omega)
  have HXn:=aa (hXa.aJ hE2 (fun i hi e=>by unfold At at e;have:=WQ.out;have:=HBt.out;omega))
  have HAn:=aa (hE2.blk (Sw.blk HAz YR) (fun e=>by unfold At at e;have:=HBt.out;have:=Hqt.out;omega))
  have HYn:=aa ((HYz.ext Sw (fun _ _ e=> .inl e)).ext hE2 (fun _ _ e=> .inr e)).no
  have HSn:=aa (LK N8 HCW hr9)
  clear ace Sy hE2 hXa Sw Tz HBz HAz HYz WC
  generalize World.setCell va _ _=wn at*
  generalize ((S.w:Int)+(r9:Int))=x9 at*
  have c0:wn.cell? ⟨B,0,none⟩=some (.int .i64 x9):=cellOf HBn.out 0
  have c1:wn.cell? ⟨B,1,none⟩=some (.slice NQ NB NR):=cellOf HBn.out 1
  have c2:wn.cell? ⟨B,2,none⟩=some (.slice NS N NT):=cellOf HBn.out 2
  go_wp2_with fail
  clear c0 c1 c2
  refine (kR x9 _ _ (.slice none 0 0) KS IL 0 [] _ HYn HR1 HSn (NW.ext HXn) (Row.nil _ _ _ _ _ (by omega))).mono ?_
  rintro e9 w9 ⟨rfl,qb⟩
  go_wp2_with fail
  go_roundw
  case rel=>exact ⟨k+1,HKK,by omega,HXn.af qb,HTn.ext qb,qb.blk HAn ax⟩
  case measure=>simp [intOf];omega
 have hge:¬(k:Int) < 4:=by omega
 go_upto_region 12 with (fail)
 have cA:=cellOf HA.out
 by_cases h1:(5:Int) < (LB.length:Int)
 ·exact sW
 by_cases h2:(5:Int) < (Li.length:Int)
 ·exact sW
 by_cases h3:(20:Int) < (ks.length:Int)
 ·exact sW
 by_cases h4:(6:Int) < x
 ·exact sW
 have Zq:=aa (show uX x LB Li from fun _=>⟨by omega,by omega⟩)
 go_wp2_with fail
 clear cA
 refine (oC x _ _ LB Li _ (H.aj HX) IK).mono ?_
 rintro e2 w2 ⟨b1,rfl,hb1,hx1⟩
 replace HX:=aa (HX.af hx1)
 replace HA:=aa (hx1.blk HA ax)
 clear hx1
 have cA:=cellOf HA.out
 cases b1 with
 |false=>
  have hv:=ig hb1
  go_wp2_with fail
  clear cA
  refine (kr x _ _ LB Li _ (H.aj HX)).mono ?_
  rintro e3 w3 ⟨b2,rfl,hb2,hx2⟩
  obtain rfl:=ow hb2 hv
  go_wp2_with fail
  go_ret
  exact ⟨rfl,HX.af hx2⟩
 |true=>
  have c0:w2.cell? ⟨qa,0,none⟩=some (.int .i64 x):=cA 0
  have c1:w2.cell? ⟨qa,1,none⟩=some (.slice ab LB.length cb):=cA 1
  have c2:w2.cell? ⟨qa,2,none⟩=some (.slice ai Li.length ci):=cA 2
  clear cA
  go_wp2_with fail
  clear c0 c1 c2
  refine (kR x _ _ _ LB Li n ks _ (H.aj HX) IK Zq (NW.ext HX) (Row.aj Zu HX)).mono ?_
  rintro e3 w3 ⟨rfl,hx3⟩
  have pK:=aa (HX.af hx3)
  go_wp2_with fail
  refine (Lr _ (NW.ext pK)).mono ?_
  rintro e4 w4 ⟨rfl,hx4⟩
  go_wp2_with fail
  go_ret
  exact ⟨rfl,pK.af hx4⟩

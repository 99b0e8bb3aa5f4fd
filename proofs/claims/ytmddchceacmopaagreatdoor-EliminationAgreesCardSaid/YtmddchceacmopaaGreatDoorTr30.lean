
import Derived.Test.YtmddchceacmopaaGreatDoorTrE
set_option linter.unusedVariables false
set_option linter.unusedSimpArgs false
namespace Go.Proofs.YtmddchceacmopaaGreatDoor
open Go Go.RowKit
theorem yU {p:Prop} (h:p:=by
 go_enter Tryz.func37,Tryz.ntmps37
 go_wp2_with fail
 go_ret
 rw [HV]
 exact tL):p:=h
set_option maxRecDepth 100000 in
set_option maxHeartbeats 4000000 in
theorem yV (M:Nat→Prop) (w gen:Nat) (rs:List Nat) (sg so:Value) (W:World) (hM:∀b,M b→b < W.heap.size) (hT:iQ W) (hg:aG M W sg w gen) (hr:fM No W so w rs) (hl:rs.length=w):
  Calls Tryz.prog 116 #[.agg #[.int .i64 (w:Int),sg,so]] W (iF M w gen rs W):=by
 have HR:=aa (hr.mono (M':=fun b=>W.heap.size≤b) (fun i hi e=>absurd e (by omega)))
 have HG:=aa hg
 have HM:=aa hM
 have HT:=aa hT
 have IG:=aa hl
 obtain ⟨i0,hi0,hz0,hz1,hz2⟩:=info_parts Qz
 obtain ⟨ag,cg,rfl⟩:=hg.slice
 obtain ⟨ao,co,rfl⟩:=hr.slice
 have hw:=hg.hw
 have MC:=aa hg.hm
 clear hr hg hM hT hl
 go_enter Tryz.func116,Tryz.ntmps116
 go_wp2_with fail
 have hx0:Ext No W ((W.alloc (.cells #[.int .i64 (w:Int),.slice ag (nw w) cg,.slice ao rs.length co] 131)).alloc (.cells #[.int .i64 0,.slice none 0 0,.int .i64 0,.slice none 0 0,.slice none 0 0] 47)):=((Ext.refl _ _).alloc _).alloc _
 have hA:((W.alloc (.cells #[.int .i64 (w:Int),.slice ag (nw w) cg,.slice ao rs.length co] 131)).alloc (.cells #[.int .i64 0,.slice none 0 0,.int .i64 0,.slice none 0 0,.slice none 0 0] 47)).heap[W.heap.size]? =some (.cells #[.int .i64 (w:Int),.slice ag (nw w) cg,.slice ao rs.length co] 131 (0,0)):=ay (ah rfl)
 have hC:((W.alloc (.cells #[.int .i64 (w:Int),.slice ag (nw w) cg,.slice ao rs.length co] 131)).alloc (.cells #[.int .i64 0,.slice none 0 0,.int .i64 0,.slice none 0 0,.slice none 0 0] 47)).heap[W.heap.size+1]? =some (.cells #[.int .i64 0,.slice none 0 0,.int .i64 0,.slice none 0 0,.slice none 0 0] 47 (0,0)):=ah (by simp)
 generalize World.alloc (World.alloc W _) _=W2 at*
 have HA:=aa hA
 have HC:=aa hC
 have HX:=aa hx0
 have hlt1:=lt_of_block hC
 go_cut [4] (fun s4 wx=>∃T a c,s4= .pointer (some ⟨T,0,none⟩)∧Hid (uk M W wx w gen gen T [] (.slice ag (nw w) cg) (.slice ao rs.length co) (.slice a (nw w) c) (.slice none 0 0)))
 case first=>
  have l0:W2.cell? ⟨W.heap.size,0,none⟩=some (.int .i64 (w:Int)):=cellOf hA 0
  have l1:W2.cell? ⟨W.heap.size,1,none⟩=some (.slice ag (nw w) cg):=cellOf hA 1
  have l2:Ext No W2 W2:=Ext.refl _ _
  have ku:W.heap.size < W2.heap.size:=by omega
  clear hA hC hx0
  go_region_held3 (fun w'=>w'.cell? ⟨W.heap.size,0,none⟩=some (.int .i64 (w:Int))∧w'.cell? ⟨W.heap.size,1,none⟩=some (.slice ag (nw w) cg)∧Ext No W2 w')
   ((go_split_ands;refine ⟨?_,?_,?_⟩<;>(repeat (first|(with_reducible assumption)|(with_reducible exact Ext.refl _ _)|(with_reducible refine keepD ?_)|(with_reducible refine aO ?_)|(with_reducible refine Ext.drew ?_)|(with_reducible refine Ext.alloc ?_ _)|(with_reducible refine bY.drew ?_)|(with_reducible refine bY.alloc ?_ _)|(with_reducible refine bY.set ?_ _ _)|((with_reducible refine kX ?_ ?_);(first|(with_reducible assumption)|omega|(simp;omega)|(exact Nat.le_refl _)))|(with_reducible refine Ext.setAt ?_ _ _)|((with_reducible refine Ext.own ?_ ?_ _);rotate_left;(first|(with_reducible assumption)|omega|(simp;omega)|(exact Nat.le_refl _)))|(with_reducible refine bf aF ?_)|(with_reducible refine Ext.af ?_ aF)|(with_reducible refine bY.ext ?_ aF)))))
   (first|((go_at_call 137);(try go_split_ands);(with_reducible refine (Pf w gen _ _ (HG.out.no.aj (HX.out.af ?_))).mono ?_);(with_reducible assumption);(have hx6:=(show Ext No W2 _ from by with_reducible assumption));(rintro e7 w7 ⟨a7,c7,rfl,hs7,aF⟩);(have hx7:=Ext.af hx6 aF);(first|((with_reducible have hi:=jI aF (ah (o:=(.cells #[.int .i64 0,.slice none 0 0,.int .i64 0,.slice none 0 0,.slice none 0 0] 47)) rfl));(obtain ⟨hi,hlt⟩:=hi);(have HI:=aa hi);(have HL:=aa hlt);(have cI:=cellOf hi);(have fI:=aH hi);(clear hi hlt))|skip)))
  all_goals
   go_wp2_with fail
   go_meet
   refine ⟨_,a7,c7,rfl,aa ?_⟩
   first
   |(with_reducible exact uk.late (HX.out.af hx7) (hx7.blk HA.out ax) (hx7.blk HC.out ax) hs7.out (Nat.lt_of_lt_of_le hlt1 hx6.size) HM.out)
   |(with_reducible exact uk.early (HX.out.af hx7) (hx7.blk HA.out ax) (hx7.blk HC.out ax) hs7.out hlt1 HL.out HI.out HM.out)
 case rest=>
  obtain ⟨T,a,c,rfl,hm⟩:=hcut
  rename World=>V
  clear HA HC HX hA hC hx0 hlt1
  have cA:=cellOf hm.bW
  go_wp2_with fail
  clear cA
  have hwl:(w:Int)≤256:=by omega
  go_loopw [18] (fun i wr=>∃(k m:Nat) (ak:Option Addr) (ck:Nat) (ac:Option Addr) (cc:Nat) (l:List (Int×Int)),k≤rs.length∧i= .int .i64 k∧Hid (m=jd w gen rs k∧l=fu w gen rs k)∧Hid (uk M W wr w gen m T l (.slice ag (nw w) cg) (.slice ao rs.length co) (.slice ak (nw w) ck) (.slice ac l.length cc))) (fun i _=>rs.length - (intOf i).toNat)
  case atStart=>exact ⟨0,gen,a,c,none,0,[],Nat.zero_le _,rfl,aa ⟨rfl,rfl⟩,hm⟩
  clear hm
  obtain ⟨k,m,ak,ck,ac,cc,l,hk,rfl,hml,hm⟩:=hrel
  rename World=>wr
  have hpos:(0:Int)≤(k:Int):=by omega
  by_cases hlt:k < rs.length
  ·have WM:k < w:=by have:=IG.out;omega
   have HKK:Hid (Value.int .i64 ((k:Int)+1)= .int .i64 ((k+1:Nat):Int)):=aa (by rw [show ((k+1:Nat):Int)=(k:Int)+1 from by omega])
   obtain ⟨gg,go,gc,ae,ce,KO,hgl,_,z0,z1,hE⟩:=(HR.aj hm.ext).at hlt
   simp only [Value.slice.injEq] at KO
   obtain ⟨rfl,_,rfl⟩:=KO
   have P5:=aa (show rowAt rs k=rs[k] from fP hlt)
   have hlz:(k:Int) < (rs.length:Int):=by omega
   have acA:=lt_of_block hm.jl
   have TJ:¬(Value.slice ac l.length cc).ownBlock=some wr.heap.size:=fun e=>by have:=(hm.kv _ e).2;omega
   have hx3:Ext No wr (wr.alloc (.cells #[.int .i64 (w:Int),.slice ae (nw w) ce] 44)):=(Ext.refl _ _).alloc _
   have gX:=aa ((hm.mono (M':=fun b=>M b∨b=wr.heap.size) (fun i hi e=>by
    rcases e with e|e
    ·exact e
    omega)).aC hx3)
   have hQ:(wr.alloc (.cells #[.int .i64 (w:Int),.slice ae (nw w) ce] 44)).heap[wr.heap.size]? =some (.cells #[.int .i64 (w:Int),.slice ae (nw w) ce] 44 (0,0)):=ah rfl
   have HQ:=aa hQ
   have ZG:=aa (hE.aj hx3)
   clear hm hE hx3 hgl
   have cQ:=cellOf hQ
   clear hQ
   go_wp2_with fail
   generalize World.alloc wr _=W3 at*
   generalize wr.heap.size=Q at*
   clear z0 z1 cQ
   refine (Ia w rs[k] _ k _ ZG.no).mono ?_
   rintro e4 w4 ⟨rfl,hx4⟩
   have og:=aa (gX.aC hx4)
   have Yp:=aa (ZG.aj hx4)
   have Sv:=aa (hx4.blk HQ ax)
   clear hx4 gX ZG HQ
   go_upto_if 26 with (fail)
   go_cut [33] (fun _ wx=>∃(m':Nat) (a5:Option Addr) (c5:Nat),Hid (m'=jd w gen rs (k+1))∧Hid (uk (fun b=>M b∨b=Q) W wx w gen m' T l (.slice ag (nw w) cg) (.slice (some ⟨gg,go,none⟩) rs.length co) (.slice a5 (nw w) c5) (.slice ac l.length cc))∧Hid (wx.heap[Q]? =some (.cells #[.int .i64 (w:Int),.slice ae (nw w) ce] 44 (0,0)))∧Hid (aG (fun b=>W.heap.size≤b) wx (.slice ae (nw w) ce) w rs[k]))
   case first=>
    cases hh:gz w rs[k] k with
    |true=>
     have HKT:=aa (show m=jd w gen rs (k+1) by rw [jd,P5,hh,if_pos rfl];exact hml.1)
     clear hh
     go_wp2_with fail
     go_meet
     exact ⟨m,ak,ck,HKT,og,Sv,Yp⟩
    |false=>
     have HKT:=aa (show m|||2 ^ k=jd w gen rs (k+1) by rw [jd,P5,hh,if_neg (by simp),hml.1])
     clear hh
     have cT:=cellOf og.jl
     go_wp2_with fail
     refine (wQ (fun b=>((M b∨b=Q)∨b=W.heap.size+1∨b=T)∨(Value.slice ac l.length cc).ownBlock=some b) w m k _ _ (og.hM (fun b hb=>?_)) WM og.kill.no).mono ?_
     ·rcases hb with hb|rfl
      ·exact Nat.lt_of_lt_of_le (HM b hb) og.ext.size
      exact lt_of_block Sv.out
     rintro e5 w5 ⟨a5,c5,rfl,hs5,hx5⟩
     have mH:=aa (og.aC hx5)
     have jU:=aa (mH.ND hs5)
     have BH:Ext (At T) w5 ((w5.setCell ⟨T,2,none⟩ (.int .i64 (w:Int))).setCell ⟨T,3,none⟩ (.slice a5 (nw w) c5)):=((Ext.refl (At T) w5).setAt _ _).setAt _ _
     have HQ6:=aa (BH.blk (hx5.blk Sv ax) (by unfold At;omega))
     have hS6:=aa (((Yp.aj hx5).ext BH (fun i _ e=>by unfold At at e;have:=mH.big;omega)))
     have cT5:=cellOf mH.jl
     have fT5:=aH mH.jl
     clear hx5 hs5 mH og Sv Yp cT BH
     go_wp2_with fail
     go_meet
     exact ⟨_,a5,c5,HKT,jU,HQ6,hS6⟩
   case rest=>
    obtain ⟨m',a5,c5,hmk,hm,hQ,hS⟩:=hcut
    rename World=>V2
    clear og Sv Yp
    have cQ:=cellOf hQ.out
    have cA:=cellOf hm.bW
    go_wp2_with fail
    refine (JE (fun b=>(M b∨b=W.heap.size+1∨b=T∨b=Q)∨(Value.slice ac l.length cc).ownBlock=some b) w rs[k] gen _ _ _ (fun b hb=>?_) hS.no (HG.no.aj hm.ext)).mono ?_
    ·have h1:=lt_of_block hm.jl
     have h2:=hm.big
     rcases hb with (hb|rfl|rfl|rfl)|hb
     ·exact Nat.lt_of_lt_of_le (HM b hb) hm.ext.size
     ·omega
     ·exact h1
     ·exact lt_of_block hQ.out
     exact (hm.kv b hb).2
    rintro e5 w5 ⟨a6,c6,rfl,hs5,hx5⟩
    have mH:=aa (hm.aC hx5)
    have hQ5:=aa (hx5.blk hQ ax)
    have jU:=aa (mH.box (u0:= .int .i64 (w:Int)) (u1:= .slice a6 (nw w) c6) acA TJ (.inr rfl))
    have BH:Ext (At Q) w5 ((w5.setCell ⟨Q,0,none⟩ (.int .i64 (w:Int))).setCell ⟨Q,1,none⟩ (.slice a6 (nw w) c6)):=((Ext.refl (At Q) w5).setAt _ _).setAt _ _
    have hQ6:=(az (j:=1) (u:= .slice a6 (nw w) c6) (az (j:=0) (u:= .int .i64 (w:Int)) hQ5)).trans rfl
    have hs6:=aa (hs5.ext BH (fun i _ e=> .inl (.inr (.inr (.inr e)))))
    have cQ5:=cellOf hQ5.out
    have fQ5:=aH hQ5.out
    clear hm hQ hS hx5 hs5 mH hQ5 cQ cA BH
    have cQ6:=cellOf hQ6
    clear hQ6
    go_wp2_with fail
    clear cQ5 fQ5
    generalize World.setCell (World.setCell w5 _ _) _ _=W6 at*
    have VM:=aa (show l.length≤65536 by
     rw [hml.2]
     have h1:=nD w gen rs k
     have h2:k*w≤256*256:=Nat.mul_le_mul (by omega) hw
     omega)
    refine (zC (fun b=>b=T∨(Value.slice ac l.length cc).ownBlock=some b) w (dz rs[k] gen) _ _ (fun b hb=>?_) (HT.ext jU.ext) hs6.no).mono ?_
    ·rcases hb with rfl|hb
     ·exact lt_of_block jU.jl
     exact (jU.kv b hb).2
    rintro e7 w7 ⟨am,rfl,hmem,hx7⟩
    have He:=aa (jU.aC hx7)
    have YC:=aa hmem.out
    have hmm:=mR w (dz rs[k] gen)
    clear hx7 jU hmem hs6
    go_wp2_with fail
    obtain ⟨ml,Xy⟩:∃ml,ml=bU w (dz rs[k] gen):=⟨_,rfl⟩
    rw [←Xy] at YC hmm ⊢
    have HML:=aa Xy
    clear Xy
    go_loopw [45] (fun i wi=>∃(j:Nat) (l':List (Int×Int)) (qN:Option Addr) (cc':Nat),j≤ml.length∧i= .int .i64 j∧Hid (l'=l++fO k (ml.take j))∧Hid (uk (fun b=>M b∨b=Q) W wi w gen m' T l' (.slice ag (nw w) cg) (.slice (some ⟨gg,go,none⟩) rs.length co) (.slice a5 (nw w) c5) (.slice qN l'.length cc'))∧Hid (Row (fun b=>b=T∨(Value.slice qN l'.length cc').ownBlock=some b) wi 1 (.slice am ml.length ml.length) ml.length (ints ml))) (fun i _=>ml.length - (intOf i).toNat)
    case atStart=>exact ⟨0,l,ac,cc,Nat.zero_le _,rfl,aa (by simp [fO]),He,YC⟩
    clear He YC
    obtain ⟨j,l',qN,cc',hj,rfl,hl',hm,hme⟩:=hrel
    rename World=>wi
    have aa8:(0:Int)≤(j:Int):=by omega
    by_cases hlj:j < ml.length
    ·obtain ⟨mb,mo,mc,hsl,_,_,hcell⟩:=hme.shape (by omega)
     simp only [Value.slice.injEq] at hsl
     obtain ⟨rfl,_,rfl⟩:=hsl
     obtain ⟨b,hb,hbw,hbs⟩:=jQ.1 (show ml[j]∈bU w (dz rs[k] gen) from by rw [←HML];exact List.getElem_mem hlj)
     have q0:=hcell j _ (show (ints ml)[j]? =some (.int .i64 (b:Int)) from by simp [ints,hlj,hb])
     have YV:=aa (show ml.take (j+1)=ml.take j++[(b:Int)] by rw [List.take_succ_eq_append_getElem hlj,hb])
     have WX:=aa (show l'.length≤66000 by
      rw [hl',List.length_append]
      have h1:=pq k (ml.take j)
      have h2:=VM.out
      have h3:=List.length_take_le j ml
      omega)
     have HKJ:Hid (Value.int .i64 ((j:Int)+1)= .int .i64 ((j+1:Nat):Int)):=aa (by rw [show ((j+1:Nat):Int)=(j:Int)+1 from by omega])
     have adt:(j:Int) < (ml.length:Int):=by omega
     clear hcell hb hbs
     by_cases hbk:b=k
     ·have hne:¬((b:Int) != (k:Int))=true:=by simp;omega
      have hne2:((b:Int) != (k:Int))=false:=by simp;omega
      have jT:=aa (show l'=l++fO k (ml.take (j+1)) by rw [YV,uU (by omega)];exact hl')
      clear hbk
      go_wp2_with fail
      go_roundw
      case rel=>exact ⟨j+1,l',qN,cc',by omega,HKJ,jT,hm,hme⟩
      case measure=>simp [intOf];omega
     have hne2:((b:Int) != (k:Int))=true:=by simp;omega
     have jT:=aa (show l'++[((k:Int),(b:Int))]=l++fO k (ml.take (j+1)) by rw [YV,uV (by omega),←List.append_assoc,←hl'])
     have hll:=WX.out
     have cT:=cellOf hm.jl
     clear hbk
     go_wp2_with (at_builtin;(refine bE _ rfl (.tmp 53) (.tmp 57) 45 rfl (T+1) 75 i0 _ 2 16 Tryz.underlying45 hi0 hz0 hz1 hz2 rfl (by omega) (.slice qN l'.length cc') l'.length (iZ l') rfl (dG hm.out.own ((Ext.refl No _).alloc _) (fun _ _ x=>x)) No (some ⟨wi.heap.size,0,none⟩) 1 1 [.int .i64 (k:Int),.int .i64 (b:Int)] rfl (Row.block (ah rfl) rfl ax (by omega)) (by simp [Value.oneCell']) (by omega) (by omega) (by simp;exact Nat.le_of_lt (lt_of_block hm.out.jl)) ?_);(intro v1 w5 hown1 hg1 hv1);(obtain ⟨jU,KA⟩:=hm.out.app hown1 hg1 hv1);(have acB:=aa ((RY hg1 hv1 hme.out).ext ((Ext.refl (At T) w5).setAt 4 v1) (fun i _ e=> .inl e)));(have cT6:=cellOf KA);(have fT6:=aH KA);(have Kz:=aa jU);(obtain ⟨a6,c6,hs6⟩:=jU.slice);(subst hs6);(clear jU KA hown1 hg1 hv1))
     go_roundw
     case rel=>exact ⟨j+1,l'++[((k:Int),(b:Int))],a6,c6,by omega,HKJ,jT,by have:=Kz;simp only [List.length_append,List.length_cons,List.length_nil] at this ⊢;exact this,by have:=acB;simp only [List.length_append,List.length_cons,List.length_nil] at this ⊢;exact this⟩
     case measure=>simp [intOf];omega
    obtain rfl:j=ml.length:=by omega
    have jT:=aa (show l'=fu w gen rs (k+1) by rw [fu,P5,←HML,hl',List.take_length,←hml.2])
    go_wp2_with fail
    go_roundw
    case rel=>exact ⟨k+1,m',a5,c5,qN,cc',l',by omega,HKK,aa ⟨hmk.out,jT⟩,hm.mono (fun i _ e=> .inl e)⟩
    case measure=>simp [intOf];omega
  obtain rfl:k=rs.length:=by omega
  have cT:=cellOf hm.jl
  have cR:=cellOf hm.lN
  have fR:=aH hm.lN
  have hne:¬W.heap.size+1=T:=by have:=hm.big;omega
  have HLK:=aa (show l=fu w gen rs w by rw [hml.2,IG])
  have Tq:=aa (show m=jd w gen rs w by rw [hml.1,IG])
  by_cases hc:l.length≤64
  ·have hcz:¬(64:Int) < (l.length:Int):=by omega
   have hcd:decide ((64:Int) < (l.length:Int))=false:=by simp;omega
   clear hcz
   go_wp2_with fail
   have hfin:=bY.qy ⟨_,rfl,hm.lN⟩ (.int .i64 (w:Int)) (.slice ag (nw w) cg) (.int .i64 (w:Int)) (.slice ak (nw w) ck) (.slice ac l.length cc)
   have hE:=pF wr (W.heap.size+1) (.int .i64 (w:Int)) (.slice ag (nw w) cg) (.int .i64 (w:Int)) (.slice ak (nw w) ck) (.slice ac l.length cc)
   clear cT cR fR
   generalize World.setCell (World.setCell (World.setCell (World.setCell (World.setCell wr _ _) _ _) _ _) _ _) _ _=WF at*
   have cF:=cellOf hfin
   refine aW rfl ?_
   simp [results,Tryz.results116,go_sem,cF]
   obtain rfl:=HLK.out
   obtain rfl:=Tq.out
   have hbig:=hm.big
   refine ⟨fun _=>⟨ag,cg,ak,ck,ac,cc,rfl,aa ⟨?_,?_,?_,adN hw MC hc⟩,hm.ext.aJ hE (fun i hi e=>by unfold At at e;omega)⟩,fun h=>absurd h (by omega)⟩
   ·refine aG.mono (M:=fun b=>M b∨b=W.heap.size+1) ((((HG.mono (M':=fun b=>M b∨b=W.heap.size+1) (fun i hi e=>?_)).aj hm.ext).ext hE (fun i _ e=> .inr e))) (fun i _ e=> .inl e)
    exact tu
   ·exact (hm.kill.ext hE (fun i _ e=> .inl (.inr (.inl e)))).mono (fun i _ e=> .inl (.inl e))
   refine Row.bG (dG hm.own hE (fun i hi e=>by unfold At at e;omega)) (fun b hb hmb=>?_)
   have:=HM.out b hmb
   omega
  have hcd:decide ((64:Int) < (l.length:Int))=true:=by simp;omega
  go_wp2_with fail
  have hfin:=bY.qy ⟨_,rfl,hm.lN⟩ (.int .i64 0) (.slice none 0 0) (.int .i64 0) (.slice none 0 0) (.slice none 0 0)
  have hE:=pF wr (W.heap.size+1) (.int .i64 0) (.slice none 0 0) (.int .i64 0) (.slice none 0 0) (.slice none 0 0)
  clear cT cR fR
  generalize World.setCell (World.setCell (World.setCell (World.setCell (World.setCell wr _ _) _ _) _ _) _ _) _ _=WF at*
  have cF:=cellOf hfin
  refine aW rfl ?_
  simp [results,Tryz.results116,go_sem,cF]
  obtain rfl:=HLK.out
  exact ⟨fun h=>absurd h hc,fun _=>⟨rfl,hm.ext.aJ hE (fun i hi e=>by unfold At at e;omega)⟩⟩
end Go.Proofs.YtmddchceacmopaaGreatDoor

namespace Go.Proofs.YtmddchceacmopaaGreatDoor
open Go Go.RowKit
section
variable {P:Program} {ops:Array Oper} {Q:Exit→Act→World→Prop} {md:Region.Mode} {S:World→Prop}
def aD (P:Program) (md:Region.Mode) (ops:Array Oper) (Q:Exit→Act→World→Prop) (S:World→Prop) (fuel:Nat) (listed:Array Bool) (a:Act) (w:World) (i:Nat):Prop:=
 ∃o tl,ops.toList.drop i=o::tl∧Region.wanted o (yielded ops a.tmps)=true∧∀K':Act→World→Prop,Shut (∀a w,S w→(S w→wpAnyH P md ops Q S fuel (listed.setIfInBounds i true) a w)→K' a w)→Oper.wp P o a w K' Q
theorem aD.mk {i:Nat} {o:Oper} {tl:List Oper} {fuel:Nat} {listed:Array Bool} {a:Act} {w:World} (ho:ops.toList.drop i=o::tl) (hw:Region.wanted o (yielded ops a.tmps)=true)
  (h:∀K':Act→World→Prop,Shut (∀a w,S w→(S w→wpAnyH P md ops Q S fuel (listed.setIfInBounds i true) a w)→K' a w)→Oper.wp P o a w K' Q):aD P md ops Q S fuel listed a w i:=⟨o,tl,ho,hw,h⟩
theorem Gr {rs:List Nat} {fuel:Nat} {listed:Array Bool} {a:Act} {w:World} (hr:Region.ready md ops listed=rs) (hne:rs≠[]) (h:∀i∈rs,aD P md ops Q S fuel listed a w i):wpAnyH P md ops Q S (fuel+1) listed a w:=by
 refine wpAnyH_ready hr hne (fun i hi=>?_)
 obtain ⟨o,tl,ho,hw,hk⟩:=h i hi
 have key:AllReadyH P md ops Q S fuel listed a w [i]:=AllReadyH.cons (kK ho) (fun K' hK=>by rw [if_pos hw];exact hk K' hK) AllReadyH.nil
 exact key i (List.mem_singleton.2 rfl)
theorem aN {i j:Nat} {fuel:Nat} {listed:Array Bool} {a:Act} {w:World} (hr:Region.ready md ops listed=[i,j]) (h1:aD P md ops Q S fuel listed a w i) (h2:aD P md ops Q S fuel listed a w j):wpAnyH P md ops Q S (fuel+1) listed a w:=
 Gr hr (by simp) (fun x hx=>by
  simp only [List.mem_cons,List.not_mem_nil,or_false] at hx
  rcases hx with rfl|rfl
  ·exact h1
  exact h2)
theorem gp {i j k:Nat} {fuel:Nat} {listed:Array Bool} {a:Act} {w:World} (hr:Region.ready md ops listed=[i,j,k]) (h1:aD P md ops Q S fuel listed a w i) (h2:aD P md ops Q S fuel listed a w j) (h3:aD P md ops Q S fuel listed a w k):wpAnyH P md ops Q S (fuel+1) listed a w:=
 Gr hr (by simp) (fun x hx=>by
  simp only [List.mem_cons,List.not_mem_nil,or_false] at hx
  rcases hx with rfl|rfl|rfl
  ·exact h1
  ·exact h2
  exact h3)
end
structure dx (R:(Nat→Prop)→World→Prop):Prop where
 ext:∀{M M':Nat→Prop} {w w':World},R M w→Ext M' w w'→(∀i,i < w.heap.size→M' i→M i)→R M w'
 mono:∀{M M':Nat→Prop} {w:World},R M w→(∀i,i < w.heap.size→M' i→M i)→R M' w
def Out (W v:World) (A B:Option (Nat×Array Value)):Nat→Prop:=fun b=>b < W.heap.size∨(∃cs,A=some (b,cs))∨(∃cs,B=some (b,cs))∨v.heap.size≤b
structure lc (T:TypeId) (R1 R2:(Nat→Prop)→World→Prop) (O:Nat→Prop) (W v:World) (A B:Option (Nat×Array Value)) (c1 c2:Bool):Prop where
 ext:Ext No W v
 bW:∀D cs,A=some (D,cs)→W.heap.size≤D∧v.heap[D]? =some (.cells cs T (0,0))
 dQ:∀D cs,B=some (D,cs)→W.heap.size≤D∧v.heap[D]? =some (.cells cs T (0,0))
 ne:∀D cs D' cs',A=some (D,cs)→B=some (D',cs')→D≠D'
 r1:c1=true→R1 (Out W v A B) v
 r2:c2=true→R2 (fun b=>Out W v A B b∨O b) v
 o:∀b,O b→b < v.heap.size
section
theorem adT {P P' O:Nat→Prop} {n:Nat} (h:∀i,i < n→P' i→P i):∀i,i < n→(P' i∨O i)→(P i∨O i):=fun i hi e=>by
 rcases e with e|e
 ·exact .inl (h i hi e)
 exact .inr e
variable {T:TypeId} {R1 R2:(Nat→Prop)→World→Prop} {O:Nat→Prop} {W v v':World} {A B:Option (Nat×Array Value)} {c1 c2:Bool} {cs:Array Value} {D:Nat}
theorem lc.start (R1 R2:(Nat→Prop)→World→Prop) (T:TypeId) {v:World} (hx:Ext No W v):lc T R1 R2 No W v none none false false:=
 ⟨hx,fun _ _ h=>(by cases h),fun _ _ h=>(by cases h),fun _ _ _ _ h=>(by cases h),fun h=>(by cases h),fun h=>(by cases h),fun _ x=>x.elim⟩
theorem lc.lm (h:lc T R1 R2 O W v none B c1 c2) (k1:dx R1) (k2:dx R2) (cs:Array Value):lc T R1 R2 O W (v.alloc (.cells cs T)) (some (v.heap.size,cs)) B c1 c2:=by
 have hO:∀i,i < v.heap.size→Out W (v.alloc (.cells cs T)) (some (v.heap.size,cs)) B i→Out W v none B i:=fun i hi e=>by
  rcases e with e|⟨_,e⟩|e|e
  ·exact .inl e
  ·simp only [Option.some.injEq,Prod.mk.injEq] at e;omega
  ·exact .inr (.inr (.inl e))
  rw [jJ] at e;omega
 refine ⟨h.ext.alloc _,fun D cs' e=>?_,fun D cs' e=>⟨(h.dQ D cs' e).1,ay (h.dQ D cs' e).2⟩,fun D cs' D' cs'' e e'=>?_,fun hc=>k1.ext (k1.mono (h.r1 hc) hO) ((Ext.refl No v).alloc _) (fun _ _ x=>x.elim),fun hc=>k2.ext (k2.mono (h.r2 hc) (adT hO)) ((Ext.refl No v).alloc _) (fun _ _ x=>x.elim),fun b hb=>Nat.lt_of_lt_of_le (h.o b hb) ((Ext.refl No v).alloc _).size⟩
 ·exact rR
 simp only [Option.some.injEq,Prod.mk.injEq] at e
 have:=lt_of_block (h.dQ D' cs'' e').2
 omega
theorem lc.lu (h:lc T R1 R2 O W v A none c1 c2) (k1:dx R1) (k2:dx R2) (cs:Array Value):lc T R1 R2 O W (v.alloc (.cells cs T)) A (some (v.heap.size,cs)) c1 c2:=by
 have hO:∀i,i < v.heap.size→Out W (v.alloc (.cells cs T)) A (some (v.heap.size,cs)) i→Out W v A none i:=fun i hi e=>by
  rcases e with e|e|⟨_,e⟩|e
  ·exact .inl e
  ·exact .inr (.inl e)
  ·simp only [Option.some.injEq,Prod.mk.injEq] at e;omega
  rw [jJ] at e;omega
 refine ⟨h.ext.alloc _,fun D cs' e=>⟨(h.bW D cs' e).1,ay (h.bW D cs' e).2⟩,fun D cs' e=>?_,fun D cs' D' cs'' e e'=>?_,fun hc=>k1.ext (k1.mono (h.r1 hc) hO) ((Ext.refl No v).alloc _) (fun _ _ x=>x.elim),fun hc=>k2.ext (k2.mono (h.r2 hc) (adT hO)) ((Ext.refl No v).alloc _) (fun _ _ x=>x.elim),fun b hb=>Nat.lt_of_lt_of_le (h.o b hb) ((Ext.refl No v).alloc _).size⟩
 ·exact rR
 simp only [Option.some.injEq,Prod.mk.injEq] at e'
 have:=lt_of_block (h.bW D cs' e).2
 omega
theorem lc.Mt {R:(Nat→Prop)→World→Prop} (k:dx R) (hx:Ext No v v') (h:R (Out W v A B) v):R (Out W v' A B) v':=
 k.ext (k.mono h (fun i hi e=>by
  rcases e with e|e|e|e
  ·exact .inl e
  ·exact .inr (.inl e)
  ·exact .inr (.inr (.inl e))
  have:=hx.size;omega)) hx (fun _ _ x=>x.elim)
theorem lc.newR {R:(Nat→Prop)→World→Prop} (k:dx R) (h:lc T R1 R2 O W v A B c1 c2) (hx:Ext No v v') (hr:R (Lo v.heap.size) v'):R (Out W v' A B) v':=
 k.mono hr (fun i hi e=>by
  unfold Lo
  rcases e with e|⟨cs,e⟩|⟨cs,e⟩|e
  ·have:=h.ext.size;omega
  ·exact lt_of_block (h.bW i cs e).2
  ·exact lt_of_block (h.dQ i cs e).2
  omega)
theorem lc.vP {R:(Nat→Prop)→World→Prop} {O':Nat→Prop} (h:lc T R1 R2 O W v A B false false) (_:dx R1) (_:dx R2) (k1:dx R) (hx:Ext No v v') (hr:R (Lo v.heap.size) v') (ho:∀b,O' b→b < v'.heap.size):lc T R R2 O' W v' A B true false∧dx R:=
 ⟨⟨h.ext.af hx,fun D cs e=>⟨(h.bW D cs e).1,hx.blk (h.bW D cs e).2 ax⟩,fun D cs e=>⟨(h.dQ D cs e).1,hx.blk (h.dQ D cs e).2 ax⟩,h.ne,fun _=>h.newR k1 hx hr,fun hc=>(by cases hc),ho⟩,k1⟩
theorem lc.call2 {R:(Nat→Prop)→World→Prop} (h:lc T R1 R2 O W v A B c1 false) (k1:dx R1) (_:dx R2) (k2:dx R) (hx:Ext No v v') (hr:R (Lo v.heap.size) v'):lc T R1 R O W v' A B c1 true∧dx R:=
 ⟨⟨h.ext.af hx,fun D cs e=>⟨(h.bW D cs e).1,hx.blk (h.bW D cs e).2 ax⟩,fun D cs e=>⟨(h.dQ D cs e).1,hx.blk (h.dQ D cs e).2 ax⟩,h.ne,fun hc=>lc.Mt k1 hx (h.r1 hc),fun _=>k2.mono hr (fun i hi e=>by
  unfold Lo
  rcases e with (e|⟨cs,e⟩|⟨cs,e⟩|e)|e
  ·have:=h.ext.size;omega
  ·exact lt_of_block (h.bW i cs e).2
  ·exact lt_of_block (h.dQ i cs e).2
  ·omega
  exact h.o i e),fun b hb=>Nat.lt_of_lt_of_le (h.o b hb) hx.size⟩,k2⟩
theorem qh:dx (fun _ _=>True):=⟨fun _ _ _=>trivial,fun _ _=>trivial⟩
theorem jG (w gen:Nat) (rs:List Nat) (sg so:Value):dx (gq w gen rs sg so):=⟨fun h hx hm=>h.ext hx hm,fun h hm=>h.mono hm⟩
def Ni (T:TypeId) (W wx:World) (w g1:Nat) (SQ:List Nat) (g2:Nat) (MB:List Nat) (s7 s8:Value):Prop:=
 ∃D1 D2 a1 c1 b1 d1 a2 c2 b2 d2,s7= .pointer (some ⟨D1,0,none⟩)∧s8= .pointer (some ⟨D2,0,none⟩)∧
  Hid (lc T (gq w g1 SQ (.slice a1 (nw w) c1) (.slice b1 SQ.length d1)) (gq w g2 MB (.slice a2 (nw w) c2) (.slice b2 MB.length d2)) (fun b=>(Value.slice b1 SQ.length d1).ownBlock=some b) W wx (some (D1,#[.int .i64 (w:Int),.slice a1 (nw w) c1,.slice b1 SQ.length d1])) (some (D2,#[.int .i64 (w:Int),.slice a2 (nw w) c2,.slice b2 MB.length d2])) true true)
theorem Nk (w:World) (C:Nat) (a b c:Value):Ext (At C) w (((w.setCell ⟨C,0,none⟩ a).setCell ⟨C,1,none⟩ b).setCell ⟨C,2,none⟩ c):=(((Ext.refl (At C) w).setAt 0 a).setAt 1 b).setAt 2 c
theorem aaD {w:World} {C:Nat} {T:TypeId} {x y z:Value} (h:w.heap[C]? =some (.cells #[x,y,z] T (0,0))) (a b c:Value):(((w.setCell ⟨C,0,none⟩ a).setCell ⟨C,1,none⟩ b).setCell ⟨C,2,none⟩ c).heap[C]? =some (.cells #[a,b,c] T (0,0)):=
 (az (j:=2) (az (j:=1) (az (j:=0) h))).trans rfl
theorem lc.K3 {x y z:Value} (h:lc T R1 R2 O W v (some (D,#[x,y,z])) B c1 c2) (k1:dx R1) (k2:dx R2) (a b c:Value):
  lc T R1 R2 O W (((v.setCell ⟨D,0,none⟩ a).setCell ⟨D,1,none⟩ b).setCell ⟨D,2,none⟩ c) (some (D,#[a,b,c])) B c1 c2:=by
 obtain ⟨hD,hb⟩:=h.bW _ _ rfl
 have hE:=Nk v D a b c
 have hsz:(((v.setCell ⟨D,0,none⟩ a).setCell ⟨D,1,none⟩ b).setCell ⟨D,2,none⟩ c).heap.size=v.heap.size:=by simp [World.setCell]
 have hO:∀i,i < v.heap.size→Out W (((v.setCell ⟨D,0,none⟩ a).setCell ⟨D,1,none⟩ b).setCell ⟨D,2,none⟩ c) (some (D,#[a,b,c])) B i→Out W v (some (D,#[x,y,z])) B i:=fun i hi e=>by
  rcases e with e|⟨_,e⟩|e|e
  ·exact .inl e
  ·simp only [Option.some.injEq,Prod.mk.injEq] at e;exact .inr (.inl ⟨_,by rw [e.1]⟩)
  ·exact .inr (.inr (.inl e))
  omega
 refine ⟨h.ext.aJ hE (fun i hi e=>by unfold At at e;omega),fun D' cs' e=>?_,fun D' cs' e=>⟨(h.dQ D' cs' e).1,hE.blk (h.dQ D' cs' e).2 (fun e'=>h.ne _ _ _ _ rfl e e'.symm)⟩,fun D' cs' D'' cs'' e e'=>?_,fun hc=>k1.ext (k1.mono (h.r1 hc) hO) hE (fun i _ e=> .inr (.inl ⟨#[a,b,c],by rw [show i=D from e]⟩)),fun hc=>k2.ext (k2.mono (h.r2 hc) (adT hO)) hE (fun i _ e=> .inl (.inr (.inl ⟨#[a,b,c],by rw [show i=D from e]⟩))),fun b hb=>by rw [hsz];exact h.o b hb⟩
 ·exact rT
 simp only [Option.some.injEq,Prod.mk.injEq] at e
 obtain ⟨rfl,_⟩:=e
 exact h.ne _ _ _ _ rfl e'
theorem lc.K4 {x y z:Value} (h:lc T R1 R2 O W v A (some (D,#[x,y,z])) c1 c2) (k1:dx R1) (k2:dx R2) (a b c:Value):
  lc T R1 R2 O W (((v.setCell ⟨D,0,none⟩ a).setCell ⟨D,1,none⟩ b).setCell ⟨D,2,none⟩ c) A (some (D,#[a,b,c])) c1 c2:=by
 obtain ⟨hD,hb⟩:=h.dQ _ _ rfl
 have hE:=Nk v D a b c
 have hsz:(((v.setCell ⟨D,0,none⟩ a).setCell ⟨D,1,none⟩ b).setCell ⟨D,2,none⟩ c).heap.size=v.heap.size:=by simp [World.setCell]
 have hO:∀i,i < v.heap.size→Out W (((v.setCell ⟨D,0,none⟩ a).setCell ⟨D,1,none⟩ b).setCell ⟨D,2,none⟩ c) A (some (D,#[a,b,c])) i→Out W v A (some (D,#[x,y,z])) i:=fun i hi e=>by
  rcases e with e|e|⟨_,e⟩|e
  ·exact .inl e
  ·exact .inr (.inl e)
  ·simp only [Option.some.injEq,Prod.mk.injEq] at e;exact .inr (.inr (.inl ⟨_,by rw [e.1]⟩))
  omega
 refine ⟨h.ext.aJ hE (fun i hi e=>by unfold At at e;omega),fun D' cs' e=>⟨(h.bW D' cs' e).1,hE.blk (h.bW D' cs' e).2 (fun e'=>h.ne _ _ _ _ e rfl e')⟩,fun D' cs' e=>?_,fun D' cs' D'' cs'' e e'=>?_,fun hc=>k1.ext (k1.mono (h.r1 hc) hO) hE (fun i _ e=> .inr (.inr (.inl ⟨#[a,b,c],by rw [show i=D from e]⟩))),fun hc=>k2.ext (k2.mono (h.r2 hc) (adT hO)) hE (fun i _ e=> .inl (.inr (.inr (.inl ⟨#[a,b,c],by rw [show i=D from e]⟩)))),fun b hb=>by rw [hsz];exact h.o b hb⟩
 ·exact rT
 simp only [Option.some.injEq,Prod.mk.injEq] at e'
 obtain ⟨rfl,_⟩:=e'
 exact h.ne _ _ _ _ e rfl
end
end Go.Proofs.YtmddchceacmopaaGreatDoor

namespace Go.Proofs.YtmddchceacmopaaGreatDoor
open Go Go.RowKit
theorem Gs {w:Nat} {l:List Nat} (hl:∀n∈l,n < 2 ^ 64):mE w l=true↔∀b,w≤b→b < 64*l.length→(lX l).testBit b=false:=by
 unfold mE
 rw [decide_eq_true_eq]
 constructor
 ·intro h b hb _;exact ru h hb
 intro h
 refine Nat.lt_pow_two_of_testBit _ (fun b hb=>?_)
 by_cases hb2:b < 64*l.length
 ·exact h b hb hb2
 rw [tJ l hl,List.getElem?_eq_none (by omega),Option.getD_none,Nat.zero_testBit]
set_option maxRecDepth 100000 in
set_option maxHeartbeats 2000000 in
theorem dL (v:Value) (s:bC) (W:World) (h:oo No W v s):Calls Tryz.prog 37 #[v] W (bZ (fH s) W):=by
 obtain ⟨sl,rfl,hs⟩:=h
 obtain ⟨a,c,rfl⟩:=hs.slice
 have HS:=aa hs
 clear hs
 obtain ⟨width,l⟩:=s
 simp only at HS ⊢
 have hlen:=HS.row.2.1
 by_cases h0:width < 0
 ·have hv:fH ⟨width,l⟩=false:=by
   unfold fH
   rw [show decide (0≤width∧width≤256∧l.length=nw width.toNat)=false from decide_eq_false (fun h=>by omega)];rfl
  have HV:=aa hv
  clear hv
  exact yU
 by_cases h1:256 < width
 ·have hv:fH ⟨width,l⟩=false:=by
   unfold fH
   rw [show decide (0≤width∧width≤256∧l.length=nw width.toNat)=false from decide_eq_false (fun h=>by omega)];rfl
  have HV:=aa hv
  have h0':decide (width < 0)=false:=by simpa using h0
  have h1':decide (256 < width)=true:=by simpa using h1
  clear hv
  exact yU
 obtain ⟨w,rfl⟩:∃w:Nat,width=w:=⟨width.toNat,by omega⟩
 have hw:w≤256:=by omega
 have IA:=aa (JC (l:=l) hw)
 have hn:((w:Int)+63) / 64=(nw w:Int):=by unfold nw;omega
 have hw':(w:Int)≤256:=by omega
 clear h0 h1
 by_cases hl:l.length=nw w
 ·have HL:=aa hl
  have hne:((l.length:Int) != (nw w:Int))=false:=by simp [hl]
  have hl5:l.length≤5:=by rw [hl];unfold nw;omega
  clear hl
  go_enter Tryz.func37,Tryz.ntmps37
  go_wp2_with fail
  have HA:Hid ((W.alloc (.cells #[.int .i64 (w:Int),.slice a l.length c] 44)).heap[W.heap.size]? =some (.cells #[.int .i64 (w:Int),.slice a l.length c] 44 (0,0))):=aa (ah rfl)
  have HW0:=aa (HS.aj ((Ext.refl No W).alloc (.cells #[.int .i64 (w:Int),.slice a l.length c] 44)))
  have HX:Hid (Ext No W (W.alloc (.cells #[.int .i64 (w:Int),.slice a l.length c] 44))):=aa ((Ext.refl _ _).alloc _)
  generalize World.alloc W _=W0 at*
  have hwn:w≤64*l.length:=by rw [HL];exact (Lf w).1
  go_loop [3] (fun i=>∃k:Nat,w≤k∧k≤64*l.length∧i= .int .i64 k∧Hid (∀b,w≤b→b < k→(lX l).testBit b=false)) (fun i=>64*l.length - (intOf i).toNat)
  case atStart=>exact ⟨w,Nat.le_refl _,hwn,rfl,aa (fun b h1 h2=>by omega)⟩
  obtain ⟨k,hwk,hk,rfl,hq⟩:=hrel
  have cA:=cellOf HA.out
  have hpos:(0:Int)≤(k:Int):=by omega
  by_cases hlt:k < 64*l.length
  ·have hkl:k / 64 < l.length:=by omega
   obtain ⟨b0,off,cap,hsl,_,_,hc⟩:=HW0.at hkl
   simp only [Value.slice.injEq] at hsl
   obtain ⟨rfl,_,rfl⟩:=hsl
   have hc1:=hc (k / 64) hkl
   have hl1:=HS.lt _ (List.getElem_mem hkl)
   have ht:=AX _ (k % 64) hl1
   have hjb:(lX l).testBit k=l[k / 64].testBit (k % 64):=by rw [tJ l HS.lt,List.getElem?_eq_getElem hkl];rfl
   have HJB:=aa hjb
   have hk2:(k:Int)≤320:=by omega
   have hlz:(k:Int) < 64*(l.length:Int):=by omega
   have TM:(k:Int) / 64 < (l.length:Int):=by omega
   have HKK:Hid (Value.int .i64 ((k:Int)+1)= .int .i64 ((k+1:Nat):Int)):=aa (by rw [show ((k+1:Nat):Int)=(k:Int)+1 from by omega])
   clear hc hjb hl1
   generalize l[k / 64]=x at*
   cases hb:x.testBit (k % 64) with
   |true=>
    have HB:=aa hb
    have hv:fH ⟨w,l⟩=false:=by
     rw [IA]
     have:mE w l=false:=by
      cases e:mE w l with
      |false=>rfl
      |true=>
       have:=(Gs HS.lt).1 e k hwk hlt
       rw [HJB,hb] at this;cases this
     rw [this,Bool.and_false]
    have HV:=aa hv
    rw [hb,if_pos rfl] at ht
    clear hb hv
    go_wp2_with fail
    go_ret
    rw [HV]
    exact ⟨rfl,HX⟩
   |false=>
    have HB:=aa hb
    rw [hb,if_neg (by simp)] at ht
    clear hb
    go_wp2_with fail
    go_round
    case rel=>exact ⟨k+1,by omega,by omega,HKK,aa (fun b h1 h2=>by
     by_cases e:b=k
     ·subst e;rw [HJB,HB]
     exact hq b h1 (by omega))⟩
    case measure=>simp [intOf];omega
  obtain rfl:k=64*l.length:=by omega
  have hv:fH ⟨w,l⟩=true:=by
   rw [IA,decide_eq_true HL.out,Bool.true_and]
   exact (Gs HS.lt).2 hq
  have HV:=aa hv
  clear hv
  go_wp2_with fail
  go_ret
  rw [HV]
  exact ⟨rfl,HX⟩
 have hv:fH ⟨w,l⟩=false:=by rw [IA,decide_eq_false hl];rfl
 have HV:=aa hv
 have hne:((l.length:Int) != (nw w:Int))=true:=by simp;omega
 clear hv hl
 exact yU
end Go.Proofs.YtmddchceacmopaaGreatDoor
namespace Go.Proofs.YtmddchceacmopaaGreatDoor
open Go Go.RowKit
theorem AY {t:cK} (ho:eO t) {a b:Nat} (hb:b < t.w):∀k,k≤t.copies.length→((kQ t a k).testBit b=true↔(a=b∧t.kill.testBit b=false)∨∃(j:Nat) (h:j < t.copies.length),j < k∧t.copies[j].1=(a:Int)∧t.copies[j].2=(b:Int)):=by
 intro k
 induction k with
 |zero=>
  intro _
  rw [kQ]
  cases hh:gz t.w t.kill a with
  |true=>
   have:a < t.w∧t.kill.testBit a=true:=by
    unfold gz mh at hh
    simp only [Bool.and_eq_true,decide_eq_true_eq,Int.toNat_natCast] at hh
    exact ⟨by omega,hh.2⟩
   simp
   rintro rfl
   exact this.2
  |false=>
   simp [Nat.testBit_two_pow]
   rintro rfl
   rw [eP hb] at hh
   exact hh
 |succ k ih=>
  intro hk
  have hk':k < t.copies.length:=by omega
  have ih:=ih (by omega)
  obtain ⟨_,i2⟩:=ho.inr k hk'
  obtain ⟨g,hg,_⟩:=jF i2
  rw [Gt hk']
  have hst:(∃(j:Nat) (h:j < t.copies.length),j < k+1∧t.copies[j].1=(a:Int)∧t.copies[j].2=(b:Int))↔((∃(j:Nat) (h:j < t.copies.length),j < k∧t.copies[j].1=(a:Int)∧t.copies[j].2=(b:Int))∨(t.copies[k].1=(a:Int)∧t.copies[k].2=(b:Int))):=by
   constructor
   ·rintro ⟨j,h,h1,h2⟩
    by_cases e:j=k
    ·subst e;exact .inr h2
    exact .inl ⟨j,h,by omega,h2⟩
   rintro (⟨j,h,h1,h2⟩|h)
   ·exact ⟨j,h,by omega,h2⟩
   exact ⟨k,hk',by omega,h⟩
  rw [hst,←or_assoc,←ih]
  by_cases hc:t.copies[k].1=(a:Int)
  ·rw [if_pos hc,or_bit,Bool.or_eq_true,decide_eq_true_eq]
   rw [hg,Int.toNat_natCast]
   exact or_congr Iff.rfl ⟨fun e=>⟨hc,by omega⟩,fun e=>by omega⟩
  rw [if_neg hc]
  simp [hc]
theorem AZ {t:cK} {a k:Nat} (h:a < t.w):rowAt (aI t t.w k) a=kQ t a k:=by
 rw [fP (by rw [gU];exact h),tV]
theorem Mi {t:cK} (ho:eO t) {s:Nat} (hs:s < 2 ^ t.w):bL t s=gP t.gen (iO (aI t t.w t.copies.length) t.w s):=by
 have hrl:∀m∈aI t t.w t.copies.length,m < 2 ^ t.w:=fun m hm=>by
  obtain ⟨a,ha,rfl⟩:=List.mem_map.1 hm
  exact Aa ho (List.mem_range.1 ha) _
 refine oU (yz ho hs _) (pX ho.gen (H9 hrl _)) (fun b hb=>?_)
 rw [Bool.eq_iff_iff]
 unfold bL
 rw [Bv ho _ (Nat.le_refl _)]
 unfold gP
 rw [Nat.testBit_or,Bool.or_eq_true,jD]
 constructor
 ·rintro (⟨h1,h2⟩|h|⟨j,hj,_,h1,h2⟩)
  ·refine .inr ⟨b,hb,h1,?_⟩
   have:=AZ (t:=t) (k:=t.copies.length) hb
   unfold rowAt at this
   rw [this,AY ho hb _ (Nat.le_refl _)]
   exact .inl ⟨rfl,h2⟩
  ·exact .inl h
  obtain ⟨i1,_⟩:=ho.inr j hj
  obtain ⟨f,hf,hf2⟩:=jF i1
  have hfw:f < t.w:=by omega
  rw [hf,eP hfw] at h1
  refine .inr ⟨f,hfw,h1,?_⟩
  have:=AZ (t:=t) (k:=t.copies.length) hfw
  unfold rowAt at this
  rw [this,AY ho hb _ (Nat.le_refl _)]
  exact .inr ⟨j,hj,hj,hf,h2⟩
 rintro (h|⟨a,ha,h1,h2⟩)
 ·exact .inr (.inl h)
 have:=AZ (t:=t) (k:=t.copies.length) ha
 unfold rowAt at this
 rw [this,AY ho hb _ (Nat.le_refl _)] at h2
 rcases h2 with ⟨rfl,h3⟩|⟨j,hj,_,h3,h4⟩
 ·exact .inl ⟨h1,h3⟩
 exact .inr (.inr ⟨j,hj,hj,by rw [h3,eP ha];exact h1,h4⟩)
end Go.Proofs.YtmddchceacmopaaGreatDoor

namespace Go.Proofs.YtmddchceacmopaaGreatDoor
open Go Go.RowKit
def mq (r1 r2:dS):Int:=if gu r1=true then (if gu r2=true then (if r1.gen.width=r2.gen.width then 0 else 2) else 1) else 1
theorem vX (t:cK) (sg sk sc:Value) (W:World) (h:dF No W sg sk sc t):
  Calls Tryz.prog 114 #[.agg #[.int .i64 (t.w:Int),sg,.int .i64 (t.w:Int),sk,sc]] W (wP (Lo W.heap.size) t.w t.gen (aI t t.w t.copies.length) W):=JF (Lo W.heap.size) t sg sk sc W (fun _ x=>x) h
set_option maxRecDepth 100000 in
set_option maxHeartbeats 1000000 in
theorem Ir (r1 r2:dS) (g1 k1 c1 g2 k2 c2:Value) (W:World) (h1:bN No W g1 k1 c1 r1) (h2:bN No W g2 k2 c2 r2):
  Calls Tryz.prog 113 #[.agg #[.int .i64 r1.gen.width,g1,.int .i64 r1.kill.width,k1,c1],.agg #[.int .i64 r2.gen.width,g2,.int .i64 r2.kill.width,k2,c2]] W (vT (mq r1 r2) W):=by
 have H1:=aa h1
 have H2:=aa h2
 obtain ⟨BX,SV,BZ,rfl⟩:=h1.gen.shaped
 obtain ⟨SX,SY,ck1,rfl⟩:=h1.kill.shaped
 obtain ⟨S9,Ta,Tc,rfl⟩:=h1.copies.shaped
 obtain ⟨pY,Td,cg2,rfl⟩:=h2.gen.shaped
 obtain ⟨xL,Te,ck2,rfl⟩:=h2.kill.shaped
 obtain ⟨xM,xN,xO,rfl⟩:=h2.copies.shaped
 clear h1 h2
 go_enter Tryz.func113,Tryz.ntmps113
 go_wp2_with fail
 have hx0:Ext No W ((W.alloc (.cells #[.int .i64 r1.gen.width,.slice BX SV BZ,.int .i64 r1.kill.width,.slice SX SY ck1,.slice S9 Ta Tc] 47)).alloc (.cells #[.int .i64 r2.gen.width,.slice pY Td cg2,.int .i64 r2.kill.width,.slice xL Te ck2,.slice xM xN xO] 47)):=((Ext.refl _ _).alloc _).alloc _
 have hA:((W.alloc (.cells #[.int .i64 r1.gen.width,.slice BX SV BZ,.int .i64 r1.kill.width,.slice SX SY ck1,.slice S9 Ta Tc] 47)).alloc (.cells #[.int .i64 r2.gen.width,.slice pY Td cg2,.int .i64 r2.kill.width,.slice xL Te ck2,.slice xM xN xO] 47)).heap[W.heap.size]? =some (.cells #[.int .i64 r1.gen.width,.slice BX SV BZ,.int .i64 r1.kill.width,.slice SX SY ck1,.slice S9 Ta Tc] 47 (0,0)):=ay (ah rfl)
 have hB:((W.alloc (.cells #[.int .i64 r1.gen.width,.slice BX SV BZ,.int .i64 r1.kill.width,.slice SX SY ck1,.slice S9 Ta Tc] 47)).alloc (.cells #[.int .i64 r2.gen.width,.slice pY Td cg2,.int .i64 r2.kill.width,.slice xL Te ck2,.slice xM xN xO] 47)).heap[W.heap.size+1]? =some (.cells #[.int .i64 r2.gen.width,.slice pY Td cg2,.int .i64 r2.kill.width,.slice xL Te ck2,.slice xM xN xO] 47 (0,0)):=ah (by simp)
 generalize World.alloc (World.alloc W _) _=W2 at*
 refine (qi r1 _ _ _ _ (H1.aj hx0)).mono ?_
 rintro e1 w1 ⟨rfl,hx1⟩
 have hx:=aa (hx0.af hx1)
 have HA:=aa (hx1.blk hA ax)
 have HB:=aa (hx1.blk hB ax)
 clear hx0 hx1 hA hB
 cases hv1:gu r1 with
 |false=>exact CP
 |true=>
  have cB:=cellOf HB.out
  have aK:=aa hv1
  clear hv1
  go_wp2_with fail
  refine (qi r2 _ _ _ _ (H2.aj hx)).mono ?_
  exact adB
end Go.Proofs.YtmddchceacmopaaGreatDoor

namespace Go.Proofs.YtmddchceacmopaaGreatDoor
open Go Go.RowKit
def dO (rs:List Nat) (f:Nat→Nat) (k:Nat):List Nat:=(List.range rs.length).map fun i=>if i < k then f i else rowAt rs i
theorem gH (rs:List Nat) (f:Nat→Nat) (k:Nat):(dO rs f k).length=rs.length:=by simp [dO]
theorem qd (rs:List Nat) (f:Nat→Nat):dO rs f 0=rs:=by
 refine List.ext_getElem (gH rs f 0) (fun i h1 h2=>?_)
 simp [dO,rowAt,h2]
theorem tX {rs:List Nat} {f:Nat→Nat} {k i:Nat} (h:i < (dO rs f k).length):(dO rs f k)[i]=if i < k then f i else rowAt rs i:=by simp [dO]
theorem qf {rs:List Nat} {f:Nat→Nat} {k:Nat} (_:k < rs.length):dO rs f (k+1)=(dO rs f k).set k (f k):=by
 refine List.ext_getElem (by simp [dO]) (fun i h1 h2=>?_)
 rw [tX,List.getElem_set]
 by_cases e:k=i
 ·subst e;simp
 rw [if_neg e,tX]
 by_cases h:i < k
 ·rw [if_pos h,if_pos (by omega)]
 rw [if_neg h,if_neg (by omega)]
theorem wu (rs:List Nat) (f:Nat→Nat) (k:Nat) (h:k < rs.length) (h2:k < (dO rs f k).length):(dO rs f k)[k]=rs[k]:=by
 rw [tX,if_neg (Nat.lt_irrefl _),fP h]
def gy (r1 r2:List Nat):List Nat:=dO r1 (fun i=>gP (rowAt r1 i) (rowAt r2 i)) r1.length
def kJ (w:Nat) (r1 r2:List Nat):List Nat:=dO r1 (fun i=>iO r2 w (rowAt r1 i)) r1.length
def fV (w:Nat) (rs:List Nat) (n:Nat):List Nat:=(List.range n).map fun b=>gQ rs w (2 ^ b)
theorem xq (w:Nat) (rs:List Nat) (n:Nat):(fV w rs n).length=n:=by simp [fV]
theorem Cx (w:Nat) (rs:List Nat) (n:Nat):fV w rs (n+1)=fV w rs n++[gQ rs w (2 ^ n)]:=by simp [fV,List.range_succ]
theorem vW {t:cK} (ho:eO t):∀m∈aI t t.w t.copies.length,m < 2 ^ t.w:=fun m hm=>by
 obtain ⟨a,ha,rfl⟩:=List.mem_map.1 hm
 exact Aa ho (List.mem_range.1 ha) _
theorem adM {t:cK} (ho:eO t) {s b:Nat} (hs:s < 2 ^ t.w):(bL t s).testBit b=true↔t.gen.testBit b=true∨∃a,a < t.w∧s.testBit a=true∧(rowAt (aI t t.w t.copies.length) a).testBit b=true:=by
 rw [Mi ho hs]
 unfold gP
 rw [Nat.testBit_or,Bool.or_eq_true,jD]
 rfl
theorem yg {rs:List Nat} {f:Nat→Nat} {a:Nat} (h:a < rs.length):rowAt (dO rs f rs.length) a=f a:=by
 rw [fP (by rw [gH];exact h),tX,if_pos h]
theorem Kg {w n:Nat} {rs:List Nat} {a:Nat} (h:a < n):rowAt (fV w rs n) a=gQ rs w (2 ^ a):=by
 rw [fP (by rw [xq];exact h)]
 simp [fV]
def gm (f:cK):cK:=jc f.w (gQ (aI f f.w f.copies.length) f.w f.gen) (fV f.w (aI f f.w f.copies.length) f.w)
theorem RP {rs:List Nat} {w s r:Nat} (h:zf rs w s r) {a b:Nat} (ha:a < w) (h1:r.testBit a=true) (h2:(rowAt rs a).testBit b=true):r.testBit b=true:=by
 have:=h.fix
 unfold jL gP at this
 rw [←this,Nat.testBit_or,(jD rs w r b).2 ⟨a,ha,h1,h2⟩,Bool.or_true]
def gJ (t u:cK):cK:=jc t.w (bL u t.gen) (kJ t.w (aI t t.w t.copies.length) (aI u t.w u.copies.length))
def jZ (t u:cK):cK:=jc t.w (gP t.gen u.gen) (gy (aI t t.w t.copies.length) (aI u t.w u.copies.length))
end Go.Proofs.YtmddchceacmopaaGreatDoor

namespace Go.Proofs.YtmddchceacmopaaGreatDoor
open Go Go.RowKit
theorem zD (t u:cK) (g1 k1 c1 g2 k2 c2:Value) (W:World) (hu:u.w=t.w) (h1:dF No W g1 k1 c1 t) (h2:dF No W g2 k2 c2 u):
  Calls Tryz.prog 113 #[.agg #[.int .i64 (t.w:Int),g1,.int .i64 (t.w:Int),k1,c1],.agg #[.int .i64 (t.w:Int),g2,.int .i64 (t.w:Int),k2,c2]] W (vT 0 W):=by
 have h:=Ir (bM t) (bM u) g1 k1 c1 g2 k2 c2 W h1.raw h2.raw
 exact CR
def vZ (D:Nat) (w g:Nat) (rs:List Nat) (sg so:Value) (M:Nat→Prop) (W:World):Prop:=W.heap[D]? =some (.cells #[.int .i64 (w:Int),sg,so] 131 (0,0))∧¬M D∧gq w g rs sg so M W
theorem jv (D w g:Nat) (rs:List Nat) (sg so:Value):dx (vZ D w g rs sg so):=
 ⟨fun h hx hm=>⟨hx.blk h.1 (fun e=>h.2.1 (hm _ (lt_of_block h.1) e)),h.2.1,h.2.2.ext hx hm⟩,fun h hm=>⟨h.1,fun e=>h.2.1 (hm _ (lt_of_block h.1) e),h.2.2.mono hm⟩⟩
structure CJ (M:Nat→Prop) (W wr:World) (w g:Nat) (rs:List Nat) (D1:Nat) (sg so:Value) (R2:(Nat→Prop)→World→Prop):Prop where
 ext:Ext No W wr
 bV:wr.heap[W.heap.size+2]? =some (.cells #[.int .i64 0,.slice none 0 0,.int .i64 0,.slice none 0 0,.slice none 0 0] 47 (0,0))
 jC:wr.heap[D1]? =some (.cells #[.int .i64 (w:Int),sg,so] 131 (0,0))
 rows:gq w g rs sg so (fun b=>M b∨b=W.heap.size+2∨b=D1) wr
 r2:R2 (fun b=>b=W.heap.size+2∨b=D1∨so.ownBlock=some b) wr
 own:∀b,so.ownBlock=some b→W.heap.size≤b
 big:W.heap.size+2 < D1
section
variable {M:Nat→Prop} {W wr w':World} {w g g':Nat} {rs:List Nat} {D1:Nat} {sg SS so:Value} {R2:(Nat→Prop)→World→Prop}
theorem CJ.aC (h:CJ M W wr w g rs D1 sg so R2) (k:dx R2) (hx:Ext No wr w'):CJ M W w' w g rs D1 sg so R2:=
 ⟨h.ext.af hx,hx.blk h.bV ax,hx.blk h.jC ax,h.rows.aj hx,k.ext h.r2 hx (fun _ _ x=>x.elim),h.own,h.big⟩
theorem CJ.hM (hM:∀b,M b→b < W.heap.size) (h:CJ M W wr w g rs D1 sg so R2):∀b,((M b∨b=W.heap.size+2∨b=D1)∨so.ownBlock=some b)→b < wr.heap.size:=fun b hb=>by
 have h1:=lt_of_block h.jC
 have h2:=h.big
 rcases hb with (hb|rfl|rfl)|hb
 ·have:=hM b hb;have:=h.ext.size;omega
 ·omega
 ·exact h1
 exact h.rows.kv b hb
theorem CJ.KC (h:CJ M W wr w g rs D1 sg so R2) (k:dx R2) (hs:aG (fun b=>(M b∨b=W.heap.size+2∨b=D1)∨so.ownBlock=some b) wr SS w g'):
  CJ M W ((wr.setCell ⟨D1,0,none⟩ (.int .i64 (w:Int))).setCell ⟨D1,1,none⟩ SS) w g' rs D1 SS so R2:=by
 have hb:=h.big
 have hE:Ext (At D1) wr ((wr.setCell ⟨D1,0,none⟩ (.int .i64 (w:Int))).setCell ⟨D1,1,none⟩ SS):=((Ext.refl (At D1) wr).setAt _ _).setAt _ _
 have hr:=h.rows.ext hE (fun i _ e=> .inr (.inr e))
 exact ⟨h.ext.aJ hE (fun i hi e=>by unfold At at e;omega),hE.blk h.bV (by unfold At;omega),(az (j:=1) (az (j:=0) h.jC)).trans rfl,⟨hs.ext hE (fun i _ e=> .inl (.inr (.inr e))),hr.ex,hr.adA,hr.hm⟩,k.ext h.r2 hE (fun i _ e=> .inr (.inl e)),h.own,hb⟩
theorem CJ.Qc {gg c i m n:Nat} {sl:Value} (h:CJ M W wr w g rs D1 sg (.slice (some ⟨gg,0,none⟩) n c) R2) (hn:n=rs.length) (k:dx R2) (hi:i < rs.length) (hp:aG (fun b=>(M b∨b=W.heap.size+2∨b=D1)∨b=gg) wr sl w m):
  CJ M W ((wr.setCell ⟨gg,i*2,none⟩ (.int .i64 (w:Int))).setCell ⟨gg,i*2+1,none⟩ sl) w g (rs.set i m) D1 sg (.slice (some ⟨gg,0,none⟩) n c) R2:=by
 have hE:Ext (At gg) wr ((wr.setCell ⟨gg,i*2,none⟩ (.int .i64 (w:Int))).setCell ⟨gg,i*2+1,none⟩ sl):=((Ext.refl (At gg) wr).setAt _ _).setAt _ _
 have ho:=h.rows.adA gg rfl
 have h1:=h.own gg rfl
 exact ⟨h.ext.aJ hE (fun i hi e=>by unfold At at e;omega),hE.blk h.bV (fun e=>ho (.inr (.inl e.symm))),hE.blk h.jC (fun e=>ho (.inr (.inr e.symm))),h.rows.put hn hi hp,k.ext h.r2 hE (fun i _ e=> .inr (.inr (by rw [show i=gg from e];rfl))),h.own,h.big⟩
theorem CJ.start {w1 V:World} {g2 D2:Nat} {MB:List Nat} {Vi Vj:Value} {cs:Array Value} (hM:∀b,M b→b < W.heap.size) (hx:Ext No W w1) (hC:w1.heap[W.heap.size+2]? =some (.cells #[.int .i64 0,.slice none 0 0,.int .i64 0,.slice none 0 0,.slice none 0 0] 47 (0,0)))
  (hJ:lc 131 (gq w g rs sg so) (gq w g2 MB Vi Vj) (fun b=>so.ownBlock=some b) w1 V (some (D1,#[.int .i64 (w:Int),sg,so])) (some (D2,cs)) true true) (hcs:cs=#[.int .i64 (w:Int),Vi,Vj]):
  CJ M W V w g rs D1 sg so (vZ D2 w g2 MB Vi Vj):=by
 subst hcs
 obtain ⟨a1,a2⟩:=hJ.bW _ _ rfl
 obtain ⟨b1,b2⟩:=hJ.dQ _ _ rfl
 have hr1:=hJ.r1 rfl
 have hr2:=hJ.r2 rfl
 have hne:=hJ.ne _ _ _ _ rfl rfl
 have hc:=lt_of_block hC
 have hs:=hx.size
 have hout:∀b,so.ownBlock=some b→¬Out w1 V (some (D1,#[.int .i64 (w:Int),sg,so])) (some (D2,#[.int .i64 (w:Int),Vi,Vj])) b:=hr1.adA
 refine ⟨hx.af hJ.ext,hJ.ext.blk hC ax,a2,hr1.mono (fun i hi e=>?_),⟨b2,fun e=>?_,hr2.mono (fun i hi e=>?_)⟩,fun b hb=>?_,by omega⟩
 ·rcases e with e|rfl|rfl
  ·have:=hM i e;exact .inl (by omega)
  ·exact .inl hc
  exact .inr (.inl ⟨_,rfl⟩)
 ·rcases e with e|e|e
  ·omega
  ·exact hne e.symm
  exact hout D2 e (.inr (.inr (.inl ⟨_,rfl⟩)))
 ·rcases e with rfl|rfl|e
  ·exact .inl (.inl hc)
  ·exact .inl (.inr (.inl ⟨_,rfl⟩))
  exact .inr e
 have h1:=hout b hb
 unfold Out at h1
 have:¬b < w1.heap.size:=fun h=>h1 (.inl h)
 omega
end

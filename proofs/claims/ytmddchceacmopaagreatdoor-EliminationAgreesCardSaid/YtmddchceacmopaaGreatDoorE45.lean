
import Derived.Test.YtmddchceacmopaaGreatDoorE44
import Derived.Deep.CutBlock
set_option linter.unusedVariables false
set_option linter.unusedSimpArgs false
namespace Go.Proofs.YtmddchceacmopaaGreatDoor
open Go Go.RowKit
theorem sS {p:Prop} (h:p:=by intro w hSw;(have fG:Ext No wr _:=hSw);(obtain ⟨p0,p1,p2,p3,p4,p5⟩:=PM.out);(have q0:=fG.keep p0);(have q1:=fG.keep p1);(have q2:=fG.keep p2);(have q3:=fG.keep p3);(have q4:=fG.keep p4);(have q5:=fG.keep p5);go_simp;(try with_reducible rfl)):p:=h
theorem sU {p:Prop} (h:p:=by intro w hSw;(have q0:=cellOf ((show Ext No wr _ from hSw).blk TC ax));go_simp;(try with_reducible rfl)):p:=h
theorem Es {p:Prop} (h:p:=by
 refine aW rfl ?_
 simp [results,Tryz.results72,go_sem]
 exact abR w9 a9 _ c9 (by omega) (by have h9:=Yr.out;exact h9) I7):p:=h
theorem Et {p:Prop} (h:p:=by
 have Zc:=(az (j:=4) (u:= .slice x3 z3 y3) (az (j:=3) (u:= .slice x2 (nw w) y2) (az (j:=2) (u:= .int .i64 (w:Int)) (az (j:=1) (u:= .slice x1 (nw w) y1) (az (j:=0) (u:= .int .i64 (w:Int)) pO))))).trans rfl
 exact yh):p:=h
theorem Eu {p:Prop} (h:p:=by
 refine uZ ?_
 refine uD ?_
 have hE2:Ext No wr wr.drew:=hHeld
 clear hHeld
 go_wp2_with fail
 go_meet
 exact ⟨rfl,hX.af hE2⟩):p:=h
def twP (lr:bP) (m:Nat):Nat:=(lr.takeWhile (fun p=>p.1 < m)).length
def FND (lr:bP) (P m:Nat):Prop:=∃h:P < lr.length,lr[P].1=m
theorem XQ (lr:bP) (m:Nat):twP lr m≤lr.length:=(List.takeWhile_prefix _).length_le
theorem Js (lr:bP) (m:Nat):lr.takeWhile (fun p=>p.1 < m)=lr.take (twP lr m):=List.prefix_iff_eq_take.1 (List.takeWhile_prefix _)
theorem Rm (lr:bP) (m:Nat):lr.dropWhile (fun p=>p.1 < m)=lr.drop (twP lr m):=by
 have h:=List.takeWhile_append_dropWhile (p:=fun p:Nat×cK=>decide (p.1 < m)) (l:=lr)
 have h2:(lr.takeWhile (fun p=>p.1 < m)++lr.dropWhile (fun p=>p.1 < m)).drop (twP lr m)=lr.dropWhile (fun p=>p.1 < m):=List.drop_left
 rw [h] at h2
 exact h2.symm
theorem K8 {lr:bP} {m j:Nat} (h:j < twP lr m) (hj:j < lr.length):lr[j].1 < m:=by
 have h1:lr[j]∈lr.takeWhile (fun p=>p.1 < m):=by
  rw [Js]
  exact List.mem_iff_getElem.2 ⟨j,by rw [List.length_take];omega,by rw [List.getElem_take]⟩
 exact Au _ h1
theorem AR:∀(lr:bP) (m:Nat) (q:Nat×cK),lr[twP lr m]? =some q→¬q.1 < m
 |[],m,q,h=>by cases h
 |a::l,m,q,h=>by
  by_cases ha:a.1 < m
  ·have e:twP (a::l) m=twP l m+1:=by unfold twP;rw [List.takeWhile_cons_of_pos (by simpa using ha)];rfl
   rw [e,List.getElem?_cons_succ] at h
   exact AR l m q h
  have e:twP (a::l) m=0:=by unfold twP;rw [List.takeWhile_cons_of_neg (by simpa using ha)];rfl
  rw [e,List.getElem?_cons_zero] at h
  cases h
  exact ha
theorem OA {lr:bP} {m:Nat} {f:cK} (h:twP lr m < lr.length) (he:lr[twP lr m].1=m):vL lr (m,f)=lr.set (twP lr m) (m,jZ lr[twP lr m].2 f):=by
 have hi:oh lr m=twP lr m:=QD h he (fun j hj hjk=>by have:=K8 hjk hj;omega)
 unfold vL
 rw [dif_pos (show oh lr (m,f).1 < lr.length from by simp only [hi];exact h)]
 simp only [hi]
theorem UD {lr:bP} {m:Nat} {f:cK} (hs:(dR lr).Pairwise (· < ·)) (h:¬FND lr (twP lr m) m):vL lr (m,f)=lr.take (twP lr m)++(m,f)::lr.drop (twP lr m):=by
 have hno:¬oh lr m < lr.length:=fun hi=>by
  have h1:=qW hi
  by_cases hlt:oh lr m < twP lr m
  ·have:=K8 hlt hi;omega
  have hP:twP lr m < lr.length:=by omega
  have h2:=AR lr m _ (List.getElem?_eq_getElem hP)
  by_cases e:oh lr m=twP lr m
  ·exact h ⟨hP,by simp only [←e];exact h1⟩
  have h3:=Ar hs hP hi (by omega)
  omega
 unfold vL
 rw [dif_neg hno]
 unfold GK
 rw [Js,Rm]
def Ev (M:Nat→Prop) (lr:bP) (a:Nat×cK) (W:World) (e:Ending) (w':World):Prop:=∃(v':Value) (L':LA),e= .returned (.tuple #[v',.int .i64 0])∧Hid (w'.ownsRow W.heap.size 49 6 v' L'.length (L'.flatMap kA.cells))∧Hid (L'.map fJ=aT (vL lr a))∧Hid (∀p∈L',kA.ok (fun b=>M b∨v'.ownBlock=some b) w' p)∧Ext No W w'
set_option maxRecDepth 100000 in
set_option maxHeartbeats 16000000 in
theorem LF (M:Nat→Prop) (w n m:Nat) (f:cK) (sl:Value) (L:LA) (lr:bP) (ag ak ac:Option Addr) (cg ck nc cc:Nat) (W:World) (hM:∀b,M b→b < W.heap.size) (hw8:w≤8) (hro:dP w n lr) (hf:f.w=w) (hL:jb kA No W sl L) (hsh:(sl= .slice none 0 0∧L=[])∨∃g c,sl= .slice (some ⟨g,0,none⟩) L.length c) (hl:L.map fJ=aT lr) (hok:∀p∈L,kA.ok M W p) (ha:dF M W (.slice ag (nw w) cg) (.slice ak (nw w) ck) (.slice ac nc cc) f) (h32:lr.length≤32):
  Calls Tryz.prog 72 #[sl,.agg #[.int .i64 (m:Int),.int .i64 (w:Int),.slice ag (nw w) cg,.int .i64 (w:Int),.slice ak (nw w) ck,.slice ac nc cc]] W (Ev M lr (m,f) W):=by
 obtain ⟨iA,um,rC,hA1,hA2⟩:=info_parts Hf
 have VA:=aa hM
 have HRO:=aa hro
 have hfw:=aa hf
 have HL:=aa hl
 have Ac:=aa hok
 obtain ⟨N,hN⟩:∃N,N=lr.length:=⟨_,rfl⟩
 have hLn:L.length=N:=by have h9:=congrArg List.length hl;rw [List.length_map,dK] at h9;omega
 obtain ⟨asl,Sq,hsl⟩:=hL.slice
 rw [hLn] at hsl
 subst hsl
 rw [hLn] at hsh
 have HSH:=aa hsh
 clear hsh
 have Tw:=aa hL
 have jT:=aa hLn
 have HN:=aa hN
 rw [←hN] at h32
 obtain ⟨P,hP⟩:∃P,P=twP lr m:=⟨_,rfl⟩
 have hPN:P≤N:=by rw [hP,hN];exact XQ _ _
 have HP:=aa hP
 have hx0:Ext No W (W.alloc (.cells #[.int .i64 (m:Int),.int .i64 (w:Int),.slice ag (nw w) cg,.int .i64 (w:Int),.slice ak (nw w) ck,.slice ac nc cc] 49)):=(Ext.refl _ _).alloc _
 have HB:=aa (ah (w:=W) (o:= .cells #[.int .i64 (m:Int),.int .i64 (w:Int),.slice ag (nw w) cg,.int .i64 (w:Int),.slice ak (nw w) ck,.slice ac nc cc] 49) rfl)
 have HX0:=aa hx0
 have aai:=aa ha
 have TA:=aa (show (W.alloc (.cells #[.int .i64 (m:Int),.int .i64 (w:Int),.slice ag (nw w) cg,.int .i64 (w:Int),.slice ak (nw w) ck,.slice ac nc cc] 49)).heap.size=W.heap.size+1 from by simp)
 clear hM hro hf hl hok hN hLn hL ha hx0 hP
 go_enter Tryz.func72,Tryz.ntmps72
 go_upto_block 0 with (fail)
 generalize World.alloc W _=V at*
 go_cut [6] (fun s6 wx=>s6= .int .i64 (P:Int)∧Hid (Ext No V wx))
 case first=>
  go_wp2_with fail
  go_loopw [6] (fun s6 wr=>∃k:Nat,s6= .int .i64 k∧k≤P∧Hid (Ext No V wr)) (fun s6 _=>P - (intOf s6).toNat)
  case atStart=>exact ⟨0,rfl,Nat.zero_le _,Ext.refl _ _⟩
  obtain ⟨k,rfl,hk,hX⟩:=hrel
  rename World=>wr
  have TC:=aa (hX.blk HB ax)
  by_cases hkN:k < N
  ·have hlz:(k:Int) < (N:Int):=by omega
   have IW:(0:Int)≤(k:Int):=by omega
   have HKK:Hid (Value.int .i64 ((k:Int)+1)= .int .i64 ((k+1:Nat):Int)):=aa (by rw [show ((k+1:Nat):Int)=(k:Int)+1 from by omega])
   have pJ:=aa (show k < lr.length from by rw [←HN];exact hkN)
   obtain ⟨⟨mm,f0⟩,jq⟩:∃q:Nat×cK,q=lr[k]'pJ.out:=⟨_,rfl⟩
   obtain ⟨b,off,cap',pY,cg2,xL,ck2,xM,xN,xO,hsl,gt,G6,Ql⟩:=pQ (M:=M) HRO.jX (Tw.aj (HX0.af hX)) HL.out (fun q hq=>kA.ext (Ac q hq) (HX0.af hX) (fun _ _ e=>e.elim)) pJ.out jq
   rw [←HN] at hsl
   simp only [Value.slice.injEq] at hsl
   obtain ⟨rfl,-,rfl⟩:=hsl
   have PM:=aa gt
   have oP:=aa jq
   clear gt jq
   by_cases hlt:k < P
   ·have hmz:(mm:Int) < (m:Int):=by
     have h9:=K8 (lr:=lr) (m:=m) (j:=k) (by rw [←HP];exact hlt) pJ.out
     rw [←oP] at h9
     simp only at h9
     omega
    go_upto_region 2 with (fail)
    refine uW (fun w'=>Ext No wr w') aS fun hHeld=>?_
    refine uO [0,1,2,3,4,5,6,7,8,9,10,11,12,13] ?_
    iterate 11 refine uT ?_ (hy:=sS)
    iterate 3 refine uT ?_ (hy:=sU)
    refine uZ ?_
    refine uD ?_
    have hE2:Ext No wr wr.drew:=hHeld
    clear hHeld
    go_wp2_with fail
    go_roundw
    case rel=>exact ⟨k+1,HKK,by omega,hX.af hE2⟩
    case measure=>simp [intOf];omega
   have hkP:k=P:=by omega
   have hmz:¬(mm:Int) < (m:Int):=by
    have h9:=AR lr m _ (show lr[twP lr m]? =some (mm,f0) from by rw [←HP,←hkP,List.getElem?_eq_getElem pJ.out,oP])
    simp only at h9
    omega
   subst hkP
   go_upto_region 2 with (fail)
   refine uW (fun w'=>Ext No wr w') aS fun hHeld=>?_
   refine uO [0,1,2,3,4,5,6,7,8,9,10,11,12,13] ?_
   iterate 11 refine uT ?_ (hy:=sS)
   iterate 3 refine uT ?_ (hy:=sU)
   exact Eu
  have hge:¬(k:Int) < (N:Int):=by omega
  have hkP:k=P:=by omega
  subst hkP
  go_upto_region 2 with (fail)
  refine uW (fun w'=>Ext No wr w') aS fun hHeld=>?_
  refine uO [0,1,2,3,4,5,6,7,8,9,10,11,12,13] ?_
  iterate 5 refine uT ?_
  iterate 8 refine uS ?_
  refine uT ?_
  exact Eu
 case rest=>
 obtain ⟨rfl,hX⟩:=hcut
 rename World=>wr
 have TC:=aa (hX.blk HB ax)
 apply_assumption
 go_upto_region 4 with (fail)
 go_cut [40] (fun s40 wx=>∃b:Bool,s40= .bool b∧Hid (b=true↔FND lr P m)∧Hid (Ext No V wx))
 case first=>
  by_cases hkN:P < N
  ·have hlz:(P:Int) < (N:Int):=by omega
   have IW:(0:Int)≤(P:Int):=by omega
   have pJ:=aa (show P < lr.length from by rw [←HN];exact hkN)
   obtain ⟨⟨mm,f0⟩,jq⟩:∃q:Nat×cK,q=lr[P]'pJ.out:=⟨_,rfl⟩
   obtain ⟨b,off,cap',pY,cg2,xL,ck2,xM,xN,xO,hsl,gt,G6,Ql⟩:=pQ (M:=M) HRO.jX (Tw.aj (HX0.af hX)) HL.out (fun q hq=>kA.ext (Ac q hq) (HX0.af hX) (fun _ _ e=>e.elim)) pJ.out jq
   rw [←HN] at hsl
   simp only [Value.slice.injEq] at hsl
   obtain ⟨rfl,-,rfl⟩:=hsl
   have PM:=aa gt
   have oP:=aa jq
   clear gt jq
   by_cases he:mm=m
   ·have hmz:((mm:Int)==(m:Int))=true:=by rw [beq_iff_eq];omega
    have HHE:=aa he
    clear he
    refine uW (fun w'=>Ext No wr w') aS fun hHeld=>?_
    refine uO [0,1,2,3,4,5,6,7,8,9,10,11,12,13] ?_
    iterate 11 refine uT ?_ (hy:=sS)
    iterate 3 refine uT ?_ (hy:=sU)
    refine uZ ?_
    refine uD ?_
    have hE2:Ext No wr wr.drew:=hHeld
    clear hHeld
    go_wp2_with fail
    go_meet
    exact ⟨true,rfl,⟨fun _=>⟨pJ.out,by rw [←oP];exact HHE⟩,fun _=>rfl⟩,hX.af hE2⟩
   have hmz:((mm:Int)==(m:Int))=false:=by rw [beq_eq_false_iff_ne];omega
   have HHE:=aa he
   clear he
   refine uW (fun w'=>Ext No wr w') aS fun hHeld=>?_
   refine uO [0,1,2,3,4,5,6,7,8,9,10,11,12,13] ?_
   iterate 11 refine uT ?_ (hy:=sS)
   iterate 3 refine uT ?_ (hy:=sU)
   refine uZ ?_
   refine uD ?_
   have hE2:Ext No wr wr.drew:=hHeld
   clear hHeld
   go_wp2_with fail
   go_meet
   exact ⟨false,rfl,⟨fun e=>(by cases e),fun ⟨h1,h2⟩=>absurd (show mm=m from by rw [←h2,←oP]) HHE⟩,hX.af hE2⟩
  have hge:¬(P:Int) < (N:Int):=by omega
  have HGE:=aa hkN
  clear hkN
  refine uW (fun w'=>Ext No wr w') aS fun hHeld=>?_
  refine uO [0,1,2,3,4,5,6,7,8,9,10,11,12,13] ?_
  iterate 5 refine uT ?_
  iterate 8 refine uS ?_
  refine uT ?_
  refine uZ ?_
  refine uD ?_
  have hE2:Ext No wr wr.drew:=hHeld
  clear hHeld
  go_wp2_with fail
  go_meet
  exact ⟨false,rfl,⟨fun e=>(by cases e),fun ⟨h1,h2⟩=>absurd (show P < N from by rw [HN];exact h1) HGE⟩,hX.af hE2⟩
 case rest=>
 clear hX TC
 obtain ⟨b40,rfl,Ub,hX⟩:=hcut
 rename World=>w5
 have Ci:=aa (HX0.af hX)
 have uo:=aa (hX.blk HB ax)
 cases b40 with
 |true=>
  obtain ⟨hPl,hPm⟩:=Ub.1 rfl
  have pJ:=aa hPl
  have HPM:=aa hPm
  have hlz:(P:Int) < (N:Int):=by have:=HN.out;omega
  have IW:(0:Int)≤(P:Int):=by omega
  have HTA:=aai
  clear Ub
  obtain ⟨⟨mm,f0⟩,jq⟩:∃q:Nat×cK,q=lr[P]'pJ.out:=⟨_,rfl⟩
  obtain ⟨b,off,cap',pY,cg2,xL,ck2,xM,xN,xO,hsl,gt,G6,Ql⟩:=pQ (M:=M) HRO.jX (Tw.aj Ci) HL.out (fun q hq=>kA.ext (Ac q hq) Ci (fun _ _ e=>e.elim)) pJ.out jq
  rw [←HN] at hsl
  simp only [Value.slice.injEq] at hsl
  obtain ⟨rfl,-,rfl⟩:=hsl
  have PM:=aa gt
  have oP:=aa jq
  clear gt jq
  apply_assumption
  go_upto_region 5 with (fail)
  go_cut [7,8] (fun s7 s8 wx=>∃(bF:Nat) (x1:Option Addr) (y1:Nat) (x2:Option Addr) (y2:Nat) (x3:Option Addr) (z3 y3:Nat),s7= .pointer (some ⟨bF,0,none⟩)∧s8= .int .i64 0∧Hid (w5.heap.size≤bF)∧Hid (Ext No w5 wx)∧Hid (wx.heap[bF]? =some (.cells #[.int .i64 (w:Int),.slice x1 (nw w) y1,.int .i64 (w:Int),.slice x2 (nw w) y2,.slice x3 z3 y3] 47 (0,0)))∧Hid (dF M wx (.slice x1 (nw w) y1) (.slice x2 (nw w) y2) (.slice x3 z3 y3) (jZ f0 f)))
  case first=>
   refine aL [12] (fun w'=>Ext No w5 w') (by kernel_rfl) ?_ (fun hHeld=>?_)
   ·exact bX
   have HE:=aa (show Ext No w5 w5.drew from (Ext.refl _ _).drew)
   generalize w5.drew=v0 at*
   refine uJ [0,1,2,3,4,5,6] hHeld ?_
   clear hHeld
   iterate 4 refine uF ?_
   refine uL ?_ (hy:=(by intro w hSw;(have fG:Ext No w5 _:=hSw);(obtain ⟨p0,p1,p2,p3,p4,p5⟩:=PM.out);(have x0:=fG.keep p0);(have x1:=fG.keep p1);(have x2:=fG.keep p2);(have x3:=fG.keep p3);(have x4:=fG.keep p4);(have x5:=fG.keep p5);go_simp;(try with_reducible rfl)))
   refine uF ?_
   refine uL ?_ (hy:=(by intro w hSw;(have x0:=cellOf ((show Ext No w5 _ from hSw).blk uo ax));go_simp;(try with_reducible rfl)))
   refine uZ fun hHeld=>?_
   refine gT (i:=7) (j:=11) (by kernel_rfl) (iV.mk rfl rfl (fun K hK=>?_)) (iV.mk rfl rfl (fun K hK=>?_))
   ·(go_simp;go_at_call 105;(refine (M9 M f0 f w _ _ _ _ _ _ _ Ql hfw hw8 (fun b e=>Nat.lt_of_lt_of_le (VA b e) (Nat.le_trans Ci.size HE.size)) (G6.aj HE) ((HTA.aj Ci).aj HE)).mono ?_);(rintro e0 va ⟨x1,y1,x2,y2,x3,z3,y3,rfl,hs6,aF⟩);go_simp)
    refine uK hK eu ?_
    clear hK K hHeld
    intro hHeld
    have G8:=aa hs6.out
    replace HE:=aa (HE.af aF)
    clear aF hs6
    refine uJ [8,9,10] hHeld ?_
    clear hHeld
    iterate 3 refine uF ?_
    refine uZ fun hHeld=>?_
    refine uN 11 fun K hK=>?_
    go_simp
    refine uK hK fF ?_
    clear hK K hHeld
    intro hHeld
    have hya:=(Ext.refl No va).alloc (.cells #[.int .i64 0,.slice none 0 0,.int .i64 0,.slice none 0 0,.slice none 0 0] 47)
    have pO:=aa (ah (w:=va) (o:= .cells #[.int .i64 0,.slice none 0 0,.int .i64 0,.slice none 0 0,.slice none 0 0] 47) rfl)
    have ML:=aa (show w5.heap.size≤va.heap.size from HE.size)
    replace G8:=aa (G8.aj hya)
    replace HE:=aa (HE.af hya)
    clear hya
    generalize World.alloc va _=Kt at*
    generalize va.heap.size=bF at*
    refine uN 12 fun K hK=>?_
    ((have cS:=cellOf pO.out);(have fS:=aH pO.out);go_simp;(clear cS fS))
    refine uK hK bz ?_
    clear hK K hHeld
    intro hHeld
    refine uJ [13] hHeld ?_
    clear hHeld
    refine uF ?_
    refine uZ fun hHeld=>?_
    refine uE ?_
    clear hHeld
    have I6:Ext (At bF) Kt (((((Kt.setCell ⟨bF,0,none⟩ (.int .i64 (w:Int))).setCell ⟨bF,1,none⟩ (.slice x1 (nw w) y1)).setCell ⟨bF,2,none⟩ (.int .i64 (w:Int))).setCell ⟨bF,3,none⟩ (.slice x2 (nw w) y2)).setCell ⟨bF,4,none⟩ (.slice x3 z3 y3)):=(((((Ext.refl (At bF) Kt).setAt _ _).setAt _ _).setAt _ _).setAt _ _).setAt _ _
    exact Et
   go_simp
   refine uK hK fF ?_
   clear hK K hHeld
   intro hHeld
   have hya:=(Ext.refl No v0).alloc (.cells #[.int .i64 0,.slice none 0 0,.int .i64 0,.slice none 0 0,.slice none 0 0] 47)
   have pO:=aa (ah (w:=v0) (o:= .cells #[.int .i64 0,.slice none 0 0,.int .i64 0,.slice none 0 0,.slice none 0 0] 47) rfl)
   have ML:=aa (show w5.heap.size≤v0.heap.size from HE.size)
   replace HE:=aa (HE.af hya)
   clear hya
   generalize World.alloc v0 _=v02 at*
   generalize v0.heap.size=bF at*
   refine uN 7 fun K hK=>?_
   (go_simp;go_at_call 105;(refine (M9 M f0 f w _ _ _ _ _ _ _ Ql hfw hw8 (fun b e=>Nat.lt_of_lt_of_le (VA b e) (Nat.le_trans Ci.size HE.size)) (G6.aj HE) ((HTA.aj Ci).aj HE)).mono ?_);(rintro e0 va ⟨x1,y1,x2,y2,x3,z3,y3,rfl,hs6,aF⟩);go_simp)
   refine uK hK eu ?_
   clear hK K hHeld
   intro hHeld
   replace pO:=aa (aF.blk pO ax)
   have G8:=aa hs6.out
   replace HE:=aa (HE.af aF)
   clear aF hs6
   refine uJ [8,9,10] hHeld ?_
   clear hHeld
   iterate 3 refine uF ?_
   refine uZ fun hHeld=>?_
   refine uN 12 fun K hK=>?_
   ((have cS:=cellOf pO.out);(have fS:=aH pO.out);go_simp;(clear cS fS))
   refine uK hK bz ?_
   clear hK K hHeld
   intro hHeld
   refine uJ [13] hHeld ?_
   clear hHeld
   refine uF ?_
   refine uZ fun hHeld=>?_
   refine uE ?_
   clear hHeld
   have I6:Ext (At bF) va (((((va.setCell ⟨bF,0,none⟩ (.int .i64 (w:Int))).setCell ⟨bF,1,none⟩ (.slice x1 (nw w) y1)).setCell ⟨bF,2,none⟩ (.int .i64 (w:Int))).setCell ⟨bF,3,none⟩ (.slice x2 (nw w) y2)).setCell ⟨bF,4,none⟩ (.slice x3 z3 y3)):=(((((Ext.refl (At bF) va).setAt _ _).setAt _ _).setAt _ _).setAt _ _).setAt _ _
   exact Et
  case rest=>
  obtain ⟨bF,x1,y1,x2,y2,x3,z3,y3,rfl,rfl,ML,vR,HBF,TB⟩:=hcut
  rename World=>w6
  apply_assumption
  have HRW:=aa (show Row No w6 6 (.slice (some ⟨b,off,none⟩) N Sq) N (L.flatMap kA.cells) from by have h9:=(Tw.aj (Ci.af vR)).row;rw [jT] at h9;exact h9)
  have KL:=aa (Tw.aj (Ci.af vR)).ok
  go_upto_region 7 with (at_builtin;(refine bE _ rfl (.tmp 52) (.tmp 53) 40 rfl w6.heap.size 49 iA _ 6 96 Tryz.underlying40 um rC hA1 hA2 rfl (by omega) (.slice (some ⟨w6.heap.size,0,none⟩) 0 0) 0 [] rfl (oZ (ah rfl) (Nat.le_refl _)) No (some ⟨b,off,none⟩) N Sq (L.flatMap kA.cells) rfl (HRW.out.aj ((Ext.refl No _).alloc _)) (ni KL.out) (by omega) (by omega) (by simp) ?_);(intro v7 w7 hown1 hg1 hv1);(simp only [Nat.zero_add,List.nil_append] at hown1);(have N7:=aa (show Ext No w6 w7 from ((Ext.refl No w6).alloc (.cells #[] 49)).aJ ((Ext.refl (fun bq=>(Value.slice (some ⟨w6.heap.size,0,none⟩) 0 0).ownBlock=some bq) _).grown hg1 (fun k hk _=>hk)) (fun k hk e=>by have:w6.heap.size=k:=Option.some.inj e;omega)));(have Ku:=aa hown1);(clear hown1 hg1 hv1);(obtain ⟨a7,c7,rfl⟩:=(Row.bG (M:=No) Ku.out (fun _ _ x=>x)).slice))
  obtain ⟨g7,ac4,aaj⟩:=nU Ku (by omega)
  simp only [Value.slice.injEq] at aaj
  obtain ⟨rfl,-,rfl⟩:=aaj
  have HG7:=aa (show w6.heap.size≤g7 from (World.ownsRow.lt Ku g7 rfl).1)
  have WI:P < L.length:=by rw [jT];have:=HN.out;have:=pJ.out;omega
  have HPL:=aa WI
  have hLO:cZ kA No w7 w6.heap.size (.slice (some ⟨g7,0,none⟩) L.length c7) L:=⟨by rw [jT];exact Ku,fun q hq=>kA.mono (kA.ext (kA.mono (M':=fun j=>w6.heap.size≤j) (KL q hq) (fun j hj e=>by omega)) N7 (fun _ _ e=>e.elim)) (fun j _ e=>by
   rcases e with e|e
   ·exact e.elim
   exact (World.ownsRow.lt Ku j e).1)⟩
  rw [jT] at hLO
  have q1:=cZ.cellAt (K:=kA) (L:=L) (by rw [jT];exact hLO) (i:=P) (j:=1) WI (by decide) rfl
  have q2:=cZ.cellAt (K:=kA) (L:=L) (by rw [jT];exact hLO) (i:=P) (j:=2) WI (by decide) rfl
  have q3:=cZ.cellAt (K:=kA) (L:=L) (by rw [jT];exact hLO) (i:=P) (j:=3) WI (by decide) rfl
  have q4:=cZ.cellAt (K:=kA) (L:=L) (by rw [jT];exact hLO) (i:=P) (j:=4) WI (by decide) rfl
  have q5:=cZ.cellAt (K:=kA) (L:=L) (by rw [jT];exact hLO) (i:=P) (j:=5) WI (by decide) rfl
  have f7:=World.ownsRow.frozenAt Ku
  have cF7:=cellOf (N7.blk HBF ax)
  simp only [kA] at q1 q2 q3 q4 q5
  clear hLO
  go_wp2_with fail
  refine aW rfl ?_
  simp [results,Tryz.results72,go_sem]
  have hpk:L[P].1=(m:Int):=by
   have h9:=mJ HL.out HPL.out pJ.out
   rw [HPM] at h9
   exact congrArg Prod.fst h9
  have Jc:=Az (p:=((L[P].1,bM (jZ f0 f),Value.slice x1 (nw w) y1,Value.slice x2 (nw w) y2,Value.slice x3 z3 y3):Int×dS×Value×Value×Value)) jT.symm Ku.out WI rfl
  have PI:(jZ f0 f).w=w:=Ql
  have kU:Ext (At g7) w7 (((((w7.setCell ⟨g7,P*6+1,none⟩ (.int .i64 (w:Int))).setCell ⟨g7,P*6+2,none⟩ (.slice x1 (nw w) y1)).setCell ⟨g7,P*6+3,none⟩ (.int .i64 (w:Int))).setCell ⟨g7,P*6+4,none⟩ (.slice x2 (nw w) y2)).setCell ⟨g7,P*6+5,none⟩ (.slice x3 z3 y3)):=(((((Ext.refl _ _).setAt _ _).setAt _ _).setAt _ _).setAt _ _).setAt _ _
  simp only [bM,bJ,PI] at Jc
  have hXX:=(Ci.af vR).af N7
  refine ⟨_,L.set P (L[P].1,bM (jZ f0 f),.slice x1 (nw w) y1,.slice x2 (nw w) y2,.slice x3 z3 y3),rfl,aa ?_,aa ?_,aa (fun q hq=>?_),hXX.aJ kU (fun i hi e=>by have e2:i=g7:=e;have:=HG7.out;have:=Ci.size;have:=vR.size;omega)⟩
  ·have h8:=Jc
   simp only [List.length_set,jT.out] at h8 ⊢
   have h7:=dY h8 (B':=W.heap.size) (Nat.le_trans Ci.size vR.size)
   simp only [bM,bJ,PI]
   exact h7
  ·rw [OA (lr:=lr) (by rw [←HP];exact pJ) (by simp only [←HP.out];exact HPM),List.map_set,HL]
   simp only [←HP.out,aT,List.map_set,fJ,hpk,←oP.out]
  have IV:∀q,kA.ok M w6 q→kA.ok (fun b=>M b∨(Value.slice (some ⟨g7,0,none⟩) N c7).ownBlock=some b) (((((w7.setCell ⟨g7,P*6+1,none⟩ (.int .i64 (w:Int))).setCell ⟨g7,P*6+2,none⟩ (.slice x1 (nw w) y1)).setCell ⟨g7,P*6+3,none⟩ (.int .i64 (w:Int))).setCell ⟨g7,P*6+4,none⟩ (.slice x2 (nw w) y2)).setCell ⟨g7,P*6+5,none⟩ (.slice x3 z3 y3)) q:=fun q h=>kA.mono (kA.ext (kA.ext (kA.mono (M':=fun j=>M j∨w6.heap.size≤j) h (fun j hj e=>e.elim id (fun e=>by omega))) N7 (fun _ _ e=>e.elim)) kU (fun j _ e=> .inr (by have e2:j=g7:=e;have:=HG7.out;omega))) (fun j _ e=>e.elim .inl (fun e=> .inr (by have e2:g7=j:=Option.some.inj e;have:=HG7.out;omega)))
  rcases List.mem_or_eq_of_mem_set hq with hq|rfl
  ·exact IV q (kA.ext (Ac q hq) (Ci.af vR) (fun _ _ e=>e.elim))
  exact IV _ TB.raw
 |false=>
  have HNF:=aa (fun e=>by cases Ub.2 e:¬FND lr P m)
  clear Ub
  apply_assumption
  have KL:=aa (Tw.aj Ci).ok
  have abR:Hid (∀(w9:World) (a9:Option Addr) (n9 c9:Nat),n9=N+1→w9.ownsRow w5.heap.size 49 6 (.slice a9 n9 c9) n9 ((L.take P).flatMap kA.cells++[.int .i64 (m:Int),.int .i64 (w:Int),.slice ag (nw w) cg,.int .i64 (w:Int),.slice ak (nw w) ck,.slice ac nc cc]++(L.drop P).flatMap kA.cells)→Ext No w5 w9→Ev M lr (m,f) W (.returned (.tuple #[.slice a9 n9 c9,.int .i64 0])) w9):=aa (fun w9 a9 n9 c9 hn9 hown hE=>by
   have hPA:kA.cells (((m:Int),bM f,.slice ag (nw w) cg,.slice ak (nw w) ck,.slice ac nc cc):Int×dS×Value×Value×Value)=[.int .i64 (m:Int),.int .i64 (w:Int),.slice ag (nw w) cg,.int .i64 (w:Int),.slice ak (nw w) ck,.slice ac nc cc]:=by
    have abS:f.w=w:=hfw
    simp only [kA,bM,bJ,abS]
   have hlen:(L.take P++(((m:Int),bM f,.slice ag (nw w) cg,.slice ak (nw w) ck,.slice ac nc cc):Int×dS×Value×Value×Value)::L.drop P).length=n9:=by
    rw [List.length_append,List.length_cons,List.length_take,List.length_drop]
    have:=jT.out
    omega
   refine ⟨_,L.take P++((m:Int),bM f,.slice ag (nw w) cg,.slice ak (nw w) ck,.slice ac nc cc)::L.drop P,rfl,aa ?_,aa ?_,aa (fun q hq=>?_),Ci.af hE⟩
   ·rw [hlen,List.flatMap_append,List.flatMap_cons,hPA,←List.append_assoc]
    exact dY hown Ci.size
   ·rw [UD HRO.uq (by rw [←HP];exact HNF),←HP,List.map_append,List.map_cons,List.map_take,List.map_drop,HL]
    simp only [aT,List.map_append,List.map_cons,List.map_take,List.map_drop,fJ]
   have hup:∀q,kA.ok M W q→kA.ok (fun b=>M b∨(Value.slice a9 n9 c9).ownBlock=some b) w9 q:=fun q h=>kA.mono (kA.ext (kA.mono (M':=fun j=>M j∨W.heap.size≤j) h (fun j hj e=>e.elim id (fun e=>by omega))) (Ci.af hE) (fun _ _ e=>e.elim)) (fun j _ e=>e.elim .inl (fun e=> .inr (Nat.le_trans Ci.size (World.ownsRow.lt hown j e).1)))
   rcases List.mem_append.1 hq with hq|hq
   ·exact hup q (Ac q (List.mem_of_mem_take hq))
   rcases List.mem_cons.1 hq with rfl|hq
   ·exact hup _ aai.raw
   exact hup q (Ac q (List.mem_of_mem_drop hq)))
  rcases HSH.out with ⟨hnil,hz0⟩|⟨g,c1,hse⟩
  ·simp only [Value.slice.injEq] at hnil
   obtain ⟨rfl,rfl,rfl⟩:=hnil
   obtain rfl:P=0:=by omega
   have G5:=aa hz0
   clear hz0
   have HR1:=aa (show Row No w5 6 (.slice none 0 0) 0 ((L.take 0).flatMap kA.cells) from by rw [G5];exact Row.nil _ _ _ _ _ (by omega))
   have HR2:=aa (show Row No w5 6 (.slice none 0 0) 0 ((L.drop 0).flatMap kA.cells) from by rw [G5];exact Row.nil _ _ _ _ _ (by omega))
   go_upto_region 10 with (at_builtin;(refine bE _ rfl (.tmp 62) (.tmp 65) 40 rfl w5.heap.size 49 iA _ 6 96 Tryz.underlying40 um rC hA1 hA2 rfl (by omega) (.slice (some ⟨w5.heap.size,0,none⟩) 0 0) 0 [] rfl (oZ (ah rfl) (Nat.le_refl _)) No none 0 0 ((L.take 0).flatMap kA.cells) rfl (HR1.out.aj ((Ext.refl No _).alloc _)) (nC KL.out _ (fun p hp=>List.mem_of_mem_take hp)) (by omega) (by omega) (by simp) ?_);(intro v7 w7 hown1 hg1 hv1);(simp only [Nat.zero_add,List.nil_append] at hown1);(have N7:=aa (show Ext No w5 w7 from ((Ext.refl No w5).alloc (.cells #[] 49)).aJ ((Ext.refl (fun bq=>(Value.slice (some ⟨w5.heap.size,0,none⟩) 0 0).ownBlock=some bq) _).grown hg1 (fun k hk _=>hk)) (fun k hk e=>by have:w5.heap.size=k:=Option.some.inj e;omega)));(have Ku:=aa hown1);(clear hown1 hg1 hv1);(obtain ⟨a7,c7,rfl⟩:=(Row.bG (M:=No) Ku.out (fun _ _ x=>x)).slice))
   have cE7:=cellOf (N7.blk uo ax)
   go_upto_region 11 with (at_builtin;(refine bE _ rfl (.tmp 67) (.tmp 69) 40 rfl w5.heap.size 49 iA _ 6 96 Tryz.underlying40 um rC hA1 hA2 rfl (by omega) (.slice a7 0 c7) 0 ((L.take 0).flatMap kA.cells) rfl (dG Ku.out ((Ext.refl No _).alloc _) (fun _ _ x=>x)) No (some ⟨w7.heap.size,0,none⟩) 1 1 [.int .i64 (m:Int),.int .i64 (w:Int),.slice ag (nw w) cg,.int .i64 (w:Int),.slice ak (nw w) ck,.slice ac nc cc] rfl (Row.block (ah rfl) rfl ax (by omega)) (by simp [Value.oneCell']) (by omega) (by omega) (by have:=N7.out.size;simp;omega) ?_);(intro v8 w8 hown1 hg1 hv1);(have WJ:=aa (show Ext No w5 w8 from (N7.out.af ((Ext.refl No _).alloc _)).aJ ((Ext.refl (fun bq=>(Value.slice a7 0 c7).ownBlock=some bq) _).grown hg1 (fun k hk _=>hk)) (fun k hk e=>by have:=(World.ownsRow.lt Ku.out k e).1;omega)));(have N8:=aa hown1);(clear hown1 hg1 hv1);(obtain ⟨a8,c8,rfl⟩:=(Row.bG (M:=No) N8.out (fun _ _ x=>x)).slice))
   clear cE7
   go_wp2_with (at_builtin;(refine bE _ rfl (.tmp 71) (.tmp 74) 40 rfl w5.heap.size 49 iA _ 6 96 Tryz.underlying40 um rC hA1 hA2 rfl (by omega) (.slice a8 (0+1) c8) (0+1) (((L.take 0).flatMap kA.cells)++[.int .i64 (m:Int),.int .i64 (w:Int),.slice ag (nw w) cg,.int .i64 (w:Int),.slice ak (nw w) ck,.slice ac nc cc]) rfl N8.out No none 0 0 ((L.drop 0).flatMap kA.cells) rfl (HR2.out.aj WJ.out) (nC KL.out _ (fun p hp=>List.mem_of_mem_drop hp)) (by omega) (by omega) WJ.out.size ?_);(intro v9 w9 hown1 hg1 hv1);(have I7:=aa (show Ext No w5 w9 from WJ.out.aJ ((Ext.refl (fun bq=>(Value.slice a8 (0+1) c8).ownBlock=some bq) _).grown hg1 (fun k hk _=>hk)) (fun k hk e=>by have:=(World.ownsRow.lt N8.out k e).1;omega)));(have Yr:=aa hown1);(clear hown1 hg1 hv1);(obtain ⟨a9,c9,rfl⟩:=(Row.bG (M:=No) Yr.out (fun _ _ x=>x)).slice))
   exact Es
  simp only [Value.slice.injEq,true_and] at hse
  obtain ⟨rfl,rfl⟩:=hse
  have hrow:Row No w5 6 (.slice (some ⟨g,0,none⟩) N Sq) N (L.flatMap kA.cells):=by have h9:=(Tw.aj Ci).row;rw [jT] at h9;exact h9
  have HR1:=aa (show Row No w5 6 (.slice (some ⟨g,0,none⟩) P Sq) P ((L.take P).flatMap kA.cells) from by
   have h9:=Row.takeC (k:=P) hrow hPN
   have e:(L.flatMap kA.cells).take (P*6)=(L.take P).flatMap kA.cells:=Em kA L P
   rw [e] at h9
   exact h9)
  obtain ⟨A,hA⟩:∃A,A=(if Sq=P then some (⟨g,0,none⟩:Addr) else some ⟨g,0+P*6,none⟩):=⟨_,rfl⟩
  have hcap:=hrow.caps
  have HR2:=aa (show Row No w5 6 (.slice A (N - P) (Sq - P)) (N - P) ((L.drop P).flatMap kA.cells) from by
   by_cases hc:Sq=P
   ·have e1:N - P=0:=by omega
    have e2:L.drop P=[]:=List.drop_of_length_le (by have:=jT.out;omega)
    rw [e1,e2]
    exact Row.nil _ _ _ _ _ (by omega)
   have h9:=Row.drop (k:=P) hrow hPN
   have e:(L.flatMap kA.cells).drop (P*6)=(L.drop P).flatMap kA.cells:=En kA L P
   rw [e] at h9
   rw [hA,if_neg hc]
   exact h9)
  rw [Nat.zero_add] at hA
  have abL:=hA.symm
  have hPc:P≤Sq:=by omega
  have hPz:(P:Int)≤(N:Int):=by omega
  have ac5:0≤(P:Int):=by omega
  clear hA hrow
  go_upto_region 10 with (at_builtin;(refine bE _ rfl (.tmp 62) (.tmp 65) 40 rfl w5.heap.size 49 iA _ 6 96 Tryz.underlying40 um rC hA1 hA2 rfl (by omega) (.slice (some ⟨w5.heap.size,0,none⟩) 0 0) 0 [] rfl (oZ (ah rfl) (Nat.le_refl _)) No (some ⟨g,0,none⟩) P Sq ((L.take P).flatMap kA.cells) rfl (HR1.out.aj ((Ext.refl No _).alloc _)) (nC KL.out _ (fun p hp=>List.mem_of_mem_take hp)) (by omega) (by omega) (by simp) ?_);(intro v7 w7 hown1 hg1 hv1);(simp only [Nat.zero_add,List.nil_append] at hown1);(have N7:=aa (show Ext No w5 w7 from ((Ext.refl No w5).alloc (.cells #[] 49)).aJ ((Ext.refl (fun bq=>(Value.slice (some ⟨w5.heap.size,0,none⟩) 0 0).ownBlock=some bq) _).grown hg1 (fun k hk _=>hk)) (fun k hk e=>by have:w5.heap.size=k:=Option.some.inj e;omega)));(have Ku:=aa hown1);(clear hown1 hg1 hv1);(obtain ⟨a7,c7,rfl⟩:=(Row.bG (M:=No) Ku.out (fun _ _ x=>x)).slice))
  have cE7:=cellOf (N7.blk uo ax)
  go_upto_region 11 with (at_builtin;(refine bE _ rfl (.tmp 67) (.tmp 69) 40 rfl w5.heap.size 49 iA _ 6 96 Tryz.underlying40 um rC hA1 hA2 rfl (by omega) (.slice a7 P c7) P ((L.take P).flatMap kA.cells) rfl (dG Ku.out ((Ext.refl No _).alloc _) (fun _ _ x=>x)) No (some ⟨w7.heap.size,0,none⟩) 1 1 [.int .i64 (m:Int),.int .i64 (w:Int),.slice ag (nw w) cg,.int .i64 (w:Int),.slice ak (nw w) ck,.slice ac nc cc] rfl (Row.block (ah rfl) rfl ax (by omega)) (by simp [Value.oneCell']) (by omega) (by omega) (by have:=N7.out.size;simp;omega) ?_);(intro v8 w8 hown1 hg1 hv1);(have WJ:=aa (show Ext No w5 w8 from (N7.out.af ((Ext.refl No _).alloc _)).aJ ((Ext.refl (fun bq=>(Value.slice a7 P c7).ownBlock=some bq) _).grown hg1 (fun k hk _=>hk)) (fun k hk e=>by have:=(World.ownsRow.lt Ku.out k e).1;omega)));(have N8:=aa hown1);(clear hown1 hg1 hv1);(obtain ⟨a8,c8,rfl⟩:=(Row.bG (M:=No) N8.out (fun _ _ x=>x)).slice))
  clear cE7
  go_wp2_with (at_builtin;(refine bE _ rfl (.tmp 71) (.tmp 74) 40 rfl w5.heap.size 49 iA _ 6 96 Tryz.underlying40 um rC hA1 hA2 rfl (by omega) (.slice a8 (P+1) c8) (P+1) (((L.take P).flatMap kA.cells)++[.int .i64 (m:Int),.int .i64 (w:Int),.slice ag (nw w) cg,.int .i64 (w:Int),.slice ak (nw w) ck,.slice ac nc cc]) rfl N8.out No A (N - P) (Sq - P) ((L.drop P).flatMap kA.cells) rfl (HR2.out.aj WJ.out) (nC KL.out _ (fun p hp=>List.mem_of_mem_drop hp)) (by omega) (by omega) WJ.out.size ?_);(intro v9 w9 hown1 hg1 hv1);(have I7:=aa (show Ext No w5 w9 from WJ.out.aJ ((Ext.refl (fun bq=>(Value.slice a8 (P+1) c8).ownBlock=some bq) _).grown hg1 (fun k hk _=>hk)) (fun k hk e=>by have:=(World.ownsRow.lt N8.out k e).1;omega)));(have Yr:=aa hown1);(clear hown1 hg1 hv1);(obtain ⟨a9,c9,rfl⟩:=(Row.bG (M:=No) Yr.out (fun _ _ x=>x)).slice))
  exact Es

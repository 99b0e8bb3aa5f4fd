
import Derived.Test.YtmddchceacmopaaGreatDoorI0
set_option linter.unusedVariables false
set_option linter.unusedSimpArgs false
namespace Go.Proofs.YtmddchceacmopaaGreatDoor
open Go Go.RowKit
theorem nE {p:Prop} (h:p:=by intro _;exact ⟨ay hm.dU,ay hB⟩):p:=h
theorem adO {p:Prop} (h:p:=by intro _;exact ⟨lg.dU,pM⟩):p:=h
theorem EY {p:Prop} (h:p:=by
 refine uN 9 fun K hK=>?_
 ((refine jY _ (.tmp 50) (.tmp 52) 23 rfl (X+1) 44 iS _ 2 32 Tryz.underlying23 Tv hS0 hS1 hS2 rfl (by omega) (.slice a3 Lb.length c3) Lb.length (Lb.flatMap kS.cells) rfl hm.b.own No (some ⟨BB,0,none⟩) 1 1 [.int .i64 (w:Int),.slice (some ⟨g,0,none⟩) (nw w) (nw w)] rfl (Row.block CE rfl ax (by omega)) (by simp [Value.oneCell']) (by omega) (by omega) (lt_of_block hm.dU) ?_);(intro v9 w9 hown1 hg1 hv1);(have kU:Ext (fun bq=>Value.ownBlock (.slice a3 Lb.length c3)=some bq) v3 w9:=(Ext.refl _ _).grown hg1 (fun bq hk _=>hk));(have lg:=aa (hm.Xr (p:=(bJ w m,.slice (some ⟨g,0,none⟩) (nw w) (nw w))) hs.words hown1 hg1 hv1));(have pM:=aa (kU.blk hB (fun e=>Su.1.2.2 e)));(obtain ⟨x3,y3,vK⟩:=lg.b.slice);(rw [List.length_append] at vK);(subst vK);(clear hown1 hg1 hv1))
 refine uK hK adO ?_
 clear hK K hHeld
 intro hHeld
 clear hm hB
 have hm:=lg
 have hB:=pM
 clear lg pM
 clear hs CE
 have hs:=trivial
 clear hs
 clear kU
 generalize w9=v4 at*
 refine uN 15 fun K hK=>?_
 (go_simp;(go_at_call 22);(refine (M7 tb w _ (by omega) hm.out.tape).mono ?_);(rintro e9 w9 ⟨t,sg,sk,sc,pI,rfl,hF,VE,aF⟩);(have hug:=hF.out.gen.slice);(have huk:=hF.out.kill.slice);(rw [pI] at hug huk);(obtain ⟨ga,gc,rfl⟩:=hug);(obtain ⟨ka,kc,rfl⟩:=huk);(obtain ⟨pa,pc,hup⟩:=Row.slice hF.copies);(obtain ⟨pn,hpn⟩:∃pn,pn=t.copies.length:=⟨_,rfl⟩);(rw [←hpn] at hup);(subst hup);(have Yq:=aa (And.intro pI (And.intro hpn hF.ok)));(have hT:=aa (hF.raw.mono (M':=GA X (.slice x1 (Ld.length+1) y1) (.slice a2 Lt.length c2) (.slice x3 (Lb.length+1) y3)) (fun i _ e=>hm.hM i e)));(have lg:=aa (hm.step aF VE));(have pM:=aa (aF.blk hB (by unfold At;have:=hm.lt;have:=hm.low;have:=Su.2;omega)));(clear pI hpn hF aF VE);go_simp)
 refine uK hK adO ?_
 clear hK K hHeld
 intro hHeld
 clear hm hB
 have hm:=lg
 have hB:=pM
 clear lg pM
 generalize w9=v5 at*
 refine uN 16 fun K hK=>?_
 go_simp
 refine uK hK nE ?_
 clear hK K hHeld
 intro hHeld
 have hx:=(Ext.refl No v5).alloc (.cells #[.int .i64 (w:Int),.slice ga (nw w) gc,.int .i64 (w:Int),.slice ka (nw w) kc,.slice pa pn pc] 47)
 have hLt:=aa (ah (w:=v5) (o:=(.cells #[.int .i64 (w:Int),.slice ga (nw w) gc,.int .i64 (w:Int),.slice ka (nw w) kc,.slice pa pn pc] 47)) rfl)
 replace hm:=aa (hm.aC hx)
 replace hB:=aa (hx.blk hB ax)
 replace hT:=aa (hT.aj hx)
 clear hx
 generalize World.alloc v5 _=v6 at*
 generalize v5.heap.size=BT at*
 refine uN 17 fun K hK=>?_
 ((refine jY _ (.tmp 55) (.tmp 60) 53 rfl (X+1) 47 iT _ 5 88 Tryz.underlying53 hiT hT0 hT1 YA rfl (by omega) (.slice a2 Lt.length c2) Lt.length (Lt.flatMap kT.cells) rfl hm.t.own No (some ⟨BT,0,none⟩) 1 1 [.int .i64 (w:Int),.slice ga (nw w) gc,.int .i64 (w:Int),.slice ka (nw w) kc,.slice pa pn pc] rfl (Row.block hLt rfl ax (by omega)) (by simp [Value.oneCell']) (by omega) (by omega) (lt_of_block hm.dU) ?_);(intro v9 w9 hown1 hg1 hv1);(have kU:Ext (fun bq=>Value.ownBlock (.slice a2 Lt.length c2)=some bq) v6 w9:=(Ext.refl _ _).grown hg1 (fun bq hk _=>hk));(have lg:=aa (hm.acp (p:=(bM t,.slice ga (nw w) gc,.slice ka (nw w) kc,.slice pa pn pc)) hT (by have hcp:kT.cells (bM t,.slice ga (nw w) gc,.slice ka (nw w) kc,.slice pa pn pc)=[.int .i64 (w:Int),.slice ga (nw w) gc,.int .i64 (w:Int),.slice ka (nw w) kc,.slice pa pn pc]:=(by show [Value.int .i64 ((t.w:Nat):Int),_,Value.int .i64 ((t.w:Nat):Int),_,_]=_;rw [Yq.1]);rw [hcp];exact hown1) hg1 hv1));(have pM:=aa (kU.blk hB (fun e=>Su.1.2.1 e)));(obtain ⟨x2,y2,vK⟩:=lg.t.slice);(rw [List.length_append] at vK);(subst vK);(clear hown1 hg1 hv1))
 refine uK hK adO ?_
 clear hK K hHeld
 intro hHeld
 clear hm hB
 have hm:=lg
 have hB:=pM
 clear lg pM
 clear hT hLt
 clear kU
 generalize w9=v7 at*
 refine uN 19 fun K hK=>?_
 ((have cX:=cellOf hm.dU);(have fX:=aH hm.dU);go_simp;(clear cX fX))
 refine uK hK bz ?_
 clear hK K hHeld
 intro hHeld
 have lg:=aa (show qc tb W (v7.setCell ⟨X,1,none⟩ (.slice x1 (Ld.length+1) y1)) X #[.int .i64 (w:Int),.slice x1 (Ld.length+1) y1,.slice a2 Lt.length c2,.slice a3 Lb.length c3] (.slice x1 (Ld.length+1) y1) (.slice x2 (Lt.length+1) y2) (.slice x3 (Lb.length+1) y3) _ _ _ from hm.Xv 1 (.slice x1 (Ld.length+1) y1))
 clear hm
 have hm:=lg
 clear lg
 generalize World.setCell v7 _ _=v8 at*
 refine iy (i:=20) (v:=?_) rfl (by kernel_rfl) (by kernel_rfl) (by kernel_rfl) (by kernel_rfl) (by kernel_rfl) (fun _ _ _ h=>h) rfl (fun w=>?_) hHeld ?_
 rotate_left
 ·exact iH
 refine uN 21 fun K hK=>?_
 ((have cX:=cellOf hm.dU);(have fX:=aH hm.dU);go_simp;(clear cX fX))
 refine uK hK bz ?_
 clear hK K hHeld
 intro hHeld
 have lg:=aa (show qc tb W (v8.setCell ⟨X,3,none⟩ (.slice x3 (Lb.length+1) y3)) X #[.int .i64 (w:Int),.slice x1 (Ld.length+1) y1,.slice a2 Lt.length c2,.slice x3 (Lb.length+1) y3] (.slice x1 (Ld.length+1) y1) (.slice x2 (Lt.length+1) y2) (.slice x3 (Lb.length+1) y3) _ _ _ from hm.Xv 3 (.slice x3 (Lb.length+1) y3))
 clear hm
 have hm:=lg
 clear lg
 generalize World.setCell v8 _ _=v9 at*
 refine iy (i:=22) (v:=?_) rfl (by kernel_rfl) (by kernel_rfl) (by kernel_rfl) (by kernel_rfl) (by kernel_rfl) (fun _ _ _ h=>h) rfl (fun w=>?_) hHeld ?_
 rotate_left
 ·exact iH
 refine uN 23 fun K hK=>?_
 ((have cX:=cellOf hm.dU);(have fX:=aH hm.dU);go_simp;(clear cX fX))
 refine uK hK bz ?_
 clear hK K hHeld
 intro hHeld
 have lg:=aa (show qc tb W (v9.setCell ⟨X,2,none⟩ (.slice x2 (Lt.length+1) y2)) X #[.int .i64 (w:Int),.slice x1 (Ld.length+1) y1,.slice x2 (Lt.length+1) y2,.slice x3 (Lb.length+1) y3] (.slice x1 (Ld.length+1) y1) (.slice x2 (Lt.length+1) y2) (.slice x3 (Lb.length+1) y3) _ _ _ from hm.Xv 2 (.slice x2 (Lt.length+1) y2))
 clear hm
 have hm:=lg
 clear lg
 generalize World.setCell v9 _ _=v10 at*
 refine uE ?_
 go_wp2_with fail
 go_roundw
 case rel=>exact ⟨i+1,_,_,_,_,_,_,YK,by omega,hm,hI.snoc (pd:=(l,_)) (pt:=(bM t,_,_,_)) (pb:=(bJ w m,_)) ⟨HD.2.1,HD.2.2⟩ ⟨kg Yq.2.2,by show ((t.w:Nat):Int)=_;rw [Yq.1]⟩ ⟨dI (by omega) Zq,rfl⟩⟩
 case measure=>simp [intOf];omega):p:=h
theorem EZ {p:Prop} (h:p:=by
 refine uN 4 fun K hK=>?_
 ((refine jY _ (.tmp 45) (.tmp 47) 52 rfl (X+1) 22 iD _ 1 24 Tryz.underlying52 hiD hD0 hD1 hD2 rfl (by omega) (.slice a1 Ld.length c1) Ld.length (Ld.flatMap kD.cells) rfl hm.d.own No (some ⟨BD,0,none⟩) 1 1 [.slice da l.length dc] rfl (Row.block TG rfl ax (by omega)) (by simp [Value.oneCell']) (by omega) (by omega) (lt_of_block hm.dU) ?_);(intro v9 w9 hown1 hg1 hv1);(have kU:Ext (fun bq=>Value.ownBlock (.slice a1 Ld.length c1)=some bq) v2 w9:=(Ext.refl _ _).grown hg1 (fun bq hk _=>hk));(have lg:=aa (hm.Ug (p:=(l,.slice da l.length dc)) (Row.mono hD (fun i _ e=> .inl e)) hown1 hg1 hv1));(have pM:=aa (kU.blk hB (fun e=>Su.1.1 e)));(have Qn:=aa (hm.QM (hs.mono (fun i _ e=> .inl e)) hg1 hv1));(have aay:=aa (kU.blk CE (fun e=>Zk e)));(obtain ⟨x1,y1,vK⟩:=lg.d.slice);(rw [List.length_append] at vK);(subst vK);(clear hown1 hg1 hv1))
 refine uK hK adO ?_
 clear hK K hHeld
 intro hHeld
 clear hm hB
 have hm:=lg
 have hB:=pM
 clear lg pM
 replace hs:=Qn
 clear Qn hD TG
 replace CE:=aay
 clear aay
 clear kU
 generalize w9=v3 at*
 refine iy (i:=18) (v:=?_) rfl (by kernel_rfl) (by kernel_rfl) (by kernel_rfl) (by kernel_rfl) (by kernel_rfl) (fun _ _ _ h=>h) rfl (fun w=>?_) hHeld ?_
 rotate_left
 ·exact iH
 exact EY):p:=h
theorem tF {p:Prop} (h:p:=by
 (have x0:=cellOf hSw.1);go_simp;(try with_reducible rfl)):p:=h
theorem aa5:(Tryz.prog.info? 47).map (fun i=>(i.zero,i.size,i.bytes))=some (some (.agg #[.int .i64 0,.slice none 0 0,.int .i64 0,.slice none 0 0,.slice none 0 0]),5,88):=by kernel_rfl
theorem aa6:(Tryz.prog.info? 22).map (fun i=>(i.zero,i.size,i.bytes))=some (some (.slice none 0 0),1,24):=by kernel_rfl
theorem qc.sl {tb:Nat} {W wr:World} {X:Nat} {cx:Array Value} {vd vt vb:Value} {Ld:LD} {Lt:LT} {Lb:LS} (h:qc tb W wr X cx vd vt vb Ld Lt Lb):∃a1 c1 a2 c2 a3 c3,vd= .slice a1 Ld.length c1∧vt= .slice a2 Lt.length c2∧vb= .slice a3 Lb.length c3:=by
 obtain ⟨a1,c1,e1⟩:=h.d.slice
 obtain ⟨a2,c2,e2⟩:=h.t.slice
 obtain ⟨a3,c3,e3⟩:=h.b.slice
 exact ⟨a1,c1,a2,c2,a3,c3,e1,e2,e3⟩
theorem acr (w:World) (C:Nat) (a b c d:Value):Ext (At C) w ((((w.setCell ⟨C,0,none⟩ a).setCell ⟨C,1,none⟩ b).setCell ⟨C,2,none⟩ c).setCell ⟨C,3,none⟩ d):=((((Ext.refl (At C) w).setAt 0 a).setAt 1 b).setAt 2 c).setAt 3 d
theorem acs {w:World} {C:Nat} {T:TypeId} {x0 x1 x2 x3:Value} (h:w.heap[C]? =some (.cells #[x0,x1,x2,x3] T (0,0))) (a b c d:Value):((((w.setCell ⟨C,0,none⟩ a).setCell ⟨C,1,none⟩ b).setCell ⟨C,2,none⟩ c).setCell ⟨C,3,none⟩ d).heap[C]? =some (.cells #[a,b,c,d] T (0,0)):=
 (az (j:=3) (az (j:=2) (az (j:=1) (az (j:=0) h)))).trans rfl
theorem UO (N:Int):oI [] N:=fun i h=>absurd h (Nat.not_lt_zero _)
theorem qc.box {tb:Nat} {W wr:World} {X E:Nat} {cx:Array Value} {vd vt vb:Value} {Ld:LD} {Lt:LT} {Lb:LS} {o:Obj} (h:qc tb W wr X cx vd vt vb Ld Lt Lb) (hE:wr.heap.size≤E):
  (vd.ownBlock≠some E∧vt.ownBlock≠some E∧vb.ownBlock≠some E)∧X < E∧
  ∀w',Ext No wr w'→(∀p∈Ld,kD.ok (fun b=>(GA X vd vt vb b∨vd.ownBlock=some b)∨b=E) w' p)∧(∀p∈Lt,kT.ok (fun b=>(GA X vd vt vb b∨vt.ownBlock=some b)∨b=E) w' p)∧(∀p∈Lb,kS.ok (fun b=>(GA X vd vt vb b∨vb.ownBlock=some b)∨b=E) w' p):=by
 have hX:=lt_of_block h.dU
 refine ⟨⟨fun e=>?_,fun e=>?_,fun e=>?_⟩,by omega,fun w' hx=>⟨fun p hp=>?_,fun p hp=>?_,fun p hp=>?_⟩⟩
 ·have:=(h.d.lt E e).2;omega
 ·have:=(h.t.lt E e).2;omega
 ·have:=(h.b.lt E e).2;omega
 ·exact kD.ext (kD.mono (h.d.ok p hp) (fun i hi e=>by rcases e with e|e;exact e;omega)) hx (fun _ _ x=>x.elim)
 ·exact kT.ext (kT.mono (h.t.ok p hp) (fun i hi e=>by rcases e with e|e;exact e;omega)) hx (fun _ _ x=>x.elim)
 exact kS.ext (kS.mono (h.b.ok p hp) (fun i hi e=>by rcases e with e|e;exact e;omega)) hx (fun _ _ x=>x.elim)
theorem qc.QM {tb:Nat} {W wr w':World} {X:Nat} {cx:Array Value} {vd vt vb v' sl:Value} {Ld:LD} {Lt:LT} {Lb:LS} {w0 m:Nat} (h:qc tb W wr X cx vd vt vb Ld Lt Lb) (hs:aG (GA X vd vt vb) wr sl w0 m) (hg:wr.grownBy w' vd.ownBlock) (hv:v'.ownBlock=vd.ownBlock∨v'.ownBlock=some wr.heap.size):aG (GA X v' vt vb) w' sl w0 m:=by
 have hE:Ext (fun k=>vd.ownBlock=some k) wr w':=(Ext.refl _ wr).grown hg (fun k hk _=>hk)
 refine ((hs.mono (M':=fun b=>GA X v' vt vb b∨vd.ownBlock=some b) (fun i hi e=>?_)).ext hE (fun i _ e=> .inr e)).mono (fun i _ e=> .inl e)
 rcases e with (e|e|e|e)|e
 ·exact .inl e
 ·rcases hv with hv|hv
  ·rw [hv] at e;exact .inr (.inl e)
  rw [hv] at e;simp only [Option.some.injEq] at e;omega
 ·exact .inr (.inr (.inl e))
 ·exact .inr (.inr (.inr e))
 exact .inr (.inl e)
structure OY (M:Nat→Prop) (x:Int) (w:World) (base:Nat) (vd vt vb:Value) (Ld:LD) (Lt:LT) (Lb:LS):Prop where
 vs:VS x Ld Lt Lb
 d:cZ kD M w base vd Ld
 t:jb kT (fun b=>M b∨vd.ownBlock=some b) w vt Lt
 b:jb kS (fun b=>M b∨vd.ownBlock=some b) w vb Lb
def UQ (tb n:Nat) (W:World) (e:Ending) (w':World):Prop:=
 ∃(w base:Nat) (vd vt vb:Value) (Ld:LD) (Lt:LT) (Lb:LS),e= .returned (.agg #[.int .i64 (w:Int),vd,vt,vb])∧w≤4∧Ld.length≤n∧Hid (G9 (Lo W.heap.size) w' vd vt vb Ld Lt Lb)∧Hid (OY (Lo W.heap.size) (w:Int) w' base vd vt vb Ld Lt Lb)∧W.heap.size≤base∧bB w' tb∧Ext (At tb) W w'
set_option maxRecDepth 100000 in
set_option maxHeartbeats 16000000 in
theorem LW (tb n:Nat) (W:World) (hn:1≤n) (hn2:n≤100) (ht:bB W tb):Calls Tryz.prog 17 #[.pointer (some ⟨tb,0,none⟩),.int .i64 (n:Int)] W (UQ tb n W):=by
 obtain ⟨iT,hiT,hT0,hT1,YA⟩:=info_parts aa5
 obtain ⟨iS,Tv,hS0,hS1,hS2⟩:=info_parts yZ
 obtain ⟨iD,hiD,hD0,hD1,hD2⟩:=info_parts aa6
 have HT:=aa ht
 have IU:=ht.lt
 clear ht
 go_enter Tryz.func17,Tryz.ntmps17
 go_wp2_with fail
 have hx0:Ext No W (W.alloc (.cells #[.int .i64 0,.slice none 0 0,.slice none 0 0,.slice none 0 0] 55)):=(Ext.refl _ _).alloc _
 have hC0:=ah (w:=W) (o:=(.cells #[.int .i64 0,.slice none 0 0,.slice none 0 0,.slice none 0 0] 55)) rfl
 refine (OM _ _ (HT.ext hx0)).mono ?_
 rintro e1 w1 ⟨W8,hw8,rfl,ht1,hx1⟩
 obtain ⟨w,hw,hw4⟩:∃w:Nat,((W8:Int) % 5)=(w:Int)∧w≤4:=⟨W8 % 5,by omega,by omega⟩
 go_wp2_with fail
 have hE1:Ext (At tb) W w1:=(hx0.lM (M:=At tb)).trans hx1
 have hxa:Ext No w1 (w1.alloc (.cells #[.int .i64 (w:Int),.slice none 0 0,.slice none 0 0,.slice none 0 0] 55)):=(Ext.refl _ _).alloc _
 have aa7:W.heap.size < w1.heap.size:=by
  have h1:=hx1.size
  have h2:(W.alloc (.cells #[.int .i64 0,.slice none 0 0,.slice none 0 0,.slice none 0 0] 55)).heap.size=W.heap.size+1:=by simp
  omega
 have hm0:qc tb W (w1.alloc (.cells #[.int .i64 (w:Int),.slice none 0 0,.slice none 0 0,.slice none 0 0] 55)) w1.heap.size #[.int .i64 (w:Int),.slice none 0 0,.slice none 0 0,.slice none 0 0] (.slice none 0 0) (.slice none 0 0) (.slice none 0 0) [] [] []:=
  ⟨hE1.af hxa,ht1.ext hxa,hxa.blk (hx1.blk hC0 (by unfold At;omega)) ax,ah rfl,cZ.nil _ _ _ _,cZ.nil _ _ _ _,cZ.nil _ _ _ _,fun k e=>(by cases e),fun k e=>(by cases e),fun k e=>(by cases e),IU,aa7⟩
 have Wq:=aa hm0
 clear hx0 hC0 hE1 hxa hm0 ht1 hx1 HT hw
 generalize World.alloc w1 _=V1 at*
 generalize w1.heap.size=X at*
 refine (jB tb n (by omega) (by omega) _ Wq.tape).mono ?_
 rintro e2 w2 ⟨r,rfl,hr,ht2,hx2,-⟩
 obtain ⟨N,hN⟩:∃N:Nat,N=1+r:=⟨_,rfl⟩
 have hadd:IntKind.i64.wrap (1+(r:Int))=(N:Int):=by rw [IntWalk.i64_in _ (by omega)];omega
 have hN1:1≤N:=by omega
 have hN2:N≤n:=by omega
 have zT:=aa (Wq.step hx2 ht2)
 clear hx2 ht2 Wq hN
 go_wp2_with fail
 clear hadd hr
 go_loopw [6,7,8,9] (fun s6 _ _ _ wr=>∃(i:Nat) (vd vt vb:Value) (Ld:LD) (Lt:LT) (Lb:LS),s6= .int .i64 i∧i≤N∧Hid (qc tb W wr X #[.int .i64 (w:Int),vd,vt,vb] vd vt vb Ld Lt Lb)∧Hid (TH N w i Ld Lt Lb)) (fun s6 _ _ _ _=>N - (intOf s6).toNat)
 case atStart=>exact ⟨0,_,_,_,[],[],[],rfl,Nat.zero_le _,zT,TH.nil _ _⟩
 clear zT
 obtain ⟨i,vd,vt,vb,Ld,Lt,Lb,rfl,hi,hm,hI⟩:=hrel
 rename World=>wr
 obtain ⟨a1,c1,a2,c2,a3,c3,e1,e2,e3⟩:=hm.sl
 have Tu:=aa (And.intro e1 (And.intro e2 e3))
 clear e1 e2 e3
 by_cases hlt:i < N
 ·have hlz:(i:Int) < (N:Int):=by omega
  have YK:Hid (Value.int .i64 ((i:Int)+1)= .int .i64 ((i+1:Nat):Int)):=aa (by rw [show ((i+1:Nat):Int)=(i:Int)+1 from by omega])
  go_wp2_with fail
  refine (jB tb 4 (by decide) (by decide) _ hm.tape).mono ?_
  rintro e3 w3 ⟨k0,rfl,hk0,ht3,hx3,-⟩
  have N9:=aa (hm.step hx3 ht3)
  clear hx3 ht3 hm
  go_wp2_with fail
  go_loopw [7,8] (fun sd sk wx=>∃(k:Nat) (l:List Int),sk= .int .i64 k∧k+l.length≤3∧Hid (l=[]→sd= .slice none 0 0)∧Hid (Ints (GA X vd vt vb) wx .i64 sd l)∧Hid (oI l N)∧Hid (qc tb W wx X #[.int .i64 (w:Int),vd,vt,vb] vd vt vb Ld Lt Lb)) (fun _ sk _=>(intOf sk).toNat)
  case atStart=>exact ⟨k0,[],rfl,by simp;omega,aa (fun _=>rfl),Row.nil _ _ _ _ _ (by omega),UO _,N9⟩
  clear N9
  obtain ⟨k,l,rfl,hkl,hz,hd,hasc,hm⟩:=hrel
  rename World=>wx
  rename Value=>dv
  obtain ⟨da,dc,hds⟩:=Row.slice hd
  subst hds
  by_cases hk:0 < k
  ·have hkz:(0:Int) < (k:Int):=by omega
   have hsub:IntKind.i64.wrap ((k:Int) - 1)=((k - 1:Nat):Int):=by rw [IntWalk.i64_in _ (by omega)];omega
   go_wp2_with fail
   refine (jB tb N (by omega) (by omega) _ hm.tape).mono ?_
   rintro e4 w4 ⟨r4,rfl,hr4,ht4,hx4,-⟩
   have NV:=aa (hm.step hx4 ht4)
   have HD4:=aa (Row.ext hd hx4 (fun i hi e=> .inl (by unfold At at e;have:=hm.lt;have:=hm.low;omega)))
   clear hx4 ht4 hm hd
   go_wp2_with fail
   refine (LV (GA X vd vt vb) _ l (r4:Int) _ NV.hM HD4 hz (by omega)).mono ?_
   rintro e5 w5 ⟨v5,l5,rfl,hins,hd5,hx5⟩
   have aaz:=aa hins
   have HM5:=aa (NV.aC hx5)
   clear hx5 NV HD4 hins
   go_wp2_with fail
   go_roundw
   case rel=>
    have h9:=aaz.len
    exact ⟨k - 1,l5,rfl,by omega,aa (fun e=>by rw [e] at h9;simp at h9),hd5,aaz.uq hasc (by omega) (by omega),HM5⟩
   case measure=>simp [intOf];omega
  have hk0:k=0:=by omega
  subst hk0
  have HD:=aa (And.intro hd.out (And.intro hasc.out (show l.length≤3 by omega)))
  clear hd hasc hz
  have cX:=cellOf hm.dU
  go_wp2_with fail
  clear cX
  refine (fK w _ (by omega)).mono ?_
  rintro e6 w6 ⟨g6,rfl,hb6,adf,hx6⟩
  have Kz:=aa (hm.aC hx6)
  have HE6:=aa (Kz.box (o:= .cells #[] 55) (Nat.le_refl w6.heap.size))
  have ZC:Ext No w6 (w6.alloc (.cells #[.int .i64 (w:Int),.slice (some ⟨g6,0,none⟩) (nw w) (nw w)] 44)):=(Ext.refl _ _).alloc _
  have P7:=aa (Kz.aC ZC)
  have HE7:=aa (HE6.2.2 _ ZC)
  have hB:=aa (ah (w:=w6) (o:= .cells #[.int .i64 (w:Int),.slice (some ⟨g6,0,none⟩) (nw w) (nw w)] 44) rfl)
  have I5:=aa (ZC.blk (hb6:w6.heap[g6]? =_) ax)
  have HD7:=aa (Row.aj ((Row.aj HD.1 hx6).mono (M':=fun b=>GA X vd vt vb b∨b=w6.heap.size) (fun i hi e=>by rcases e with e|e;exact e;omega)) ZC)
  have WE:g6≠w6.heap.size:=by have:=lt_of_block (hb6:w6.heap[g6]? =_);omega
  have hgG:Hid (¬GA X vd vt vb g6):=aa (fun e=>by have:=hm.hM g6 e;omega)
  have hEE:=HE6.1
  have hXE:=HE6.2.1
  have Su:=aa (And.intro hEE hXE)
  have iR:=aa hm.hM
  have adg:=hx6.size
  clear hb6 hx6 Kz HE6 ZC hm hEE
  go_wp2_with fail
  generalize World.alloc w6 _=V7 at*
  have hEV:w6.heap.size < V7.heap.size:=lt_of_block hB.out
  generalize w6.heap.size=E at*
  refine (jB tb 3 (by decide) (by decide) _ P7.tape).mono ?_
  rintro e8 w8 ⟨r8,rfl,hr8,ht8,vJ,-⟩
  have htE:tb < E:=by have:=P7.lt;have:=P7.low;omega
  have P8:=aa (P7.step vJ ht8)
  have ZE:=aa (vJ.blk hB (by unfold At;omega))
  have hb8:=aa (vJ.blk I5 (by unfold At;have:=P7.lt;have:=P7.low;intro e;exact hgG (.inl (by omega))))
  have HD8:=aa (Row.ext HD7 vJ (fun i hi e=> .inl (.inl (by unfold At at e;have:=P7.lt;have:=P7.low;omega))))
  have ZF:Hid ((∀p∈Ld,kD.ok (fun b=>(GA X vd vt vb b∨vd.ownBlock=some b)∨b=E) w8 p)∧(∀p∈Lt,kT.ok (fun b=>(GA X vd vt vb b∨vt.ownBlock=some b)∨b=E) w8 p)∧(∀p∈Lb,kS.ok (fun b=>(GA X vd vt vb b∨vb.ownBlock=some b)∨b=E) w8 p)):=by
   have hA:∀i,i < V7.heap.size→At tb i→GA X vd vt vb i:=fun i _ e=> .inl (by unfold At at e;have:=P7.lt;have:=P7.low;omega)
   exact aa ⟨fun p hp=>kD.ext (HE7.1 p hp) vJ (fun i hi e=> .inl (.inl (hA i hi e))),fun p hp=>kT.ext (HE7.2.1 p hp) vJ (fun i hi e=> .inl (.inl (hA i hi e))),fun p hp=>kS.ext (HE7.2.2 p hp) vJ (fun i hi e=> .inl (.inl (hA i hi e)))⟩
  clear P7 hB I5 HD7 HE7 vJ ht8
  go_upto_if 39 with (fail)
  go_cut [37,38,39,40,41,42,43] (fun _ _ _ _ _ _ _ wy=>∃(g m:Nat),Hid (qc tb W wy X #[.int .i64 (w:Int),vd,vt,vb] vd vt vb Ld Lt Lb)∧Hid (wy.heap[E]? =some (.cells #[.int .i64 (w:Int),.slice (some ⟨g,0,none⟩) (nw w) (nw w)] 44 (0,0)))∧Hid (aG (fun b=>GA X vd vt vb b∨b=E) wy (.slice (some ⟨g,0,none⟩) (nw w) (nw w)) w m)∧Hid (Ints (fun b=>GA X vd vt vb b∨b=E) wy .i64 (.slice da l.length dc) l))
  case first=>
   by_cases h1:r8=1
   ·have h1z:((r8:Int)==1)=true:=by simp [h1]
    clear h1
    have cX:=cellOf P8.dU
    go_wp2_with fail
    clear cX
    refine (Rz tb w _ (by omega) P8.tape).mono ?_
    rintro e9 w9 ⟨m9,g9,lg,rfl,pM,adh,VE,qb⟩
    have WS:=aa (P8.step qb VE)
    have Sy:=aa (qb.blk ZE (by unfold At;omega))
    have HD9:=aa (Row.ext HD8 qb (fun i hi e=> .inl (.inl (by unfold At at e;have:=P8.lt;have:=P8.low;omega))))
    have hA:∀i,i < w8.heap.size→At tb i→GA X vd vt vb i:=fun i _ e=> .inl (by unfold At at e;have:=P8.lt;have:=P8.low;omega)
    have Sw:=aa (And.intro (fun p hp=>kD.ext (ZF.1 p hp) qb (fun i hi e=> .inl (.inl (hA i hi e)))) (And.intro (fun p hp=>kT.ext (ZF.2.1 p hp) qb (fun i hi e=> .inl (.inl (hA i hi e)))) (fun p hp=>kS.ext (ZF.2.2 p hp) qb (fun i hi e=> .inl (.inl (hA i hi e))))))
    have vK:=aa (pM.set (M:=fun b=>GA X vd vt vb b∨b=E) (by omega) lg (fun e=>by
     rcases e with e|e
     ·have:=P8.hM _ e;omega
     have:=lt_of_block ZE.out;omega))
    have cE:=cellOf Sy.out
    have fE:=aH Sy.out
    clear hA qb VE pM P8 ZF HD8 ZE
    go_wp2_with fail
    clear cE fE
    go_meet
    have hxS:Ext (At E) w9 _:=jV (Ext.refl No w9) E (u0:= .int .i64 (w:Int)) (u1:= .slice (some ⟨g9,0,none⟩) (nw w) (nw w))
    exact ⟨g9,m9,WS.XU hxS hXE Su.1.1 Su.1.2.1 Su.1.2.2 Sw.1 Sw.2.1 Sw.2.2,(az (j:=1) (az (j:=0) Sy)).trans rfl,vK.ext hxS (fun i _ e=> .inr e),Row.ext HD9 hxS (fun i _ e=> .inr e)⟩
   have h1z:((r8:Int)==1)=false:=by simp;omega
   clear h1
   go_wp2_with fail
   go_meet
   exact ⟨g6,0,P8,ZE,aa ((show fU w8 g6 w 0 from hb8).set (by omega) (Nat.two_pow_pos _) (fun e=>by
    rcases e with e|e
    ·exact hgG e
    exact WE e)),HD8⟩
  case rest=>
   obtain ⟨g,m,hm,hB,hs,hD⟩:=hcut
   rename World=>wy
   obtain ⟨e1,e2,e3⟩:=Tu.out
   subst e1 e2 e3
   clear Tu P8 ZF HD8 ZE hb8 hgG WE iR
   have Zq:=aa hs.hm
   have adi:Ld.length≤100:=by have:=hI.ld;omega
   have adj:Lt.length≤100:=by have:=hI.lt;omega
   have adk:Lb.length≤100:=by have:=hI.lb;omega
   go_upto_region 14 with (fail)
   refine aL [19,21,23] (fun w'=>w'.heap[X]? =some (.cells #[.int .i64 (w:Int),.slice a1 Ld.length c1,.slice a2 Lt.length c2,.slice a3 Lb.length c3] 55 (0,0))∧w'.heap[E]? =some (.cells #[.int .i64 (w:Int),.slice (some ⟨g,0,none⟩) (nw w) (nw w)] 44 (0,0))) (by kernel_rfl) ?_ (fun hHeld=>?_)
   ·exact ⟨(show Ext No wy wy.drew from (Ext.refl _ _).drew).blk hm.dU ax,(show Ext No wy wy.drew from (Ext.refl _ _).drew).blk hB ax⟩
   have hdr:Ext No wy wy.drew:=(Ext.refl _ _).drew
   replace hm:=aa (hm.aC hdr)
   replace hB:=aa (hdr.blk hB ax)
   replace hs:=aa (hs.aj hdr)
   replace hD:=aa (Row.aj hD hdr)
   clear hdr
   generalize wy.drew=v0 at*
   refine iy (i:=0) (v:=?_) rfl (by kernel_rfl) (by kernel_rfl) (by kernel_rfl) (by kernel_rfl) (by kernel_rfl) (fun _ _ _ h=>h) rfl (fun w=>?_) hHeld ?_
   rotate_left
   ·exact iH
   refine lS (i:=1) (v:=?_) rfl (by kernel_rfl) (by kernel_rfl) (by kernel_rfl) (by kernel_rfl) (by kernel_rfl) (fun _ _ _ h=>h) rfl (fun w hSw=>?_) hHeld ?_
   rotate_left
   ·exact tF
   refine iy (i:=2) (v:=?_) rfl (by kernel_rfl) (by kernel_rfl) (by kernel_rfl) (by kernel_rfl) (by kernel_rfl) (fun _ _ _ h=>h) rfl (fun w=>?_) hHeld ?_
   rotate_left
   ·exact iH
   refine iy (i:=5) (v:=?_) rfl (by kernel_rfl) (by kernel_rfl) (by kernel_rfl) (by kernel_rfl) (by kernel_rfl) (fun _ _ _ h=>h) rfl (fun w=>?_) hHeld ?_
   rotate_left
   ·exact iH
   refine lS (i:=6) (v:=?_) rfl (by kernel_rfl) (by kernel_rfl) (by kernel_rfl) (by kernel_rfl) (by kernel_rfl) (fun _ _ _ h=>h) rfl (fun w hSw=>?_) hHeld ?_
   rotate_left
   ·exact tF
   refine lS (i:=7) (v:=?_) rfl (by kernel_rfl) (by kernel_rfl) (by kernel_rfl) (by kernel_rfl) (by kernel_rfl) (fun _ _ _ h=>h) rfl (fun w hSw=>?_) hHeld ?_
   rotate_left
   ·(have x0:=cellOf hSw.2);go_simp;(try with_reducible rfl)
   refine iy (i:=10) (v:=?_) rfl (by kernel_rfl) (by kernel_rfl) (by kernel_rfl) (by kernel_rfl) (by kernel_rfl) (fun _ _ _ h=>h) rfl (fun w=>?_) hHeld ?_
   rotate_left
   ·exact iH
   refine lS (i:=11) (v:=?_) rfl (by kernel_rfl) (by kernel_rfl) (by kernel_rfl) (by kernel_rfl) (by kernel_rfl) (fun _ _ _ h=>h) rfl (fun w hSw=>?_) hHeld ?_
   rotate_left
   ·exact tF
   refine iy (i:=12) (v:=?_) rfl (by kernel_rfl) (by kernel_rfl) (by kernel_rfl) (by kernel_rfl) (by kernel_rfl) (fun _ _ _ h=>h) rfl (fun w=>?_) hHeld ?_
   rotate_left
   ·exact iH
   refine iy (i:=13) (v:=?_) rfl (by kernel_rfl) (by kernel_rfl) (by kernel_rfl) (by kernel_rfl) (by kernel_rfl) (fun _ _ _ h=>h) rfl (fun w=>?_) hHeld ?_
   rotate_left
   ·exact iH
   refine lS (i:=14) (v:=?_) rfl (by kernel_rfl) (by kernel_rfl) (by kernel_rfl) (by kernel_rfl) (by kernel_rfl) (fun _ _ _ h=>h) rfl (fun w hSw=>?_) hHeld ?_
   rotate_left
   ·exact tF
   refine gT (i:=3) (j:=8) (by kernel_rfl) (iV.mk rfl rfl (fun K hK=>?_)) (iV.mk rfl rfl (fun K hK=>?_))
   ·go_simp
    refine uK hK nE ?_
    clear hK K hHeld
    intro hHeld
    have hx:=(Ext.refl No v0).alloc (.cells #[.slice da l.length dc] 22)
    have TG:=aa (ah (w:=v0) (o:=(.cells #[.slice da l.length dc] 22)) rfl)
    replace hm:=aa (hm.aC hx)
    replace hB:=aa (hx.blk hB ax)
    replace hs:=aa (hs.aj hx)
    replace hD:=aa (Row.aj hD hx)
    clear hx
    generalize World.alloc v0 _=v1 at*
    generalize v0.heap.size=BD at*
    refine gT (i:=4) (j:=8) (by kernel_rfl) (iV.mk rfl rfl (fun K hK=>?_)) (iV.mk rfl rfl (fun K hK=>?_))
    ·((refine jY _ (.tmp 45) (.tmp 47) 52 rfl (X+1) 22 iD _ 1 24 Tryz.underlying52 hiD hD0 hD1 hD2 rfl (by omega) (.slice a1 Ld.length c1) Ld.length (Ld.flatMap kD.cells) rfl hm.d.own No (some ⟨BD,0,none⟩) 1 1 [.slice da l.length dc] rfl (Row.block TG rfl ax (by omega)) (by simp [Value.oneCell']) (by omega) (by omega) (lt_of_block hm.dU) ?_);(intro v9 w9 hown1 hg1 hv1);(have kU:Ext (fun bq=>Value.ownBlock (.slice a1 Ld.length c1)=some bq) v1 w9:=(Ext.refl _ _).grown hg1 (fun bq hk _=>hk));(have lg:=aa (hm.Ug (p:=(l,.slice da l.length dc)) (Row.mono hD (fun i _ e=> .inl e)) hown1 hg1 hv1));(have pM:=aa (kU.blk hB (fun e=>Su.1.1 e)));(have Qn:=aa (hm.QM (hs.mono (fun i _ e=> .inl e)) hg1 hv1));(obtain ⟨x1,y1,vK⟩:=lg.d.slice);(rw [List.length_append] at vK);(subst vK);(clear hown1 hg1 hv1))
     refine uK hK adO ?_
     clear hK K hHeld
     intro hHeld
     clear hm hB
     have hm:=lg
     have hB:=pM
     clear lg pM
     replace hs:=Qn
     clear Qn hD TG
     clear kU
     generalize w9=v2 at*
     refine iy (i:=18) (v:=?_) rfl (by kernel_rfl) (by kernel_rfl) (by kernel_rfl) (by kernel_rfl) (by kernel_rfl) (fun _ _ _ h=>h) rfl (fun w=>?_) hHeld ?_
     rotate_left
     ·exact iH
     refine uN 8 fun K hK=>?_
     go_simp
     refine uK hK nE ?_
     clear hK K hHeld
     intro hHeld
     have hx:=(Ext.refl No v2).alloc (.cells #[.int .i64 (w:Int),.slice (some ⟨g,0,none⟩) (nw w) (nw w)] 44)
     have CE:=aa (ah (w:=v2) (o:=(.cells #[.int .i64 (w:Int),.slice (some ⟨g,0,none⟩) (nw w) (nw w)] 44)) rfl)
     replace hm:=aa (hm.aC hx)
     replace hB:=aa (hx.blk hB ax)
     replace hs:=aa (hs.aj hx)
     clear hx
     generalize World.alloc v2 _=v3 at*
     generalize v2.heap.size=BB at*
     exact EY
    go_simp
    refine uK hK nE ?_
    clear hK K hHeld
    intro hHeld
    have hx:=(Ext.refl No v1).alloc (.cells #[.int .i64 (w:Int),.slice (some ⟨g,0,none⟩) (nw w) (nw w)] 44)
    have CE:=aa (ah (w:=v1) (o:=(.cells #[.int .i64 (w:Int),.slice (some ⟨g,0,none⟩) (nw w) (nw w)] 44)) rfl)
    have Zk:Hid (Value.ownBlock (.slice a1 Ld.length c1)≠some v1.heap.size):=aa (fun e=>Nat.lt_irrefl _ (hm.d.lt _ e).2)
    replace hm:=aa (hm.aC hx)
    replace hB:=aa (hx.blk hB ax)
    replace hs:=aa (hs.aj hx)
    replace hD:=aa (Row.aj hD hx)
    replace TG:=aa (hx.blk TG ax)
    clear hx
    generalize World.alloc v1 _=v2 at*
    generalize v1.heap.size=BB at*
    exact EZ
   go_simp
   refine uK hK nE ?_
   clear hK K hHeld
   intro hHeld
   have hx:=(Ext.refl No v0).alloc (.cells #[.int .i64 (w:Int),.slice (some ⟨g,0,none⟩) (nw w) (nw w)] 44)
   have CE:=aa (ah (w:=v0) (o:=(.cells #[.int .i64 (w:Int),.slice (some ⟨g,0,none⟩) (nw w) (nw w)] 44)) rfl)
   have Zk:Hid (Value.ownBlock (.slice a1 Ld.length c1)≠some v0.heap.size):=aa (fun e=>Nat.lt_irrefl _ (hm.d.lt _ e).2)
   replace hm:=aa (hm.aC hx)
   replace hB:=aa (hx.blk hB ax)
   replace hs:=aa (hs.aj hx)
   replace hD:=aa (Row.aj hD hx)
   clear hx
   generalize World.alloc v0 _=v1 at*
   generalize v0.heap.size=BB at*
   refine uN 3 fun K hK=>?_
   go_simp
   refine uK hK nE ?_
   clear hK K hHeld
   intro hHeld
   have hx:=(Ext.refl No v1).alloc (.cells #[.slice da l.length dc] 22)
   have TG:=aa (ah (w:=v1) (o:=(.cells #[.slice da l.length dc] 22)) rfl)
   replace hm:=aa (hm.aC hx)
   replace hB:=aa (hx.blk hB ax)
   replace hs:=aa (hs.aj hx)
   replace hD:=aa (Row.aj hD hx)
   replace CE:=aa (hx.blk CE ax)
   clear hx
   generalize World.alloc v1 _=v2 at*
   generalize v1.heap.size=BD at*
   exact EZ
 have hiN:i=N:=by omega
 subst hiN
 have hge:¬(i:Int) < (i:Int):=by omega
 obtain ⟨e1,e2,e3⟩:=Tu.out
 subst e1 e2 e3
 have cX:=cellOf hm.dU
 have cC:=cellOf hm.bV
 have fC:=aH hm.bV
 go_wp2_with fail
 have hfin:=acr wr W.heap.size (.int .i64 (w:Int)) (.slice a1 Ld.length c1) (.slice a2 Lt.length c2) (.slice a3 Lb.length c3)
 have hbx:=acs hm.bV (.int .i64 (w:Int)) (.slice a1 Ld.length c1) (.slice a2 Lt.length c2) (.slice a3 Lb.length c3)
 clear cX cC fC
 generalize World.setCell (World.setCell (World.setCell (World.setCell wr _ _) _ _) _ _) _ _=WF at*
 have cF:=cellOf hbx
 refine aW rfl ?_
 simp [results,Tryz.results17,go_sem,cF]
 have hlow:=hm.low
 have adl:=hm.lt
 have hY:G9 (fun b=>Lo W.heap.size b∨b=W.heap.size) wr (.slice a1 Ld.length c1) (.slice a2 Lt.length c2) (.slice a3 Lb.length c3) Ld Lt Lb:=
  ⟨hm.d.list (fun b hb e=>by unfold Lo at e;omega) (fun b e=> .inl (by unfold Lo at e;omega)),hm.t.list (fun b hb e=>by unfold Lo at e;omega) (fun b e=> .inl (by unfold Lo at e;omega)),hm.b.list (fun b hb e=>by unfold Lo at e;omega) (fun b e=> .inl (by unfold Lo at e;omega))⟩
 have hYF:=(hY.ext hfin (fun i _ e=> .inr e)).mono (M':=Lo W.heap.size) (fun i _ e=> .inl e)
 have hV:=hI.vs hN1 (by omega) (by omega)
 have hown:=(hm.d.gG hfin (fun i hi e=>by unfold At at e;have:=(hm.d.lt i hi).1;omega) (fun i _ e=> .inl (by unfold At at e;omega))).mono (A':=Lo W.heap.size) (fun i _ e=> .inl (by unfold Lo at e;omega))
 have hT:=((hm.t.uy (M:=fun b=>b≤W.heap.size∨(Value.slice a1 Ld.length c1).ownBlock=some b) (fun b hb e=>by
  rcases e with e|e
  ·have:=(hm.t.lt b hb).1;omega
  ·exact hm.dt b e hb) (fun b e=>by
  rcases e with e|e
  ·exact .inl (by omega)
  ·exact .inr (.inl e))).ext hfin (fun i _ e=> .inl (by unfold At at e;omega))).mono (M':=fun b=>Lo W.heap.size b∨(Value.slice a1 Ld.length c1).ownBlock=some b) (fun i _ e=>by
  rcases e with e|e
  ·exact .inl (by unfold Lo at e;omega)
  exact .inr e)
 have hB:=((hm.b.uy (M:=fun b=>b≤W.heap.size∨(Value.slice a1 Ld.length c1).ownBlock=some b) (fun b hb e=>by
  rcases e with e|e
  ·have:=(hm.b.lt b hb).1;omega
  ·exact hm.db b e hb) (fun b e=>by
  rcases e with e|e
  ·exact .inl (by omega)
  ·exact .inr (.inl e))).ext hfin (fun i _ e=> .inl (by unfold At at e;omega))).mono (M':=fun b=>Lo W.heap.size b∨(Value.slice a1 Ld.length c1).ownBlock=some b) (fun i _ e=>by
  rcases e with e|e
  ·exact .inl (by unfold Lo at e;omega)
  exact .inr e)
 exact ⟨w,X+1,_,_,_,Ld,Lt,Lb,rfl,hw4,by rw [hI.ld];exact hN2,hYF,aa ⟨hV,hown,hT,hB⟩,by omega,hm.tape.gM hfin (fun i hi e=>by unfold At at e;omega),hm.ext.aJ hfin (fun i hi e=>by unfold At at e;omega)⟩
theorem Lu (tb n:Nat) (W:World) (hn:1≤n) (hn2:n≤100) (ht:bB W tb):Calls Tryz.prog 17 #[.pointer (some ⟨tb,0,none⟩),.int .i64 (n:Int)] W (XV tb n W):=
 (LW tb n W hn hn2 ht).mono (fun _ _ ⟨w,_,vd,vt,vb,Ld,Lt,Lb,h1,h2,h3,h4,h5,_,h6,h7⟩=>by
  obtain ⟨S,hS1,hS2,ZG⟩:=h5.vs.sys h4
  obtain rfl:w=S.w:=by omega
  exact ⟨S,vd,vt,vb,h1,h2,by rw [ZG];exact h3,hS2,h6,h7⟩)


import Derived.Test.YtmddchceacmopaaGreatDoorE25
set_option linter.unusedVariables false
set_option linter.unusedSimpArgs false
namespace Go.Proofs.YtmddchceacmopaaGreatDoor
open Go Go.RowKit
theorem xY {p:Prop} (h:p:=by intro _;exact HE.af ((Ext.refl _ _).alloc _)):p:=h
theorem adW {p:Prop} (h:p:=by
 refine uN 9 fun K hK=>?_
 ((have cS:=cellOf HD.out);(have fS:=aH HD.out);go_simp;(clear cS fS))
 refine uK hK bz ?_
 clear hK K hHeld
 intro hHeld
 have jR:Ext (At D) v3 (((v3.setCell ⟨D,0,none⟩ (.int .i64 (S.w:Int))).setCell ⟨D,1,none⟩ (.slice (some ⟨gB,0,none⟩) N cB)).setCell ⟨D,2,none⟩ (.slice (some ⟨gI,0,none⟩) N cI)):=jw _ _ _ _ _
 replace zT:=aa (zT.pW HD TZ jR)
 have hDb:=MF.out
 have hbs:=Pw.out
 have hob:=lt_of_block HO.out
 have HXN:=aa (show Ext (fun k=>base≤k∧k≠bO) w4 (((v3.setCell ⟨D,0,none⟩ (.int .i64 (S.w:Int))).setCell ⟨D,1,none⟩ (.slice (some ⟨gB,0,none⟩) N cB)).setCell ⟨D,2,none⟩ (.slice (some ⟨gI,0,none⟩) N cI)) from (PR.trans (HE.mono (fun k _ e=>⟨IG.out k e,fun h=>Ab (h▸e)⟩))).trans (jR.mono (fun k _ e=>by unfold At at e;subst e;exact ⟨by omega,by omega⟩)))
 clear HE jR HD TZ MF PR hDb hbs hob
 generalize World.setCell (World.setCell (World.setCell v3 _ _) _ _) _ _=WF at*
 refine uJ [10] hHeld ?_
 clear hHeld
 refine uF ?_
 refine uZ fun hHeld=>?_
 refine uE ?_
 go_wp2_with fail
 go_roundw
 case rel=>exact ⟨t+1,Nu,KS,NM,HKK,by omega,aa (by rw [show dJ S kp (t+1)=jK (dJ S kp t) t from by rw [dJ,if_neg HKF.out]];exact zT),Z5,HXN⟩
 case measure=>simp [intOf];omega):p:=h
theorem adX {p:Prop} (h:p:=by
 refine uN 4 fun K hK=>?_
 ((go_simp);(go_at_call 48);(refine (oz S.w (jK (dJ S kp t) t) _ _ v2 zT.at.no).mono ?_);(rintro e2 v3 ⟨rfl,hx6⟩);(go_simp))
 refine uK hK sj ?_
 clear hK K hHeld
 intro hHeld
 replace zT:=aa (zT.aC hx6)
 replace HE:=aa (HE.af hx6)
 replace HD:=aa (hx6.blk HD ax)
 clear hx6
 refine uJ [5,6,7] hHeld ?_
 clear hHeld
 iterate 3 refine uF ?_
 refine uZ fun hHeld=>?_
 exact adW):p:=h
theorem Row.off {M:Nat→Prop} {w:World} {s n D:Nat} {sl:Value} {vs:List Value} (h:Row M w s sl n vs) (hn:∀off,(∀j u,vs[j]? =some u→w.cell? ⟨D,off+j,none⟩=some u)→n=0):Row (fun b=>M b∨b=D) w s sl n vs:=by
 obtain ⟨h1,h2,a,cap,h3,hcp,h4⟩:=h
 refine ⟨h1,h2,a,cap,h3,hcp,?_⟩
 rcases h4 with h4|⟨b,off,h5,h6,h7,h8⟩
 ·exact .inl h4
 by_cases e:b=D
 ·subst e;exact .inl (hn off h8)
 exact .inr ⟨b,off,h5,h6,fun e2=>e2.elim h7 e,h8⟩
theorem aU.off {M:Nat→Prop} {w:World} {D:Nat} {T:TypeId} {x:Int} {a1 a2:Option Addr} {n1 n2 c1 c2:Nat} {sl:Value} {ws:List Nat} (h:aU M w sl ws) (hD:w.heap[D]? =some (.cells #[.int .i64 x,.slice a1 n1 c1,.slice a2 n2 c2] T (0,0))):aU (fun b=>M b∨b=D) w sl ws:=by
 refine ⟨Row.off h.row (fun off h8=>?_),h.lt⟩
 rcases ws with _|⟨y,ws⟩
 ·rfl
 have h9:=h8 0 (.int .u64 (y:Int)) rfl
 rw [cellOf hD] at h9
 rcases off with _|_|_|off<;>simp at h9
theorem fo.off {M:Nat→Prop} {w:World} {D:Nat} {T:TypeId} {x:Int} {a1 a2:Option Addr} {n1 n2 c1 c2:Nat} {sl:Value} {l:List (Int×Int)} (h:fo M w sl l) (hD:w.heap[D]? =some (.cells #[.int .i64 x,.slice a1 n1 c1,.slice a2 n2 c2] T (0,0))):fo (fun b=>M b∨b=D) w sl l:=by
 refine Row.off h (fun off h8=>?_)
 rcases l with _|⟨y,l⟩
 ·rfl
 have h9:=h8 1 (.int .i64 y.2) rfl
 rw [cellOf hD] at h9
 rcases off with _|_|_|off<;>simp at h9
theorem jk.pW {w w':World} {base lim D:Nat} {vb vi:Value} {LB:LS} {RL:fe} {T:TypeId} {x:Int} {a1 a2:Option Addr} {n1 n2 c1 c2:Nat} (h:jk w base lim vb vi LB RL) (hD:w.heap[D]? =some (.cells #[.int .i64 x,.slice a1 n1 c1,.slice a2 n2 c2] T (0,0))) (hn:¬aQ vb vi RL D) (hx:Ext (At D) w w'):jk w' base lim vb vi LB RL:=by
 have hb:∀i,vb.ownBlock=some i→¬At D i:=fun i hi e=>hn (.inl (by rw [←show i=D from e];exact hi))
 have hi:∀i,vi.ownBlock=some i→¬At D i:=fun i hi e=>hn (.inr (.inl (by rw [←show i=D from e];exact hi)))
 have hr:∀p∈RL,∀i,p.2.ownBlock=some i→¬At D i:=fun p hp i hi e=>hn (.inr (.inr ⟨p,hp,by rw [←show i=D from e];exact hi⟩))
 refine ⟨h.bl,Nat.le_trans h.lh hx.size,⟨aZ h.b.own hx hb,fun p hp=>?_⟩,aZ h.i hx hi,fun q hq=>⟨aZ (h.r q hq).own hx (hr q hq),fun p hp=>?_⟩,h.bi,h.br,h.zN,h.lb,h.li,h.lr⟩
 ·have h1:aU _ w p.2 p.1.words:=h.b.ok p hp
  exact (h1.off hD).ext hx (fun i _ e=> .inr e) |>.mono (fun i _ e=> .inl e)
 have h1:bN _ w p.2.2.1 p.2.2.2.1 p.2.2.2.2 p.2.1:=(h.r q hq).ok p hp
 have h2:bN _ w p.2.2.1 p.2.2.2.1 p.2.2.2.2 p.2.1:=⟨h1.gen.off hD,h1.kill.off hD,h1.copies.off hD⟩
 exact (h2.ext hx (fun i _ e=> .inr e)).mono (fun i _ e=> .inl e)
theorem MW.pW {w w':World} {base lim D:Nat} {vb vi:Value} {LB:LS} {RL:fe} {S:bD} {T:TypeId} {x:Int} {a1 a2:Option Addr} {n1 n2 c1 c2:Nat} (h:MW w base lim vb vi LB RL S) (hD:w.heap[D]? =some (.cells #[.int .i64 x,.slice a1 n1 c1,.slice a2 n2 c2] T (0,0))) (hn:¬aQ vb vi RL D) (hx:Ext (At D) w w'):MW w' base lim vb vi LB RL S:=
 ⟨h.x.pW hD hn hx,h.ok,h.bnd,h.len,h.rows⟩
theorem zk (x:Nat) (S:bD) (n base zb gB cB gI cI N:Nat) (LB:LS) (RL:fe) (W:World) (hx:x=S.w) (hN:N=S.ins.length) (h:MW W base zb (.slice (some ⟨gB,0,none⟩) N cB) (.slice (some ⟨gI,0,none⟩) N cI) LB RL S) (hT:iQ W) (hlow: 0 < base) (hn:n < N):
  Calls Tryz.prog 49 #[.agg #[.int .i64 (x:Int),(.slice (some ⟨gB,0,none⟩) N cB),(.slice (some ⟨gI,0,none⟩) N cI)],.int .i64 (n:Int)] W (AJ (jK S n) base (.slice (some ⟨gB,0,none⟩) N cB) (.slice (some ⟨gI,0,none⟩) N cI) RL W):=by
 subst hx
 exact uI S n base zb gB cB gI cI N LB RL W hN h hT hlow hn
theorem Jm (S:bD) (vb vi:Value) (hs:True) (W:World) (h:je No W vb vi S):
  Calls Tryz.prog 10 #[.agg #[.int .i64 (S.w:Int),vb,vi]] W (bZ true W):=nS S vb vi W h
theorem Oq (S:bD) (N:Nat) (vb vi:Value) (W:World) (hN:N=S.ins.length) (h8:eY S) (h:je No W vb vi S):
  Calls Tryz.prog 46 #[.agg #[.int .i64 (S.w:Int),vb,vi]] W (fun e w'=>∃(gB cB gI cI lim:Nat) (LB:LS) (RL:fe),e= .returned (.agg #[.int .i64 (S.w:Int),.slice (some ⟨gB,0,none⟩) N cB,.slice (some ⟨gI,0,none⟩) N cI])∧Hid (MW w' W.heap.size lim (.slice (some ⟨gB,0,none⟩) N cB) (.slice (some ⟨gI,0,none⟩) N cI) LB RL S)∧Ext No W w'):=by
 subst hN
 exact ry S vb vi W h8 h
theorem Uu {W w4 wr:World} {base bO:Nat} {sl:Value} {ks:List Int} (_:Ints No w4 .i64 sl ks) (hx:Ext No W w4) (hm:Ext (fun k=>base≤k∧k≠bO) w4 wr) (hk:Ints No W .i64 sl ks) (hb:W.heap.size≤base):Ints No wr .i64 sl ks:=
 hk.aj (hx.aJ hm (fun i hi e=>by omega))
set_option maxRecDepth 100000 in
set_option maxHeartbeats 4000000 in
theorem JR (S:bD) (ks:List Int) (vb vi sl:Value) (W:World) (h:je No W vb vi S) (hk:Ints No W .i64 sl ks) (hn:∃n∈ks,¬adK n S.ins.length):
  Calls Tryz.prog 13 #[.agg #[.int .i64 (S.w:Int),vb,vi],sl] W (kG (.agg #[.int .i64 0,.slice none 0 0,.slice none 0 0]) 9 W):=by
 have H:=aa h
 have HK:=aa hk
 have Tu:=aa trivial
 have HN:=aa hn
 obtain ⟨ab,cb,ai,ci,rfl,rfl⟩:=h.slices
 obtain ⟨ak,ck,rfl⟩:=Ints.slice hk
 clear h hk hn
 obtain ⟨N,hN⟩:∃N,N=S.ins.length:=⟨_,rfl⟩
 rw [←hN] at H HN ⊢
 clear hN
 go_enter Tryz.func13,Tryz.ntmps13
 go_upto_region 1 with (fail)
 have hx0:Ext No W ((W.alloc (.cells #[.int .i64 (S.w:Int),.slice ab N cb,.slice ai N ci] 26)).alloc (.cells #[.int .i64 0,.slice none 0 0,.slice none 0 0] 26)):=((Ext.refl _ _).alloc _).alloc _
 have HA:=aa (zK hx0)
 have HC:=aa (zM hx0)
 have HX:=aa hx0
 have IA:=aa (show ((W.alloc (.cells #[.int .i64 (S.w:Int),.slice ab N cb,.slice ai N ci] 26)).alloc (.cells #[.int .i64 0,.slice none 0 0,.slice none 0 0] 26)).heap.size=W.heap.size+2 from by simp)
 clear hx0
 generalize World.alloc (World.alloc W _) _=V at*
 have cA:=cellOf HA.out
 go_wp2_with fail
 refine (Jm S _ _ Tu _ (H.aj HX)).mono ?_
 rintro e1 w1 ⟨rfl,hx1⟩
 clear cA
 have nK:=aa hx1
 clear hx1
 have cA:=cellOf (nK.blk HA ax)
 go_wp2_with fail
 clear cA
 go_at_call 43
 refine (qE (S.w:Int) _ ai N ci W.heap.size _ ks _ (HK.aj (HX.af nK)) (nK.blk HA ax)).mono ?_
 rintro e2 w2 ⟨b2,rfl,hb2,hx2⟩
 obtain rfl:=mM hb2 HN
 clear hb2
 have ji:=aa (nK.af hx2)
 clear hx2 nK
 exact DX
set_option maxRecDepth 100000 in
set_option maxHeartbeats 8000000 in
theorem JS (S:bD) (ks:List Int) (vb vi sl:Value) (W:World) (h8:eY S) (h:je No W vb vi S) (hT:iQ W) (hk:Ints No W .i64 sl ks) (hn:∀n∈ks,adK n S.ins.length):
  Calls Tryz.prog 13 #[.agg #[.int .i64 (S.w:Int),vb,vi],sl] W (xC (dJ S (fun t:Nat=>decide ((t:Int)∈ks)) S.ins.length) W):=by
 have H:=aa h
 have HK:=aa hk
 have Tu:=aa trivial
 have HN:=aa (show ¬∃n∈ks,¬adK n S.ins.length from fun ⟨n,h1,h2⟩=>h2 (hn n h1))
 have HT:=aa hT
 have H8:=aa h8
 obtain ⟨ab,cb,ai,ci,rfl,rfl⟩:=h.slices
 obtain ⟨ak,ck,rfl⟩:=Ints.slice hk
 have hn32:=h8.n8
 clear h hk hn hT h8
 obtain ⟨N,hN⟩:∃N,N=S.ins.length:=⟨_,rfl⟩
 have ME:=aa hN
 rw [←hN] at H HN hn32 ⊢
 clear hN
 obtain ⟨kp,hkp⟩:∃kp:Nat→Bool,kp=(fun t:Nat=>decide ((t:Int)∈ks)):=⟨_,rfl⟩
 have HKP:=aa hkp
 rw [←hkp]
 clear hkp
 go_enter Tryz.func13,Tryz.ntmps13
 go_upto_region 1 with (fail)
 have hx0:Ext No W ((W.alloc (.cells #[.int .i64 (S.w:Int),.slice ab N cb,.slice ai N ci] 26)).alloc (.cells #[.int .i64 0,.slice none 0 0,.slice none 0 0] 26)):=((Ext.refl _ _).alloc _).alloc _
 have HA:=aa (zK hx0)
 have HC:=aa (zM hx0)
 have HX:=aa hx0
 have IA:=aa (show ((W.alloc (.cells #[.int .i64 (S.w:Int),.slice ab N cb,.slice ai N ci] 26)).alloc (.cells #[.int .i64 0,.slice none 0 0,.slice none 0 0] 26)).heap.size=W.heap.size+2 from by simp)
 clear hx0
 generalize World.alloc (World.alloc W _) _=V at*
 have cA:=cellOf HA.out
 go_wp2_with fail
 refine (Jm S _ _ Tu _ (H.aj HX)).mono ?_
 rintro e1 w1 ⟨rfl,hx1⟩
 clear cA
 have nK:=aa hx1
 clear hx1
 have cA:=cellOf (nK.blk HA ax)
 go_wp2_with fail
 clear cA
 go_at_call 43
 refine (qE (S.w:Int) _ ai N ci W.heap.size _ ks _ (HK.aj (HX.af nK)) (nK.blk HA ax)).mono ?_
 rintro e2 w2 ⟨b2,rfl,hb2,hx2⟩
 obtain rfl:=ow hb2 HN
 clear hb2
 have ji:=aa (nK.af hx2)
 clear hx2 nK
 have cA:=cellOf (ji.blk HA ax)
 go_wp2_with fail
 clear cA
 refine (Oq S N _ _ _ ME H8 (H.aj (HX.af ji))).mono ?_
 rintro e3 w3 ⟨gB,cB,gI,cI,zb,LB,RL,rfl,uu,hx3⟩
 have pK:=aa (ji.af hx3)
 go_upto_region 6 with (fail)
 have HO:=aa (ah (w:=w3) (o:= .cells #[.int .i64 (S.w:Int),.slice (some ⟨gB,0,none⟩) N cB,.slice (some ⟨gI,0,none⟩) N cI] 26) rfl)
 have hx4:Ext No w3 (w3.alloc (.cells #[.int .i64 (S.w:Int),.slice (some ⟨gB,0,none⟩) N cB,.slice (some ⟨gI,0,none⟩) N cI] 26)):=(Ext.refl _ _).alloc _
 have oF:=aa (uu.aC hx4)
 have qO:=aa (pK.af hx4)
 have hlm:=uu.x.lh
 have Ab:=aa (show ¬(aQ (.slice (some ⟨gB,0,none⟩) N cB) (.slice (some ⟨gI,0,none⟩) N cI) RL) w3.heap.size from fun e=>by have:=(uu.x.own e).2;omega)
 have Vs:=aa ((HT.ext (HX.af ji)).pos)
 have NN:=aa (HT.ext (HX.af qO))
 have IE:=aa (qO.blk HC ax)
 have hC2:=lt_of_block (ji.blk HC ax)
 have Kn:=aa (HX.af qO)
 have hO3:w2.heap.size≤w3.heap.size:=hx3.size
 have hBW:=(HX.af ji).size
 clear pK hx3 hx4 uu hlm qO ji HA HC HT HX IA H
 generalize World.alloc w3 _=w4 at*
 generalize w3.heap.size=bO at*
 generalize w2.heap.size=base at*
 have HK4:=aa (HK.aj Kn)
 have cO:=cellOf HO.out
 go_wp2_with fail
 clear cO
 go_loopw [7,8,9,25] (fun _ _ _ s25 wr=>∃(t lim:Nat) (LBt:LS) (ic:fe),s25= .int .i64 t∧t≤N∧Hid (MW wr base lim (.slice (some ⟨gB,0,none⟩) N cB) (.slice (some ⟨gI,0,none⟩) N cI) LBt ic (dJ S kp t))∧Hid (¬(aQ (.slice (some ⟨gB,0,none⟩) N cB) (.slice (some ⟨gI,0,none⟩) N cI) ic) bO)∧Hid (Ext (fun k=>base≤k∧k≠bO) w4 wr)) (fun _ _ _ s25 _=>N - (intOf s25).toNat)
 case atStart=>exact ⟨0,zb,LB,RL,rfl,Nat.zero_le _,oF,Ab,Ext.refl _ _⟩
 clear oF Ab
 obtain ⟨t,lim,LBt,ic,rfl,ht,oF,Ab,PR⟩:=hrel
 rename World=>wr
 have HO4:=HO
 replace HO:=aa (PR.blk HO (fun e=>e.2 rfl))
 by_cases hlt:t < N
 ·have hlz:(t:Int) < (N:Int):=by omega
  have HKK:Hid (Value.int .i64 ((t:Int)+1)= .int .i64 ((t+1:Nat):Int)):=aa (by rw [show ((t+1:Nat):Int)=(t:Int)+1 from by omega])
  obtain ⟨hRk,Z6,Z7⟩:=ny (keep:=kp) H8 t (by rw [←ME];omega)
  have HRW:=aa (show S.w=(dJ S kp t).w from Z6.symm)
  have IC:=aa (show N=(dJ S kp t).ins.length from by rw [Z7];exact ME)
  clear Z6 Z7 hRk
  go_wp2_with fail
  refine (Cs (t:Int) _ ks _ (Uu HK4.out Kn PR HK hBW)).mono ?_
  rintro e5 w5 ⟨b5,rfl,hb5,hx5⟩
  have Z8:=aa (PR.af hx5)
  have Z9:=aa (oF.aC hx5)
  have Wo:=aa (hx5.blk HO ax)
  clear PR oF HO
  have oF:=Z9
  have HO:=Wo
  have PR:=Z8
  clear Z9 Wo Z8 hx5 wr
  rename World=>wr
  cases b5 with
  |true=>
   have HKF:=aa (show kp t=true from by rw [HKP];exact decide_eq_true (iG hb5))
   clear hb5
   go_wp2_with fail
   go_roundw
   case rel=>exact ⟨t+1,lim,LBt,ic,HKK,by omega,aa (by rw [show dJ S kp (t+1)=(dJ S kp t) from by rw [dJ,if_pos HKF.out]];exact oF),Ab,PR⟩
   case measure=>simp [intOf];omega
  |false=>
   have HKF:=aa (show ¬kp t=true from by rw [HKP];exact fun e=>ig hb5 (of_decide_eq_true e))
   clear hb5
   have Vt:=aa (NN.xz PR (fun e=>by have:=Vs.out;omega))
   have HnT:=aa (show ¬(aQ (.slice (some ⟨gB,0,none⟩) N cB) (.slice (some ⟨gI,0,none⟩) N cI) ic) 0 from fun e=>by have:=(oF.x.own e).1;have:=Vs.out;omega)
   have IG:=aa (show ∀k,(aQ (.slice (some ⟨gB,0,none⟩) N cB) (.slice (some ⟨gI,0,none⟩) N cI) ic) k→base≤k from fun k e=>(oF.x.own e).1)
   have Pw:=aa (show base≤wr.heap.size from Nat.le_trans oF.x.bl oF.x.lh)
   go_upto_region 10 with (fail)
   refine aL [9] (fun w'=>Ext (aQ (.slice (some ⟨gB,0,none⟩) N cB) (.slice (some ⟨gI,0,none⟩) N cI) ic) wr w') (by kernel_rfl) ?_ (fun hHeld=>?_)
   ·exact bX
   have HE:=aa ((show Ext No wr wr.drew from (Ext.refl _ _).drew).lM (M:=(aQ (.slice (some ⟨gB,0,none⟩) N cB) (.slice (some ⟨gI,0,none⟩) N cI) ic)))
   replace oF:=aa (oF.aC (show Ext No wr wr.drew from (Ext.refl _ _).drew))
   generalize wr.drew=v0 at*
   refine uJ [0,1,2] hHeld ?_
   clear hHeld
   iterate 2 refine uL ?_ (hy:=(by intro w hSw;(have q0:=cellOf ((show Ext (aQ (.slice (some ⟨gB,0,none⟩) N cB) (.slice (some ⟨gI,0,none⟩) N cI) ic) wr _ from hSw).blk HO Ab));go_simp;(try with_reducible rfl)))
   refine uF ?_
   refine uZ fun hHeld=>?_
   refine gT (i:=3) (j:=8) (by kernel_rfl) (iV.mk rfl rfl (fun K hK=>?_)) (iV.mk rfl rfl (fun K hK=>?_))
   ·((go_simp);(go_at_call 49);(refine (zk S.w (dJ S kp t) t base lim gB cB gI cI N LBt ic v0 HRW IC oF (Vt.xz HE HnT) Vs hlt).mono ?_);(rintro e1 v1 ⟨rfl,Nu,KS,NM,vN,hx5,hown1⟩);(go_simp))
    refine uK hK (by intro _;exact HE.trans hx5) ?_
    clear hK K hHeld
    intro hHeld
    have Z5:=aa (show ¬(aQ (.slice (some ⟨gB,0,none⟩) N cB) (.slice (some ⟨gI,0,none⟩) N cI) NM) bO from fun e=>(hown1 bO e).elim Ab (fun h=>absurd (lt_of_block HO.out) (by have:=HE.size;omega)))
    replace HE:=aa (HE.trans hx5)
    have zT:=vN
    clear vN hx5 hown1 oF
    refine gT (i:=4) (j:=8) (by kernel_rfl) (iV.mk rfl rfl (fun K hK=>?_)) (iV.mk rfl rfl (fun K hK=>?_))
    ·((go_simp);(go_at_call 48);(refine (oz S.w (jK (dJ S kp t) t) _ _ v1 zT.at.no).mono ?_);(rintro e2 v2 ⟨rfl,hx6⟩);(go_simp))
     refine uK hK sj ?_
     clear hK K hHeld
     intro hHeld
     replace zT:=aa (zT.aC hx6)
     replace HE:=aa (HE.af hx6)
     clear hx6
     refine uJ [5,6,7] hHeld ?_
     clear hHeld
     iterate 3 refine uF ?_
     refine uZ fun hHeld=>?_
     refine uN 8 fun K hK=>?_
     go_simp
     refine uK hK xY ?_
     clear hK K hHeld
     intro hHeld
     have HD:=aa (ah (w:=v2) (o:=(.cells #[.int .i64 0,.slice none 0 0,.slice none 0 0] 26)) rfl)
     have vJ:Ext No v2 (v2.alloc (.cells #[.int .i64 0,.slice none 0 0,.slice none 0 0] 26)):=(Ext.refl _ _).alloc _
     have TZ:=aa (show ¬(aQ (.slice (some ⟨gB,0,none⟩) N cB) (.slice (some ⟨gI,0,none⟩) N cI) NM) v2.heap.size from fun e=>by have:=(zT.x.own e).2;have:=zT.x.lh;omega)
     have MF:=aa (show wr.heap.size≤v2.heap.size from HE.size)
     replace HE:=aa (HE.af vJ)
     replace zT:=aa (zT.aC vJ)
     clear vJ
     generalize World.alloc v2 _=v3 at*
     generalize v2.heap.size=D at*
     exact adW
    go_simp
    refine uK hK xY ?_
    clear hK K hHeld
    intro hHeld
    have HD:=aa (ah (w:=v1) (o:=(.cells #[.int .i64 0,.slice none 0 0,.slice none 0 0] 26)) rfl)
    have vJ:Ext No v1 (v1.alloc (.cells #[.int .i64 0,.slice none 0 0,.slice none 0 0] 26)):=(Ext.refl _ _).alloc _
    have TZ:=aa (show ¬(aQ (.slice (some ⟨gB,0,none⟩) N cB) (.slice (some ⟨gI,0,none⟩) N cI) NM) v1.heap.size from fun e=>by have:=(zT.x.own e).2;have:=zT.x.lh;omega)
    have MF:=aa (show wr.heap.size≤v1.heap.size from HE.size)
    replace HE:=aa (HE.af vJ)
    replace zT:=aa (zT.aC vJ)
    clear vJ
    generalize World.alloc v1 _=v2 at*
    generalize v1.heap.size=D at*
    exact adX
   go_simp
   refine uK hK xY ?_
   clear hK K hHeld
   intro hHeld
   have HD:=aa (ah (w:=v0) (o:=(.cells #[.int .i64 0,.slice none 0 0,.slice none 0 0] 26)) rfl)
   have vJ:Ext No v0 (v0.alloc (.cells #[.int .i64 0,.slice none 0 0,.slice none 0 0] 26)):=(Ext.refl _ _).alloc _
   have HnD:=aa (show ¬(aQ (.slice (some ⟨gB,0,none⟩) N cB) (.slice (some ⟨gI,0,none⟩) N cI) ic) v0.heap.size from fun e=>by have:=(oF.x.own e).2;have:=oF.x.lh;omega)
   have MF:=aa (show wr.heap.size≤v0.heap.size from HE.size)
   replace HE:=aa (HE.af vJ)
   replace oF:=aa (oF.aC vJ)
   clear vJ
   generalize World.alloc v0 _=v1 at*
   generalize v0.heap.size=D at*
   refine uN 3 fun K hK=>?_
   ((go_simp);(go_at_call 49);(refine (zk S.w (dJ S kp t) t base lim gB cB gI cI N LBt ic v1 HRW IC oF (Vt.xz HE HnT) Vs hlt).mono ?_);(rintro e1 v2 ⟨rfl,Nu,KS,NM,vN,hx5,hown1⟩);(go_simp))
   refine uK hK (by intro _;exact HE.trans hx5) ?_
   clear hK K hHeld
   intro hHeld
   have TZ:=aa (show ¬(aQ (.slice (some ⟨gB,0,none⟩) N cB) (.slice (some ⟨gI,0,none⟩) N cI) NM) D from fun e=>(hown1 D e).elim HnD (fun h=>absurd (lt_of_block HD.out) (by omega)))
   replace HD:=aa (hx5.blk HD HnD)
   have Z5:=aa (show ¬(aQ (.slice (some ⟨gB,0,none⟩) N cB) (.slice (some ⟨gI,0,none⟩) N cI) NM) bO from fun e=>(hown1 bO e).elim Ab (fun h=>absurd (lt_of_block HO.out) (by have:=HE.size;omega)))
   replace HE:=aa (HE.trans hx5)
   have zT:=vN
   clear vN hx5 hown1 oF
   exact adX
 have hge:¬(t:Int) < (N:Int):=by omega
 have Yl:t=N:=by omega
 subst Yl
 have hC:=PR.blk IE (fun e=>by omega)
 have cC:=cellOf hC
 have fC:=aH hC
 have cO:=cellOf HO.out
 have jR:Ext (At (W.heap.size+1)) wr (((wr.setCell ⟨W.heap.size+1,0,none⟩ (.int .i64 (S.w:Int))).setCell ⟨W.heap.size+1,1,none⟩ (.slice (some ⟨gB,0,none⟩) t cB)).setCell ⟨W.heap.size+1,2,none⟩ (.slice (some ⟨gI,0,none⟩) t cI)):=jw _ _ _ _ _
 have hbF:=(az (j:=2) (u:= .slice (some ⟨gI,0,none⟩) t cI) (az (j:=1) (u:= .slice (some ⟨gB,0,none⟩) t cB) (az (j:=0) (u:= .int .i64 (S.w:Int)) hC))).trans rfl
 go_wp2_with fail
 generalize World.setCell (World.setCell (World.setCell wr _ _) _ _) _ _=WF at*
 have cF:=cellOf hbF
 refine aW rfl ?_
 simp [results,Tryz.results13,go_sem,cF]
 have hok:=ny (keep:=kp) H8 t (by rw [←ME];omega)
 exact ⟨_,_,by rw [hok.2.1],(oF.at.ext jR (fun i _ e=>by unfold At at e;show i < _;omega)).no,((Kn.aJ PR (fun i hi e=>by omega)).aJ jR (fun i hi e=>by unfold At at e;omega))⟩

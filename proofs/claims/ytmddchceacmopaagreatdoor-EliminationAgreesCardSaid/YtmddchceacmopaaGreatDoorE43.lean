
import Derived.Test.YtmddchceacmopaaGreatDoorE41
import Derived.Test.YtmddchceacmopaaGreatDoorC3
set_option linter.unusedVariables false
set_option linter.unusedSimpArgs false
namespace Go.Proofs.YtmddchceacmopaaGreatDoor
open Go Go.RowKit
theorem yf {p:Prop} (h:p:=by
 clear hv hn hb1 cA
 go_wp2_with fail
 go_ret
 exact ⟨rfl,nK⟩):p:=h
open Classical in
noncomputable def iP (x:Int) (LB:LS) (Li:fe) (n:Int):Int:=if VW x LB Li then (if adK n Li.length then 0 else 9) else 1
set_option maxRecDepth 100000 in
set_option maxHeartbeats 4000000 in
theorem wZ (x:Int) (vb vi:Value) (LB:LS) (Li:fe) (n:Int) (W:World) (h:YW No W vb vi LB Li):
  Calls Tryz.prog 64 #[.agg #[.int .i64 x,vb,vi],.int .i64 n] W (fun e w'=>e= .returned (.int .i64 (iP x LB Li n))∧Ext No W w'):=by
 have H:=aa h
 obtain ⟨ab,cb,rfl⟩:=h.b.slice
 obtain ⟨ai,ci,rfl⟩:=h.i.slice
 obtain ⟨N,hN⟩:∃N,N=LB.length:=⟨_,rfl⟩
 have nN:=h.b.row.2.1
 rw [←hN] at H nN ⊢
 have HN:=aa hN
 have hx0:Ext No W (W.alloc (.cells #[.int .i64 x,.slice ab N cb,.slice ai Li.length ci] 26)):=(Ext.refl _ _).alloc _
 have HX:=aa hx0
 have HY:=aa (H.aj hx0)
 have HA:=aa (ah (w:=W) (o:= .cells #[.int .i64 x,.slice ab N cb,.slice ai Li.length ci] 26) rfl)
 obtain ⟨E,hE⟩:∃E,E=iP x LB Li n:=⟨_,rfl⟩
 rw [←hE]
 have HE:=aa hE
 clear h hN hx0 hE
 go_enter Tryz.func64,Tryz.ntmps64
 go_upto_region 1 with (fail)
 generalize World.alloc W _=V at*
 have cA:=cellOf HA.out
 go_wp2_with fail
 refine (kr x _ _ LB Li V HY).mono ?_
 rintro e1 w1 ⟨b1,rfl,hb1,hx1⟩
 have nK:=aa (HX.af hx1)
 by_cases hv:VW x LB Li
 ·obtain rfl:b1=true:=hb1.2 hv
  have hlb:=hv.lb
  have cA1:=cellOf (hx1.blk HA ax)
  by_cases hn:adK n Li.length
  ·have hE0:E=0:=by rw [HE];unfold iP;rw [if_pos hv,if_pos hn]
   subst hE0
   have h1:¬n < 0:=by have:=hn.1;omega
   have h2:¬(N:Int)≤n:=by have:=hn.2;have:=HN.out;omega
   exact yf
  have hE0:E=9:=by rw [HE];unfold iP;rw [if_pos hv,if_neg hn]
  subst hE0
  by_cases h1:n < 0
  ·exact yf
  have h2:(N:Int)≤n:=by unfold adK at hn;have:=HN.out;omega
  exact yf
 obtain rfl:b1=false:=by
  cases b1 with
  |false=>rfl
  |true=>exact absurd (hb1.1 rfl) hv
 have hE0:E=1:=by rw [HE];unfold iP;rw [if_neg hv]
 subst hE0
 clear hb1 cA hv
 go_wp2_with fail
 go_ret
 exact ⟨rfl,nK⟩
theorem XO {x:Int} {LB:LS} {Li:fe} {n:Int} (h1:VW x LB Li) (h2:adK n Li.length):iP x LB Li n=0:=by
 unfold iP
 rw [if_pos h1,if_pos h2]
theorem VZ {S:bD} {x:Int} {LB:LS} {Li RL:fe} {W w:World} {Bs:List (Nat×Array Value×TypeId)} {lim:Nat} {vb vi:Value} (h:CW S x LB Li) (h8:eY S) (hq:nL W w Bs lim vb vi LB RL) (he:RL.map Prod.fst=Li.map Prod.fst):MW w 0 lim vb vi LB RL S:=by
 have hl:=congrArg List.length he
 simp only [List.length_map] at hl
 refine ⟨hq.x,h8,h.bnd,hl.trans h.len,fun i hi=>?_⟩
 have hi2:i < Li.length:=by omega
 have h1:(RL.map Prod.fst)[i]'(by simpa using hi)=(Li.map Prod.fst)[i]'(by simpa using hi2):=by simp only [he]
 simp only [List.getElem_map] at h1
 rw [h1]
 exact h.rows i hi2
end Go.Proofs.YtmddchceacmopaaGreatDoor

namespace Go.Proofs.YtmddchceacmopaaGreatDoor
open Go Go.RowKit
theorem Jq (t:cK):(aV t).length=t.w:=lC _ _
theorem wJ (a b i:Nat):(gP a b).testBit i=(a.testBit i||b.testBit i):=Nat.testBit_or ..
theorem Bd {r1 r2:List Nat} {a:Nat} (h:a < r1.length):rowAt (gy r1 r2) a=gP (rowAt r1 a) (rowAt r2 a):=yg h
theorem Lv {w:Nat} {r1 r2:List Nat} {a:Nat} (h:a < r1.length):rowAt (kJ w r1 r2) a=iO r2 w (rowAt r1 a):=yg h
theorem JV {w z:Nat} {r1 r2:List Nat} {a:Nat} (h:a < r1.length):rowAt (mI w z r1 r2) a=gP z (iO r2 w (rowAt r1 a)):=yg h
theorem Rh {t u:cK} (ho:eO t) (hu:eO u) (hw:u.w=t.w):jc t.w (gP t.gen u.gen) (gy (aV t) (aV u))=jZ t u:=by
 refine ql (fZ ho.gen (hw▸hu.gen)) (fun a b ha hb hg=>?_)
 have hg2:=hg
 rw [wJ,Bool.or_eq_false_iff] at hg2
 rw [Bd (by rw [Jq];exact ha),Bd (by rw [gU];exact ha),wJ,wJ,lW ho ha,lW hu (by rw [hw];exact ha),hg2.1,hg2.2,hw]
 simp
theorem M8 {u:cK} (hu:eO u) {s:Nat} (hs:s < 2 ^ u.w):gP u.gen (iO (aV u) u.w s)=bL u s:=Nat.eq_of_testBit_eq fun i=>oQ (by
 rw [wJ,Bool.or_eq_true,adM hu hs,jD]
 constructor
 ·rintro (h|⟨a,ha,h1,h2⟩)
  ·exact .inl h
  have h3:(rowAt (aV u) a).testBit i=true:=h2
  rw [lW hu ha,Bool.or_eq_true] at h3
  rcases h3 with h3|h3
  ·exact .inl h3
  exact .inr ⟨a,ha,h1,h3⟩
 rintro (h|⟨a,ha,h1,h2⟩)
 ·exact .inl h
 refine .inr ⟨a,ha,h1,?_⟩
 show (rowAt (aV u) a).testBit i=true
 rw [lW hu ha,h2,Bool.or_true])
theorem Ri {t u:cK} (ho:eO t) (hu:eO u) (hw:u.w=t.w):jc t.w (gP u.gen (iO (aV u) t.w t.gen)) (mI t.w u.gen (aV t) (aV u))=gJ t u:=by
 have e1:gP u.gen (iO (aV u) t.w t.gen)=bL u t.gen:=by rw [←hw];exact M8 hu (by rw [hw];exact ho.gen)
 rw [e1]
 refine ql (by have:=sN hu (s:=t.gen) (by rw [hw];exact ho.gen);rwa [hw] at this) (fun a b ha hb hg=>?_)
 rw [JV (by rw [Jq];exact ha),Lv (by rw [gU];exact ha)]
 have hlt:rowAt (aV t) a < 2 ^ u.w:=by rw [hw,show rowAt (aV t) a=bL t (2 ^ a) from Jr ha];exact sN ho (eZ ha)
 have e2:gP u.gen (iO (aV u) t.w (rowAt (aV t) a))=bL u (rowAt (aV t) a):=by rw [←hw];exact M8 hu hlt
 rw [e2]
 refine oQ ?_
 rw [adM hu hlt,jD]
 have hG:∀{P:Prop},(bL u t.gen).testBit b=true→P:=fun h=>by rw [h] at hg;cases hg
 have hgl:t.gen < 2 ^ u.w:=by rw [hw];exact ho.gen
 constructor
 ·rintro (h|⟨c,hc,h1,h2⟩)
  ·exact hG ((adM hu hgl).2 (.inl h))
  rw [lW ho ha,Bool.or_eq_true] at h1
  rcases h1 with h1|h1
  ·exact hG ((adM hu hgl).2 (.inr ⟨c,hc,h1,h2⟩))
  exact ⟨c,by rw [←hw];exact hc,h1,by rw [hw] at h2;exact h2⟩
 rintro ⟨c,hc,h1,h2⟩
 exact .inr ⟨c,by rw [hw];exact hc,by rw [lW ho ha,h1,Bool.or_true],by rw [hw];exact h2⟩
end Go.Proofs.YtmddchceacmopaaGreatDoor

namespace Go.Proofs.YtmddchceacmopaaGreatDoor
open Go Go.RowKit
theorem UC (M:Nat→Prop) (t:cK) (w:Nat) (g1 k1 c1:Value) (W:World) (hw:t.w=w) (h8:w≤8) (hM:∀b,M b→b < W.heap.size) (h:dF No W g1 k1 c1 t):
  Calls Tryz.prog 67 #[.agg #[.int .i64 (w:Int),g1,.int .i64 (w:Int),k1,c1]] W (KI M w (gm t) W):=by
 subst hw
 refine (Oz M t g1 k1 c1 W hM h).mono ?_
 intro e w' h2
 have h9:=h2.xG h8
 rw [Rj h.ok] at h9
 exact h9
theorem zY (M:Nat→Prop) (t u:cK) (w:Nat) (g1 k1 c1 g2 k2 c2:Value) (W:World) (hw:t.w=w) (hu:u.w=w) (h8:w≤8) (hM:∀b,M b→b < W.heap.size) (h1:dF M W g1 k1 c1 t) (h2:dF M W g2 k2 c2 u):
  Calls Tryz.prog 70 #[.agg #[.int .i64 (w:Int),g1,.int .i64 (w:Int),k1,c1],.agg #[.int .i64 (w:Int),g2,.int .i64 (w:Int),k2,c2]] W (KI M w (gJ t u) W):=by
 subst hw
 refine (Ui M t u g1 k1 c1 g2 k2 c2 W hM h1 h2 hu).mono ?_
 intro e w' h
 have h9:=h.xG h8
 rw [Ri h1.ok h2.ok hu] at h9
 exact h9
theorem M9 (M:Nat→Prop) (t u:cK) (w:Nat) (g1 k1 c1 g2 k2 c2:Value) (W:World) (hw:t.w=w) (hu:u.w=w) (h8:w≤8) (hM:∀b,M b→b < W.heap.size) (h1:dF M W g1 k1 c1 t) (h2:dF M W g2 k2 c2 u):
  Calls Tryz.prog 105 #[.agg #[.int .i64 (w:Int),g1,.int .i64 (w:Int),k1,c1],.agg #[.int .i64 (w:Int),g2,.int .i64 (w:Int),k2,c2]] W (KI M w (jZ t u) W):=by
 subst hw
 refine (QT M t u g1 k1 c1 g2 k2 c2 W hM h1 h2 hu).mono ?_
 intro e w' h
 have h9:=h.xG h8
 rw [Rh h1.ok h2.ok hu] at h9
 exact h9
theorem AP (M:Nat→Prop) (t:cK) (w s:Nat) (sg sk sc ss:Value) (W:World) (hw:t.w=w) (hM:∀b,M b→b < W.heap.size) (h:dF M W sg sk sc t) (hs:aG No W ss w s):
  Calls Tryz.prog 69 #[.agg #[.int .i64 (w:Int),sg,.int .i64 (w:Int),sk,sc],.agg #[.int .i64 (w:Int),ss]] W (iq M w (bL t s) W):=by
 subst hw
 exact Lx M t s sg sk sc ss W hM h hs
theorem nU {w:World} {base sz:Nat} {T:TypeId} {v:Value} {n:Nat} {xs:List Value} (h:w.ownsRow base T sz v n xs) (hn:n≠0):∃g cap,v= .slice (some ⟨g,0,none⟩) n cap:=by
 exact Dh
theorem pQ {M:Nat→Prop} {W:World} {sl:Value} {L:LA} {l:bP} {w:Nat} (hr:∀p∈l,eO p.2∧p.2.w=w) (h:jb kA No W sl L) (hl:L.map fJ=aT l) (hok:∀q∈L,kA.ok M W q) {k m:Nat} {f:cK} (hk:k < l.length) (hm:(m,f)=l[k]):∃b off cap ag cg ak ck ac n cc,sl= .slice (some ⟨b,off,none⟩) l.length cap∧
  (W.cell? ⟨b,off+k*6,none⟩=some (.int .i64 (m:Int))∧W.cell? ⟨b,off+k*6+1,none⟩=some (.int .i64 (w:Int))∧W.cell? ⟨b,off+k*6+2,none⟩=some (.slice ag (nw w) cg)∧W.cell? ⟨b,off+k*6+3,none⟩=some (.int .i64 (w:Int))∧W.cell? ⟨b,off+k*6+4,none⟩=some (.slice ak (nw w) ck)∧W.cell? ⟨b,off+k*6+5,none⟩=some (.slice ac n cc))∧
  Hid (dF M W (.slice ag (nw w) cg) (.slice ak (nw w) ck) (.slice ac n cc) f)∧Hid (f.w=w):=by
 have Vl:k < L.length:=by have:=congrArg List.length hl;rw [List.length_map,dK] at this;omega
 obtain ⟨b,off,cap,ag,cg,ak,ck,ac,n,cc,h1,h2,h3,h4⟩:=fq.at hr (⟨L,h,hl⟩:fq No W sl l) hk hm
 obtain ⟨b2,off2,cap2,e1,-,-,hc⟩:=h.Yo Vl
 have e2:=h1.symm.trans e1
 simp only [Value.slice.injEq,Option.some.injEq,Addr.mk.injEq,and_true] at e2
 obtain ⟨⟨rfl,rfl⟩,-,-⟩:=e2
 obtain ⟨-,-,c2,-,c4,c5⟩:=hc k Vl
 have h2c:=h2
 obtain ⟨-,-,d2,-,d4,d5⟩:=h2
 have f2:=Option.some.inj (c2.symm.trans d2)
 have f4:=Option.some.inj (c4.symm.trans d4)
 have f5:=Option.some.inj (c5.symm.trans d5)
 have hq:bN M W L[k].2.2.1 L[k].2.2.2.1 L[k].2.2.2.2 L[k].2.1:=hok _ (List.getElem_mem Vl)
 have hf:L[k].2.1=bM f:=by
  have h9:=mJ hl Vl hk
  rw [←hm] at h9
  exact congrArg Prod.snd h9
 rw [f2,f4,f5,hf] at hq
 exact ⟨b,off,cap,ag,cg,ak,ck,ac,n,cc,h1,h2c,hq.tr h3.ok,h4⟩
theorem jk.rowOk {w:World} {base lim:Nat} {vb vi:Value} {LB:LS} {RL:fe} (h:jk w base lim vb vi LB RL) {t:Nat} (ht:t < RL.length):∀q∈RL[t].1,kA.ok (aQ vb vi RL) w q:=fun q hq=>kA.mono ((h.r _ (List.getElem_mem ht)).ok q hq) (fun i _ e=>by
 rcases e with e|e|e
 ·exact .inl (.inr (.inl e))
 ·exact .inl (.inr (.inr (.inl e)))
 exact .inl (.inr (.inr (.inr (.inl e)))))

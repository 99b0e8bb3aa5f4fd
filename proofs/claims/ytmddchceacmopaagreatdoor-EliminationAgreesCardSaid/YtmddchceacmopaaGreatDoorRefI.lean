
import Derived.Test.YtmddchceacmopaaGreatDoorRefG
set_option linter.unusedVariables false
set_option linter.unusedSimpArgs false
namespace Go.Proofs.YtmddchceacmopaaGreatDoor
open Go Go.RowKit
theorem O1 {p:Prop} (h:p:=by (go_split_ands;refine ⟨?_,?_,?_,?_⟩<;>((with_reducible refine Ext.oK Oc ?_ ?_);rotate_left;(first|exact hv4|exact hvA);(repeat (first|(with_reducible assumption)|(with_reducible exact Ext.refl _ _)|(with_reducible refine keepD ?_)|(with_reducible refine aO ?_)|(with_reducible refine Ext.drew ?_)|(with_reducible refine Ext.alloc ?_ _)|(with_reducible refine bY.drew ?_)|(with_reducible refine bY.alloc ?_ _)|(with_reducible refine bY.set ?_ _ _)|((with_reducible refine kX ?_ ?_);(first|(with_reducible assumption)|omega|(simp;omega)|(exact Nat.le_refl _)))|(with_reducible refine Ext.setAt ?_ _ _)|((with_reducible refine Ext.own ?_ ?_ _);rotate_left;(first|(with_reducible assumption)|omega|(simp;omega)|(exact Nat.le_refl _)))|(with_reducible refine bf aF ?_)|(with_reducible refine Ext.af ?_ aF)|(with_reducible refine bY.ext ?_ aF)))))):p:=h
theorem yR {p:Prop} (h:p:=by
 refine uK hK bT ?_
 clear hK K hHeld
 intro hHeld
 skip
 refine hHc 11 fun K hK=>?_
 ((refine jY _ (.tmp 28) (.tmp 37) 23 rfl B 44 i0 _ 2 32 Tryz.underlying23 hi0 hz0 hz1 hz2 rfl (by omega) (.slice av L.length cv) L.length (jy L) rfl (dG hm.s.own ((Ext.refl No _).alloc _) (fun _ _ x=>x)) No (some ⟨w8.heap.size,0,none⟩) 1 1 [.int .i64 (t.w:Int),.slice a8 (nw t.w) c8] rfl (Row.block (ah rfl) rfl ax (by omega)) (by simp [Value.oneCell']) (by omega) (by omega) (by have:=hm.bw;simp;omega) ?_);(intro v1 w9 hown1 hg1 hv1);(have Oc:Ext (fun k=>(Value.slice av L.length cv).ownBlock=some k) (w8.alloc (.cells #[.int .i64 (t.w:Int),.slice a8 (nw t.w) c8] 44)) w9:=(Ext.refl _ _).grown hg1 (fun k hk _=>hk));(obtain ⟨lg,Sl⟩:=hm.app (p:=(bJ t.w (jh t.gen (aV t) t.w (2 ^ k)),.slice a8 (nw t.w) c8)) (jo _ _ _ _ _ _ _ _ _ _ _) vK.words hown1 hg1 hv1);(have WS:=aa lg);(have I7:=aa Sl);(obtain ⟨a9,c9,Qp⟩:=lg.s.slice);(subst Qp);(clear lg Sl hown1 hg1 hv1))
 refine uK hK O1 ?_
 clear hK K hHeld
 intro hHeld
 clear Oc hm
 refine uA 12 ?_ (hy:=aM)
 refine hHc 13 fun K hK=>?_
 ((have cX:=cellOf I7.out);(have fX:=aH I7.out);go_simp;(clear cX fX))
 refine uK hK bT ?_
 clear hK K hHeld
 intro hHeld
 clear I7
 refine uD ?_
 go_wp2_with fail
 go_roundw
 case rel=>exact ⟨k+1,a9,c9,L++[(bJ t.w (jh t.gen (aV t) t.w (2 ^ k)),.slice a8 (nw t.w) c8)],by omega,HKK,aa (by rw [List.map_append,HL,Tp,List.map_append];rfl),by have:=WS;simp only [List.length_append,List.length_cons,List.length_nil] at this ⊢;exact this⟩
 case measure=>simp [intOf];omega):p:=h
theorem Gi {p:Prop} (h:p:=by
 refine hHc 9 fun K hK=>?_
 (go_simp;go_at_call 99;(with_reducible refine (qp (fun b=>((M b∨b=W.heap.size+1)∨b=Y)∨(Value.slice av L.length cv).ownBlock=some b) t.w t.gen (0|||2 ^ k) (aV t) _ _ _ _ ?_ (SH.rows hm.out.r2).set.no (SH.rows hm.out.r2).sets.no Vs.out (I5.out.set hw (fZ (Nat.two_pow_pos _) (eZ hlt)) hMg)).mono ?_);(exact (hm.hM (fun b hb=>by rcases hb with hb|rfl;exact Nat.lt_of_lt_of_le (HM b hb) hm.ext.size;exact lt_of_block hm.r2.2.1.1)));(rintro e8 w8 ⟨a8,c8,rfl,BM,aF⟩);go_simp)
 refine uK hK bT ?_
 clear hK K hHeld
 intro hHeld
 replace hm:=aa (hm.aC (jo _ _ _ _ _ _ _ _ _ _ _) aF)
 rw [Nat.zero_or] at BM
 have vK:=aa BM.out
 clear aF hb6 I5 BM
 refine hHc 10 fun K hK=>?_
 go_simp
 exact yR):p:=h
theorem Gj {p:Prop} (h:p:=by
 refine hHc 8 fun K hK=>?_
 (go_simp;go_at_call 40;(with_reducible refine (iW t.w 0 k _ _ hlt (fU.CL hb6.out hw (Nat.two_pow_pos _))).mono ?_);(rintro e7 w7 ⟨g7,rfl,I5,hg7,aF⟩);(have Xw:=hg7);(have hMg:¬(fun b=>((M b∨b=W.heap.size+1)∨b=Y)∨(Value.slice av L.length cv).ownBlock=some b) g7:=fun e=>Nat.lt_irrefl _ (Nat.lt_of_lt_of_le ((hm.hM (fun b hb=>by rcases hb with hb|rfl;exact Nat.lt_of_lt_of_le (HM b hb) hm.ext.size;exact lt_of_block hm.r2.2.1.1)) g7 e) Xw));go_simp)
 refine uK hK bT ?_
 clear hK K hHeld
 intro hHeld
 replace hm:=aa (hm.aC (jo _ _ _ _ _ _ _ _ _ _ _) aF)
 clear aF
 exact Gi):p:=h
set_option maxRecDepth 100000 in
set_option maxHeartbeats 2000000 in
theorem xS (M:Nat→Prop) (w gen:Nat) (rs:List Nat) (sg so:Value) (W:World) (hM:∀b,M b→b < W.heap.size) (hg:aG M W sg w gen) (hr:fM No W so w rs) (hl:rs.length=w):
  Calls Tryz.prog 100 #[.agg #[.int .i64 (w:Int),sg,so]] W (iF M w gen rs W):=by
 have HR:=aa hr
 have HM:=aa hM
 have HG:=aa hg
 obtain ⟨ag,cg,rfl⟩:=hg.slice
 obtain ⟨ao,co,rfl⟩:=hr.slice
 have hw:=hg.hw
 have VM:=aa hl
 clear hr hM hg hl
 go_enter Tryz.func100,Tryz.ntmps100
 go_wp2_with fail
 have hx0:Ext No W ((W.alloc (.cells #[.int .i64 (w:Int),.slice ag (nw w) cg,.slice ao rs.length co] 121)).alloc (.cells #[.int .i64 0,.slice none 0 0,.int .i64 0,.slice none 0 0,.slice none 0 0] 47)):=((Ext.refl _ _).alloc _).alloc _
 have hB:((W.alloc (.cells #[.int .i64 (w:Int),.slice ag (nw w) cg,.slice ao rs.length co] 121)).alloc (.cells #[.int .i64 0,.slice none 0 0,.int .i64 0,.slice none 0 0,.slice none 0 0] 47)).heap[W.heap.size+1]? =some (.cells #[.int .i64 0,.slice none 0 0,.int .i64 0,.slice none 0 0,.slice none 0 0] 47 (0,0)):=ah (by simp)
 generalize World.alloc (World.alloc W _) _=W2 at*
 refine (Cw (fun b=>M b∨b=W.heap.size+1) w gen rs _ _ _ (fun b hb=>?_) ((HG.mono (fun i hi e=>?_)).aj hx0) (HR.aj hx0) VM).mono ?_
 ·rcases hb with hb|rfl
  ·exact Nat.lt_of_lt_of_le (HM b hb) hx0.size
  exact lt_of_block hB
 ·exact tu
 rintro e1 w1 ⟨bg,dg,bk,dk,bc,n,dc,rfl,hn,hs,hx1⟩
 have hy:Ext No w1 (w1.alloc (.cells #[.int .i64 (w:Int),.slice bg (nw w) dg,.int .i64 (w:Int),.slice bk (nw w) dk,.slice bc n dc] 47)):=(Ext.refl _ _).alloc _
 have hB2:=hy.blk (hx1.blk hB ax) ax
 have YA:=ah (w:=w1) (o:= .cells #[.int .i64 (w:Int),.slice bg (nw w) dg,.int .i64 (w:Int),.slice bk (nw w) dk,.slice bc n dc] 47) rfl
 have hxa:=(hx0.af hx1).af hy
 have hne:¬W.heap.size+1=w1.heap.size:=by have:=lt_of_block (hx1.blk hB ax);omega
 have HS:=aa hs
 have HY:=aa hy
 have HN:=aa hn
 have cB:=cellOf hB2
 have fB:=aH hB2
 have cT:=cellOf YA
 clear hx0 hx1 hB hs hy hn
 by_cases hc:n≤64
 ·have hcd:decide ((n:Int)≤64)=true:=decide_eq_true (by omega)
  rw [hcd]
  clear hcd
  go_wp2_with fail
  generalize World.alloc w1 _=w2 at*
  have hfin:=bY.qy ⟨_,rfl,hB2⟩ (.int .i64 (w:Int)) (.slice bg (nw w) dg) (.int .i64 (w:Int)) (.slice bk (nw w) dk) (.slice bc n dc)
  have hE:=pF w2 (W.heap.size+1) (.int .i64 (w:Int)) (.slice bg (nw w) dg) (.int .i64 (w:Int)) (.slice bk (nw w) dk) (.slice bc n dc)
  clear cB fB cT
  generalize World.setCell (World.setCell (World.setCell (World.setCell (World.setCell w2 _ _) _ _) _ _) _ _) _ _=WF at*
  have cF:=cellOf hfin
  refine aW rfl ?_
  simp [results,Tryz.results100,go_sem,cF]
  have hnn:=HN.out
  subst hnn
  refine ⟨fun _=>⟨bg,dg,bk,dk,bc,dc,rfl,aa ⟨?_,?_,?_,adN hw HG.hm hc⟩,hxa.aJ hE (fun i hi e=>by unfold At at e;omega)⟩,fun h=>absurd h (by omega)⟩
  ·exact ((HS.1.aj HY).ext hE (fun i _ e=> .inr e)).mono (fun i _ e=> .inl e)
  ·exact ((HS.2.1.aj HY).ext hE (fun i _ e=> .inr e)).mono (fun i _ e=> .inl e)
  exact ((HS.2.2.aj HY).ext hE (fun i _ e=> .inr e)).mono (fun i _ e=> .inl e)
 have hcd:decide ((n:Int)≤64)=false:=decide_eq_false (by omega)
 rw [hcd]
 clear hcd
 go_wp2_with fail
 generalize World.alloc w1 _=w2 at*
 have hfin:=bY.qy ⟨_,rfl,hB2⟩ (.int .i64 0) (.slice none 0 0) (.int .i64 0) (.slice none 0 0) (.slice none 0 0)
 have hE:=pF w2 (W.heap.size+1) (.int .i64 0) (.slice none 0 0) (.int .i64 0) (.slice none 0 0) (.slice none 0 0)
 clear cB fB cT
 generalize World.setCell (World.setCell (World.setCell (World.setCell (World.setCell w2 _ _) _ _) _ _) _ _) _ _=WF at*
 have cF:=cellOf hfin
 refine aW rfl ?_
 simp [results,Tryz.results100,go_sem,cF]
 have hnn:=HN.out
 subst hnn
 exact ⟨fun h=>absurd h hc,fun _=>⟨rfl,hxa.aJ hE (fun i hi e=>by unfold At at e;omega)⟩⟩
end Go.Proofs.YtmddchceacmopaaGreatDoor

namespace Go.Proofs.YtmddchceacmopaaGreatDoor
open Go Go.RowKit
theorem ql {w g:Nat} {rs rs':List Nat} (hg:g < 2 ^ w) (h:∀a b,a < w→b < w→g.testBit b=false→(rowAt rs a).testBit b=(rowAt rs' a).testBit b):jc w g rs=jc w g rs':=by
 show cK.mk _ _ _ _=cK.mk _ _ _ _
 rw [Im hg h,zu h w (Nat.le_refl _)]
theorem lW {t:cK} (ho:eO t) {a b:Nat} (ha:a < t.w):(rowAt (aV t) a).testBit b=(t.gen.testBit b||(rowAt (aI t t.w t.copies.length) a).testBit b):=oQ (by
 rw [show rowAt (aV t) a=bL t (2 ^ a) from Jr ha,adM ho (eZ ha),Bool.or_eq_true]
 constructor
 ·rintro (h|⟨c,_,h1,h2⟩)
  ·exact .inl h
  rw [Nf] at h1
  have:a=c:=of_decide_eq_true h1
  rw [this];exact .inr h2
 rintro (h|h)
 ·exact .inl h
 exact .inr ⟨a,ha,by rw [Nf];simp,h⟩)
theorem mO {rs:List Nat} {w r:Nat}:jL rs w r=r↔∀a b,a < w→r.testBit a=true→(rowAt rs a).testBit b=true→r.testBit b=true:=by
 constructor
 ·intro h a b ha h1 h2
  rw [←h]
  show (r|||iO rs w r).testBit b=true
  rw [Nat.testBit_or,Bool.or_eq_true]
  exact .inr ((jD rs w r b).2 ⟨a,ha,h1,h2⟩)
 intro h
 refine Nat.eq_of_testBit_eq fun b=>oQ ?_
 show (r|||iO rs w r).testBit b=true↔_
 rw [Nat.testBit_or,Bool.or_eq_true]
 exact ⟨fun hb=>by
  rcases hb with hb|hb
  ·exact hb
  obtain ⟨a,ha,h1,h2⟩:=(jD rs w r b).1 hb
  exact h a b ha h1 h2,.inl⟩
theorem O3 {t:cK} (ho:eO t):jh t.gen (aV t) t.w 0=gQ (aI t t.w t.copies.length) t.w t.gen:=by
 have e:gP t.gen 0=t.gen:=Nat.or_zero _
 unfold jh
 rw [e]
 have hc:=jE (vW ho) ho.gen
 refine zf.uniq (jE (zZ ho) ho.gen) ⟨hc.lt,mO.2 (fun a b ha h1 h2=>?_),hc.ge,fun r' h3 h4=>hc.least r' (mO.2 (fun a b ha h1 h2=>?_)) h4⟩
 ·rw [lW ho ha,Bool.or_eq_true] at h2
  rcases h2 with h2|h2
  ·exact dV.1 hc.ge b h2
  exact mO.1 hc.fix a b ha h1 h2
 exact mO.1 h3 a b ha h1 (by rw [lW ho ha,h2,Bool.or_true])
theorem O4 {t:cK} (ho:eO t) {c:Nat} (hc:c < t.w):jh t.gen (aV t) t.w (2 ^ c)=gP (gQ (aI t t.w t.copies.length) t.w t.gen) (gQ (aI t t.w t.copies.length) t.w (2 ^ c)):=by
 have h1:=jE (vW ho) ho.gen
 have h2:=jE (vW ho) (eZ hc)
 have hb:∀i,(gP (gQ (aI t t.w t.copies.length) t.w t.gen) (gQ (aI t t.w t.copies.length) t.w (2 ^ c))).testBit i=((gQ (aI t t.w t.copies.length) t.w t.gen).testBit i||(gQ (aI t t.w t.copies.length) t.w (2 ^ c)).testBit i):=fun i=>Nat.testBit_or ..
 have hs:∀i,(gP t.gen (2 ^ c)).testBit i=(t.gen.testBit i||(2 ^ c).testBit i):=fun i=>Nat.testBit_or ..
 unfold jh
 refine zf.uniq (jE (zZ ho) (fZ ho.gen (eZ hc))) ⟨fZ h1.lt h2.lt,mO.2 (fun a b ha h3 h4=>?_),dV.2 (fun i hi=>?_),fun r' h3 h4=>dV.2 (fun i hi=>?_)⟩
 ·rw [hb,Bool.or_eq_true] at h3 ⊢
  rw [lW ho ha,Bool.or_eq_true] at h4
  rcases h4 with h4|h4
  ·exact .inl (dV.1 h1.ge b h4)
  rcases h3 with h3|h3
  ·exact .inl (mO.1 h1.fix a b ha h3 h4)
  exact .inr (mO.1 h2.fix a b ha h3 h4)
 ·rw [hs,Bool.or_eq_true] at hi
  rw [hb,Bool.or_eq_true]
  rcases hi with hi|hi
  ·exact .inl (dV.1 h1.ge i hi)
  exact .inr (dV.1 h2.ge i hi)
 have hf:jL (aI t t.w t.copies.length) t.w r'=r':=mO.2 (fun a b ha h5 h6=>mO.1 h3 a b ha h5 (by rw [lW ho ha,h6,Bool.or_true]))
 have h5:=dV.1 h4
 rw [hb,Bool.or_eq_true] at hi
 rcases hi with hi|hi
 ·exact dV.1 (h1.least r' hf (dV.2 (fun j hj=>h5 j (by rw [hs,hj];rfl)))) i hi
 exact dV.1 (h2.least r' hf (dV.2 (fun j hj=>h5 j (by rw [hs,hj,Bool.or_true])))) i hi
def iI (t:cK) (k:Nat):List Nat:=(List.range k).map fun b=>jh t.gen (aV t) t.w (2 ^ b)
theorem zy (t:cK) (k:Nat):(iI t k).length=k:=by simp [iI]
theorem Io (t:cK) (k:Nat):iI t (k+1)=iI t k++[jh t.gen (aV t) t.w (2 ^ k)]:=by simp [iI,List.range_succ]
theorem Md {t:cK} {k a:Nat} (h:a < k):rowAt (iI t k) a=jh t.gen (aV t) t.w (2 ^ a):=by
 rw [fP (by rw [zy];exact h)];simp [iI]
theorem Rj {t:cK} (ho:eO t):jc t.w (jh t.gen (aV t) t.w 0) (iI t t.w)=gm t:=by
 rw [O3 ho]
 refine ql (jE (vW ho) ho.gen).lt (fun a b ha _ hg=>?_)
 rw [Md ha,O4 ho ha,Kg ha]
 exact (Nat.testBit_or ..).trans (by rw [hg];rfl)
end Go.Proofs.YtmddchceacmopaaGreatDoor

namespace Go.Proofs.YtmddchceacmopaaGreatDoor
open Go Go.RowKit
theorem fU.ext {w w':World} {g n m:Nat} (h:fU w g n m) (hx:Ext No w w'):fU w' g n m:=hx.blk h ax
theorem Me (w z s g:Nat) (rs:List Nat) (sg so:Value) (W:World) (hg:aG No W sg w z) (hr:fM No W so w rs) (hl:rs.length=w) (hw:w≤256) (hs:s < 2 ^ w) (hb:fU W g w s):
  Calls Tryz.prog 99 #[.agg #[.int .i64 (w:Int),sg,so],.agg #[.int .i64 (w:Int),.slice (some ⟨g,0,none⟩) (nw w) (nw w)]] W (jA (fun b=>b < W.heap.size∧b≠g) w (jh z rs w s) W):=
 qp (fun b=>b < W.heap.size∧b≠g) w z s rs sg so _ W (fun _ e=>e.1) hg hr hl (hb.set hw hs (fun e=>e.2 rfl))
structure Ck (M:Nat→Prop) (W wr:World) (w g X B:Nat) (s1 v:Value) (L:List (bC×Value)) (R2:(Nat→Prop)→World→Prop):Prop where
 ext:Ext No W wr
 dU:wr.heap[X]? =some (.cells #[.int .i64 (w:Int),s1,v] 121 (0,0))
 gen:aG (fun b=>M b∨b=X∨B≤b) wr s1 w g
 s:dm (fun b=>M b∨b=X) wr B v L
 r2:R2 (fun b=>b=X∨B≤b) wr
 low:W.heap.size≤X
 big:X < B
 bw:B≤wr.heap.size
section
variable {M:Nat→Prop} {W wr w':World} {w g X B:Nat} {s1 v v':Value} {L:List (bC×Value)} {R2:(Nat→Prop)→World→Prop} {p:bC×Value}
theorem Ck.aC (h:Ck M W wr w g X B s1 v L R2) (k:dx R2) (hx:Ext No wr w'):Ck M W w' w g X B s1 v L R2:=
 ⟨h.ext.af hx,hx.blk h.dU ax,h.gen.aj hx,h.s.aj hx,k.ext h.r2 hx (fun _ _ x=>x.elim),h.low,h.big,Nat.le_trans h.bw hx.size⟩
theorem Ck.hM (hM:∀b,M b→b < wr.heap.size) (h:Ck M W wr w g X B s1 v L R2):∀b,((M b∨b=X)∨v.ownBlock=some b)→b < wr.heap.size:=fun b hb=>by
 rcases hb with (hb|rfl)|hb
 ·exact hM b hb
 ·exact lt_of_block h.dU
 exact (h.s.lt b hb).2
theorem Ck.app {o:Obj} (h:Ck M W wr w g X B s1 v L R2) (k:dx R2) (hp:aU (fun b=>(M b∨b=X)∨v.ownBlock=some b) wr p.2 p.1.words) (hown:w'.ownsRow B 44 2 v' (L.length+1) (jy L++pR p))
  (hg:(wr.alloc o).grownBy w' v.ownBlock) (hv:v'.ownBlock=v.ownBlock∨v'.ownBlock=some (wr.alloc o).heap.size):
  Ck M W (w'.setCell ⟨X,2,none⟩ v') w g X B s1 v' (L++[p]) R2∧w'.heap[X]? =some (.cells #[.int .i64 (w:Int),s1,v] 121 (0,0)):=by
 obtain ⟨h1,hE⟩:=h.s.app hp hown hg hv
 have hl:=h.low
 have hbg:=h.big
 have hbw:=h.bw
 have hgt:∀i,v.ownBlock=some i→B≤i:=fun i e=>(h.s.lt i e).1
 have hE2:Ext (At X) w' (w'.setCell ⟨X,2,none⟩ v'):=(Ext.refl (At X) _).setAt _ _
 have hX:=hE.blk h.dU (fun e=>by have:=hgt X e;omega)
 refine ⟨⟨?_,(az (j:=2) hX).trans rfl,(h.gen.ext hE (fun i _ e=> .inr (.inr (hgt i e)))).ext hE2 (fun i _ e=> .inr (.inl e)),h1.ext hE2 (fun i hi e=>by unfold At at e;omega) (fun i e=> .inr e),k.ext (k.ext h.r2 hE (fun i _ e=> .inr (hgt i e))) hE2 (fun i _ e=> .inl e),hl,hbg,Nat.le_trans (Nat.le_trans hbw hE.size) hE2.size⟩,hX⟩
 exact FP
end
def Al (D:Nat) (w g:Nat) (rs:List Nat) (sg so:Value) (M:Nat→Prop) (W:World):Prop:=W.heap[D]? =some (.cells #[.int .i64 (w:Int),sg,so] 121 (0,0))∧¬M D∧gq w g rs sg so M W
theorem jr (D w g:Nat) (rs:List Nat) (sg so:Value):dx (Al D w g rs sg so):=
 ⟨fun h hx hm=>⟨hx.blk h.1 (fun e=>h.2.1 (hm _ (lt_of_block h.1) e)),h.2.1,h.2.2.ext hx hm⟩,fun h hm=>⟨h.1,fun e=>h.2.1 (hm _ (lt_of_block h.1) e),h.2.2.mono hm⟩⟩
def SH (A C D w g:Nat) (rs:List Nat) (sg so sk sc s0:Value) (M:Nat→Prop) (W:World):Prop:=
 (W.heap[A]? =some (.cells #[.int .i64 (w:Int),s0,.int .i64 (w:Int),sk,sc] 47 (0,0))∧¬M A)∧(W.heap[C]? =some (.cells #[.int .i64 0,.slice none 0 0,.int .i64 0,.slice none 0 0,.slice none 0 0] 47 (0,0))∧¬M C)∧Al D w g rs sg so M W
theorem SH.rows {A C D w g:Nat} {rs:List Nat} {sg so sk sc s0:Value} {M:Nat→Prop} {W:World} (h:SH A C D w g rs sg so sk sc s0 M W):gq w g rs sg so M W:=h.2.2.2.2
theorem jo (A C D w g:Nat) (rs:List Nat) (sg so sk sc s0:Value):dx (SH A C D w g rs sg so sk sc s0):=
 ⟨fun h hx hm=>⟨⟨hx.blk h.1.1 (fun e=>h.1.2 (hm _ (lt_of_block h.1.1) e)),h.1.2⟩,⟨hx.blk h.2.1.1 (fun e=>h.2.1.2 (hm _ (lt_of_block h.2.1.1) e)),h.2.1.2⟩,(jr D w g rs sg so).ext h.2.2 hx hm⟩,
  fun h hm=>⟨⟨h.1.1,fun e=>h.1.2 (hm _ (lt_of_block h.1.1) e)⟩,⟨h.2.1.1,fun e=>h.2.1.2 (hm _ (lt_of_block h.2.1.1) e)⟩,(jr D w g rs sg so).mono h.2.2 hm⟩⟩
theorem Ck.start {M:Nat→Prop} {W wx:World} {w g X:Nat} {s1:Value} {R2:(Nat→Prop)→World→Prop} (k:dx R2) (hx:Ext No W wx) (aaI:wx.heap[X]? =some (.cells #[.int .i64 (w:Int),s1,.slice none 0 0] 121 (0,0))) (Xt:aG (fun b=>M b∨b=X) wx s1 w g) (hr:R2 (fun b=>b=X) wx) (hl:W.heap.size≤X):
  Ck M W wx w g X wx.heap.size s1 (.slice none 0 0) [] R2:=
 ⟨hx,aaI,Xt.mono (fun i hi e=>by
  rcases e with e|e|e
  ·exact .inl e
  ·exact .inr e
  ·omega),dm.nil _ _ _,k.mono hr (fun i hi e=>by
  rcases e with e|e
  ·exact e
  omega),hl,lt_of_block aaI,Nat.le_refl _⟩
theorem Ck.late {M:Nat→Prop} {W w7:World} {w z n0 pre g5:Nat} {s1:Value} {R2:(Nat→Prop)→World→Prop} (k:dx R2) (hW:Ext No W w7) (hM:∀b,M b→b < n0) (h4:W.heap.size≤n0) (hn:n0≤pre) (hg:n0≤g5) (h7:pre≤w7.heap.size) (hs:aG (fun b=>b < pre∧b≠g5) w7 s1 w z) (hr:R2 (fun b=>n0≤b) w7):
  Ck M W (w7.alloc (.cells #[.int .i64 (w:Int),s1,.slice none 0 0] 121)) w z w7.heap.size (w7.alloc (.cells #[.int .i64 (w:Int),s1,.slice none 0 0] 121)).heap.size s1 (.slice none 0 0) [] R2:=
 Ck.start k (hW.alloc _) (ah rfl) ((hs.mono (fun i hi e=>by
  rcases e with e|e
  ·have:=hM i e;exact ⟨by omega,by omega⟩
  omega)).aj ((Ext.refl _ _).alloc _)) (k.mono (k.ext hr ((Ext.refl No w7).alloc _) (fun _ _ x=>x.elim)) (fun i _ e=>by subst e;omega)) hW.size
theorem Ck.early {M:Nat→Prop} {W w7:World} {w z n0 pre g5 Y:Nat} {s1:Value} {R2:(Nat→Prop)→World→Prop} (k:dx R2) (hW:Ext No W w7) (hM:∀b,M b→b < n0) (h4:W.heap.size≤n0) (hn:n0≤pre) (hg:n0≤g5) (hs:aG (fun b=>b < pre∧b≠g5) w7 s1 w z) (hr:R2 (fun b=>n0≤b) w7)
  (hY:n0≤Y) (hYp:Y < pre) (hYg:Y≠g5) (hi:w7.heap[Y]? =some (.cells #[.int .i64 0,.slice none 0 0,.slice none 0 0] 121 (0,0))):
  Ck M W (((w7.setCell ⟨Y,0,none⟩ (.int .i64 (w:Int))).setCell ⟨Y,1,none⟩ s1).setCell ⟨Y,2,none⟩ (.slice none 0 0)) w z Y (((w7.setCell ⟨Y,0,none⟩ (.int .i64 (w:Int))).setCell ⟨Y,1,none⟩ s1).setCell ⟨Y,2,none⟩ (.slice none 0 0)).heap.size s1 (.slice none 0 0) [] R2:=by
 have hE:=Nk w7 Y (.int .i64 (w:Int)) s1 (.slice none 0 0)
 refine Ck.start k (hW.aJ hE (fun i hi e=>by unfold At at e;omega)) (aaD hi _ _ _) ((hs.mono (M':=fun b=>M b∨b=Y) (fun i hi e=>?_)).ext hE (fun i _ e=> .inr e)) (k.mono (k.ext hr hE (fun i _ e=>by unfold At at e;omega)) (fun i _ e=>by subst e;exact hY)) (Nat.le_trans h4 hY)
 rcases e with e|e
 ·have:=hM i e;exact ⟨by omega,by omega⟩
 subst e;exact ⟨hYp,hYg⟩
set_option maxRecDepth 100000 in
set_option maxHeartbeats 8000000 in
theorem Oz (M:Nat→Prop) (t:cK) (g1 k1 c1:Value) (W:World) (hM:∀b,M b→b < W.heap.size) (h:dF No W g1 k1 c1 t):
  Calls Tryz.prog 67 #[.agg #[.int .i64 (t.w:Int),g1,.int .i64 (t.w:Int),k1,c1]] W (iF M t.w (jh t.gen (aV t) t.w 0) (iI t t.w) W):=by
 have H:=aa h
 have HM:=aa hM
 have HO:=aa h.ok
 obtain ⟨ag,cg,rfl⟩:=h.gen.slice
 obtain ⟨ak,ck,rfl⟩:=h.kill.slice
 obtain ⟨ac,cc,rfl⟩:=Row.slice h.copies
 have hw:=h.ok.w
 obtain ⟨i0,hi0,hz0,hz1,hz2⟩:=info_parts yZ
 clear h hM
 go_enter Tryz.func67,Tryz.ntmps67
 go_wp2_with fail
 have hx0:Ext No W ((W.alloc (.cells #[.int .i64 (t.w:Int),.slice ag (nw t.w) cg,.int .i64 (t.w:Int),.slice ak (nw t.w) ck,.slice ac t.copies.length cc] 47)).alloc (.cells #[.int .i64 0,.slice none 0 0,.int .i64 0,.slice none 0 0,.slice none 0 0] 47)):=((Ext.refl _ _).alloc _).alloc _
 have hA:((W.alloc (.cells #[.int .i64 (t.w:Int),.slice ag (nw t.w) cg,.int .i64 (t.w:Int),.slice ak (nw t.w) ck,.slice ac t.copies.length cc] 47)).alloc (.cells #[.int .i64 0,.slice none 0 0,.int .i64 0,.slice none 0 0,.slice none 0 0] 47)).heap[W.heap.size]? =some (.cells #[.int .i64 (t.w:Int),.slice ag (nw t.w) cg,.int .i64 (t.w:Int),.slice ak (nw t.w) ck,.slice ac t.copies.length cc] 47 (0,0)):=ay (ah rfl)
 have hC:((W.alloc (.cells #[.int .i64 (t.w:Int),.slice ag (nw t.w) cg,.int .i64 (t.w:Int),.slice ak (nw t.w) ck,.slice ac t.copies.length cc] 47)).alloc (.cells #[.int .i64 0,.slice none 0 0,.int .i64 0,.slice none 0 0,.slice none 0 0] 47)).heap[W.heap.size+1]? =some (.cells #[.int .i64 0,.slice none 0 0,.int .i64 0,.slice none 0 0,.slice none 0 0] 47 (0,0)):=ah (by simp)
 generalize World.alloc (World.alloc W _) _=V0 at*
 refine (xg t t.w _ _ _ _ rfl (H.aj hx0)).mono ?_
 rintro e1 w1 ⟨rfl,hx1⟩
 have hx:=aa (hx0.af hx1)
 have HA:=aa (hx1.blk hA ax)
 have HC:=aa (hx1.blk hC ax)
 clear hx0 hx1 hA hC
 have cA:=cellOf HA.out
 go_wp2_with fail
 refine (Ma No t _ _ _ _ V9 (H.aj hx)).mono ?_
 rintro e2 w2 ⟨a2,c2,b2,d2,rfl,hrows,hx2⟩
 have hb4:(w2.alloc (.cells #[.int .i64 (t.w:Int),.slice a2 (nw t.w) c2,.slice b2 (aV t).length d2] 121)).heap[w2.heap.size]? =some (.cells #[.int .i64 (t.w:Int),.slice a2 (nw t.w) c2,.slice b2 (aV t).length d2] 121 (0,0)):=ah rfl
 have hx4:Ext No w2 (w2.alloc (.cells #[.int .i64 (t.w:Int),.slice a2 (nw t.w) c2,.slice b2 (aV t).length d2] 121)):=(Ext.refl _ _).alloc _
 have qG:=aa hb4
 have qO:=aa ((hx.af hx2).af hx4)
 have KV:=aa (hx4.blk (hx2.blk HA ax) ax)
 have IE:=aa (hx4.blk (hx2.blk HC ax) ax)
 have HR4:=aa (hrows.aj hx4)
 clear hx2 HC hrows cA HA hx hb4 hx4
 have cA:=cellOf KV.out
 go_wp2_with fail
 clear cA
 generalize World.alloc w2 _=W4 at*
 generalize w2.heap.size=D4 at*
 have Vs:=aa (show (aV t).length=t.w from lC _ _)
 have HRV:=aa (show SH W.heap.size (W.heap.size+1) D4 t.w t.gen (aV t) (.slice a2 (nw t.w) c2) (.slice b2 (aV t).length d2) (.slice ak (nw t.w) ck) (.slice ac t.copies.length cc) (.slice ag (nw t.w) cg) (fun b=>W4.heap.size≤b) W4 from ⟨⟨KV.out,Nat.not_le.2 (lt_of_block KV.out)⟩,⟨IE.out,Nat.not_le.2 (lt_of_block IE.out)⟩,qG,Nat.not_le.2 (lt_of_block qG.out),HR4.mono (fun i hi e=>absurd hi (Nat.not_lt.2 e))⟩)
 go_cut [5] (fun s5 wx=>∃(Y B:Nat) (a5:Option Addr) (c5:Nat),s5= .pointer (some ⟨Y,0,none⟩)∧Hid (Ck (fun b=>M b∨b=W.heap.size+1) W wx t.w (jh t.gen (aV t) t.w 0) Y B (.slice a5 (nw t.w) c5) (.slice none 0 0) [] (SH W.heap.size (W.heap.size+1) D4 t.w t.gen (aV t) (.slice a2 (nw t.w) c2) (.slice b2 (aV t).length d2) (.slice ak (nw t.w) ck) (.slice ac t.copies.length cc) (.slice ag (nw t.w) cg))))
 case first=>
  have cA:=cellOf KV.out
  have cB:=cellOf qG.out
  have l0:W4.cell? ⟨W.heap.size,0,none⟩=some (.int .i64 (t.w:Int)):=cA 0
  have l1:W4.cell? ⟨D4,0,none⟩=some (.int .i64 (t.w:Int)):=cB 0
  have l2:W4.cell? ⟨D4,1,none⟩=some (.slice a2 (nw t.w) c2):=cB 1
  have l3:W4.cell? ⟨D4,2,none⟩=some (.slice b2 (aV t).length d2):=cB 2
  have l4:Ext No W4 W4:=Ext.refl _ _
  have hlA:W.heap.size < W4.heap.size:=lt_of_block KV.out
  have hlC:W.heap.size+1 < W4.heap.size:=lt_of_block IE.out
  have hlD:D4 < W4.heap.size:=lt_of_block qG.out
  have NV:Hid (∀b,(M b∨b=W.heap.size+1)→b < W4.heap.size):=aa (fun b hb=>by
   rcases hb with hb|rfl
   ·exact Nat.lt_of_lt_of_le (HM b hb) qO.size
   exact hlC)
  clear cA cB
  go_region_held3 (fun w'=>w'.cell? ⟨W.heap.size,0,none⟩=some (.int .i64 (t.w:Int))∧w'.cell? ⟨D4,0,none⟩=some (.int .i64 (t.w:Int))∧w'.cell? ⟨D4,1,none⟩=some (.slice a2 (nw t.w) c2)∧w'.cell? ⟨D4,2,none⟩=some (.slice b2 (aV t).length d2)∧Ext No W4 w')
   ((go_split_ands;refine ⟨?_,?_,?_,?_,?_⟩<;>(repeat (first|(with_reducible assumption)|(with_reducible exact Ext.refl _ _)|(with_reducible refine keepD ?_)|(with_reducible refine aO ?_)|(with_reducible refine Ext.drew ?_)|(with_reducible refine Ext.alloc ?_ _)|(with_reducible refine bY.drew ?_)|(with_reducible refine bY.alloc ?_ _)|(with_reducible refine bY.set ?_ _ _)|((with_reducible refine kX ?_ ?_);(first|(with_reducible assumption)|omega|(simp;omega)|(exact Nat.le_refl _)))|(with_reducible refine Ext.setAt ?_ _ _)|((with_reducible refine Ext.own ?_ ?_ _);rotate_left;(first|(with_reducible assumption)|omega|(simp;omega)|(exact Nat.le_refl _)))|(with_reducible refine bf aF ?_)|(with_reducible refine Ext.af ?_ aF)|(with_reducible refine bY.ext ?_ aF)))))
   (first
    |((go_at_call 39);(try go_split_ands);(with_reducible refine (fK t.w _ hw).mono ?_);(have aaJ:=(show Ext No W4 _ from by with_reducible assumption));(rintro e5 w5 ⟨g5,rfl,hb5,hg5,aF⟩);(have acw:=aF);(have hx5:=Ext.af aaJ aF);(have hs5:=hx5.size);(have aaK:=Nat.le_trans aaJ.size hg5))
    |((go_at_call 99);(try go_split_ands);(with_reducible refine (Me t.w t.gen 0 g5 (aV t) _ _ _ (HR4.out.set.no.aj ?_) (HR4.out.sets.no.aj ?_) Vs.out hw (Nat.two_pow_pos _) (hb5.out.ext ?_)).mono ?_);(with_reducible assumption);(with_reducible assumption);(repeat (first|(with_reducible exact Ext.refl _ _)|(with_reducible assumption)|(with_reducible refine Ext.drew ?_)|(with_reducible refine Ext.alloc ?_ _)));(have hx6:=(show Ext No W4 _ from by with_reducible assumption));(have hs6:=hx6.size);(rintro e7 w7 ⟨a7,c7,rfl,hs7,aF⟩);(have KY:=aF);(have hx7:=Ext.af hx6 KY);(first|(with_reducible have hi:=jI KY (ah (o:=(.cells #[.int .i64 0,.slice none 0 0,.slice none 0 0] 121)) rfl))|(with_reducible have hi:=jI KY (acw.blk (ah (o:=(.cells #[.int .i64 0,.slice none 0 0,.slice none 0 0] 121)) rfl) ax))|skip);(try ((obtain ⟨hi,hlt⟩:=hi);(have HI:=aa hi);(have HL:=aa hlt);(have cI:=cellOf hi);(have fI:=aH hi);(clear hi hlt)))))
  all_goals
   go_wp2_with fail
   go_meet
   first
   |exact ⟨_,_,a7,c7,rfl,Ck.late (jo _ _ _ _ _ _ _ _ _ _ _) (qO.af hx7) NV qO.size hs6 aaK KY.size hs7 ((jo _ _ _ _ _ _ _ _ _ _ _).ext HRV hx7 (fun _ _ x=>x.elim))⟩
   |exact ⟨_,_,a7,c7,rfl,Ck.early (jo _ _ _ _ _ _ _ _ _ _ _) (qO.af hx7) NV qO.size hs6 aaK hs7 ((jo _ _ _ _ _ _ _ _ _ _ _).ext HRV hx7 (fun _ _ x=>x.elim)) (by first|exact Nat.le_refl _|exact hs5) HL (by first|exact Nat.ne_of_lt (show W4.heap.size < g5 from by have h1:=hg5;simp at h1;omega)|exact Nat.ne_of_gt (lt_of_block hb5.out)) HI⟩
 case rest=>
 obtain ⟨Y,B,a5,c5,rfl,hm⟩:=hcut
 rename World=>W6
 clear KV qG IE HR4 qO HRV
 have cA:=cellOf hm.r2.1.1
 go_wp2_with fail
 clear cA
 have hwl:(t.w:Int)≤256:=by omega
 go_loopw [6] (fun i wr=>∃(k:Nat) (av:Option Addr) (cv:Nat) (L:List (bC×Value)),k≤t.w∧i= .int .i64 k∧Hid (L.map Prod.fst=(iI t k).map (bJ t.w))∧Hid (Ck (fun b=>M b∨b=W.heap.size+1) W wr t.w (jh t.gen (aV t) t.w 0) Y B (.slice a5 (nw t.w) c5) (.slice av L.length cv) L (SH W.heap.size (W.heap.size+1) D4 t.w t.gen (aV t) (.slice a2 (nw t.w) c2) (.slice b2 (aV t).length d2) (.slice ak (nw t.w) ck) (.slice ac t.copies.length cc) (.slice ag (nw t.w) cg)))) (fun i _=>t.w - (intOf i).toNat)
 case atStart=>exact ⟨0,none,0,[],Nat.zero_le _,rfl,rfl,hm⟩
 clear hm
 obtain ⟨k,av,cv,L,hk,rfl,HL,hm⟩:=hrel
 rename World=>wr
 have hpos:(0:Int)≤(k:Int):=by omega
 have hLn:L.length≤256:=by have:=congrArg List.length HL.out;simp [iI] at this;omega
 have cA:=cellOf hm.r2.1.1
 by_cases hlt:k < t.w
 ·have hlz:(k:Int) < (t.w:Int):=by omega
  have HKK:Hid (Value.int .i64 ((k:Int)+1)= .int .i64 ((k+1:Nat):Int)):=aa (by rw [show ((k+1:Nat):Int)=(k:Int)+1 from by omega])
  have Tp:Hid (iI t (k+1)=iI t k++[jh t.gen (aV t) t.w (2 ^ k)]):=aa (Io _ _)
  go_wp2_with fail
  have cB:=cellOf hm.r2.2.2.1
  have l0:wr.cell? ⟨W.heap.size,0,none⟩=some (.int .i64 (t.w:Int)):=cA 0
  have l1:wr.cell? ⟨D4,0,none⟩=some (.int .i64 (t.w:Int)):=cB 0
  have l2:wr.cell? ⟨D4,1,none⟩=some (.slice a2 (nw t.w) c2):=cB 1
  have l3:wr.cell? ⟨D4,2,none⟩=some (.slice b2 (aV t).length d2):=cB 2
  have n0:W.heap.size≠Y:=fun e=>hm.r2.1.2 (.inl e)
  have n1:D4≠Y:=fun e=>hm.r2.2.2.2.1 (.inl e)
  have hvA:¬(Value.slice av L.length cv).ownBlock=some W.heap.size:=fun e=>hm.r2.1.2 (.inr (hm.s.lt _ e).1)
  have hv4:¬(Value.slice av L.length cv).ownBlock=some D4:=fun e=>hm.r2.2.2.2.1 (.inr (hm.s.lt _ e).1)
  clear cA cB
  refine uW (fun w'=>w'.cell? ⟨W.heap.size,0,none⟩=some (.int .i64 (t.w:Int))∧w'.cell? ⟨D4,0,none⟩=some (.int .i64 (t.w:Int))∧w'.cell? ⟨D4,1,none⟩=some (.slice a2 (nw t.w) c2)∧w'.cell? ⟨D4,2,none⟩=some (.slice b2 (aV t).length d2)) bT fun hHeld=>?_
  replace hm:=aa (hm.aC (jo _ _ _ _ _ _ _ _ _ _ _) (Ext.refl No wr).drew)
  generalize wr.drew=v0 at*
  refine uO [0,2,3,4,5,7] ?_
  iterate 6 refine uT ?_ (hy:=aM)
  refine uZ ?_
  refine aN (i:=1) (j:=6) (by kernel_rfl) (aD.mk rfl rfl (fun K hK=>?_)) (aD.mk rfl rfl (fun K hK=>?_))
  ·((have cX:=cellOf hm.dU);go_simp;(clear cX))
   refine uK hK bT ?_
   clear hK K hHeld
   intro hHeld
   skip
   refine hHc 6 fun K hK=>?_
   (go_simp;go_at_call 39;(with_reducible refine (fK t.w _ hw).mono ?_);(rintro e6 w6 ⟨g6,rfl,hb6,_,aF⟩);go_simp)
   refine uK hK bT ?_
   clear hK K hHeld
   intro hHeld
   replace hm:=aa (hm.aC (jo _ _ _ _ _ _ _ _ _ _ _) aF)
   clear aF
   exact Gj
  (go_simp;go_at_call 39;(with_reducible refine (fK t.w _ hw).mono ?_);(rintro e6 w6 ⟨g6,rfl,hb6,_,aF⟩);go_simp)
  refine uK hK bT ?_
  clear hK K hHeld
  intro hHeld
  replace hm:=aa (hm.aC (jo _ _ _ _ _ _ _ _ _ _ _) aF)
  clear aF
  refine aN (i:=1) (j:=8) (by kernel_rfl) (aD.mk rfl rfl (fun K hK=>?_)) (aD.mk rfl rfl (fun K hK=>?_))
  ·((have cX:=cellOf hm.dU);go_simp;(clear cX))
   refine uK hK bT ?_
   clear hK K hHeld
   intro hHeld
   skip
   exact Gj
  (go_simp;go_at_call 40;(with_reducible refine (iW t.w 0 k _ _ hlt (fU.CL hb6.out hw (Nat.two_pow_pos _))).mono ?_);(rintro e7 w7 ⟨g7,rfl,I5,hg7,aF⟩);(have Xw:=hg7);(have hMg:¬(fun b=>((M b∨b=W.heap.size+1)∨b=Y)∨(Value.slice av L.length cv).ownBlock=some b) g7:=fun e=>Nat.lt_irrefl _ (Nat.lt_of_lt_of_le ((hm.hM (fun b hb=>by rcases hb with hb|rfl;exact Nat.lt_of_lt_of_le (HM b hb) hm.ext.size;exact lt_of_block hm.r2.2.1.1)) g7 e) Xw));go_simp)
  refine uK hK bT ?_
  clear hK K hHeld
  intro hHeld
  replace hm:=aa (hm.aC (jo _ _ _ _ _ _ _ _ _ _ _) aF)
  clear aF
  refine aN (i:=1) (j:=9) (by kernel_rfl) (aD.mk rfl rfl (fun K hK=>?_)) (aD.mk rfl rfl (fun K hK=>?_))
  ·((have cX:=cellOf hm.dU);go_simp;(clear cX))
   refine uK hK bT ?_
   clear hK K hHeld
   intro hHeld
   skip
   exact Gi
  (go_simp;go_at_call 99;(with_reducible refine (qp (fun b=>((M b∨b=W.heap.size+1)∨b=Y)∨(Value.slice av L.length cv).ownBlock=some b) t.w t.gen (0|||2 ^ k) (aV t) _ _ _ _ ?_ (SH.rows hm.out.r2).set.no (SH.rows hm.out.r2).sets.no Vs.out (I5.out.set hw (fZ (Nat.two_pow_pos _) (eZ hlt)) hMg)).mono ?_);(exact (hm.hM (fun b hb=>by rcases hb with hb|rfl;exact Nat.lt_of_lt_of_le (HM b hb) hm.ext.size;exact lt_of_block hm.r2.2.1.1)));(rintro e8 w8 ⟨a8,c8,rfl,BM,aF⟩);go_simp)
  refine uK hK bT ?_
  clear hK K hHeld
  intro hHeld
  replace hm:=aa (hm.aC (jo _ _ _ _ _ _ _ _ _ _ _) aF)
  rw [Nat.zero_or] at BM
  have vK:=aa BM.out
  clear aF hb6 I5 BM
  refine aN (i:=1) (j:=10) (by kernel_rfl) (aD.mk rfl rfl (fun K hK=>?_)) (aD.mk rfl rfl (fun K hK=>?_))
  ·((have cX:=cellOf hm.dU);go_simp;(clear cX))
   refine uK hK bT ?_
   clear hK K hHeld
   intro hHeld
   skip
   refine hHc 10 fun K hK=>?_
   go_simp
   exact yR
  go_simp
  refine uK hK bT ?_
  clear hK K hHeld
  intro hHeld
  skip
  refine hHc 1 fun K hK=>?_
  ((have cX:=cellOf hm.dU);(have ZL:=cellOf (ay (o:=(.cells #[.int .i64 (t.w:Int),.slice a8 (nw t.w) c8] 44)) hm.dU));go_simp;(clear cX ZL))
  exact yR
 obtain rfl:k=t.w:=by omega
 have hge:¬(t.w:Int) < (t.w:Int):=by omega
 have cX:=cellOf hm.dU
 have ZP:=aa (show fM No wr (.slice av L.length cv) t.w (iI t t.w) from ⟨⟨L,hm.s.sets (M:=No) (fun _ _ x=>x) (fun _ x=>x.elim),HL⟩,hw,fun m hmm=>by
  obtain ⟨b,hb,rfl⟩:=List.mem_map.1 hmm
  exact (jE (zZ HO) (fZ HO.gen (eZ (List.mem_range.1 hb)))).lt⟩)
 clear hLn
 go_wp2_with fail
 refine (xS (fun b=>M b∨b=W.heap.size+1) t.w (jh t.gen (aV t) t.w 0) (iI t t.w) _ _ _ (fun b hb=>?_) (hm.gen.mono (fun i hi e=> .inl e)) ZP (zy _ _)).mono ?_
 ·exact FQ
 rintro e6 w6 hpost
 have uf:=aa hm.ext
 have Iz:Hid (∀(w':World),Ext No wr w'→w'.heap[W.heap.size+1]? =some (.cells #[.int .i64 0,.slice none 0 0,.int .i64 0,.slice none 0 0,.slice none 0 0] 47 (0,0))):=aa (fun w' hx=>hx.blk hm.r2.2.1.1 ax)
 clear hm cX ZP cA
 by_cases hc:(fu t.w (jh t.gen (aV t) t.w 0) (iI t t.w) t.w).length≤64
 ·have hp1:=hpost.1 hc
  generalize htr:jc t.w (jh t.gen (aV t) t.w 0) (iI t t.w)=tr at hp1
  obtain ⟨fg,eg,fk,ek,fc,ec,rfl,hTr,hx6⟩:=hp1
  have jW:=Iz.out _ hx6
  have cC:=cellOf jW
  have fC:=aH jW
  have uh:=aa jW
  have BF:=aa htr
  clear hpost jW htr
  go_wp2_with fail
  have hfin:=bY.qy ⟨_,rfl,uh⟩ (.int .i64 (tr.w:Int)) (.slice fg (nw tr.w) eg) (.int .i64 (tr.w:Int)) (.slice fk (nw tr.w) ek) (.slice fc tr.copies.length ec)
  have hE:=pF w6 (W.heap.size+1) (.int .i64 (tr.w:Int)) (.slice fg (nw tr.w) eg) (.int .i64 (tr.w:Int)) (.slice fk (nw tr.w) ek) (.slice fc tr.copies.length ec)
  clear cC fC
  generalize World.setCell (World.setCell (World.setCell (World.setCell (World.setCell w6 _ _) _ _) _ _) _ _) _ _=WF at*
  have cF:=cellOf hfin
  refine aW rfl ?_
  simp [results,Tryz.results67,go_sem,cF]
  exact mW
 obtain ⟨rfl,hx6⟩:=hpost.2 (by omega)
 have jW:=Iz.out _ hx6
 have cC:=cellOf jW
 have fC:=aH jW
 have uh:=aa jW
 clear hpost jW
 go_wp2_with fail
 have hfin:=bY.qy ⟨_,rfl,uh⟩ (.int .i64 0) (.slice none 0 0) (.int .i64 0) (.slice none 0 0) (.slice none 0 0)
 have hE:=pF w6 (W.heap.size+1) (.int .i64 0) (.slice none 0 0) (.int .i64 0) (.slice none 0 0) (.slice none 0 0)
 clear cC fC
 generalize World.setCell (World.setCell (World.setCell (World.setCell (World.setCell w6 _ _) _ _) _ _) _ _) _ _=WF at*
 have cF:=cellOf hfin
 refine aW rfl ?_
 simp [results,Tryz.results67,go_sem,cF]
 exact mX

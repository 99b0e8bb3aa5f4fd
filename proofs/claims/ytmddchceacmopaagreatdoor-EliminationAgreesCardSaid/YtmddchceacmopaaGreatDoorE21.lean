
import Derived.Test.YtmddchceacmopaaGreatDoorE19
set_option linter.unusedVariables false
set_option linter.unusedSimpArgs false
namespace Go.Proofs.YtmddchceacmopaaGreatDoor
open Go Go.RowKit
theorem Di {p:Prop} (h:p:=by intro w hSw;(have x0:=cellOf ((show Ext No U2 _ from hSw).blk BI ax));go_simp;(try with_reducible rfl)):p:=h
theorem Dj {p:Prop} (h:p:=by intro w hSw;(have x0:=cellOf ((show Ext No wr _ from hSw).blk BI ax));go_simp;(try with_reducible rfl)):p:=h
section
variable {w w' w1 w2:World} {base lim lim':Nat} {vb vi v':Value} {LB:LS} {RL:fe}
theorem jk.Uq {g c t N:Nat} {L':LA} {q:LA×Value} (hN:N=RL.length) (h:jk w base lim vb (.slice (some ⟨g,0,none⟩) N c) LB RL) (ht:t < RL.length) (hq:RL[t]=q)
  (hx:Ext (fun k=>q.2.ownBlock=some k) w w') (hown:w'.ownsRow base 49 6 v' L'.length (L'.flatMap kA.cells)) (hok:∀p∈L',kA.ok (dW vb (.slice (some ⟨g,0,none⟩) N c) (RL.set t (L',v')) w'.heap.size base) w' p)
  (hv:v'.ownBlock=q.2.ownBlock∨∀k,v'.ownBlock=some k→w.heap.size≤k):
  jk (w'.setCell ⟨g,t,none⟩ v') base w'.heap.size vb (.slice (some ⟨g,0,none⟩) N c) LB (RL.set t (L',v')):=by
 subst hN
 have hmem:=List.getElem_mem ht
 rw [hq] at hmem
 have hlh:=h.lh
 have hsz:=hx.size
 have hE:Ext (At g) w' (w'.setCell ⟨g,t,none⟩ v'):=(Ext.refl (At g) w').setAt _ _
 have hsz2:=hE.size
 have hseq:(w'.setCell ⟨g,t,none⟩ v').heap.size=w'.heap.size:=by simp
 have hvk:∀k,v'.ownBlock=some k→q.2.ownBlock=some k∨w.heap.size≤k:=fun k hk=>by
  rcases hv with e|e
  ·exact .inl (by rw [←e];exact hk)
  exact .inr (e k hk)
 have hnew:∀p∈RL.set t (L',v'),p=(L',v')∨∃(j:Nat) (hj:j < RL.length),j≠t∧p=RL[j]:=fun p hp=>by
  obtain ⟨j,hj,rfl⟩:=List.getElem_of_mem hp
  have hj2:j < RL.length:=by simpa using hj
  by_cases e:t=j
  ·subst e;exact .inl (by rw [List.getElem_set_self])
  exact .inr ⟨j,hj2,fun e2=>e e2.symm,by rw [List.getElem_set_ne e]⟩
 have hsub:∀i,dW vb (.slice (some ⟨g,0,none⟩) RL.length c) (RL.set t (L',v')) w'.heap.size base i→dW vb (.slice (some ⟨g,0,none⟩) RL.length c) RL lim base i:=fun i e=>by
  rcases e with e|e|e|⟨p,hp,e⟩|e
  ·exact .inl e
  ·exact .inr (.inl e)
  ·exact .inr (.inr (.inl e))
  ·rcases hnew p hp with rfl|⟨j,hj,_,rfl⟩
   ·rcases hvk i e with e|e
    ·exact .inr (.inr (.inr (.inl ⟨q,hmem,e⟩)))
    exact .inr (.inr (.inr (.inr (by omega))))
   exact .inr (.inr (.inr (.inl ⟨_,List.getElem_mem hj,e⟩)))
  exact .inr (.inr (.inr (.inr (by omega))))
 have hgI:Value.ownBlock (.slice (some ⟨g,0,none⟩) RL.length c)=some g:=rfl
 have hqg:q.2.ownBlock≠some g:=fun e=>(h.br q hmem g e).2 rfl
 have hvg:v'.ownBlock≠some g:=fun e=>by
  rcases hvk g e with e|e
  ·exact hqg e
  have:=h.li g rfl;omega
 have Qw:∀i,q.2.ownBlock=some i→dW vb (.slice (some ⟨g,0,none⟩) RL.length c) RL lim base i:=fun i e=> .inr (.inr (.inr (.inl ⟨q,hmem,e⟩)))
 have Mv:∀i,At g i→dW vb (.slice (some ⟨g,0,none⟩) RL.length c) RL lim base i:=fun i e=> .inr (.inr (.inl (by rw [show i=g from e];rfl)))
 refine ⟨Nat.le_trans h.bl (by omega),by omega,?_,?_,fun p hp=>?_,h.bi,fun p hp k hk=>?_,fun i j hi hj hij k hk=>?_,fun k hk=>by have:=h.lb k hk;omega,fun k hk=>by have:=h.li k hk;omega,fun p hp k hk=>?_⟩
 ·exact Dk
 ·exact Dl
 ·rcases hnew p hp with rfl|⟨j,hj,hne,rfl⟩
  ·refine ⟨aZ hown hE (fun k hk e=>hvg (by rw [←show k=g from e];exact hk)),fun r hr=>?_⟩
   refine kA.mono (kA.ext (hok r hr) hE (fun i _ e=> .inr (.inr (.inl (by rw [show i=g from e];rfl))))) (fun i _ e=>?_)
   rcases e with e|e
   ·exact e
   exact .inr (.inr (.inr (.inl ⟨_,hp,e⟩)))
  exact Dm
 ·rcases hnew p hp with rfl|⟨j,hj,hne,rfl⟩
  ·rcases hvk k hk with e|e
   ·exact h.br q hmem k e
   exact ⟨fun e2=>by have:=h.lb k e2;omega,fun e2=>by have:=h.li k e2;omega⟩
  exact h.br _ (List.getElem_mem hj) k hk
 ·have hi2:i < RL.length:=by simpa using hi
  have hj2:j < RL.length:=by simpa using hj
  have hoth:∀n (hn:n < RL.length),n≠t→RL[n].2.ownBlock=some k→v'.ownBlock≠some k:=fun n hn hnt h1 h2=>by
   rcases hvk k h2 with e|e
   ·exact h.zN n t hn ht hnt k h1 (by rw [hq];exact e)
   have:=h.lr _ (List.getElem_mem hn) k h1;omega
  rw [List.getElem_set] at hk ⊢
  by_cases e1:t=i
  ·rw [if_pos e1] at hk
   rw [if_neg (by omega)]
   exact fun e=>hoth j hj2 (by omega) e hk
  rw [if_neg e1] at hk
  by_cases e2:t=j
  ·rw [if_pos e2];exact fun e=>hoth i hi2 (fun e3=>e1 e3.symm) hk e
  rw [if_neg e2];exact h.zN i j hi2 hj2 hij k hk
 rcases hnew p hp with rfl|⟨j,hj,hne,rfl⟩
 ·have:=(World.ownsRow.lt hown k hk).2;omega
 have:=h.lr _ (List.getElem_mem hj) k hk;omega
end
def aQ (vb vi:Value) (RL:fe):Nat→Prop:=fun k=>vb.ownBlock=some k∨vi.ownBlock=some k∨∃p∈RL,p.2.ownBlock=some k
theorem jk.own {w:World} {base lim:Nat} {vb vi:Value} {LB:LS} {RL:fe} (h:jk w base lim vb vi LB RL) {k:Nat} (hk:aQ vb vi RL k):base≤k∧k < lim:=h.hot hk
structure nV (W wr:World) (Bs:List (Nat×Array Value×TypeId)) (base lim:Nat) (vb vi:Value) (uj:fe) (LB:LS) (RL:fe):Prop where
 ext:Ext (aQ vb vi uj) W wr
 x:jk wr base lim vb vi LB RL
 bx:∀b∈Bs,wr.heap[b.1]? =some (.cells b.2.1 b.2.2 (0,0))∧¬aQ vb vi RL b.1
 own:∀k,aQ vb vi RL k→aQ vb vi uj k∨W.heap.size≤k
 tab:iQ wr
 low: 0 < base
section
variable {W wr w':World} {Bs:List (Nat×Array Value×TypeId)} {base lim lim':Nat} {vb vi v':Value} {uj RL:fe} {LB:LS}
theorem nV.start {w:World} (h:jk w base lim vb vi LB uj) (hT:iQ w) (hl: 0 < base):nV w w [] base lim vb vi uj LB uj:=
 ⟨Ext.refl _ _,h,fun b hb=>(List.not_mem_nil hb).elim,fun k hk=> .inl hk,hT,hl⟩
theorem nV.aC (h:nV W wr Bs base lim vb vi uj LB RL) (hx:Ext No wr w'):nV W w' Bs base lim vb vi uj LB RL:=
 ⟨h.ext.af hx,h.x.aC hx,fun b hb=>⟨hx.blk (h.bx b hb).1 ax,(h.bx b hb).2⟩,h.own,h.tab.ext hx,h.low⟩
theorem nV.lift (h:nV W wr Bs base lim vb vi uj LB RL) (h1:lim≤lim') (h2:lim'≤wr.heap.size):nV W wr Bs base lim' vb vi uj LB RL:=⟨h.ext,h.x.lift h1 h2,h.bx,h.own,h.tab,h.low⟩
theorem nV.top (h:nV W wr Bs base lim vb vi uj LB RL):nV W wr Bs base wr.heap.size vb vi uj LB RL:=h.lift h.x.lh (Nat.le_refl _)
theorem nV.nM (h:nV W wr Bs base lim vb vi uj LB RL) {d:Nat} {cs:Array Value} {T:TypeId} (hb:wr.heap[d]? =some (.cells cs T (0,0))) (hd:lim≤d):nV W wr ((d,cs,T)::Bs) base lim vb vi uj LB RL:=
 ⟨h.ext,h.x,fun b hb2=>by
  rcases List.mem_cons.1 hb2 with rfl|hb2
  ·exact ⟨hb,fun e=>by have:=(h.x.own e).2;simp only at this;omega⟩
  exact h.bx b hb2,h.own,h.tab,h.low⟩
theorem nV.cut {YO:List (Nat×Array Value×TypeId)} (h:nV W wr Bs base lim vb vi uj LB RL) (hs:∀b∈YO,b∈Bs):nV W wr YO base lim vb vi uj LB RL:=⟨h.ext,h.x,fun b hb=>h.bx b (hs b hb),h.own,h.tab,h.low⟩
theorem nV.change {M:Nat→Prop} {YP:LS} {Wt:fe} (h:nV W wr Bs base lim vb vi uj LB RL) (hx:Ext M wr w') (hM:∀k,k < wr.heap.size→M k→aQ vb vi RL k) (hx2:jk w' base lim' vb vi YP Wt) (ho:∀k,aQ vb vi Wt k→aQ vb vi RL k∨wr.heap.size≤k):nV W w' Bs base lim' vb vi uj YP Wt:=by
 have hsz:=h.ext.size
 refine ⟨h.ext.aJ hx (fun i hi e=>?_),hx2,fun b hb=>?_,fun k hk=>?_,h.tab.xz (M:=fun k=>M k∧k < wr.heap.size) ?_ (fun e=>?_),h.low⟩
 ·rcases h.own i (hM i (by omega) e) with e2|e2
  ·exact e2
  omega
 ·exact Dn
 ·rcases ho k hk with e|e
  ·exact h.own k e
  exact .inr (by omega)
 ·exact hx.mono (fun i hi e=>⟨e,hi⟩)
 have h1:=(h.x.own (hM _ e.2 e.1)).1
 have:=h.low
 omega
theorem nV.Ad {g c t N:Nat} {p:bC×Value} (hN:N=LB.length) (h:nV W wr Bs base lim (.slice (some ⟨g,0,none⟩) N c) vi uj LB RL) (ht:t < LB.length) (hp:aU (dW (.slice (some ⟨g,0,none⟩) N c) vi RL lim base) wr p.2 p.1.words):
  nV W ((wr.setCell ⟨g,t*2,none⟩ (.int .i64 p.1.width)).setCell ⟨g,t*2+1,none⟩ p.2) Bs base lim (.slice (some ⟨g,0,none⟩) N c) vi uj (LB.set t p) RL:=
 h.change (((Ext.refl (At g) wr).setAt _ _).setAt _ _) (fun k _ e=> .inl (by rw [show k=g from e];rfl)) (h.x.Ad hN ht hp) (fun k hk=> .inl hk)
theorem nV.xB {g c t k:Nat} {gI cI NI:Nat} {L:LA} {p:Int×dS×Value×Value×Value} (h:nV W wr Bs base lim vb (.slice (some ⟨gI,0,none⟩) NI cI) uj LB RL) (rD:NI=RL.length) (ht:t < RL.length) (GV:RL[t]=(L,.slice (some ⟨g,0,none⟩) L.length c)) (hk:k < L.length) (hp:p.1=L[k].1)
  (hok:kA.ok (dW vb (.slice (some ⟨gI,0,none⟩) NI cI) RL lim base) wr p):
  nV W (((((wr.setCell ⟨g,k*6+1,none⟩ (.int .i64 p.2.1.gen.width)).setCell ⟨g,k*6+2,none⟩ p.2.2.1).setCell ⟨g,k*6+3,none⟩ (.int .i64 p.2.1.kill.width)).setCell ⟨g,k*6+4,none⟩ p.2.2.2.1).setCell ⟨g,k*6+5,none⟩ p.2.2.2.2) Bs base lim vb (.slice (some ⟨gI,0,none⟩) NI cI) uj LB (RL.set t (L.set k p,.slice (some ⟨g,0,none⟩) L.length c)):=by
 exact Dp
theorem nV.putRow {g c t N:Nat} {L':LA} {q:LA×Value} (hN:N=RL.length) (h:nV W wr Bs base lim vb (.slice (some ⟨g,0,none⟩) N c) uj LB RL) (ht:t < RL.length) (hq:RL[t]=q)
  (hx:Ext (fun k=>q.2.ownBlock=some k) wr w') (hown:w'.ownsRow base 49 6 v' L'.length (L'.flatMap kA.cells)) (hok:∀p∈L',kA.ok (dW vb (.slice (some ⟨g,0,none⟩) N c) (RL.set t (L',v')) w'.heap.size base) w' p)
  (hv:v'.ownBlock=q.2.ownBlock∨∀k,v'.ownBlock=some k→wr.heap.size≤k):
  nV W (w'.setCell ⟨g,t,none⟩ v') Bs base w'.heap.size vb (.slice (some ⟨g,0,none⟩) N c) uj LB (RL.set t (L',v')):=by
 exact Dq
end
end Go.Proofs.YtmddchceacmopaaGreatDoor

namespace Go.Proofs.YtmddchceacmopaaGreatDoor
open Go Go.RowKit
def AJ (S':bD) (base:Nat) (vb vi:Value) (uj:fe) (W:World) (e:Ending) (w':World):Prop:=
 e= .returned (.int .i64 0)∧∃(lim:Nat) (LB:LS) (RL:fe),Hid (MW w' base lim vb vi LB RL S')∧Hid (Ext (aQ vb vi uj) W w')∧Hid (∀k,aQ vb vi RL k→aQ vb vi uj k∨W.heap.size≤k)
theorem nV.cell (W:World):True:=trivial
theorem jk.rO {w:World} {base lim t x m:Nat} {vb vi sl:Value} {LB:LS} {RL:fe} (h:jk w base lim vb vi LB RL) (ht:t < LB.length) (hq:LB[t]=(bJ x m,sl)) (hx:x≤256) (hm:m < 2 ^ x):aG No w sl x m:=by
 have h2:aU _ w LB[t].2 LB[t].1.words:=h.b.ok _ (List.getElem_mem ht)
 rw [hq] at h2
 exact ⟨h2.mono (fun _ _ x=>x.elim),hx,hm⟩
theorem MU {vb vi v':Value} {RL:fe} {lim lim' base t i:Nat} {q:LA×Value} {L':LA} (ht:t < RL.length) (hq:RL[t]=q) (hv:v'.ownBlock=q.2.ownBlock) (hi:i < lim') (e:dW vb vi (RL.set t (L',v')) lim' base i):dW vb vi RL lim base i:=by
 rcases e with e|e|e|⟨p,hp,e⟩|e
 ·exact .inl e
 ·exact .inr (.inl e)
 ·exact .inr (.inr (.inl e))
 ·rcases List.mem_or_eq_of_mem_set hp with hp|rfl
  ·exact .inr (.inr (.inr (.inl ⟨p,hp,e⟩)))
  exact .inr (.inr (.inr (.inl ⟨RL[t],List.getElem_mem ht,by rw [hq,←hv];exact e⟩)))
 omega
def pG (e:bP) (s:cK) (k:Nat):bP:=(e.take k).map (fun p=>(p.1,gJ p.2 s))++e.drop k
theorem Jj (e:bP) (s:cK):pG e s 0=e:=by simp [pG]
theorem Ur (e:bP) (s:cK):pG e s e.length=e.map (fun p=>(p.1,gJ p.2 s)):=by simp [pG]
theorem mK (e:bP) (s:cK) (k:Nat):(pG e s k).length=e.length:=by simp [pG];omega
theorem K6 {e:bP} {s:cK} {k:Nat} (hk:k < e.length):(pG e s k)[k]'(by rw [mK];exact hk)=e[k]:=by
 have h:(pG e s k)[k]? =some e[k]:=by
  unfold pG
  rw [List.getElem?_append_right (by simp;omega)]
  simp only [List.length_map,List.length_take,Nat.min_eq_left (Nat.le_of_lt hk),Nat.sub_self,List.getElem?_drop,Nat.add_zero,List.getElem?_eq_getElem hk]
 rw [List.getElem?_eq_getElem (by rw [mK];exact hk)] at h
 exact Option.some.inj h
theorem Q6 {e:bP} {s:cK} {k:Nat} (hk:k < e.length):pG e s (k+1)=(pG e s k).set k (e[k].1,gJ e[k].2 s):=by
 unfold pG
 have h1:((e.take k).map (fun p=>(p.1,gJ p.2 s))).length=k:=by rw [List.length_map,List.length_take,Nat.min_eq_left (Nat.le_of_lt hk)]
 rw [List.set_append_right _ _ (by omega),h1,Nat.sub_self,List.drop_eq_getElem_cons hk,List.set_cons_zero,List.take_succ_eq_append_getElem hk,List.map_append,List.append_assoc]
 rfl
theorem QH {w n:Nat} {e:bP} {s:cK} (h8:w≤8) (h:dP w n e) (hs:eO s∧s.w=w) (k:Nat):∀p∈pG e s k,eO p.2∧p.2.w=w:=fun p hp=>by
 rcases List.mem_append.1 hp with hp|hp
 ·obtain ⟨q,hq,rfl⟩:=List.mem_map.1 hp
  exact vV h8 (h.jX q (List.mem_of_mem_take hq)) hs
 exact h.jX p (List.mem_of_mem_drop hp)
theorem Jk {e:bP} {s f:cK} {k mm:Nat} {L:LA} {x1 x2 x3:Value} (h:L.map fJ=aT (pG e s k)) (hk:k < e.length) (jq:(mm,f)=e[k]):(L.set k ((L[k]'(by have:=congrArg List.length h;rw [List.length_map,dK,mK] at this;omega)).1,bM (gJ f s),x1,x2,x3)).map fJ=aT (pG e s (k+1)):=by
 have Vl:k < L.length:=by have:=congrArg List.length h;rw [List.length_map,dK,mK] at this;omega
 have h1:=mJ h Vl (by rw [mK];exact hk)
 rw [K6 hk,←jq] at h1
 have h2:L[k].1=(mm:Int):=congrArg Prod.fst h1
 have hg:∀z:Int,z=(mm:Int)→(L.set k (z,bM (gJ f s),x1,x2,x3)).map fJ=aT (pG e s (k+1)):=fun z hz=>by
  rw [Q6 hk,List.map_set,h,←jq,hz]
  simp only [aT,List.map_set,fJ]
 exact hg _ h2
set_option maxRecDepth 100000 in
set_option maxHeartbeats 16000000 in
theorem zi (S:bD) (n base zb gB cB gI cI N:Nat) (LB:LS) (RL:fe) (W:World) (hN:N=S.ins.length) (h:MW W base zb (.slice (some ⟨gB,0,none⟩) N cB) (.slice (some ⟨gI,0,none⟩) N cI) LB RL S) (hT:iQ W) (hlow: 0 < base) (hn:n < N):
  Calls Tryz.prog 63 #[.agg #[.int .i64 (S.w:Int),.slice (some ⟨gB,0,none⟩) N cB,.slice (some ⟨gI,0,none⟩) N cI],.int .i64 (n:Int)] W (AJ (dN S n) base (.slice (some ⟨gB,0,none⟩) N cB) (.slice (some ⟨gI,0,none⟩) N cI) RL W):=by
 have HS:=aa h
 have HN:=aa hN
 have hw8:=h.ok.w8
 have hn32:N≤32:=by rw [hN];exact h.ok.n8
 have HRO:=aa (h.ok.ok.row n)
 have hnR:n < RL.length:=by rw [h.len,←hN];exact hn
 have hNR:N=RL.length:=by rw [h.len,←hN]
 obtain ⟨⟨L0,v0⟩,hq⟩:∃q:LA×Value,RL[n]=q:=⟨_,rfl⟩
 have HQ:=aa (show ∃hnR:n < RL.length,RL[n]=(L0,v0) from ⟨hnR,hq⟩)
 have har:fq No W v0 (aR S n):=by have h9:=h.Nn hnR;rw [hq] at h9;exact h9
 have HOW:=aa (show cZ kA (dW (.slice (some ⟨gB,0,none⟩) N cB) (.slice (some ⟨gI,0,none⟩) N cI) RL zb base) W base v0 L0 from by have h9:=h.x.r _ (List.getElem_mem hnR);rw [hq] at h9;exact h9)
 have G5:=aa (show L0.map fJ=aT (aR S n) from by have h9:=h.rows n hnR;rw [hq] at h9;exact h9)
 have Cb:=aa (show W.cell? ⟨gI,n,none⟩=some v0 from by have h9:=h.x.kV hNR hnR;rw [hq] at h9;exact h9)
 have W9:=aa (show v0.ownBlock≠some gI from fun e=>(h.x.br _ (List.getElem_mem hnR) gI (by rw [hq];exact e)).2 rfl)
 have hmz:(aR S n).length≤32:=by have:=HRO.len;omega
 obtain ⟨a0,cap,hv0⟩:=har.slice
 obtain ⟨m,hm⟩:∃m,m=(aR S n).length:=⟨_,rfl⟩
 rw [←hm] at hv0 hmz
 have HM:=aa hm
 subst hv0
 have NJ:=aa har
 have qB:N=LB.length:=by rw [h.Xa,←hN]
 have qF:=aa qB
 obtain ⟨ab,cb,hsb⟩:=(h.set (t:=n) (by omega)).slice
 have Sg:=aa (show aG No W (.slice ab (nw S.w) cb) S.w (dA S.bnd n) from by have h9:=h.set (t:=n) (by omega);rw [hsb] at h9;exact h9)
 have HB1:=aa (show ∃KR:n < LB.length,LB[n]=(bJ S.w (dA S.bnd n),.slice ab (nw S.w) cb) from ⟨by omega,Prod.ext (by
  have h1:=congrArg (fun l=>l[n]?) h.bnd
  have ht2:n < S.bnd.length:=by rw [h.ok.ok.lb,←hN];exact hn
  simp only [List.getElem?_map,List.getElem?_eq_getElem (show n < LB.length by omega),List.getElem?_eq_getElem ht2,Option.map_some,Option.some.injEq] at h1
  rw [h1,kI ht2]) hsb⟩)
 clear qB hsb
 have hR0:=nV.start h.x hT hlow
 have hlh:=h.x.lh
 have vG:=aa hNR
 clear h hT hlow har hq hm hN hNR hnR
 have hnz:(n:Int) < (N:Int):=by omega
 go_enter Tryz.func63,Tryz.ntmps63
 go_upto_region 1 with (fail)
 have Yh:Ext No W (W.alloc (.cells #[.int .i64 (S.w:Int),.slice (some ⟨gB,0,none⟩) N cB,.slice (some ⟨gI,0,none⟩) N cI] 26)):=(Ext.refl _ _).alloc _
 have PL:=aa ((hR0.aC Yh).nM (ah (w:=W) (o:= .cells #[.int .i64 (S.w:Int),.slice (some ⟨gB,0,none⟩) N cB,.slice (some ⟨gI,0,none⟩) N cI] 26) rfl) hlh)
 have Kl:=aa Yh
 clear hR0 Yh
 generalize World.alloc W _=V at*
 obtain ⟨bA,Wu⟩:∃bA,bA=W.heap.size:=⟨_,rfl⟩
 rw [←Wu] at PL ⊢
 have HbA:=aa Wu
 clear Wu
 have qA:=cellOf (show V.heap[bA]? =some (.cells #[.int .i64 (S.w:Int),.slice (some ⟨gB,0,none⟩) N cB,.slice (some ⟨gI,0,none⟩) N cI] 26 (0,0)) from (PL.bx (bA,#[.int .i64 (S.w:Int),.slice (some ⟨gB,0,none⟩) N cB,.slice (some ⟨gI,0,none⟩) N cI],26) (by simp)).1)
 have qI:=Kl.keep Cb
 go_wp2_with fail
 clear qA qI
 refine (Ho n S.w _ (aR S n) _ HRO.jX (NJ.aj Kl) (by rw [←HM];omega)).mono ?_
 rintro e1 w1 ⟨hh,hx1⟩
 have hR2:=aa (PL.aC hx1)
 have Wv:=aa (Kl.af hx1)
 clear PL Kl hx1
 rcases hh with ⟨h1,rfl⟩|⟨h1,rfl⟩
 ·obtain ⟨i,hi⟩:∃i,i=oh (aR S n) n:=⟨_,rfl⟩
  have HI:=aa hi
  rw [←hi] at h1 ⊢
  clear hi
  have HI1:=aa h1
  have him:i < m:=by rw [HM];exact h1
  have hiz:(i:Int) < (m:Int):=by omega
  have hi0:¬(i:Int) < 0:=by omega
  have hwi:IntKind.i64.wrap ((i:Int)+1)=(i:Int)+1:=by rw [IntKind.wrap_i64];omega
  have CB:L0.length=m:=by have h9:=congrArg List.length G5.out;rw [List.length_map,dK,←HM] at h9;exact h9
  have xP:=aa CB
  obtain ⟨g,cap',hsh⟩:=adI HOW.own (by omega)
  simp only [Value.slice.injEq] at hsh
  obtain ⟨rfl,-,rfl⟩:=hsh
  clear CB
  obtain ⟨⟨mm,t⟩,jq⟩:∃q:Nat×cK,q=(aR S n)[i]:=⟨_,rfl⟩
  obtain ⟨b,off,cap',ag',cg',ak',ck',qN,nc',cc',hsl,gt,HT1,pI⟩:=fq.at HRO.jX (NJ.aj Wv) HI1.out jq
  rw [←HM] at hsl
  simp only [Value.slice.injEq,Option.some.injEq,Addr.mk.injEq,and_true,true_and] at hsl
  obtain ⟨⟨rfl,rfl⟩,rfl⟩:=hsl
  simp only [Nat.zero_add] at gt
  obtain ⟨q0,q1,q2,q3,q4,q5⟩:=gt
  have oP:=aa (show (mm,t)=(aR S n)[i]'HI1.out from jq)
  have hso:=Hr hw8 (show eO t∧t.w=S.w from by rw [show t=((aR S n)[i]'HI1.out).2 from congrArg Prod.snd jq];exact HRO.jX _ (List.getElem_mem _))
  have Vm:=aa hso
  clear jq h1 hso
  have qA:=cellOf (show w1.heap[bA]? =some (.cells #[.int .i64 (S.w:Int),.slice (some ⟨gB,0,none⟩) N cB,.slice (some ⟨gI,0,none⟩) N cI] 26 (0,0)) from (hR2.bx (bA,#[.int .i64 (S.w:Int),.slice (some ⟨gB,0,none⟩) N cB,.slice (some ⟨gI,0,none⟩) N cI],26) (by simp)).1)
  have qI:=Wv.keep Cb
  go_wp2_with fail
  refine (XH (Lo w1.heap.size) t S.w _ _ _ _ pI (fun b e=>e) hw8 hR2.tab HT1).mono ?_
  rintro e0 w2 ⟨d1,e1,d2,e2,d3,n3,e3,rfl,hS,hx2⟩
  have Si:=aa (hR2.aC hx2)
  have ji:=aa (Wv.af hx2)
  have TR:∀k,Lo w1.heap.size k→Lo w2.heap.size k:=fun k e=>Nat.lt_of_lt_of_le e hx2.size
  have ZU:=Wv
  clear q0 q1 q2 q3 q4 q5 qA qI hR2 Wv hx2
  go_upto_region 7 with (fail)
  have hx3:Ext No w2 (w2.alloc (.cells #[.int .i64 (S.w:Int),.slice d1 (nw S.w) e1,.int .i64 (S.w:Int),.slice d2 (nw S.w) e2,.slice d3 n3 e3] 47)):=(Ext.refl _ _).alloc _
  have vS:=aa ((Si.aC hx3).nM (ah (w:=w2) (o:=(.cells #[.int .i64 (S.w:Int),.slice d1 (nw S.w) e1,.int .i64 (S.w:Int),.slice d2 (nw S.w) e2,.slice d3 n3 e3] 47)) rfl) (Nat.le_trans Si.x.lh (Nat.le_refl _)))
  have GZ:=aa (ji.af hx3)
  have HS2:=aa (hS.aj hx3)
  have Tk:=aa (show Lo w1.heap.size g∧Lo w1.heap.size gI∧Lo w1.heap.size gB from by
   obtain ⟨hnR,hq⟩:=HQ.out
   have h1:=ZU.size
   have h2:=HS.x.lh
   exact ⟨Nat.lt_of_lt_of_le (HS.x.own (.inr (.inr ⟨_,List.getElem_mem hnR,by rw [hq];rfl⟩))).2 (by omega),Nat.lt_of_lt_of_le (HS.x.own (.inr (.inl rfl))).2 (by omega),Nat.lt_of_lt_of_le (HS.x.own (.inl rfl)).2 (by omega)⟩)
  clear ZU
  generalize w1.heap.size=c1 at*
  clear Si ji hx3 hS TR
  generalize World.alloc w2 _=U at*
  generalize w2.heap.size=bS at*
  have BI:=aa (show U.heap[bA]? =some (.cells #[.int .i64 (S.w:Int),.slice (some ⟨gB,0,none⟩) N cB,.slice (some ⟨gI,0,none⟩) N cI] 26 (0,0)) from (vS.bx (bA,#[.int .i64 (S.w:Int),.slice (some ⟨gB,0,none⟩) N cB,.slice (some ⟨gI,0,none⟩) N cI],26) (by simp)).1)
  have GM:=aa (HOW.aj GZ)
  have TT:=aa (GZ.keep Cb)
  have HgI:=aa (show ¬At g gI from fun e=>W9 (by rw [show gI=g from e];rfl))
  have HgA:=aa (show ¬At g bA from fun e=>(vS.bx (bA,#[.int .i64 (S.w:Int),.slice (some ⟨gB,0,none⟩) N cB,.slice (some ⟨gI,0,none⟩) N cI],26) (by simp)).2 (by obtain ⟨hnR,hq⟩:=HQ.out;exact .inr (.inr ⟨_,List.getElem_mem hnR,by rw [hq,show bA=g from e];rfl⟩)))
  obtain ⟨m1,hm1⟩:∃m1,m1=m - 1:=⟨_,rfl⟩
  have Cf:=aa hm1
  clear hm1
  have Px:=aa (Sg.aj GZ)
  refine aL [13] (fun w'=>Ext (At g) U w') (by kernel_rfl) ?_ (fun hHeld=>?_)
  ·exact bX
  have HE:=aa (show Ext No U U.drew from (Ext.refl _ _).drew)
  generalize U.drew=v0 at*
  refine uJ [0,1,2,3,4,5,6,7,8,9,10] hHeld ?_
  clear hHeld
  refine uF ?_
  refine uL ?_ (hy:=rX)
  iterate 2 refine uF ?_
  refine uL ?_ (hy:=rX)
  iterate 2 refine uF ?_
  refine uL ?_ (hy:=Dr)
  iterate 3 refine uF ?_
  refine uZ fun hHeld=>?_
  refine uN 11 fun K hK=>?_
  go_simp
  go_at_call 84
  refine (A8 base g m cap i L0 _ (ni GM.ok) (by have h9:=(GM.aj HE).own;rw [xP] at h9;exact h9) xP.symm him (by omega)).mono ?_
  rintro e1 vd ⟨rfl,hown,nJ⟩
  rw [←Cf] at hown ⊢
  go_simp
  refine uK hK (by intro _;exact (HE.lM (M:=At g)).trans nJ) ?_
  clear hK K hHeld
  intro hHeld
  have hI1:vd.ownsRow base 40 1 (.slice (some ⟨gI,0,none⟩) RL.length cI) RL.length (RL.map Prod.snd):=aZ (by have h9:=(vS.aC HE).x.i;rw [vG] at h9;exact h9) nJ (fun k hk e=>by rw [show k=g from e] at hk;exact HgI (Option.some.inj hk))
  have Ae:=aa hI1
  clear hI1
  refine uJ [12] hHeld ?_
  clear hHeld
  refine uF ?_
  refine uZ fun hHeld=>?_
  refine uN 13 fun K hK=>?_
  ((have q0:=World.ownsRow.cellAt Ae.out n (by have:=vG.out;omega));(have f0:=World.ownsRow.frozenAt Ae n);(rw [List.getElem?_eq_getElem (by rw [List.length_map];have:=vG.out;omega)] at q0);go_simp;(clear q0 f0))
  refine uK hK bz ?_
  clear hK K hHeld
  intro hHeld
  have qD:=aa (show nV W (vd.setCell ⟨gI,n,none⟩ (.slice (some ⟨g,0,none⟩) m1 cap)) [(bS,#[.int .i64 (S.w:Int),.slice d1 (nw S.w) e1,.int .i64 (S.w:Int),.slice d2 (nw S.w) e2,.slice d3 n3 e3],47),(bA,#[.int .i64 (S.w:Int),.slice (some ⟨gB,0,none⟩) N cB,.slice (some ⟨gI,0,none⟩) N cI],26)] base vd.heap.size (.slice (some ⟨gB,0,none⟩) N cB) (.slice (some ⟨gI,0,none⟩) N cI) RL LB (RL.set n ((L0.eraseIdx i),(.slice (some ⟨g,0,none⟩) m1 cap))) from by
   obtain ⟨hnR,hq⟩:=HQ.out
   exact (vS.aC HE).putRow vG.out hnR hq (nJ.mono (fun k _ e=>by rw [show k=g from e];rfl)) (by
    have h9:=hown.out
    rw [show m1=(L0.eraseIdx i).length from by rw [List.length_eraseIdx];have:=xP.out;have:=Cf.out;split<;>omega] at h9
    rw [show m1=(L0.eraseIdx i).length from by rw [List.length_eraseIdx];have:=xP.out;have:=Cf.out;split<;>omega]
    exact h9) (fun p hp=>kA.mono (kA.ext ((GM.aj HE).ok p (List.mem_of_mem_eraseIdx hp)) nJ (fun k _ e=> .inr (by rw [show k=g from e];rfl))) (fun k hk e=> .inl (MU (v':=(.slice (some ⟨g,0,none⟩) m1 cap)) hnR hq rfl hk e))) (.inl rfl))
  have Yi:=aa (show Ext (fun k=>k=g∨k=gI) U (vd.setCell ⟨gI,n,none⟩ (.slice (some ⟨g,0,none⟩) m1 cap)) from (HE.lM.trans (nJ.mono (fun k _ e=> .inl e))).trans (((Ext.refl (At gI) vd).setAt n (.slice (some ⟨g,0,none⟩) m1 cap)).mono (fun k _ e=> .inr e)))
  replace HS2:=aa (HS2.ext Yi (fun k _ e=>by rcases e with rfl|rfl;exact Tk.1;exact Tk.2.1))
  clear vS GM TT BI HE nJ hown Ae Yi Px
  generalize World.setCell vd _ _=U2 at*
  generalize vd.heap.size=Xb at*
  refine uE ?_
  skip
  go_upto_region 8 with (fail)
  have ZV:=aa (show aG No U2 (.slice ab (nw S.w) cb) S.w (dA S.bnd n) from by
   obtain ⟨KR,hq⟩:=HB1.out
   exact qD.x.rO KR hq (by omega) (HS.ok.ok.bn n))
  have Vn:=aa (show U2.cell? ⟨gB,n*2,none⟩=some (.int .i64 (S.w:Int))∧U2.cell? ⟨gB,n*2+1,none⟩=some (.slice ab (nw S.w) cb) from by
   obtain ⟨KR,hq⟩:=HB1.out
   have h9:=qD.x.qP qF.out KR
   rw [hq] at h9
   exact h9)
  have BI:=aa (show U2.heap[bA]? =some (.cells #[.int .i64 (S.w:Int),.slice (some ⟨gB,0,none⟩) N cB,.slice (some ⟨gI,0,none⟩) N cI] 26 (0,0)) from (qD.bx (bA,#[.int .i64 (S.w:Int),.slice (some ⟨gB,0,none⟩) N cB,.slice (some ⟨gI,0,none⟩) N cI],26) (by simp)).1)
  have Vo:=aa (show U2.heap[bS]? =some (.cells #[.int .i64 (S.w:Int),.slice d1 (nw S.w) e1,.int .i64 (S.w:Int),.slice d2 (nw S.w) e2,.slice d3 n3 e3] 47 (0,0)) from (qD.bx (bS,#[.int .i64 (S.w:Int),.slice d1 (nw S.w) e1,.int .i64 (S.w:Int),.slice d2 (nw S.w) e2,.slice d3 n3 e3],47) (by simp)).1)
  refine aL [14] (fun w'=>Ext No U2 w') (by kernel_rfl) ?_ (fun hHeld=>?_)
  ·exact bX
  have HE:=aa (show Ext No U2 U2.drew from (Ext.refl _ _).drew)
  generalize U2.drew=v0 at*
  refine uJ [0,1,2,3,4,5,6,7,8] hHeld ?_
  clear hHeld
  refine uF ?_
  refine uL ?_ (hy:=Di)
  refine uF ?_
  refine uL ?_ (hy:=(by intro w hSw;(have x0:=cellOf ((show Ext No U2 _ from hSw).blk Vo ax));go_simp;(try with_reducible rfl)))
  refine uF ?_
  refine uL ?_ (hy:=Di)
  iterate 2 refine uF ?_
  refine uL ?_ (hy:=xW)
  refine uZ fun hHeld=>?_
  refine uN 9 fun K hK=>?_
  (go_simp;(go_at_call 53);(refine (Ht (Lo v0.heap.size) (gm t) S.w (dA S.bnd n) _ _ _ _ _ Vm.2 (fun b e=>e) (HS2.no.aj HE) ((ZV).aj HE)).mono ?_);(rintro e0 va ⟨a6,c6,rfl,hs6,aF⟩);go_simp)
  refine uK hK eu ?_
  clear hK K hHeld
  intro hHeld
  have rE:=aa ((qD.aC (HE.af aF)).top)
  have NF:=aa (hs6.words.mono (M':=dW (.slice (some ⟨gB,0,none⟩) N cB) (.slice (some ⟨gI,0,none⟩) N cI) (RL.set n ((L0.eraseIdx i),(.slice (some ⟨g,0,none⟩) m1 cap))) va.heap.size base) (fun k hk e=>(qD.aC HE).x.clear hk e))
  replace HE:=aa (HE.af aF)
  clear aF
  refine uJ [10,11,12,13] hHeld ?_
  clear hHeld
  iterate 4 refine uF ?_
  refine uZ fun hHeld=>?_
  refine uN 14 fun K hK=>?_
  ((obtain ⟨q0,q1⟩:=rE.x.qP qF.out (t:=n) (by have:=qF.out;omega));(have f0:=rE.x.Cn qF (n*2));(have f1:=rE.x.Cn qF (n*2+1));go_simp;(clear q0 q1 f0 f1))
  refine uK hK bz ?_
  clear hK K hHeld
  intro hHeld
  have BJ:=aa (show nV W ((va.setCell ⟨gB,n*2,none⟩ (.int .i64 (S.w:Int))).setCell ⟨gB,n*2+1,none⟩ (.slice a6 (nw S.w) c6)) [(bS,#[.int .i64 (S.w:Int),.slice d1 (nw S.w) e1,.int .i64 (S.w:Int),.slice d2 (nw S.w) e2,.slice d3 n3 e3],47),(bA,#[.int .i64 (S.w:Int),.slice (some ⟨gB,0,none⟩) N cB,.slice (some ⟨gI,0,none⟩) N cI],26)] base va.heap.size (.slice (some ⟨gB,0,none⟩) N cB) (.slice (some ⟨gI,0,none⟩) N cI) RL (LB.set n (bJ S.w (bL (gm t) (dA S.bnd n)),.slice a6 (nw S.w) c6)) (RL.set n ((L0.eraseIdx i),(.slice (some ⟨g,0,none⟩) m1 cap))) from rE.Ad (p:=(bJ S.w (bL (gm t) (dA S.bnd n)),.slice a6 (nw S.w) c6)) qF (by have:=qF.out;omega) NF)
  replace HS2:=aa ((HS2.aj HE).ext (show Ext (At gB) va ((va.setCell ⟨gB,n*2,none⟩ (.int .i64 (S.w:Int))).setCell ⟨gB,n*2+1,none⟩ (.slice a6 (nw S.w) c6)) from ((Ext.refl _ _).setAt _ _).setAt _ _) (fun k _ e=>by rw [show k=gB from e];exact Tk.2.2))
  clear qD rE NF hs6 ZV Vn BI Vo HE
  generalize World.setCell (World.setCell va _ _) _ _=U3 at*
  generalize va.heap.size=Xc at*
  refine uE ?_
  skip
  go_upto_region 9 with (fail)
  have aaU:m1≤32:=by have:=Cf.out;omega
  obtain ⟨IB,GL⟩:∃IB,IB=LB.set n (bJ S.w (bL (gm t) (dA S.bnd n)),.slice a6 (nw S.w) c6):=⟨_,rfl⟩
  rw [←GL] at BJ
  have ZW:=aa GL
  clear GL
  obtain ⟨E,hE0⟩:∃E,E=(aR S n).eraseIdx i:=⟨_,rfl⟩
  have hEl:E.length=m1:=by rw [hE0,List.length_eraseIdx,if_pos HI1.out,←HM,Cf]
  have Tm:=aa hEl
  have Ww:=aa (show dP S.w S.ins.length E from by rw [hE0];exact HRO.erase)
  have Sj:=aa hE0
  clear hEl hE0
  have qA:=cellOf (show U3.heap[bA]? =some (.cells #[.int .i64 (S.w:Int),.slice (some ⟨gB,0,none⟩) N cB,.slice (some ⟨gI,0,none⟩) N cI] 26 (0,0)) from (BJ.bx (bA,#[.int .i64 (S.w:Int),.slice (some ⟨gB,0,none⟩) N cB,.slice (some ⟨gI,0,none⟩) N cI],26) (by simp)).1)
  have qI:U3.cell? ⟨gI,n,none⟩=some (.slice (some ⟨g,0,none⟩) m1 cap):=by
   have h:=BJ.x.kV (by rw [List.length_set];exact vG) (t:=n) (by rw [List.length_set];have:=vG.out;omega)
   rw [List.getElem_set_self] at h
   exact h
  go_wp2_with fail
  clear qA qI
  go_loopw [7,8,67] (fun _ _ s67 wr=>∃(k lim:Nat) (L:LA),s67= .int .i64 k∧k≤m1∧Hid (nV W wr [(bS,#[.int .i64 (S.w:Int),.slice d1 (nw S.w) e1,.int .i64 (S.w:Int),.slice d2 (nw S.w) e2,.slice d3 n3 e3],47),(bA,#[.int .i64 (S.w:Int),.slice (some ⟨gB,0,none⟩) N cB,.slice (some ⟨gI,0,none⟩) N cI],26)] base lim (.slice (some ⟨gB,0,none⟩) N cB) (.slice (some ⟨gI,0,none⟩) N cI) RL IB (RL.set n (L,(.slice (some ⟨g,0,none⟩) m1 cap))))∧Hid (L.length=m1)∧Hid (L.map fJ=aT (pG E (gm t) k))∧Hid (dF (Lo c1) wr (.slice d1 (nw S.w) e1) (.slice d2 (nw S.w) e2) (.slice d3 n3 e3) (gm t))) (fun _ _ s67 _=>m1 - (intOf s67).toNat)
  case atStart=>exact ⟨0,_,_,rfl,Nat.zero_le _,BJ,aa (by rw [List.length_eraseIdx,if_pos (by rw [xP];exact him),xP,Cf]),aa (by rw [Jj,Sj,aT,List.eraseIdx_eq_take_drop_succ,List.eraseIdx_eq_take_drop_succ,List.map_append,List.map_append,List.map_take,List.map_drop,G5,aT,List.map_take,List.map_drop]),HS2⟩
  clear BJ HS2
  obtain ⟨k,lim,L,rfl,hk,hR,vH,Yj,HS2⟩:=hrel
  rename World=>wr
  by_cases hlt:k < m1
  ·have hlz:(k:Int) < (m1:Int):=by omega
   have HKK:Hid (Value.int .i64 ((k:Int)+1)= .int .i64 ((k+1:Nat):Int)):=aa (by rw [show ((k+1:Nat):Int)=(k:Int)+1 from by omega])
   have Wx:=aa (show k < E.length from by rw [Tm];exact hlt)
   have Vl:k < L.length:=by rw [vH];exact hlt
   obtain ⟨⟨mm,f⟩,jq⟩:∃q:Nat×cK,q=E[k]'Wx.out:=⟨_,rfl⟩
   have oP:=aa (show (mm,f)=E[k]'Wx.out from jq)
   have GN:n < (RL.set n (L,(.slice (some ⟨g,0,none⟩) m1 cap))).length:=by rw [List.length_set];have:=vG.out;omega
   have ZX:fq No wr (.slice (some ⟨g,0,none⟩) m1 cap) (pG E (gm t) k):=by
    have h9:=hR.x.row GN
    rw [List.getElem_set_self] at h9
    exact ⟨L,h9,Yj⟩
   obtain ⟨b,off,cap',pY,cg2,xL,ck2,xM,xN,xO,hsl,gt,G6,hfw⟩:=fq.at (QH hw8 Ww Vm k) ZX (k:=k) (by rw [mK];exact Wx) (jq.trans (K6 Wx.out).symm)
   rw [mK,Tm] at hsl
   simp only [Value.slice.injEq,Option.some.injEq,Addr.mk.injEq,and_true,true_and] at hsl
   obtain ⟨⟨rfl,rfl⟩,rfl⟩:=hsl
   simp only [Nat.zero_add] at gt
   have PM:=aa gt.2
   have BI:=aa (show wr.heap[bA]? =some (.cells #[.int .i64 (S.w:Int),.slice (some ⟨gB,0,none⟩) N cB,.slice (some ⟨gI,0,none⟩) N cI] 26 (0,0)) from (hR.bx (bA,#[.int .i64 (S.w:Int),.slice (some ⟨gB,0,none⟩) N cB,.slice (some ⟨gI,0,none⟩) N cI],26) (by simp)).1)
   have Vo:=aa (show wr.heap[bS]? =some (.cells #[.int .i64 (S.w:Int),.slice d1 (nw S.w) e1,.int .i64 (S.w:Int),.slice d2 (nw S.w) e2,.slice d3 n3 e3] 47 (0,0)) from (hR.bx (bS,#[.int .i64 (S.w:Int),.slice d1 (nw S.w) e1,.int .i64 (S.w:Int),.slice d2 (nw S.w) e2,.slice d3 n3 e3],47) (by simp)).1)
   have IP:=aa (show wr.cell? ⟨gI,n,none⟩=some (.slice (some ⟨g,0,none⟩) m1 cap) from by
    have h:=hR.x.kV (by rw [List.length_set];exact vG) (t:=n) GN
    rw [List.getElem_set_self] at h
    exact h)
   clear gt jq ZX GN
   go_upto_region 12 with (fail)
   refine aL [22] (fun w'=>Ext No wr w') (by kernel_rfl) ?_ (fun hHeld=>?_)
   ·exact bX
   have HE:=aa (show Ext No wr wr.drew from (Ext.refl _ _).drew)
   generalize wr.drew=v0 at*
   refine uJ [0,1,2,3,4,5,6,7,8,9,10,11,12,13,14,15] hHeld ?_
   clear hHeld
   refine uF ?_
   refine uL ?_ (hy:=Dj)
   iterate 2 refine uF ?_
   refine uL ?_ (hy:=xX)
   iterate 2 refine uF ?_
   refine uL ?_ (hy:=Dj)
   iterate 2 refine uF ?_
   refine uL ?_ (hy:=xX)
   iterate 3 refine uF ?_
   refine uL ?_ (hy:=Dt)
   refine uL ?_ (hy:=(by intro w hSw;(have x0:=cellOf ((show Ext No wr _ from hSw).blk Vo ax));go_simp;(try with_reducible rfl)))
   refine uZ fun hHeld=>?_
   refine uN 16 fun K hK=>?_
   go_simp
   go_at_call 85
   refine (QI (Lo v0.heap.size) f (gm t) S.w _ _ _ _ _ _ _ hfw Vm.2 (fun b e=>e) hw8 (hR.aC HE).tab (G6.aj HE) (HS2.no.aj HE)).mono ?_
   rintro e0 va ⟨x1,y1,x2,y2,x3,z3,y3,rfl,hs6,aF⟩
   go_simp
   refine uK hK eu ?_
   clear hK K hHeld
   intro hHeld
   have rE:=aa ((hR.aC (HE.af aF)).top)
   have TU:=aa (show kA.ok (dW (.slice (some ⟨gB,0,none⟩) N cB) (.slice (some ⟨gI,0,none⟩) N cI) (RL.set n (L,(.slice (some ⟨g,0,none⟩) m1 cap))) va.heap.size base) va ((L[k].1,bM (gJ f (gm t)),Value.slice x1 (nw S.w) y1,Value.slice x2 (nw S.w) y2,Value.slice x3 z3 y3):Int×dS×Value×Value×Value) from hs6.raw.mono (fun i hi e=>(hR.aC HE).x.clear hi e))
   replace HE:=aa (HE.af aF)
   clear aF
   refine uJ [17,18,19,20,21] hHeld ?_
   clear hHeld
   iterate 5 refine uF ?_
   refine uZ fun hHeld=>?_
   refine uN 22 fun K hK=>?_
   ((obtain ⟨⟨u0,u1,u2,u3,u4,u5,q0,q1,q2,q3,q4,q5⟩,f0,f1,f2,f3,f4,f5⟩:=rE.x.xA (t:=n) (i:=k) (L:=L) (g:=g) (c:=cap) (N:=m1) (by rw [List.length_set];have:=vG.out;omega) (by rw [List.getElem_set_self]) vH.symm (by have:=vH.out;omega));go_simp;(clear q0 q1 q2 q3 q4 q5 f0 f1 f2 f3 f4 f5))
   refine uK hK bz ?_
   clear hK K hHeld
   intro hHeld
   have Km:=aa (show nV W (((((va.setCell ⟨g,k*6+1,none⟩ (.int .i64 (S.w:Int))).setCell ⟨g,k*6+2,none⟩ (.slice x1 (nw S.w) y1)).setCell ⟨g,k*6+3,none⟩ (.int .i64 (S.w:Int))).setCell ⟨g,k*6+4,none⟩ (.slice x2 (nw S.w) y2)).setCell ⟨g,k*6+5,none⟩ (.slice x3 z3 y3)) [(bS,#[.int .i64 (S.w:Int),.slice d1 (nw S.w) e1,.int .i64 (S.w:Int),.slice d2 (nw S.w) e2,.slice d3 n3 e3],47),(bA,#[.int .i64 (S.w:Int),.slice (some ⟨gB,0,none⟩) N cB,.slice (some ⟨gI,0,none⟩) N cI],26)] base va.heap.size (.slice (some ⟨gB,0,none⟩) N cB) (.slice (some ⟨gI,0,none⟩) N cI) RL IB (RL.set n (L.set k ((L[k].1,bM (gJ f (gm t)),Value.slice x1 (nw S.w) y1,Value.slice x2 (nw S.w) y2,Value.slice x3 z3 y3):Int×dS×Value×Value×Value),(.slice (some ⟨g,0,none⟩) m1 cap))) from by
    have h:=rE.xB (p:=((L[k].1,bM (gJ f (gm t)),Value.slice x1 (nw S.w) y1,Value.slice x2 (nw S.w) y2,Value.slice x3 z3 y3):Int×dS×Value×Value×Value)) (t:=n) (k:=k) (g:=g) (c:=cap) (L:=L) (by rw [List.length_set];exact vG) (by rw [List.length_set];have:=vG.out;omega) (by rw [List.getElem_set_self,vH]) (by have:=vH.out;omega) rfl TU.out
    rw [List.set_set,vH] at h
    have PI:(gJ f (gm t)).w=S.w:=hfw
    simp only [bM,bJ,PI] at h ⊢
    exact h)
   have NL:=aa ((HS2.aj HE).ext (show Ext (At g) va (((((va.setCell ⟨g,k*6+1,none⟩ (.int .i64 (S.w:Int))).setCell ⟨g,k*6+2,none⟩ (.slice x1 (nw S.w) y1)).setCell ⟨g,k*6+3,none⟩ (.int .i64 (S.w:Int))).setCell ⟨g,k*6+4,none⟩ (.slice x2 (nw S.w) y2)).setCell ⟨g,k*6+5,none⟩ (.slice x3 z3 y3)) from (((((Ext.refl _ _).setAt _ _).setAt _ _).setAt _ _).setAt _ _).setAt _ _) (fun j _ e=>by rw [show j=g from e];exact Tk.1))
   clear hR rE TU hs6 HS2 BI Vo PM IP HE G6
   generalize World.setCell (World.setCell (World.setCell (World.setCell (World.setCell va _ _) _ _) _ _) _ _) _ _=U5 at*
   generalize va.heap.size=acX at*
   refine uJ [23] hHeld ?_
   clear hHeld
   refine uF ?_
   refine uZ fun hHeld=>?_
   refine uE ?_
   go_wp2_with fail
   go_roundw
   case rel=>exact ⟨k+1,_,L.set k ((L[k].1,bM (gJ f (gm t)),Value.slice x1 (nw S.w) y1,Value.slice x2 (nw S.w) y2,Value.slice x3 z3 y3):Int×dS×Value×Value×Value),HKK,by omega,Km,aa (by rw [List.length_set];exact vH),Jk Yj.out Wx.out oP.out,NL⟩
   case measure=>simp [intOf];omega
  have hge:¬(k:Int) < (m1:Int):=by omega
  have hkm:k=m1:=by omega
  subst hkm
  go_wp2_with fail
  go_ret
  have YQ:n < S.ins.length:=by rw [←HN];exact hn
  have hres:dN S n=Nt S n (gm t):=by
   unfold dN
   rw [dif_pos (by rw [←HI];exact HI1)]
   simp only [←HI.out,←oP.out]
  refine ⟨rfl,lim,IB,RL.set n (L,.slice (some ⟨g,0,none⟩) k cap),aa ⟨hR.x,?_,?_,?_,?_⟩,hR.ext,hR.own⟩
  ·exact (adH HS.ok YQ).1
  ·exact Du
  ·rw [hres]
   show (RL.set n _).length=(S.ins.set n _).length
   rw [List.length_set,List.length_set]
   exact HS.len
  exact Dv
 have H1:=aa h1
 clear h1
 go_wp2_with fail
 go_ret
 have hres:dN S n=S:=by
  unfold dN
  rw [dif_neg H1.out]
 exact ⟨rfl,zb,LB,RL,aa (by rw [hres];exact ⟨hR2.x,HS.ok,HS.bnd,HS.len,HS.rows⟩),hR2.ext,hR2.own⟩

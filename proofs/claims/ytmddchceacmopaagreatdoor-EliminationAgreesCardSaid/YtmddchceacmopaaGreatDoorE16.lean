
import Derived.Test.YtmddchceacmopaaGreatDoorE14
set_option linter.unusedVariables false
set_option linter.unusedSimpArgs false
namespace Go.Proofs.YtmddchceacmopaaGreatDoor
open Go Go.RowKit
theorem jk.Hq {w w':World} {base lim:Nat} {vb:Value} {LB:LS} {RL:fe} {g c t:Nat} {gI cI NI:Nat} {L L':LA} (h:jk w base lim vb (.slice (some ⟨gI,0,none⟩) NI cI) LB RL) (rD:NI=RL.length) (ht:t < RL.length) (GV:RL[t]=(L,.slice (some ⟨g,0,none⟩) L.length c))
  (hE:Ext (At g) w w') (hown:w'.ownsRow base 49 6 (.slice (some ⟨g,0,none⟩) L.length c) L'.length (L'.flatMap kA.cells)) (hok:∀r∈L',kA.ok (dW vb (.slice (some ⟨gI,0,none⟩) NI cI) RL lim base) w r):
  jk w' base lim vb (.slice (some ⟨gI,0,none⟩) NI cI) LB (RL.set t (L',.slice (some ⟨g,0,none⟩) L.length c)):=by
 have hmem:=List.getElem_mem ht
 rw [GV] at hmem
 have Vk:∀i,At g i→Value.ownBlock (.slice (some ⟨g,0,none⟩) L.length c)=some i:=fun i e=>by rw [show i=g from e];rfl
 have Qe:∀i,At g i→dW vb (.slice (some ⟨gI,0,none⟩) NI cI) RL lim base i:=fun i e=> .inr (.inr (.inr (.inl ⟨_,hmem,Vk i e⟩)))
 have hnew:∀q∈RL.set t (L',.slice (some ⟨g,0,none⟩) L.length c),q=(L',.slice (some ⟨g,0,none⟩) L.length c)∨∃(j:Nat) (hj:j < RL.length),j≠t∧q=RL[j]:=fun q hq=>by
  obtain ⟨j,hj,rfl⟩:=List.getElem_of_mem hq
  have hj2:j < RL.length:=by simpa using hj
  by_cases e:t=j
  ·subst e;exact .inl (by rw [List.getElem_set_self])
  exact .inr ⟨j,hj2,fun e2=>e e2.symm,by rw [List.getElem_set_ne e]⟩
 have hblk:∀j (hj:j < RL.length) (hj2:j < (RL.set t (L',Value.slice (some ⟨g,0,none⟩) L.length c)).length),((RL.set t (L',Value.slice (some ⟨g,0,none⟩) L.length c))[j]).2=RL[j].2:=fun j hj hj2=>by
  rw [List.getElem_set]
  split
  ·next e=>subst e;rw [GV]
  rfl
 have hex:∀q∈RL.set t (L',Value.slice (some ⟨g,0,none⟩) L.length c),∃q'∈RL,q'.2=q.2:=fun q hq=>by
  obtain ⟨j,hj,rfl⟩:=List.getElem_of_mem hq
  have hj2:j < RL.length:=by simpa using hj
  exact ⟨_,List.getElem_mem hj2,(hblk j hj2 hj).symm⟩
 have hsub:∀i,dW vb (.slice (some ⟨gI,0,none⟩) NI cI) (RL.set t (L',.slice (some ⟨g,0,none⟩) L.length c)) lim base i→dW vb (.slice (some ⟨gI,0,none⟩) NI cI) RL lim base i:=fun i e=>by
  rcases e with e|e|e|⟨q,hq,e⟩|e
  ·exact .inl e
  ·exact .inr (.inl e)
  ·exact .inr (.inr (.inl e))
  ·obtain ⟨q',h1,h2⟩:=hex q hq
   exact .inr (.inr (.inr (.inl ⟨q',h1,by rw [h2];exact e⟩)))
  exact .inr (.inr (.inr (.inr e)))
 refine ⟨h.bl,Nat.le_trans h.lh hE.size,(h.b.gG hE (fun i hi e=>(h.br _ hmem i (Vk i e)).1 hi) (fun i _ e=>Qe i e)).mono (fun i _ e=>hsub i e),?_,fun q hq=>?_,h.bi,fun q hq k' hk'=>?_,fun i j hi hj hij k' hk'=>?_,h.lb,h.li,fun q hq k' hk'=>?_⟩
 ·have h1:=aZ h.i hE (fun k' hk' e=>(h.br _ hmem k' (Vk k' e)).2 hk')
  have h2:(RL.set t (L',Value.slice (some ⟨g,0,none⟩) L.length c)).map Prod.snd=RL.map Prod.snd:=by
   refine List.ext_getElem (by simp) (fun j h3 h4=>?_)
   have hj:j < RL.length:=by simpa using h4
   rw [List.getElem_map,List.getElem_map]
   exact hblk j hj (by simpa using hj)
  rw [List.length_set,h2]
  exact h1
 ·rcases hnew q hq with rfl|⟨j,hj,hne,rfl⟩
  ·refine ⟨hown,fun r hr2=>?_⟩
   have hokr:=hok r hr2
   exact C9
  exact Da
 ·obtain ⟨q',h1,h2⟩:=hex q hq
  exact h.br q' h1 k' (by rw [h2];exact hk')
 ·have hi2:i < RL.length:=by simpa using hi
  have hj2:j < RL.length:=by simpa using hj
  rw [hblk i hi2 hi] at hk'
  rw [hblk j hj2 hj]
  exact h.zN i j hi2 hj2 hij k' hk'
 obtain ⟨q',h1,h2⟩:=hex q hq
 exact h.lr q' h1 k' (by rw [h2];exact hk')
theorem jk.lower {w:World} {base base' lim:Nat} {vb vi:Value} {LB:LS} {RL:fe} (h:jk w base lim vb vi LB RL) (hb:base'≤base):jk w base' lim vb vi LB RL:=by
 have hm:∀i,i < w.heap.size→dW vb vi RL lim base' i→dW vb vi RL lim base i:=fun i _ e=>by
  rcases e with e|e
  ·exact .inl (by omega)
  exact .inr e
 exact ⟨Nat.le_trans hb h.bl,h.lh,⟨dY h.b.own hb,(h.b.mono hm).ok⟩,dY h.i hb,fun p hp=>⟨dY (h.r p hp).own hb,((h.r p hp).mono hm).ok⟩,h.bi,h.br,h.zN,h.lb,h.li,h.lr⟩
structure CkM (V wr:World) (D lim x:Nat) (vb vi:Value) (LB:LS) (RL:fe):Prop where
 ext:Ext No V wr
 box:wr.heap[D]? =some (.cells #[.int .i64 (x:Int),vb,vi] 26 (0,0))
 x:jk wr V.heap.size lim vb vi LB RL
 low:V.heap.size≤D
 db:vb.ownBlock≠some D
 di:vi.ownBlock≠some D
 dr:∀p∈RL,p.2.ownBlock≠some D
section
variable {V wr w':World} {D lim x lim':Nat} {vb vi v':Value} {LB:LS} {RL:fe}
theorem CkM.aC (h:CkM V wr D lim x vb vi LB RL) (hx:Ext No wr w'):CkM V w' D lim x vb vi LB RL:=⟨h.ext.af hx,hx.blk h.box ax,h.x.aC hx,h.low,h.db,h.di,h.dr⟩
theorem CkM.lift (h:CkM V wr D lim x vb vi LB RL) (h1:lim≤lim') (h2:lim'≤wr.heap.size):CkM V wr D lim' x vb vi LB RL:=⟨h.ext,h.box,h.x.lift h1 h2,h.low,h.db,h.di,h.dr⟩
theorem CkM.Ad {g c t N:Nat} {p:bC×Value} (hN:N=LB.length) (h:CkM V wr D lim x (.slice (some ⟨g,0,none⟩) N c) vi LB RL) (ht:t < LB.length) (hp:aU (dW (.slice (some ⟨g,0,none⟩) N c) vi RL lim V.heap.size) wr p.2 p.1.words):
  CkM V ((wr.setCell ⟨g,t*2,none⟩ (.int .i64 p.1.width)).setCell ⟨g,t*2+1,none⟩ p.2) D lim x (.slice (some ⟨g,0,none⟩) N c) vi (LB.set t p) RL:=by
 have hE:Ext (At g) wr ((wr.setCell ⟨g,t*2,none⟩ (.int .i64 p.1.width)).setCell ⟨g,t*2+1,none⟩ p.2):=((Ext.refl (At g) wr).setAt _ _).setAt _ _
 have hg:=h.x.low.1 g rfl
 exact ⟨h.ext.aJ hE (fun i hi e=>by unfold At at e;omega),hE.blk h.box (fun e=>h.db (by rw [show D=g from e];rfl)),h.x.Ad hN ht hp,h.low,h.db,h.di,h.dr⟩
theorem CkM.putRow {g c t N:Nat} {L':LA} {q:LA×Value} (hN:N=RL.length) (h:CkM V wr D lim x vb (.slice (some ⟨g,0,none⟩) N c) LB RL) (ht:t < RL.length) (hq:RL[t]=q)
  (hx:Ext (fun k=>q.2.ownBlock=some k) wr w') (hown:w'.ownsRow V.heap.size 49 6 v' L'.length (L'.flatMap kA.cells)) (hok:∀p∈L',kA.ok (dW vb (.slice (some ⟨g,0,none⟩) N c) RL lim V.heap.size) w' p)
  (hv:v'.ownBlock=q.2.ownBlock∨∀k,v'.ownBlock=some k→wr.heap.size≤k):
  CkM V (w'.setCell ⟨g,t,none⟩ v') D w'.heap.size x vb (.slice (some ⟨g,0,none⟩) N c) LB (RL.set t (L',v')):=by
 have hmem:=List.getElem_mem ht
 rw [hq] at hmem
 have hE:Ext (At g) w' (w'.setCell ⟨g,t,none⟩ v'):=(Ext.refl (At g) w').setAt _ _
 have hg:=h.x.low.2.1 g rfl
 have hDl:=lt_of_block h.box
 refine ⟨(h.ext.aJ hx (fun i hi e=>by have:=h.x.low.2.2 q hmem i e;omega)).aJ hE (fun i hi e=>by unfold At at e;omega),hE.blk (hx.blk h.box (fun e=>h.dr q hmem e)) (fun e=>h.di (by rw [show D=g from e];rfl)),h.x.putRow hN ht hq hx hown hok hv,h.low,h.db,h.di,fun p hp e=>?_⟩
 rcases List.mem_or_eq_of_mem_set hp with hp|rfl
 ·exact h.dr p hp e
 rcases hv with hv|hv
 ·exact h.dr q hmem (by rw [←hv];exact e)
 have:=hv D e;omega
theorem CkM.Hq {g c t:Nat} {gI cI NI:Nat} {L L':LA} (h:CkM V wr D lim x vb (.slice (some ⟨gI,0,none⟩) NI cI) LB RL) (rD:NI=RL.length) (ht:t < RL.length) (GV:RL[t]=(L,.slice (some ⟨g,0,none⟩) L.length c))
  (hE:Ext (At g) wr w') (hown:w'.ownsRow V.heap.size 49 6 (.slice (some ⟨g,0,none⟩) L.length c) L'.length (L'.flatMap kA.cells)) (hok:∀r∈L',kA.ok (dW vb (.slice (some ⟨gI,0,none⟩) NI cI) RL lim V.heap.size) wr r):
  CkM V w' D lim x vb (.slice (some ⟨gI,0,none⟩) NI cI) LB (RL.set t (L',.slice (some ⟨g,0,none⟩) L.length c)):=by
 have hmem:=List.getElem_mem ht
 rw [GV] at hmem
 have hg:=h.x.low.2.2 _ hmem g rfl
 refine ⟨h.ext.aJ hE (fun i hi e=>by unfold At at e;omega),hE.blk h.box (fun e=>h.dr _ hmem (by rw [show D=g from e];rfl)),h.x.Hq rD ht GV hE hown hok,h.low,h.db,h.di,fun p hp e=>?_⟩
 rcases List.mem_or_eq_of_mem_set hp with hp|rfl
 ·exact h.dr p hp e
 exact h.dr _ hmem e
end

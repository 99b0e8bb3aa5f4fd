
import Derived.Test.YtmddchceacmopaaGreatDoorH10
set_option linter.unusedVariables false
set_option linter.unusedSimpArgs false
namespace Go.Proofs.YtmddchceacmopaaGreatDoor
open Go Go.RowKit
abbrev LA:=List (Int×dS×Value×Value×Value)
def kA:EK (Int×dS×Value×Value×Value) where
 s:=6
 T:= 49
 cells:=fun p=>[.int .i64 p.1,.int .i64 p.2.1.gen.width,p.2.2.1,.int .i64 p.2.1.kill.width,p.2.2.2.1,p.2.2.2.2]
 ok:=fun M w p=>bN M w p.2.2.1 p.2.2.2.1 p.2.2.2.2 p.2.1
 len:=fun _=>rfl
 ext:=fun h hx hm=>h.ext hx hm
 mono:=fun h hm=>h.mono hm
def kL:EK (LA×Value) where
 s:=1
 T:= 40
 cells:=fun p=>[p.2]
 ok:=fun M w p=>jb kA M w p.2 p.1
 len:=fun _=>rfl
 ext:=fun h hx hm=>h.ext hx hm
 mono:=fun h hm=>h.mono hm
theorem jb.Yo {M:Nat→Prop} {w:World} {sl:Value} {L:LA} (h:jb kA M w sl L) {i:Nat} (hi:i < L.length):∃b off cap,sl= .slice (some ⟨b,off,none⟩) L.length cap∧b < w.heap.size∧¬M b∧
  ∀k (hk:k < L.length),w.cell? ⟨b,off+k*6,none⟩=some (.int .i64 L[k].1)∧w.cell? ⟨b,off+k*6+1,none⟩=some (.int .i64 L[k].2.1.gen.width)∧w.cell? ⟨b,off+k*6+2,none⟩=some L[k].2.2.1∧w.cell? ⟨b,off+k*6+3,none⟩=some (.int .i64 L[k].2.1.kill.width)∧w.cell? ⟨b,off+k*6+4,none⟩=some L[k].2.2.2.1∧w.cell? ⟨b,off+k*6+5,none⟩=some L[k].2.2.2.2:=by
 obtain ⟨b,off,cap,h1,h2,h3,h4⟩:=h.at hi
 exact ⟨b,off,cap,h1,h2,h3,fun k hk=>⟨h4 k hk 0 _ (by decide) rfl,h4 k hk 1 _ (by decide) rfl,h4 k hk 2 _ (by decide) rfl,h4 k hk 3 _ (by decide) rfl,h4 k hk 4 _ (by decide) rfl,h4 k hk 5 _ (by decide) rfl⟩⟩
theorem jb.atL {M:Nat→Prop} {w:World} {sl:Value} {L:List (LA×Value)} (h:jb kL M w sl L) {i:Nat} (hi:i < L.length):∃b off cap,sl= .slice (some ⟨b,off,none⟩) L.length cap∧b < w.heap.size∧¬M b∧
  ∀k (hk:k < L.length),w.cell? ⟨b,off+k,none⟩=some L[k].2:=by
 exact EQ
def mF (S:mU) (i:Nat):List (Int×dS):=(kP S i).map fun (m:Nat)=>((m:Int),bM (xR S m))
def fJ (p:Int×dS×Value×Value×Value):Int×dS:=(p.1,p.2.1)
set_option maxHeartbeats 1000000 in
theorem J4 (x z:Int) (r:dS) (g1 k1 c1:Value) (g:Nat) (W:World) (h:bN No W g1 k1 c1 r) (h0:W.cell? ⟨g,0,none⟩=some (.int .i64 x)):
  Calls Tryz.prog 35 #[.agg #[.int .i64 z,.int .i64 r.gen.width,g1,.int .i64 r.kill.width,k1,c1],.pointer (some ⟨g,0,none⟩)] W (kz (¬Af x r) W):=by
 have H:=aa h
 obtain ⟨ag,ng,cg,rfl⟩:=h.gen.shaped
 obtain ⟨ak,nk,ck,rfl⟩:=h.kill.shaped
 obtain ⟨ac,nc,cc,rfl⟩:=h.copies.shaped
 clear h
 have hx0:Ext No W (W.alloc (.cells #[.int .i64 z,.int .i64 r.gen.width,.slice ag ng cg,.int .i64 r.kill.width,.slice ak nk ck,.slice ac nc cc] 49)):=(Ext.refl _ _).alloc _
 have c0:=hx0.keep h0
 have abe:=World.block_lt_of_cell? W _ h0
 go_enter Tryz.func35,Tryz.ntmps35
 go_wp2_with fail
 refine (Ru x r _ _ _ _ (H.aj hx0)).mono ?_
 rintro e1 w1 ⟨bb,rfl,hbb,hx1⟩
 have HY:=aa (hx0.af hx1)
 clear hx1 hx0 c0 h0
 cases bb with
 |true=>
  have qM:=aa (iG hbb)
  clear hbb
  go_wp2_with fail
  go_ret
  exact aP (fun e=>e qM) HY
 |false=>
  have qM:=aa (ig hbb)
  clear hbb
  go_wp2_with fail
  go_ret
  exact iw qM HY
set_option maxRecDepth 100000 in
set_option maxHeartbeats 2000000 in
theorem LP (x:Int) (g:Nat) (sl:Value) (L:LA) (W:World) (h:jb kA No W sl L) (h0:W.cell? ⟨g,0,none⟩=some (.int .i64 x)):
  Calls Tryz.prog 77 #[sl,.func (.func 35) #[] #[.pointer (some ⟨g,0,none⟩)]] W fun e w'=>(∃z:Int,e= .returned (.int .i64 z)∧(0≤z↔∃(k:Nat) (hk:k < L.length),¬Af x L[k].2.1))∧Ext No W w':=by
 have H:=aa h
 obtain ⟨a,cap,rfl⟩:=h.slice
 have hlen:=h.row.2.1
 clear h
 go_enter Tryz.func77,Tryz.ntmps77
 go_wp2_with fail
 go_loopw [5,8] (fun _ i wr=>∃k:Nat,k≤L.length∧i= .int .i64 k∧Ext No W wr∧Hid (∀j (hj:j < L.length),j < k→¬¬Af x L[j].2.1)) (fun _ i _=>L.length - (intOf i).toNat)
 case atStart=>exact mY
 obtain ⟨k,hk,rfl,hx,hm⟩:=hrel
 by_cases hlt:k < L.length
 ·obtain ⟨b,off,cap',hsl,hb1,_,hcell⟩:=H.Yo hlt
  simp only [Value.slice.injEq] at hsl
  obtain ⟨rfl,_,rfl⟩:=hsl
  have hq:=hcell k hlt
  have hok:=H.ok L[k] (List.getElem_mem hlt)
  clear hcell
  obtain ⟨p,hp⟩:∃p,p=L[k]:=⟨_,rfl⟩
  rw [←hp] at hq hok
  have HP:=aa hp
  clear hp
  obtain ⟨qz,q0,q1,q2,q3,q4⟩:=hq
  replace qz:=hx.keep qz
  replace q0:=hx.keep q0
  replace q1:=hx.keep q1
  replace q2:=hx.keep q2
  replace q3:=hx.keep q3
  replace q4:=hx.keep q4
  obtain ⟨pa,pc,hpe⟩:=hok.gen.slice
  obtain ⟨pd,pf,hpg⟩:=hok.kill.slice
  obtain ⟨ph,pi,hpj⟩:=Row.slice hok.copies
  rw [hpe] at q1
  rw [hpg] at q3
  rw [hpj] at q4
  have Ac:=aa hok
  clear hok
  have Zw:=aa (And.intro hpe (And.intro hpg hpj))
  have c0:=hx.keep h0
  clear hpe hpg hpj
  go_wp2_with fail
  go_at_call 35
  refine (J4 x p.1 p.2.1 _ _ _ g _ (by rw [←Zw.1,←Zw.2.1,←Zw.2.2];exact Ac.aj hx) (hx.keep h0)).mono ?_
  exact ER
 exact ES
theorem uP (x:Int) (g:Nat) (sl:Value) (L:LA) (W:World) (h:jb kA No W sl L) (h0:W.cell? ⟨g,0,none⟩=some (.int .i64 x)):
  Calls Tryz.prog 34 #[sl,.func (.func 35) #[] #[.pointer (some ⟨g,0,none⟩)]] W (kz (∃(k:Nat) (hk:k < L.length),¬Af x L[k].2.1) W):=by
 go_enter Tryz.func34,Tryz.ntmps34
 go_wp2_with fail
 refine (LP x g _ L _ h h0).mono ?_
 exact ET
end Go.Proofs.YtmddchceacmopaaGreatDoor

namespace Go.Proofs.YtmddchceacmopaaGreatDoor
open Go Go.RowKit
theorem Uv {S:mU} (hS:qR S) {k:Nat} (hk:k < S.deps.length):oI (dh (kP S k)) S.deps.length:=
 hS.uq _ (by simp [kP,hk])
end Go.Proofs.YtmddchceacmopaaGreatDoor

namespace Go.Proofs.YtmddchceacmopaaGreatDoor
open Go Go.RowKit
def HA (X:Nat) (vB vC:Value):Nat→Prop:=fun b=>b≤X∨vB.ownBlock=some b∨vC.ownBlock=some b
end Go.Proofs.YtmddchceacmopaaGreatDoor

namespace Go.Proofs.YtmddchceacmopaaGreatDoor
open Go Go.RowKit
theorem Hf:(Tryz.prog.info? 49).map (fun i=>(i.zero,i.size,i.bytes))=some (some (.agg #[.int .i64 0,.int .i64 0,.slice none 0 0,.int .i64 0,.slice none 0 0,.slice none 0 0]),6,96):=by kernel_rfl
theorem QK:(Tryz.prog.info? 40).map (fun i=>(i.zero,i.size,i.bytes))=some (some (.slice none 0 0),1,24):=by kernel_rfl
end Go.Proofs.YtmddchceacmopaaGreatDoor

namespace Go.Proofs.YtmddchceacmopaaGreatDoor
open Go Go.RowKit
theorem QL {M:Nat→Prop} {W:World} {t:cK} {w:Nat} {sg sk sc:Value} (hw:t.w=w) (hg:aG M W sg w t.gen) (hk:aG M W sk w t.kill) (hc:fo M W sc t.copies):bN M W sg sk sc (bM t):=by
 subst hw;exact ⟨hg.words,hk.words,hc⟩
theorem Ov {S:mU} {k j m:Nat} {L:LA} {x:Int×dS×Value×Value×Value} (h:L.map fJ=(mF S k).take j) (hj:j < (kP S k).length) (hm:m=(kP S k)[j]) (hx:fJ x=((m:Int),bM (xR S m))):(L++[x]).map fJ=(mF S k).take (j+1):=by
 have hj2:j < (mF S k).length:=by simp [mF,hj]
 rw [List.map_append,h,List.take_succ_eq_append_getElem hj2]
 simp [hx,mF,hm]
theorem Ra {S:mU} {k:Nat} {L:LA} {v:Value} {LI:List (LA×Value)} (h:∀i (h:i < LI.length),LI[i].1.map fJ=mF S i) (hk:LI.length=k) (hL:L.map fJ=mF S k):∀i (h:i < (LI++[(L,v)]).length),(LI++[(L,v)])[i].1.map fJ=mF S i:=by
 intro i hi
 rw [List.length_append,List.length_singleton] at hi
 rcases Nat.lt_or_ge i LI.length with hlt|hge
 ·rw [List.getElem_append_left hlt];exact h i hlt
 have e:i=LI.length:=by omega
 subst e
 rw [List.getElem_append_right (Nat.le_refl _)]
 simp [hk,hL]
end Go.Proofs.YtmddchceacmopaaGreatDoor

namespace Go.Proofs.YtmddchceacmopaaGreatDoor
open Go Go.RowKit
def HP (P:Nat→Prop) (vB vC:Value):Nat→Prop:=fun b=>P b∨vB.ownBlock=some b∨vC.ownBlock=some b
theorem UH {P:Nat→Prop} {vB vC:Value} {i:Nat} (e:HP P vB vC i):HP P vC vB i:=by
 rcases e with e|e|e
 ·exact .inl e
 ·exact .inr (.inr e)
 exact .inr (.inl e)
structure Ky {β γ:Type} (K1:EK β) (K2:EK γ) (wr:World) (P:Nat→Prop) (B:Nat) (vB vC:Value) (LB:List β) (LC:List γ):Prop where
 b:cZ K1 (HP P vB vC) wr B vB LB
 c:cZ K2 (HP P vB vC) wr B vC LC
 bc:∀k,vB.ownBlock=some k→vC.ownBlock≠some k
section
variable {β γ:Type} {K1:EK β} {K2:EK γ} {wr w':World} {P:Nat→Prop} {B:Nat} {vB vC v':Value} {LB:List β} {LC:List γ} {p:β} {q:γ}
theorem Ky.step {M:Nat→Prop} (h:Ky K1 K2 wr P B vB vC LB LC) (hx:Ext M wr w') (hM:∀i,i < wr.heap.size→M i→P i∧i < B):Ky K1 K2 w' P B vB vC LB LC:=
 ⟨h.b.gG hx (fun i hi e=>by have h1:=h.b.lt i hi;have:=(hM i h1.2 e).2;omega) (fun i hi e=> .inl (hM i hi e).1),h.c.gG hx (fun i hi e=>by have h1:=h.c.lt i hi;have:=(hM i h1.2 e).2;omega) (fun i hi e=> .inl (hM i hi e).1),h.bc⟩
theorem Ky.hM (h:Ky K1 K2 wr P B vB vC LB LC) (hX:∀b,P b→b < wr.heap.size):∀b,HP P vB vC b→b < wr.heap.size:=fun b hb=>by
 rcases hb with hb|hb|hb
 ·exact hX b hb
 ·exact (h.b.lt b hb).2
 exact (h.c.lt b hb).2
theorem Ky.Xr (h:Ky K1 K2 wr P B vB vC LB LC) (hp:K1.ok (HP P vB vC) wr p) (hown:w'.ownsRow B K1.T K1.s v' (LB.length+1) (LB.flatMap K1.cells++K1.cells p)) (hg:wr.grownBy w' vB.ownBlock) (hv:v'.ownBlock=vB.ownBlock∨v'.ownBlock=some wr.heap.size):Ky K1 K2 w' P B v' vC (LB++[p]) LC:=by
 have hE:Ext (fun k=>vB.ownBlock=some k) wr w':=(Ext.refl _ wr).grown hg (fun k hk _=>hk)
 have I4:∀i,i < wr.heap.size→HP P v' vC i→HP P vB vC i:=fun i hi e=>by
  rcases e with e|e|e
  ·exact .inl e
  ·rcases hv with hv|hv
   ·rw [hv] at e;exact .inr (.inl e)
   rw [hv] at e;simp only [Option.some.injEq] at e;omega
  exact .inr (.inr e)
 have h2:cZ K1 (HP P vB vC) w' B v' (LB++[p]):=h.b.app (E:=fun k=>vB.ownBlock=some k) (K1.mono hp (fun i _ e=>by
  rcases e with e|e
  ·exact e
  exact .inr (.inl e))) hown hE (fun _ e=>e) (hv.imp id (fun hv k hk=>by rw [hv] at hk;simp only [Option.some.injEq] at hk;omega))
 have h3:cZ K1 (HP P v' vC) w' B v' (LB++[p]):=⟨h2.own,fun q hq=>K1.mono (h2.ok q hq) (fun i _ e=>by
  rcases e with (e|e|e)|e
  ·exact .inl (.inl e)
  ·exact .inr e
  ·exact .inl (.inr (.inr e))
  exact .inr e)⟩
 have h4:cZ K2 (fun b=>HP P v' vC b∨vB.ownBlock=some b) wr B vC LC:=h.c.mono (fun i hi e=>by
  rcases e with e|e
  ·exact I4 i hi e
  exact .inr (.inl e))
 refine ⟨h3,(h4.gG hE (fun i hi e=>h.bc i e hi) (fun i _ e=> .inr e)).mono (fun i _ e=> .inl e),fun k hk e=>?_⟩
 rcases hv with hv|hv
 ·rw [hv] at hk;exact h.bc k hk e
 rw [hv] at hk;simp only [Option.some.injEq] at hk;have:=(h.c.lt k e).2;omega
theorem Ky.swap (h:Ky K1 K2 wr P B vB vC LB LC):Ky K2 K1 wr P B vC vB LC LB:=
 ⟨h.c.mono (fun i _ e=>by rcases e with e|e|e;exact .inl e;exact .inr (.inr e);exact .inr (.inl e)),h.b.mono (fun i _ e=>by rcases e with e|e|e;exact .inl e;exact .inr (.inr e);exact .inr (.inl e)),fun k hk e=>h.bc k e hk⟩
theorem Ky.acg (h:Ky K1 K2 wr P B vB vC LB LC) (hp:K2.ok (HP P vB vC) wr q) (hown:w'.ownsRow B K2.T K2.s v' (LC.length+1) (LC.flatMap K2.cells++K2.cells q)) (hg:wr.grownBy w' vC.ownBlock) (hv:v'.ownBlock=vC.ownBlock∨v'.ownBlock=some wr.heap.size):Ky K1 K2 w' P B vB v' LB (LC++[q]):=
 (h.swap.Xr (K2.mono hp (fun _ _ e=>UH e)) hown hg hv).swap
end
def PW (W:World) (O:Nat):Nat→Prop:=fun b=>b=W.heap.size+1∨b=O
structure IZ (W wr:World) (O:Nat) (S:mU) (vd vt vb vB vI:Value) (cO:Array Value) (LB:LS) (LI:List (LA×Value)):Prop where
 ext:Ext No W wr
 vO:wr.heap[W.heap.size]? =some (.cells #[.int .i64 (S.w:Int),vd,vt,vb] 55 (0,0))
 lN:wr.heap[W.heap.size+1]? =some (.cells #[.int .i64 0,.slice none 0 0,.slice none 0 0] 26 (0,0))
 Ag:wr.heap[O]? =some (.cells cO 26 (0,0))
 two:Ky kS kL wr (PW W O) (W.heap.size+2) vB vI LB LI
 nO:∀k,(vB.ownBlock=some k∨vI.ownBlock=some k)→k≠O
 low:W.heap.size+1 < O
section
variable {W wr w':World} {O:Nat} {S:mU} {vd vt vb vB vI v':Value} {cO:Array Value} {LB:LS} {LI:List (LA×Value)} {q:LA×Value}
theorem IZ.hP (h:IZ W wr O S vd vt vb vB vI cO LB LI):∀b,PW W O b→b < wr.heap.size:=fun b e=>by
 rcases e with e|e
 ·rw [e];exact lt_of_block h.lN
 rw [e];exact lt_of_block h.Ag
theorem IZ.hot (h:IZ W wr O S vd vt vb vB vI cO LB LI):∀b,HP (PW W O) vB vI b→b < wr.heap.size:=h.two.hM h.hP
theorem IZ.aC (h:IZ W wr O S vd vt vb vB vI cO LB LI) (hx:Ext No wr w'):IZ W w' O S vd vt vb vB vI cO LB LI:=
 ⟨h.ext.af hx,hx.blk h.vO ax,hx.blk h.lN ax,hx.blk h.Ag ax,h.two.step hx (fun i _ e=>e.elim),h.nO,h.low⟩
theorem IZ.abB (h:IZ W wr O S vd vt vb vB vI cO LB LI) (j:Nat) (u:Value):IZ W (wr.setCell ⟨O,j,none⟩ u) O S vd vt vb vB vI (cO.setIfInBounds j u) LB LI:=by
 have hx:Ext (At O) wr (wr.setCell ⟨O,j,none⟩ u):=(Ext.refl (At O) _).setAt _ _
 have h1:=h.low
 have h2:cZ kS (HP (PW W O) vB vI) (wr.setCell ⟨O,j,none⟩ u) (W.heap.size+2) vB LB:=h.two.b.gG hx (fun i hi e=>by unfold At at e;exact h.nO i (.inl hi) e) (fun i _ e=> .inl (.inr e))
 have h3:cZ kL (HP (PW W O) vB vI) (wr.setCell ⟨O,j,none⟩ u) (W.heap.size+2) vI LI:=h.two.c.gG hx (fun i hi e=>by unfold At at e;exact h.nO i (.inr hi) e) (fun i _ e=> .inl (.inr e))
 exact ⟨h.ext.aJ hx (fun i hi e=>by unfold At at e;omega),hx.blk h.vO (by unfold At;omega),hx.blk h.lN (by unfold At;omega),az h.Ag,⟨h2,h3,h.two.bc⟩,h.nO,h1⟩
theorem IZ.abA (h:IZ W wr O S vd vt vb vB vI cO LB LI) (hp:kL.ok (HP (PW W O) vB vI) wr q) (hown:w'.ownsRow (W.heap.size+2) kL.T kL.s v' (LI.length+1) (LI.flatMap kL.cells++kL.cells q)) (hg:wr.grownBy w' vI.ownBlock) (hv:v'.ownBlock=vI.ownBlock∨v'.ownBlock=some wr.heap.size):
  IZ W w' O S vd vt vb vB v' cO LB (LI++[q]):=by
 have hx:Ext (fun k=>vI.ownBlock=some k) wr w':=(Ext.refl _ wr).grown hg (fun k hk _=>hk)
 have hlo:∀i,vI.ownBlock=some i→W.heap.size+2≤i:=fun i hi=>(h.two.c.lt i hi).1
 have h1:=h.low
 have h2:=lt_of_block h.Ag
 refine ⟨h.ext.aJ hx (fun i hi e=>by have:=hlo i e;omega),hx.blk h.vO (fun e=>by have:=hlo _ e;omega),hx.blk h.lN (fun e=>by have:=hlo _ e;omega),hx.blk h.Ag (fun e=>h.nO _ (.inr e) rfl),h.two.acg hp hown hg hv,fun k hk=>?_,h1⟩
 rcases hk with hk|hk
 ·exact h.nO k (.inl hk)
 rcases hv with hv|hv
 ·rw [hv] at hk;exact h.nO k (.inr hk)
 rw [hv] at hk;simp only [Option.some.injEq] at hk;omega
end
end Go.Proofs.YtmddchceacmopaaGreatDoor

namespace Go.Proofs.YtmddchceacmopaaGreatDoor
open Go Go.RowKit
section
variable {P:Program} (w:World)
theorem zl {o:Oper} {a:Act} {K:Act→World→Prop} {Q:Exit→Act→World→Prop} (s x:Operand) (t:TypeId)
  (ho:o.op= .call { callee:= .builtin .append,args:=#[s,x],argTypes:=#[t,t] })
  (e:TypeId) (i:TypeInfo) (z:Value) (size bytes:Nat) (ht:P.underlying t=some (.slice e)) (hi:P.info? e=some i) (hz:i.zero=some z)
  (hsize:i.size=size) (hby:i.bytes=bytes) (hzs:z.cells.size=size) (hsz:0 < size)
  (M0:Nat→Prop) (b0:Addr) (n:Nat) (olds:List Value) (hs:a.eval s= .slice (some b0) n n) (hro:Row M0 w size (.slice (some b0) n n) n olds)
  (M:Nat→Prop) (A:Option Addr) (m c:Nat) (news:List Value) (hx:a.eval x= .slice A m c) (hr:Row M w size (.slice A m c) m news)
  (hm:0 < m) (h63:n+m≤9223372036854775807) (hbytes:(n+m)*bytes≤140737488355328)
  (h:∀v' w',w'.ownsRow w.heap.size e size v' (n+m) (olds++news)→w.grownBy w' none→K (a.put o.dst v') w'):o.wp P a w K Q:=by
 obtain ⟨hl,hc⟩:=hr.src
 obtain ⟨hlo,hco⟩:=hro.src
 rcases hc with ⟨h0,_⟩|⟨ad,rfl,hcells⟩
 ·omega
 have holds:∀j u,olds[j]? =some u→w.cell? (b0.add j)=some u:=by
  intro j u hj
  rcases hco with ⟨_,h0⟩|⟨ad',h0,h2⟩
  ·rw [h0] at hj;simp at hj
  cases h0;exact h2 j u hj
 obtain ⟨v',w',hrun,r1,r2⟩:=run_append_arg_grows (P:=P) w t o.type e i z size bytes ht hi hz hsize hby hzs hsz b0 n n olds hlo holds ad m c news hl hcells (by omega) (by simp only [maxLen];omega) hbytes
 unfold Oper.wp execOp
 simp only [ho,resolve,invoke,builtin,Sem.run_bind,Sem.run_pure,Result.andThen_ok,List.map_toArray,List.map_cons,List.map_nil,hs,hx,hrun]
 exact h v' w' r1 r2
end
end Go.Proofs.YtmddchceacmopaaGreatDoor

namespace Go.Proofs.YtmddchceacmopaaGreatDoor
open Go Go.RowKit
theorem VT (w:World) (C:Nat) (a b c:Value):Ext (At C) w (((w.setCell ⟨C,0,none⟩ (a)).setCell ⟨C,1,none⟩ (b)).setCell ⟨C,2,none⟩ (c)):=(((Ext.refl (At C) w).setAt 0 a).setAt 1 b).setAt 2 c
theorem VU {w:World} {C:Nat} {T:TypeId} {x0 x1 x2:Value} (h:w.heap[C]? =some (.cells #[x0,x1,x2] T (0,0))) (a b c:Value):(((w.setCell ⟨C,0,none⟩ (a)).setCell ⟨C,1,none⟩ (b)).setCell ⟨C,2,none⟩ (c)).heap[C]? =some (.cells #[a,b,c] T (0,0)):=
 (az (j:=2) (az (j:=1) (az (j:=0) h))).trans rfl
end Go.Proofs.YtmddchceacmopaaGreatDoor

namespace Go.Proofs.YtmddchceacmopaaGreatDoor
open Go Go.RowKit
structure bD where
 w:Nat
 ins:List (List (Nat×cK))
 bnd:List Nat
def dR (l:List (Nat×cK)):List Nat:=l.map Prod.fst
structure nI (S:bD):Prop where
 w:S.w≤256
 n1:1≤S.ins.length
 n2:S.ins.length≤256
 lb:S.bnd.length=S.ins.length
 uq:∀l∈S.ins,(dR l).Pairwise (· < ·)
 lt:∀l∈S.ins,∀p∈l,p.1 < S.ins.length
 tot:(S.ins.map List.length).sum≤1024
 jX:∀l∈S.ins,∀p∈l,eO p.2∧p.2.w=S.w
 bnd:∀m∈S.bnd,m < 2 ^ S.w
def aR (S:bD) (i:Nat):List (Nat×cK):=(S.ins[i]?).getD []
section
variable {S:bD}
theorem wH {i:Nat} (hi:i < S.ins.length):aR S i=S.ins[i]:=by simp [aR,hi]
theorem Jv {i:Nat} {p:Nat×cK} (hp:p∈aR S i):∃h:i < S.ins.length,p∈S.ins[i]:=by
 unfold aR at hp
 rcases Nat.lt_or_ge i S.ins.length with h|h
 ·refine ⟨h,?_⟩
  rw [List.getElem?_eq_getElem h] at hp
  exact hp
 rw [List.getElem?_eq_none h] at hp
 cases hp
theorem nI.tr (h:nI S) {i:Nat} {p:Nat×cK} (hp:p∈aR S i):eO p.2∧p.2.w=S.w:=by
 obtain ⟨hi,hp⟩:=Jv hp
 exact h.jX _ (List.getElem_mem hi) _ hp
theorem nI.dep (h:nI S) {i:Nat} {p:Nat×cK} (hp:p∈aR S i):p.1 < S.ins.length:=by
 obtain ⟨hi,hp⟩:=Jv hp
 exact h.lt _ (List.getElem_mem hi) _ hp
theorem nI.bn (h:nI S) (i:Nat):dA S.bnd i < 2 ^ S.w:=by
 exact EU
end
end Go.Proofs.YtmddchceacmopaaGreatDoor

namespace Go.Proofs.YtmddchceacmopaaGreatDoor
open Go Go.RowKit
def aT (l:List (Nat×cK)):List (Int×dS):=l.map fun p=>((p.1:Int),bM p.2)
def fq (M:Nat→Prop) (W:World) (sl:Value) (l:List (Nat×cK)):Prop:=∃L:LA,jb kA M W sl L∧L.map fJ=aT l
structure je (M:Nat→Prop) (W:World) (vb vi:Value) (S:bD):Prop where
 ok:nI S
 bnd:fM M W vb S.w S.bnd
 ex:∃Li:List (LA×Value),jb kL M W vi Li∧Li.length=S.ins.length∧∀i (h:i < Li.length),Li[i].1.map fJ=aT (aR S i)
section
variable {M M':Nat→Prop} {W W':World} {vb vi sl:Value} {S:bD} {i:Nat} {l:List (Nat×cK)}
theorem fq.ext (h:fq M W sl l) (hx:Ext M' W W') (hm:∀i,i < W.heap.size→M' i→M i):fq M W' sl l:=by
 obtain ⟨L,h1,h2⟩:=h;exact ⟨L,h1.ext hx hm,h2⟩
theorem fq.aj (h:fq M W sl l) (hx:Ext No W W'):fq M W' sl l:=h.ext hx (fun _ _ x=>x.elim)
theorem fq.mono (h:fq M W sl l) (hm:∀i,i < W.heap.size→M' i→M i):fq M' W sl l:=by
 obtain ⟨L,h1,h2⟩:=h;exact ⟨L,h1.mono hm,h2⟩
theorem fq.no (h:fq M W sl l):fq No W sl l:=h.mono (fun _ _ x=>x.elim)
theorem fq.slice (h:fq M W sl l):∃a c,sl= .slice a l.length c:=by
 obtain ⟨L,h1,h2⟩:=h
 obtain ⟨a,c,e⟩:=h1.slice
 have e2:=congrArg List.length h2
 simp only [List.length_map,aT] at e2
 exact ⟨a,c,by rw [e,e2]⟩
theorem je.ext (h:je M W vb vi S) (hx:Ext M' W W') (hm:∀i,i < W.heap.size→M' i→M i):je M W' vb vi S:=by
 obtain ⟨Li,h1,h2⟩:=h.ex;exact ⟨h.ok,h.bnd.ext hx hm,Li,h1.ext hx hm,h2⟩
theorem je.aj (h:je M W vb vi S) (hx:Ext No W W'):je M W' vb vi S:=h.ext hx (fun _ _ x=>x.elim)
theorem je.mono (h:je M W vb vi S) (hm:∀i,i < W.heap.size→M' i→M i):je M' W vb vi S:=by
 obtain ⟨Li,h1,h2⟩:=h.ex;exact ⟨h.ok,h.bnd.mono hm,Li,h1.mono hm,h2⟩
theorem je.no (h:je M W vb vi S):je No W vb vi S:=h.mono (fun _ _ x=>x.elim)
theorem je.slices (h:je M W vb vi S):∃ab cb ai ci,vb= .slice ab S.ins.length cb∧vi= .slice ai S.ins.length ci:=by
 obtain ⟨ab,cb,e1⟩:=h.bnd.slice
 obtain ⟨Li,h1,h2,_⟩:=h.ex
 obtain ⟨ai,ci,e2⟩:=h1.slice
 exact ⟨ab,cb,ai,ci,by rw [e1,h.ok.lb],by rw [e2,h2]⟩
theorem je.Nn (h:je M W vb vi S) (hi:i < S.ins.length):∃b off cap a c,vi= .slice (some ⟨b,off,none⟩) S.ins.length cap∧W.cell? ⟨b,off+i,none⟩=some (.slice a (aR S i).length c)∧Hid (fq M W (.slice a (aR S i).length c) (aR S i)):=by
 obtain ⟨Li,h1,h2,h3⟩:=h.ex
 have hi2:i < Li.length:=by omega
 obtain ⟨b,off,cap,g1,_,_,g4⟩:=h1.atL hi2
 have g5:fq M W Li[i].2 (aR S i):=⟨Li[i].1,h1.ok _ (List.getElem_mem hi2),h3 i hi2⟩
 obtain ⟨a,c,g6⟩:=g5.slice
 exact ⟨b,off,cap,a,c,by rw [g1,h2],by rw [g4 i hi2,g6],g6▸g5⟩
theorem fq.at {w:Nat} (hr:∀p∈l,eO p.2∧p.2.w=w) (h:fq M W sl l) {k m:Nat} {f:cK} (hk:k < l.length) (hm:(m,f)=l[k]):∃b off cap ag cg ak ck ac n cc,sl= .slice (some ⟨b,off,none⟩) l.length cap∧
  (W.cell? ⟨b,off+k*6,none⟩=some (.int .i64 (m:Int))∧W.cell? ⟨b,off+k*6+1,none⟩=some (.int .i64 (w:Int))∧W.cell? ⟨b,off+k*6+2,none⟩=some (.slice ag (nw w) cg)∧W.cell? ⟨b,off+k*6+3,none⟩=some (.int .i64 (w:Int))∧W.cell? ⟨b,off+k*6+4,none⟩=some (.slice ak (nw w) ck)∧W.cell? ⟨b,off+k*6+5,none⟩=some (.slice ac n cc))∧
  Hid (dF M W (.slice ag (nw w) cg) (.slice ak (nw w) ck) (.slice ac n cc) f)∧Hid (f.w=w):=by
 obtain ⟨L,h1,h2⟩:=h
 have e2:=congrArg List.length h2
 simp only [List.length_map,aT] at e2
 have hk2:k < L.length:=by omega
 obtain ⟨b,off,cap,g1,_,_,g4⟩:=h1.Yo hk2
 have g5:bN M W L[k].2.2.1 L[k].2.2.2.1 L[k].2.2.2.2 L[k].2.1:=h1.ok _ (List.getElem_mem hk2)
 have g6:fJ L[k]=((m:Int),bM f):=by
  have:=congrArg (fun l=>l[k]?) h2
  simp only [List.getElem?_map,List.getElem?_eq_getElem hk2,aT,List.getElem?_eq_getElem hk,Option.map_some,Option.some.injEq] at this
  rw [this,←hm]
 have g6a:L[k].1=(m:Int):=congrArg Prod.fst g6
 have Wy:L[k].2.1=bM f:=congrArg Prod.snd g6
 obtain ⟨g7,g8⟩:=hr _ (List.getElem_mem hk)
 rw [←hm] at g7 g8
 simp only at g7 g8
 rw [Wy] at g5
 have g9:=g5.tr g7
 obtain ⟨ag,cg,k1⟩:=g9.gen.slice
 obtain ⟨ak,ck,k2⟩:=g9.kill.slice
 obtain ⟨ac,cc,k3⟩:=Row.slice g9.copies
 rw [k1,k2,k3] at g9
 rw [g8] at g9 k1 k2
 obtain ⟨cz,c0,c1,c2,c3,c4⟩:=g4 k hk2
 refine ⟨b,off,cap,ag,cg,ak,ck,ac,_,cc,by rw [g1,e2],⟨by rw [cz,g6a],?_,?_,?_,?_,?_⟩,g9,g8⟩
 ·rw [c0,Wy];show some (Value.int .i64 ((f.w:Nat):Int))=_;rw [g8]
 ·rw [c1,k1]
 ·rw [c2,Wy];show some (Value.int .i64 ((f.w:Nat):Int))=_;rw [g8]
 ·rw [c3,k2]
 rw [c4,k3]
end
end Go.Proofs.YtmddchceacmopaaGreatDoor

namespace Go.Proofs.YtmddchceacmopaaGreatDoor
open Go Go.RowKit
abbrev bP:=List (Nat×cK)
def oh (l:bP) (n:Nat):Nat:=l.findIdx (fun p=>p.1==n)
theorem qW {l:bP} {n:Nat} (h:oh l n < l.length):l[oh l n].1=n:=by
 have:=List.findIdx_getElem (p:=fun p:Nat×cK=>p.1==n) (w:=h)
 exact eq_of_beq this
theorem Rv {l:bP} {n:Nat} (h:¬oh l n < l.length):∀p∈l,p.1≠n:=fun p hp e=>by
 refine h ?_
 unfold oh
 rw [List.findIdx_lt_length]
 exact ⟨p,hp,by simpa using e⟩
theorem Uk {l:bP} {n j:Nat} (h:j < oh l n) (hj:j < l.length):l[j].1≠n:=by
 have:=List.not_of_lt_findIdx (p:=fun p:Nat×cK=>p.1==n) (xs:=l) (i:=j) h
 simpa using this
def GK (l:bP) (a:Nat×cK):bP:=l.takeWhile (fun p=>p.1 < a.1)++a::l.dropWhile (fun p=>p.1 < a.1)
def vL (l:bP) (a:Nat×cK):bP:=if h:oh l a.1 < l.length then l.set (oh l a.1) (a.1,jZ l[oh l a.1].2 a.2) else GK l a
def Nt (S:bD) (n:Nat) (s:cK):bD:=⟨S.w,S.ins.set n (((aR S n).eraseIdx (oh (aR S n) n)).map fun p=>(p.1,gJ p.2 s)),S.bnd.set n (bL s (dA S.bnd n))⟩
def dN (S:bD) (n:Nat):bD:=if h:oh (aR S n) n < (aR S n).length then Nt S n (gm (aR S n)[oh (aR S n) n].2) else S
def jg (rn:bP) (h:cK) (l:bP):bP:=rn.foldl (fun l p=>vL l (p.1,gJ p.2 h)) l
def pU (R:bD) (n t:Nat):bP:=if h:t≠n∧oh (aR R t) n < (aR R t).length then jg (aR R n) (aR R t)[oh (aR R t) n].2 ((aR R t).eraseIdx (oh (aR R t) n)) else aR R t
def pV (R:bD) (n t:Nat):Nat:=if h:t≠n∧oh (aR R t) n < (aR R t).length then gP (dA R.bnd t) (bL (aR R t)[oh (aR R t) n].2 (dA R.bnd n)) else dA R.bnd t
def qQ (R:bD) (n:Nat):bD:=⟨R.w,(List.range R.ins.length).map (pU R n),(List.range R.ins.length).map (pV R n)⟩
def jK (S:bD) (n:Nat):bD:=qQ (dN S n) n
structure dP (w n:Nat) (l:bP):Prop where
 uq:(dR l).Pairwise (· < ·)
 lt:∀p∈l,p.1 < n
 jX:∀p∈l,eO p.2∧p.2.w=w
theorem Jw {n:Nat}:∀(l:List Nat) (m:Nat),l.Pairwise (· < ·)→(∀x∈l,m≤x∧x < n)→l.length≤n - m
 |[],_,_,_=>Nat.zero_le _
 |x::l,m,h,hb=>by
  have h1:=List.pairwise_cons.1 h
  have h2:=hb x (List.mem_cons_self ..)
  have h3:=Jw l (x+1) h1.2 (fun y hy=>⟨h1.1 y hy,(hb y (List.mem_cons_of_mem _ hy)).2⟩)
  rw [List.length_cons];omega
theorem dP.len {w n:Nat} {l:bP} (h:dP w n l):l.length≤n:=by
 have:=Jw (n:=n) (dR l) 0 h.uq (fun x hx=>by
  obtain ⟨p,hp,rfl⟩:=List.mem_map.1 hx
  exact ⟨Nat.zero_le _,h.lt p hp⟩)
 simpa [dR] using this
theorem vV {w:Nat} {f g:cK} (h8:w≤8) (hf:eO f∧f.w=w) (hg:eO g∧g.w=w):eO (gJ f g)∧(gJ f g).w=w:=by
 obtain ⟨hf,e1⟩:=hf
 obtain ⟨hg,e2⟩:=hg
 have Xt:bL g f.gen < 2 ^ f.w:=by
  have:=Le hg (s:=f.gen) (by rw [e2,←e1];exact hf.gen)
  rw [e2,←e1] at this
  exact this
 exact ⟨adN (by omega) Xt (Nat.le_trans (nD _ _ _ _) (show _*_≤8*8 from Nat.mul_le_mul (by omega) (by omega))),e1⟩
theorem UI {w:Nat} {f g:cK} (h8:w≤8) (hf:eO f∧f.w=w) (hg:eO g∧g.w=w):eO (jZ f g)∧(jZ f g).w=w:=by
 obtain ⟨hf,e1⟩:=hf
 obtain ⟨hg,e2⟩:=hg
 exact ⟨adN (by omega) (pX hf.gen (by rw [e1,←e2];exact hg.gen)) (Nat.le_trans (nD _ _ _ _) (show _*_≤8*8 from Nat.mul_le_mul (by omega) (by omega))),e1⟩
theorem Hr {w:Nat} {f:cK} (h8:w≤8) (hf:eO f∧f.w=w):eO (gm f)∧(gm f).w=w:=by
 obtain ⟨hf,e1⟩:=hf
 exact ⟨adN (by omega) ((jE (vW hf) hf.gen).lt) (Nat.le_trans (nD _ _ _ _) (show _*_≤8*8 from Nat.mul_le_mul (by omega) (by omega))),e1⟩
theorem dP.erase {w n i:Nat} {l:bP} (h:dP w n l):dP w n (l.eraseIdx i):=
 ⟨h.uq.sublist ((List.eraseIdx_sublist l i).map _),fun p hp=>h.lt p (List.mem_of_mem_eraseIdx hp),fun p hp=>h.jX p (List.mem_of_mem_eraseIdx hp)⟩
theorem Ar {l:bP} (h:(dR l).Pairwise (· < ·)) {i j:Nat} (hi:i < l.length) (hj:j < l.length) (hij:i < j):l[i].1 < l[j].1:=by
 have:=List.pairwise_iff_getElem.1 h i j (by simpa [dR] using hi) (by simpa [dR] using hj) hij
 simpa [dR] using this
theorem dP.ach {w n:Nat} {l:bP} {s:cK} (h8:w≤8) (h:dP w n l) (hs:eO s∧s.w=w):dP w n (l.map fun p=>(p.1,gJ p.2 s)):=by
 refine ⟨?_,fun p hp=>?_,fun p hp=>?_⟩
 ·have e:dR (l.map fun p=>(p.1,gJ p.2 s))=dR l:=by simp [dR,List.map_map,Function.comp_def]
  rw [e];exact h.uq
 ·obtain ⟨q,hq,rfl⟩:=List.mem_map.1 hp
  exact h.lt q hq
 obtain ⟨q,hq,rfl⟩:=List.mem_map.1 hp
 exact vV h8 (h.jX q hq) hs
theorem Au {l:bP} {x:Nat}:∀p∈l.takeWhile (fun p=>p.1 < x),p.1 < x:=fun p hp=>by
 have:=List.all_eq_true.1 (List.all_takeWhile (p:=fun p:Nat×cK=>decide (p.1 < x)) (l:=l)) p hp
 simpa using this
theorem AV:∀{l:bP} {x:Nat},(dR l).Pairwise (· < ·)→(∀p∈l,p.1≠x)→∀p∈l.dropWhile (fun p=>p.1 < x),x < p.1
 |[],_,_,_,p,hp=>by cases hp
 |q::l,x,h,hn,p,hp=>by
  have h1:(∀y∈dR l,q.1 < y)∧(dR l).Pairwise (· < ·):=List.pairwise_cons.1 h
  by_cases e:q.1 < x
  ·rw [List.dropWhile_cons_of_pos (by simpa using e)] at hp
   exact AV h1.2 (fun p hp=>hn p (List.mem_cons_of_mem _ hp)) p hp
  rw [List.dropWhile_cons_of_neg (by simpa using e)] at hp
  have h2:=hn q (List.mem_cons_self ..)
  rcases List.mem_cons.1 hp with rfl|hp
  ·omega
  have:=h1.1 p.1 (List.mem_map.2 ⟨p,hp,rfl⟩)
  omega
theorem dP.ins {w n:Nat} {l:bP} {a:Nat×cK} (h:dP w n l) (ha:a.1 < n) (hs:eO a.2∧a.2.w=w) (hn:∀p∈l,p.1≠a.1):dP w n (GK l a):=by
 have hmem:∀p∈GK l a,p=a∨p∈l:=fun p hp=>by
  rcases List.mem_append.1 hp with hp|hp
  ·exact .inr (List.takeWhile_sublist _ |>.subset hp)
  rcases List.mem_cons.1 hp with hp|hp
  ·exact .inl hp
  exact .inr (List.dropWhile_sublist _ |>.subset hp)
 refine ⟨?_,fun p hp=>?_,fun p hp=>?_⟩
 ·unfold GK dR
  rw [List.map_append,List.map_cons,List.pairwise_append,List.pairwise_cons]
  refine ⟨h.uq.sublist ((List.takeWhile_sublist _).map _),⟨fun y hy=>?_,h.uq.sublist ((List.dropWhile_sublist _).map _)⟩,fun x hx y hy=>?_⟩
  ·obtain ⟨q,hq,rfl⟩:=List.mem_map.1 hy
   exact AV h.uq hn q hq
  obtain ⟨p,hp,rfl⟩:=List.mem_map.1 hx
  have h1:=Au p hp
  rcases List.mem_cons.1 hy with rfl|hy
  ·exact h1
  obtain ⟨q,hq,rfl⟩:=List.mem_map.1 hy
  have:=AV h.uq hn q hq
  omega
 ·rcases hmem p hp with rfl|hp
  ·exact ha
  exact h.lt p hp
 rcases hmem p hp with rfl|hp
 ·exact hs
 exact h.jX p hp
theorem dP.put {w n:Nat} {l:bP} {a:Nat×cK} (h8:w≤8) (h:dP w n l) (ha:a.1 < n) (hs:eO a.2∧a.2.w=w):dP w n (vL l a):=by
 unfold vL
 split
 ·rename_i hi
  have hf:=qW hi
  refine ⟨?_,fun p hp=>?_,fun p hp=>?_⟩
  ·have e:dR (l.set (oh l a.1) (a.1,jZ l[oh l a.1].2 a.2))=dR l:=by
    unfold dR
    rw [List.map_set]
    refine List.ext_getElem (by simp) (fun j h1 h2=>?_)
    rw [List.getElem_set]
    split
    ·rename_i e;subst e;simp [hf]
    rfl
   rw [e];exact h.uq
  ·rcases List.mem_or_eq_of_mem_set hp with hp|rfl
   ·exact h.lt p hp
   exact ha
  rcases List.mem_or_eq_of_mem_set hp with hp|rfl
  ·exact h.jX p hp
  exact UI h8 (h.jX _ (List.getElem_mem hi)) hs
 rename_i hi
 exact h.ins ha hs (Rv hi)
theorem qg {w n:Nat} {h:cK} (h8:w≤8) (hh:eO h∧h.w=w):∀(rn l:bP),dP w n rn→dP w n l→dP w n (jg rn h l)
 |[],_,_,hl=>hl
 |p::rn,l,hr,hl=>qg h8 hh rn _ ⟨(List.pairwise_cons.1 hr.uq).2,fun q hq=>hr.lt q (List.mem_cons_of_mem _ hq),fun q hq=>hr.jX q (List.mem_cons_of_mem _ hq)⟩ (hl.put h8 (hr.lt p (List.mem_cons_self ..)) (vV h8 (hr.jX p (List.mem_cons_self ..)) hh))
end Go.Proofs.YtmddchceacmopaaGreatDoor

namespace Go.Proofs.YtmddchceacmopaaGreatDoor
open Go Go.RowKit
structure eY (S:bD):Prop where
 ok:nI S
 w8:S.w≤8
 n8:S.ins.length≤32
theorem nI.row {S:bD} (h:nI S) (i:Nat):dP S.w S.ins.length (aR S i):=by
 refine ⟨?_,fun p hp=>h.dep hp,fun p hp=>h.tr hp⟩
 rcases Nat.lt_or_ge i S.ins.length with hi|hi
 ·rw [wH hi];exact h.uq _ (List.getElem_mem hi)
 unfold aR
 rw [List.getElem?_eq_none hi]
 exact List.Pairwise.nil
theorem EW:∀(l:List bP) (n:Nat),(∀x∈l,x.length≤n)→(l.map List.length).sum≤l.length*n
 |[],_,_=>Nat.zero_le _
 |x::l,n,h=>by
  have h1:=EW l n (fun y hy=>h y (List.mem_cons_of_mem _ hy))
  have h2:=h x (List.mem_cons_self ..)
  rw [List.map_cons,List.sum_cons,List.length_cons,Nat.succ_mul];omega
theorem sD {w:Nat} {ins:List bP} {bnd:List Nat} (h8:w≤8) (h1:1≤ins.length) (h2:ins.length≤32) (hb:bnd.length=ins.length) (hr:∀l∈ins,dP w ins.length l) (hm:∀m∈bnd,m < 2 ^ w):eY ⟨w,ins,bnd⟩:=
 ⟨⟨Nat.le_trans h8 (by decide),h1,Nat.le_trans h2 (by decide),hb,fun l hl=>(hr l hl).uq,fun l hl=>(hr l hl).lt,by
  have:=EW ins 32 (fun x hx=>Nat.le_trans (hr x hx).len h2)
  have h3:ins.length*32≤32*32:=Nat.mul_le_mul h2 (Nat.le_refl _)
  simp only
  omega,fun l hl=>(hr l hl).jX,hm⟩,h8,h2⟩
theorem Jo {S:bD} {n i:Nat} {l:bP} {b:List Nat} (hn:n < S.ins.length):aR ⟨S.w,S.ins.set n l,b⟩ i=if i=n then l else aR S i:=by
 unfold aR
 simp only
 rw [List.getElem?_set]
 by_cases e:n=i
 ·subst e;simp [hn]
 rw [if_neg e,if_neg (fun h=>e h.symm)]
theorem UJ {S:bD} {n:Nat} {s:cK} (h:eY S) (hn:n < S.ins.length) (hs:eO s∧s.w=S.w):eY (Nt S n s):=by
 refine sD h.w8 (by simpa using h.ok.n1) (by simpa using h.n8) (by simp [h.ok.lb]) (fun l hl=>?_) (fun m hm=>?_)
 ·rw [List.length_set]
  rcases List.mem_or_eq_of_mem_set hl with hl|rfl
  ·obtain ⟨i,hi,rfl⟩:=List.getElem_of_mem hl
   rw [←wH hi];exact h.ok.row i
  exact (h.ok.row n).erase.ach h.w8 hs
 rcases List.mem_or_eq_of_mem_set hm with hm|rfl
 ·exact h.ok.bnd m hm
 have:=Le hs.1 (s:=dA S.bnd n) (by rw [hs.2];exact h.ok.bn n)
 rw [hs.2] at this
 exact this
theorem adH {S:bD} {n:Nat} (h:eY S) (hn:n < S.ins.length):eY (dN S n)∧(dN S n).w=S.w∧(dN S n).ins.length=S.ins.length:=by
 unfold dN
 split
 ·rename_i hi
  exact ⟨UJ h hn (Hr h.w8 ((h.ok.row n).jX _ (List.getElem_mem hi))),rfl,by simp [Nt]⟩
 exact ⟨h,rfl,rfl⟩
theorem LQ {R:bD} {n:Nat} (h:eY R) (t:Nat):dP R.w R.ins.length (pU R n t):=by
 unfold pU
 split
 ·rename_i hi
  exact qg h.w8 ((h.ok.row t).jX _ (List.getElem_mem hi.2)) _ _ (h.ok.row n) (h.ok.row t).erase
 exact h.ok.row t
theorem LU {R:bD} {n:Nat} (h:eY R) (t:Nat):pV R n t < 2 ^ R.w:=by
 unfold pV
 split
 ·rename_i hi
  obtain ⟨h1,h2⟩:=(h.ok.row t).jX _ (List.getElem_mem hi.2)
  have:=Le h1 (s:=dA R.bnd n) (by rw [h2];exact h.ok.bn n)
  rw [h2] at this
  exact pX (h.ok.bn t) this
 exact h.ok.bn t
theorem AL {R:bD} {n:Nat} (h:eY R):eY (qQ R n):=by
 refine sD h.w8 (by simpa using h.ok.n1) (by simpa using h.n8) (by simp) (fun l hl=>?_) (fun m hm=>?_)
 ·obtain ⟨i,_,rfl⟩:=List.mem_map.1 hl
  simp only [List.length_map,List.length_range]
  exact LQ h i
 obtain ⟨i,_,rfl⟩:=List.mem_map.1 hm
 exact LU h i
theorem M5 {S:bD} {n:Nat} (h:eY S) (hn:n < S.ins.length):eY (jK S n)∧(jK S n).w=S.w∧(jK S n).ins.length=S.ins.length:=by
 obtain ⟨h1,h2,h3⟩:=adH h hn
 exact ⟨AL h1,h2,by simp [jK,qQ,h3]⟩
def dJ (S:bD) (keep:Nat→Bool):Nat→bD
 |0=>S
 |k+1=>if keep k then dJ S keep k else jK (dJ S keep k) k
theorem ny {S:bD} {keep:Nat→Bool} (h:eY S):∀k,k≤S.ins.length→eY (dJ S keep k)∧(dJ S keep k).w=S.w∧(dJ S keep k).ins.length=S.ins.length
 |0,_=>⟨h,rfl,rfl⟩
 |k+1,hk=>by
  obtain ⟨h1,h2,h3⟩:=ny (keep:=keep) h k (by omega)
  rw [dJ]
  split
  ·exact ⟨h1,h2,h3⟩
  obtain ⟨g1,g2,g3⟩:=M5 h1 (n:=k) (by omega)
  exact ⟨g1,by rw [g2,h2],by rw [g3,h3]⟩
end Go.Proofs.YtmddchceacmopaaGreatDoor

namespace Go.Proofs.YtmddchceacmopaaGreatDoor
open Go Go.RowKit
abbrev fe:=List (LA×Value)
def dW (vb vi:Value) (RL:fe) (lim base:Nat):Nat→Prop:=fun b=>b < base∨vb.ownBlock=some b∨vi.ownBlock=some b∨(∃p∈RL,p.2.ownBlock=some b)∨lim≤b
structure jk (w:World) (base lim:Nat) (vb vi:Value) (LB:LS) (RL:fe):Prop where
 bl:base≤lim
 lh:lim≤w.heap.size
 b:cZ kS (dW vb vi RL lim base) w base vb LB
 i:w.ownsRow base 40 1 vi RL.length (RL.map Prod.snd)
 r:∀p∈RL,cZ kA (dW vb vi RL lim base) w base p.2 p.1
 bi:∀k,vb.ownBlock=some k→vi.ownBlock≠some k
 br:∀p∈RL,∀k,p.2.ownBlock=some k→vb.ownBlock≠some k∧vi.ownBlock≠some k
 zN:∀i j (hi:i < RL.length) (hj:j < RL.length),i≠j→∀k,RL[i].2.ownBlock=some k→RL[j].2.ownBlock≠some k
 lb:∀k,vb.ownBlock=some k→k < lim
 li:∀k,vi.ownBlock=some k→k < lim
 lr:∀p∈RL,∀k,p.2.ownBlock=some k→k < lim
section
variable {w w' w1 w2:World} {base lim lim':Nat} {vb vi v':Value} {LB:LS} {RL:fe}
theorem qX:∀RL:fe,RL.flatMap kL.cells=RL.map Prod.snd
 |[]=>rfl
 |p::R=>by rw [List.flatMap_cons,qX R];rfl
theorem jk.aC (h:jk w base lim vb vi LB RL) (hx:Ext No w w'):jk w' base lim vb vi LB RL:=
 ⟨h.bl,Nat.le_trans h.lh hx.size,h.b.aj hx,aZ h.i hx (fun _ _ x=>x),fun p hp=>(h.r p hp).aj hx,h.bi,h.br,h.zN,h.lb,h.li,h.lr⟩
theorem jk.low (h:jk w base lim vb vi LB RL):(∀k,vb.ownBlock=some k→base≤k)∧(∀k,vi.ownBlock=some k→base≤k)∧(∀p∈RL,∀k,p.2.ownBlock=some k→base≤k):=
 ⟨fun k hk=>(h.b.lt k hk).1,fun k hk=>(World.ownsRow.lt h.i k hk).1,fun p hp k hk=>((h.r p hp).lt k hk).1⟩
theorem jk.vU {M:Nat→Prop} (h:jk w base lim vb vi LB RL) (hx:Ext M w w') (hM:∀i,i < w.heap.size→M i→i < base):jk w' base lim vb vi LB RL:=by
 obtain ⟨g1,g2,g3⟩:=h.low
 have h1:=h.bl
 have h2:=h.lh
 exact ⟨h.bl,Nat.le_trans h.lh hx.size,h.b.gG hx (fun i hi e=>by have:=hM i (h.b.lt i hi).2 e;have:=g1 i hi;omega) (fun i hi e=> .inl (hM i hi e)),aZ h.i hx (fun k hk e=>by have:=hM k (World.ownsRow.lt h.i k hk).2 e;have:=g2 k hk;omega),fun p hp=>(h.r p hp).gG hx (fun i hi e=>by have:=hM i ((h.r p hp).lt i hi).2 e;have:=g3 p hp i hi;omega) (fun i hi e=> .inl (hM i hi e)),h.bi,h.br,h.zN,h.lb,h.li,h.lr⟩
theorem jk.lift (h:jk w base lim vb vi LB RL) (h1:lim≤lim') (h2:lim'≤w.heap.size):jk w base lim' vb vi LB RL:=by
 have hm:∀i,i < w.heap.size→dW vb vi RL lim' base i→dW vb vi RL lim base i:=fun i _ e=>by
  rcases e with e|e|e|e|e
  ·exact .inl e
  ·exact .inr (.inl e)
  ·exact .inr (.inr (.inl e))
  ·exact .inr (.inr (.inr (.inl e)))
  exact .inr (.inr (.inr (.inr (by omega))))
 exact ⟨Nat.le_trans h.bl h1,h2,h.b.mono hm,h.i,fun p hp=>(h.r p hp).mono hm,h.bi,h.br,h.zN,fun k hk=>Nat.lt_of_lt_of_le (h.lb k hk) h1,fun k hk=>Nat.lt_of_lt_of_le (h.li k hk) h1,fun p hp k hk=>Nat.lt_of_lt_of_le (h.lr p hp k hk) h1⟩
theorem jk.clear (h:jk w1 base lim vb vi LB RL) {i:Nat} (hi:i < w2.heap.size) (e:dW vb vi RL w2.heap.size base i):i < w1.heap.size:=by
 have h1:=h.bl
 have h2:=h.lh
 rcases e with e|e|e|⟨p,hp,e⟩|e
 ·omega
 ·have:=h.lb i e;omega
 ·have:=h.li i e;omega
 ·have:=h.lr p hp i e;omega
 omega
theorem jk.hot (h:jk w base lim vb vi LB RL) {k:Nat} (hk:vb.ownBlock=some k∨vi.ownBlock=some k∨∃p∈RL,p.2.ownBlock=some k):base≤k∧k < lim:=by
 obtain ⟨g1,g2,g3⟩:=h.low
 rcases hk with hk|hk|⟨p,hp,hk⟩
 ·exact ⟨g1 k hk,h.lb k hk⟩
 ·exact ⟨g2 k hk,h.li k hk⟩
 exact ⟨g3 p hp k hk,h.lr p hp k hk⟩
theorem jk.Ad {g c t N:Nat} {p:bC×Value} (hN:N=LB.length) (h:jk w base lim (.slice (some ⟨g,0,none⟩) N c) vi LB RL) (ht:t < LB.length) (hp:aU (dW (.slice (some ⟨g,0,none⟩) N c) vi RL lim base) w p.2 p.1.words):
  jk ((w.setCell ⟨g,t*2,none⟩ (.int .i64 p.1.width)).setCell ⟨g,t*2+1,none⟩ p.2) base lim (.slice (some ⟨g,0,none⟩) N c) vi (LB.set t p) RL:=by
 subst hN
 have hE:Ext (At g) w ((w.setCell ⟨g,t*2,none⟩ (.int .i64 p.1.width)).setCell ⟨g,t*2+1,none⟩ p.2):=((Ext.refl (At g) w).setAt _ _).setAt _ _
 have h1:=h.b.QF ht (p:=p) (hp.mono (fun i _ e=>by
  rcases e with e|e
  ·exact e
  exact .inr (.inl (by rw [e];rfl))))
 have h2:cZ kS (dW (.slice (some ⟨g,0,none⟩) LB.length c) vi RL lim base) ((w.setCell ⟨g,t*2,none⟩ (.int .i64 p.1.width)).setCell ⟨g,t*2+1,none⟩ p.2) base (.slice (some ⟨g,0,none⟩) LB.length c) (LB.set t p):=h1
 exact ⟨h.bl,Nat.le_trans h.lh hE.size,h2,aZ h.i hE (fun k hk e=>h.bi g rfl (by rw [←show k=g from e];exact hk)),fun q hq=>(h.r q hq).gG hE (fun i hi e=>(h.br q hq i hi).1 (by rw [show i=g from e];rfl)) (fun i _ e=> .inr (.inl (by rw [show i=g from e];rfl))),h.bi,h.br,h.zN,h.lb,h.li,h.lr⟩
theorem jk.putRow {g c t N:Nat} {L':LA} {q:LA×Value} (hN:N=RL.length) (h:jk w base lim vb (.slice (some ⟨g,0,none⟩) N c) LB RL) (ht:t < RL.length) (hq:RL[t]=q)
  (hx:Ext (fun k=>q.2.ownBlock=some k) w w') (hown:w'.ownsRow base 49 6 v' L'.length (L'.flatMap kA.cells)) (hok:∀p∈L',kA.ok (dW vb (.slice (some ⟨g,0,none⟩) N c) RL lim base) w' p)
  (hv:v'.ownBlock=q.2.ownBlock∨∀k,v'.ownBlock=some k→w.heap.size≤k):
  jk (w'.setCell ⟨g,t,none⟩ v') base w'.heap.size vb (.slice (some ⟨g,0,none⟩) N c) LB (RL.set t (L',v')):=by
 subst hN
 have hmem:=List.getElem_mem ht
 rw [hq] at hmem
 have hlh:=h.lh
 have hsz:=hx.size
 have hE:Ext (At g) w' (w'.setCell ⟨g,t,none⟩ v'):=(Ext.refl (At g) w').setAt _ _
 have hsz2:=hE.size
 have hseq:(w'.setCell ⟨g,t,none⟩ v').heap.size=w'.heap.size:=by simp
 have hvk:∀k,v'.ownBlock=some k→q.2.ownBlock=some k∨w.heap.size≤k:=fun k hk=>by
  rcases hv with e|e
  ·exact .inl (by rw [←e];exact hk)
  exact .inr (e k hk)
 have hnew:∀p∈RL.set t (L',v'),p=(L',v')∨∃(j:Nat) (hj:j < RL.length),j≠t∧p=RL[j]:=fun p hp=>by
  obtain ⟨j,hj,rfl⟩:=List.getElem_of_mem hp
  have hj2:j < RL.length:=by simpa using hj
  by_cases e:t=j
  ·subst e;exact .inl (by rw [List.getElem_set_self])
  exact .inr ⟨j,hj2,fun e2=>e e2.symm,by rw [List.getElem_set_ne e]⟩
 have hsub:∀i,dW vb (.slice (some ⟨g,0,none⟩) RL.length c) (RL.set t (L',v')) w'.heap.size base i→dW vb (.slice (some ⟨g,0,none⟩) RL.length c) RL lim base i:=fun i e=>by
  rcases e with e|e|e|⟨p,hp,e⟩|e
  ·exact .inl e
  ·exact .inr (.inl e)
  ·exact .inr (.inr (.inl e))
  ·rcases hnew p hp with rfl|⟨j,hj,_,rfl⟩
   ·rcases hvk i e with e|e
    ·exact .inr (.inr (.inr (.inl ⟨q,hmem,e⟩)))
    exact .inr (.inr (.inr (.inr (by omega))))
   exact .inr (.inr (.inr (.inl ⟨_,List.getElem_mem hj,e⟩)))
  exact .inr (.inr (.inr (.inr (by omega))))
 have hgI:Value.ownBlock (.slice (some ⟨g,0,none⟩) RL.length c)=some g:=rfl
 have hqg:q.2.ownBlock≠some g:=fun e=>(h.br q hmem g e).2 rfl
 have hvg:v'.ownBlock≠some g:=fun e=>by
  rcases hvk g e with e|e
  ·exact hqg e
  have:=h.li g rfl;omega
 have Qw:∀i,q.2.ownBlock=some i→dW vb (.slice (some ⟨g,0,none⟩) RL.length c) RL lim base i:=fun i e=> .inr (.inr (.inr (.inl ⟨q,hmem,e⟩)))
 have Mv:∀i,At g i→dW vb (.slice (some ⟨g,0,none⟩) RL.length c) RL lim base i:=fun i e=> .inr (.inr (.inl (by rw [show i=g from e];rfl)))
 refine ⟨Nat.le_trans h.bl (by omega),by omega,?_,?_,fun p hp=>?_,h.bi,fun p hp k hk=>?_,fun i j hi hj hij k hk=>?_,fun k hk=>by have:=h.lb k hk;omega,fun k hk=>by have:=h.li k hk;omega,fun p hp k hk=>?_⟩
 ·exact Dk
 ·exact Dl
 ·rcases hnew p hp with rfl|⟨j,hj,hne,rfl⟩
  ·refine ⟨aZ hown hE (fun k hk e=>hvg (by rw [←show k=g from e];exact hk)),fun r hr=>?_⟩
   refine kA.mono (kA.ext (hok r hr) hE (fun i _ e=>Mv i e)) (fun i _ e=>?_)
   rcases e with e|e
   ·exact hsub i e
   exact hsub i (.inr (.inr (.inr (.inl ⟨_,hp,e⟩))))
  exact Dm
 ·rcases hnew p hp with rfl|⟨j,hj,hne,rfl⟩
  ·rcases hvk k hk with e|e
   ·exact h.br q hmem k e
   exact ⟨fun e2=>by have:=h.lb k e2;omega,fun e2=>by have:=h.li k e2;omega⟩
  exact h.br _ (List.getElem_mem hj) k hk
 ·have hi2:i < RL.length:=by simpa using hi
  have hj2:j < RL.length:=by simpa using hj
  have hoth:∀n (hn:n < RL.length),n≠t→RL[n].2.ownBlock=some k→v'.ownBlock≠some k:=fun n hn hnt h1 h2=>by
   rcases hvk k h2 with e|e
   ·exact h.zN n t hn ht hnt k h1 (by rw [hq];exact e)
   have:=h.lr _ (List.getElem_mem hn) k h1;omega
  rw [List.getElem_set] at hk ⊢
  by_cases e1:t=i
  ·rw [if_pos e1] at hk
   rw [if_neg (by omega)]
   exact fun e=>hoth j hj2 (by omega) e hk
  rw [if_neg e1] at hk
  by_cases e2:t=j
  ·rw [if_pos e2];exact fun e=>hoth i hi2 (fun e3=>e1 e3.symm) hk e
  rw [if_neg e2];exact h.zN i j hi2 hj2 hij k hk
 rcases hnew p hp with rfl|⟨j,hj,hne,rfl⟩
 ·have:=(World.ownsRow.lt hown k hk).2;omega
 have:=h.lr _ (List.getElem_mem hj) k hk;omega
theorem Az {g c N k:Nat} {L:LA} {p:Int×dS×Value×Value×Value} (hN:N=L.length) (hown:w.ownsRow base 49 6 (.slice (some ⟨g,0,none⟩) N c) N (L.flatMap kA.cells)) (hk:k < L.length) (hp:p.1=L[k].1):
  (((((w.setCell ⟨g,k*6+1,none⟩ (.int .i64 p.2.1.gen.width)).setCell ⟨g,k*6+2,none⟩ p.2.2.1).setCell ⟨g,k*6+3,none⟩ (.int .i64 p.2.1.kill.width)).setCell ⟨g,k*6+4,none⟩ p.2.2.2.1).setCell ⟨g,k*6+5,none⟩ p.2.2.2.2).ownsRow base 49 6 (.slice (some ⟨g,0,none⟩) N c) (L.set k p).length ((L.set k p).flatMap kA.cells):=by
 subst hN
 have h1:=qm [.int .i64 p.2.1.gen.width,p.2.2.1,.int .i64 p.2.1.kill.width,p.2.2.2.1,p.2.2.2.2] _ w (k*6+1) hown
 have hin:k*6+6≤L.length*6:=by omega
 have hfl:(L.flatMap kA.cells).length=L.length*6:=lD kA L
 have e:uY (L.flatMap kA.cells) (k*6+1) [.int .i64 p.2.1.gen.width,p.2.2.1,.int .i64 p.2.1.kill.width,p.2.2.2.1,p.2.2.2.2]=(L.set k p).flatMap kA.cells:=by
  refine List.ext_getElem? (fun n=>?_)
  rw [vg _ _ _ _ (by rw [hfl];simp only [List.length_cons,List.length_nil];omega),qo kA p L k n hk]
  have hs:kA.s=6:=rfl
  simp only [List.length_cons,List.length_nil,hs]
  by_cases c1:k*6+1≤n∧n < k*6+1+(0+1+1+1+1+1)
  ·rw [if_pos c1,if_pos (by omega)]
   obtain ⟨m,rfl⟩:∃m,n=k*6+1+m:=⟨n - (k*6+1),by omega⟩
   rw [show k*6+1+m - (k*6+1)=m by omega,show k*6+1+m - k*6=m+1 by omega]
   rfl
  rw [if_neg c1]
  by_cases c2:n=k*6
  ·subst c2
   rw [if_pos (by omega),Nat.sub_self]
   have h3:=rV kA L k 0 hk (by decide)
   rw [show k*kA.s+0=k*6 from rfl] at h3
   rw [h3]
   show some (Value.int .i64 L[k].1)=some (Value.int .i64 p.1)
   rw [hp]
  rw [if_neg (by omega)]
 rw [e] at h1
 rw [List.length_set]
 exact h1
theorem jk.xB {g c t k:Nat} {gI cI NI:Nat} {L:LA} {p:Int×dS×Value×Value×Value} (h:jk w base lim vb (.slice (some ⟨gI,0,none⟩) NI cI) LB RL) (rD:NI=RL.length) (ht:t < RL.length) (GV:RL[t]=(L,.slice (some ⟨g,0,none⟩) L.length c)) (hk:k < L.length) (hp:p.1=L[k].1)
  (hok:kA.ok (dW vb (.slice (some ⟨gI,0,none⟩) NI cI) RL lim base) w p):
  jk (((((w.setCell ⟨g,k*6+1,none⟩ (.int .i64 p.2.1.gen.width)).setCell ⟨g,k*6+2,none⟩ p.2.2.1).setCell ⟨g,k*6+3,none⟩ (.int .i64 p.2.1.kill.width)).setCell ⟨g,k*6+4,none⟩ p.2.2.2.1).setCell ⟨g,k*6+5,none⟩ p.2.2.2.2) base lim vb (.slice (some ⟨gI,0,none⟩) NI cI) LB (RL.set t (L.set k p,.slice (some ⟨g,0,none⟩) L.length c)):=by
 have hmem:=List.getElem_mem ht
 rw [GV] at hmem
 have hr:=h.r _ hmem
 simp only at hr
 have hown:=Az (p:=p) rfl hr.own hk hp
 have hE:Ext (At g) w (((((w.setCell ⟨g,k*6+1,none⟩ (.int .i64 p.2.1.gen.width)).setCell ⟨g,k*6+2,none⟩ p.2.2.1).setCell ⟨g,k*6+3,none⟩ (.int .i64 p.2.1.kill.width)).setCell ⟨g,k*6+4,none⟩ p.2.2.2.1).setCell ⟨g,k*6+5,none⟩ p.2.2.2.2):=(((((Ext.refl (At g) w).setAt _ _).setAt _ _).setAt _ _).setAt _ _).setAt _ _
 generalize World.setCell (World.setCell (World.setCell (World.setCell (World.setCell w _ _) _ _) _ _) _ _) _ _=w' at*
 have Vk:∀i,At g i→Value.ownBlock (.slice (some ⟨g,0,none⟩) L.length c)=some i:=fun i e=>by rw [show i=g from e];rfl
 have Qe:∀i,At g i→dW vb (.slice (some ⟨gI,0,none⟩) NI cI) RL lim base i:=fun i e=> .inr (.inr (.inr (.inl ⟨_,hmem,Vk i e⟩)))
 have hnew:∀q∈RL.set t (L.set k p,.slice (some ⟨g,0,none⟩) L.length c),q=(L.set k p,.slice (some ⟨g,0,none⟩) L.length c)∨∃(j:Nat) (hj:j < RL.length),j≠t∧q=RL[j]:=fun q hq=>by
  obtain ⟨j,hj,rfl⟩:=List.getElem_of_mem hq
  have hj2:j < RL.length:=by simpa using hj
  by_cases e:t=j
  ·subst e;exact .inl (by rw [List.getElem_set_self])
  exact .inr ⟨j,hj2,fun e2=>e e2.symm,by rw [List.getElem_set_ne e]⟩
 have hblk:∀j (hj:j < RL.length) (hj2:j < (RL.set t (L.set k p,Value.slice (some ⟨g,0,none⟩) L.length c)).length),((RL.set t (L.set k p,Value.slice (some ⟨g,0,none⟩) L.length c))[j]).2=RL[j].2:=fun j hj hj2=>by
  rw [List.getElem_set]
  split
  ·next e=>subst e;rw [GV]
  rfl
 have hex:∀q∈RL.set t (L.set k p,Value.slice (some ⟨g,0,none⟩) L.length c),∃q'∈RL,q'.2=q.2:=fun q hq=>by
  obtain ⟨j,hj,rfl⟩:=List.getElem_of_mem hq
  have hj2:j < RL.length:=by simpa using hj
  exact ⟨_,List.getElem_mem hj2,(hblk j hj2 hj).symm⟩
 have hsub:∀i,dW vb (.slice (some ⟨gI,0,none⟩) NI cI) (RL.set t (L.set k p,.slice (some ⟨g,0,none⟩) L.length c)) lim base i→dW vb (.slice (some ⟨gI,0,none⟩) NI cI) RL lim base i:=fun i e=>by
  rcases e with e|e|e|⟨q,hq,e⟩|e
  ·exact .inl e
  ·exact .inr (.inl e)
  ·exact .inr (.inr (.inl e))
  ·obtain ⟨q',h1,h2⟩:=hex q hq
   exact .inr (.inr (.inr (.inl ⟨q',h1,by rw [h2];exact e⟩)))
  exact .inr (.inr (.inr (.inr e)))
 refine ⟨h.bl,Nat.le_trans h.lh hE.size,(h.b.gG hE (fun i hi e=>(h.br _ hmem i (Vk i e)).1 hi) (fun i _ e=>Qe i e)).mono (fun i _ e=>hsub i e),?_,fun q hq=>?_,h.bi,fun q hq k' hk'=>?_,fun i j hi hj hij k' hk'=>?_,h.lb,h.li,fun q hq k' hk'=>?_⟩
 ·have h1:=aZ h.i hE (fun k' hk' e=>(h.br _ hmem k' (Vk k' e)).2 hk')
  have h2:(RL.set t (L.set k p,Value.slice (some ⟨g,0,none⟩) L.length c)).map Prod.snd=RL.map Prod.snd:=by
   refine List.ext_getElem (by simp) (fun j h3 h4=>?_)
   have hj:j < RL.length:=by simpa using h4
   rw [List.getElem_map,List.getElem_map]
   exact hblk j hj (by simpa using hj)
  rw [List.length_set,h2]
  exact h1
 ·rcases hnew q hq with rfl|⟨j,hj,hne,rfl⟩
  ·refine ⟨by simp only;exact (by have h9:=hown;rw [List.length_set] at h9 ⊢;exact h9),fun r hr2=>?_⟩
   have hokr:kA.ok (dW vb (.slice (some ⟨gI,0,none⟩) NI cI) RL lim base) w r:=by
    rcases List.mem_or_eq_of_mem_set hr2 with h3|rfl
    ·exact kA.mono (hr.ok r h3) (fun i _ e=> .inl e)
    exact hok
   exact C9
  exact Da
 ·obtain ⟨q',h1,h2⟩:=hex q hq
  exact h.br q' h1 k' (by rw [h2];exact hk')
 ·have hi2:i < RL.length:=by simpa using hi
  have hj2:j < RL.length:=by simpa using hj
  rw [hblk i hi2 hi] at hk'
  rw [hblk j hj2 hj]
  exact h.zN i j hi2 hj2 hij k' hk'
 obtain ⟨q',h1,h2⟩:=hex q hq
 exact h.lr q' h1 k' (by rw [h2];exact hk')
theorem jk.XM (h:jk w base lim vb vi LB RL) (hn:RL.length≠0):∃g c,vi= .slice (some ⟨g,0,none⟩) RL.length c:=by
 rcases h.i.2 with ⟨_,h0⟩|⟨g,c,_,e,_⟩
 ·exact absurd h0 hn
 exact ⟨g,c,e⟩
theorem jk.kV {g c t N:Nat} (hN:N=RL.length) (h:jk w base lim vb (.slice (some ⟨g,0,none⟩) N c) LB RL) (ht:t < RL.length):w.cell? ⟨g,t,none⟩=some RL[t].2:=by
 subst hN
 have h1:=World.ownsRow.cellAt h.i t (by simpa using ht)
 rw [h1]
 simp [ht]
theorem jk.TN {g c N:Nat} (hN:N=RL.length) (h:jk w base lim vb (.slice (some ⟨g,0,none⟩) N c) LB RL) (t:Nat):w.frozen? ⟨g,t,none⟩=false:=by
 subst hN
 exact World.ownsRow.frozenAt h.i t
theorem jk.qP {g c t N:Nat} (hN:N=LB.length) (h:jk w base lim (.slice (some ⟨g,0,none⟩) N c) vi LB RL) (ht:t < LB.length):w.cell? ⟨g,t*2,none⟩=some (.int .i64 LB[t].1.width)∧w.cell? ⟨g,t*2+1,none⟩=some LB[t].2:=by
 subst hN
 exact ⟨h.b.cellAt (j:=0) ht (by decide) rfl,h.b.cellAt (j:=1) ht (by decide) rfl⟩
theorem jk.Cn {g c N:Nat} (hN:N=LB.length) (h:jk w base lim (.slice (some ⟨g,0,none⟩) N c) vi LB RL) (t:Nat):w.frozen? ⟨g,t,none⟩=false:=by
 subst hN
 exact World.ownsRow.frozenAt h.b.own t
theorem jk.row (h:jk w base lim vb vi LB RL) {t:Nat} (ht:t < RL.length):jb kA No w RL[t].2 RL[t].1:=(h.r _ (List.getElem_mem ht)).uy (fun _ _ x=>x) (fun _ x=>x.elim)
end
structure MW (w:World) (base lim:Nat) (vb vi:Value) (LB:LS) (RL:fe) (S:bD):Prop where
 x:jk w base lim vb vi LB RL
 ok:eY S
 bnd:LB.map Prod.fst=S.bnd.map (bJ S.w)
 len:RL.length=S.ins.length
 rows:∀i (h:i < RL.length),RL[i].1.map fJ=aT (aR S i)
section
variable {w w':World} {base lim:Nat} {vb vi:Value} {LB:LS} {RL:fe} {S:bD}
theorem MW.Xa (h:MW w base lim vb vi LB RL S):LB.length=S.ins.length:=by
 have:=congrArg List.length h.bnd
 simp only [List.length_map] at this
 rw [this,h.ok.ok.lb]
theorem MW.rowLen (h:MW w base lim vb vi LB RL S) {t:Nat} (ht:t < RL.length):RL[t].1.length=(aR S t).length:=by
 have:=congrArg List.length (h.rows t ht)
 simpa [aT] using this
theorem MW.set (h:MW w base lim vb vi LB RL S) {t:Nat} (ht:t < LB.length):aG No w LB[t].2 S.w (dA S.bnd t):=by
 have e:LB[t].1=bJ S.w (dA S.bnd t):=by
  have h1:=congrArg (fun l=>l[t]?) h.bnd
  have ht2:t < S.bnd.length:=by rw [h.ok.ok.lb,←h.Xa];exact ht
  simp only [List.getElem?_map,List.getElem?_eq_getElem ht,List.getElem?_eq_getElem ht2,Option.map_some,Option.some.injEq] at h1
  rw [h1,kI ht2]
 have h2:aU _ w LB[t].2 LB[t].1.words:=h.x.b.ok _ (List.getElem_mem ht)
 rw [e] at h2
 exact ⟨h2.mono (fun _ _ x=>x.elim),h.ok.ok.w,h.ok.ok.bn t⟩
theorem MW.Nn (h:MW w base lim vb vi LB RL S) {t:Nat} (ht:t < RL.length):fq No w RL[t].2 (aR S t):=⟨_,h.x.row ht,h.rows t ht⟩
theorem MW.aC (h:MW w base lim vb vi LB RL S) (hx:Ext No w w'):MW w' base lim vb vi LB RL S:=⟨h.x.aC hx,h.ok,h.bnd,h.len,h.rows⟩
theorem MW.at (h:MW w base lim vb vi LB RL S):je (fun b=>b < base) w vb vi S:=by
 have hl:∀b,b < base→dW vb vi RL lim base b:=fun b hb=> .inl hb
 obtain ⟨g1,g2,g3⟩:=h.x.low
 have hb:jb kS (fun b=>b < base) w vb LB:=h.x.b.uy (fun b hb e=>by have:=g1 b hb;omega) hl
 refine ⟨h.ok.ok,hb.Mw h.bnd h.ok.ok.w h.ok.ok.bnd,RL,⟨?_,fun p hp=>(h.x.r p hp).uy (fun b hb e=>by have:=g3 p hp b hb;omega) hl⟩,h.len,h.rows⟩
 have h1:=Row.bG (M:=fun b=>b < base) h.x.i (fun b hb e=>by omega)
 rw [←qX] at h1
 exact h1
end

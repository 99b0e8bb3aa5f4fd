
import Derived.Test.YtmddchceacmopaaGreatDoorHeld
import Derived.WalkKit
import Derived.ProofKit
import Derived.WalkSmall
import Derived.Lib.Hide
import Derived.OneCell
import Derived.Maps.AppendAt
import Derived.ArgAppend
import Derived.OwnWalk
import Derived.RegionTactic
import Derived.Laws.Entries
import Derived.IntWalk
set_option linter.unusedVariables false
set_option linter.unusedSimpArgs false
namespace Go.Proofs.YtmddchceacmopaaGreatDoor
open Go Go.RowKit
structure Ext (M:Nat→Prop) (w w':World):Prop where
 os:w'.os=w.os
 tape:w'.tape=w.tape
 output:w'.output=w.output
 size:w.heap.size≤w'.heap.size
 block:∀k,k < w.heap.size→¬M k→w'.heap[k]? =w.heap[k]?
def No:Nat→Prop:=fun _=>False
def At (b:Nat):Nat→Prop:=fun k=>k=b
def From (b:Nat):Nat→Prop:=fun k=>b≤k
theorem Ext.refl (M:Nat→Prop) (w:World):Ext M w w:=⟨rfl,rfl,rfl,Nat.le_refl _,fun _ _ _=>rfl⟩
theorem Ext.aJ {M M':Nat→Prop} {a b c:World} (h:Ext M a b) (k:Ext M' b c) (hm:∀i,i < a.heap.size→M' i→M i):Ext M a c:=
 ⟨k.os.trans h.os,k.tape.trans h.tape,k.output.trans h.output,Nat.le_trans h.size k.size,
  fun i hi hn=>(k.block i (Nat.lt_of_lt_of_le hi h.size) (fun x=>hn (hm i hi x))).trans (h.block i hi hn)⟩
theorem Ext.trans {M:Nat→Prop} {a b c:World} (h:Ext M a b) (k:Ext M b c):Ext M a c:=h.aJ k (fun _ _ x=>x)
theorem Ext.af {M:Nat→Prop} {a b c:World} (h:Ext M a b) (k:Ext No b c):Ext M a c:=h.aJ k (fun _ _ x=>x.elim)
theorem Ext.mono {M M':Nat→Prop} {a b:World} (h:Ext M a b) (hm:∀i,i < a.heap.size→M i→M' i):Ext M' a b:=
 ⟨h.os,h.tape,h.output,h.size,fun i hi hn=>h.block i hi (fun x=>hn (hm i hi x))⟩
theorem Ext.lM {M:Nat→Prop} {a b:World} (h:Ext No a b):Ext M a b:=h.mono (fun _ _ x=>x.elim)
theorem Ext.drew {M:Nat→Prop} {a w:World} (h:Ext M a w):Ext M a w.drew:=⟨h.os,h.tape,h.output,h.size,h.block⟩
theorem Ext.drewN {M:Nat→Prop} {a w:World} (h:Ext M a w) (n:Nat):Ext M a (w.drewN n):=⟨h.os,h.tape,h.output,h.size,h.block⟩
theorem Ext.alloc {M:Nat→Prop} {a w:World} (h:Ext M a w) (o:Obj):Ext M a (w.alloc o):=
 h.af ⟨rfl,rfl,rfl,by simp,fun k hk _=>Below.heap_alloc _ _ _ hk⟩
theorem Ext.setCell {M:Nat→Prop} {a w:World} (h:Ext M a w) {p:Addr} (hp:p.block < a.heap.size→M p.block) (u:Value):Ext M a (w.setCell p u):=
 h.aJ (M':=At p.block) ⟨rfl,rfl,rfl,by simp [World.setCell],fun k hk hn=>Below.heap_setCell _ _ _ _ hn⟩ (fun i hi x=>by cases x;exact hp hi)
theorem Ext.grown {M:Nat→Prop} {a w w':World} {row:Option Nat} (h:Ext M a w) (hg:w.grownBy w' row) (hr:∀k,row=some k→k < a.heap.size→M k):Ext M a w':=
 h.aJ (M':=fun k=>row=some k) ⟨hg.os,hg.tape,hg.output,hg.size,fun k hk hn=>hg.block k hk (fun e=>hn e.symm)⟩ (fun i hi x=>hr i x hi)
theorem Ext.cell {M:Nat→Prop} {w w':World} (h:Ext M w w') {p:Addr} (hp:p.block < w.heap.size) (hn:¬M p.block):w'.cell? p=w.cell? p:=World.cell?_of_block (w:=w) (h.block p.block hp hn)
theorem Ext.frozen {M:Nat→Prop} {w w':World} (h:Ext M w w') {p:Addr} (hp:p.block < w.heap.size) (hn:¬M p.block):w'.frozen? p=w.frozen? p:=World.frozen?_of_block (w:=w) (h.block p.block hp hn)
theorem Ext.below {M:Nat→Prop} {w w':World} (h:Ext M w w') (hm:∀i,i < w.heap.size→¬M i):Below w.heap.size w w':=⟨h.os,h.tape,h.output,h.size,fun k hk=>h.block k hk (hm k hk)⟩
theorem Ext.UK {w w':World} (h:Ext No w w'):Below w.heap.size w w':=h.below (fun _ _ x=>x.elim)
def Row (M:Nat→Prop) (w:World) (s:Nat) (sl:Value) (n:Nat) (vs:List Value):Prop:=
 vs.length=n*s∧n≤9223372036854775807∧∃a cap,sl= .slice a n cap∧(n≤cap∧cap≤9223372036854775807)∧
  (n=0∨∃b off,a=some ⟨b,off,none⟩∧b < w.heap.size∧¬M b∧∀j u,vs[j]? =some u→w.cell? ⟨b,off+j,none⟩=some u)
theorem Row.ext {M M':Nat→Prop} {w w':World} {s n:Nat} {sl:Value} {vs:List Value} (h:Row M w s sl n vs) (hx:Ext M' w w') (hm:∀i,i < w.heap.size→M' i→M i):Row M w' s sl n vs:=by
 obtain ⟨h1,h2,a,cap,h3,hcp,h4⟩:=h
 refine ⟨h1,h2,a,cap,h3,hcp,?_⟩
 rcases h4 with h4|⟨b,off,h5,h6,h7,h8⟩
 ·exact .inl h4
 exact .inr ⟨b,off,h5,Nat.lt_of_lt_of_le h6 hx.size,h7,fun j u hj=>(hx.cell (p:=⟨b,off+j,none⟩) h6 (fun x=>h7 (hm b h6 x))).trans (h8 j u hj)⟩
theorem Row.aj {M:Nat→Prop} {w w':World} {s n:Nat} {sl:Value} {vs:List Value} (h:Row M w s sl n vs) (hx:Ext No w w'):Row M w' s sl n vs:=h.ext hx (fun _ _ x=>x.elim)
theorem Row.mono {M M':Nat→Prop} {w:World} {s n:Nat} {sl:Value} {vs:List Value} (h:Row M w s sl n vs) (hm:∀i,i < w.heap.size→M' i→M i):Row M' w s sl n vs:=by
 obtain ⟨h1,h2,a,cap,h3,hcp,h4⟩:=h
 refine ⟨h1,h2,a,cap,h3,hcp,?_⟩
 rcases h4 with h4|⟨b,off,h5,h6,h7,h8⟩
 ·exact .inl h4
 exact .inr ⟨b,off,h5,h6,fun x=>h7 (hm b h6 x),h8⟩
theorem Row.nil (M:Nat→Prop) (w:World) (s:Nat) (a:Option Addr) (cap:Nat) (hc:cap≤9223372036854775807):Row M w s (.slice a 0 cap) 0 []:=⟨by simp,by omega,a,cap,rfl,⟨by omega,hc⟩,.inl rfl⟩
theorem Row.shape {M:Nat→Prop} {w:World} {s n:Nat} {sl:Value} {vs:List Value} (h:Row M w s sl n vs) (hn:0 < n):
  ∃b off cap,sl= .slice (some ⟨b,off,none⟩) n cap∧b < w.heap.size∧¬M b∧∀j u,vs[j]? =some u→w.cell? ⟨b,off+j,none⟩=some u:=by
 obtain ⟨h1,h2,a,cap,h3,_,h4⟩:=h
 rcases h4 with h4|⟨b,off,h5,h6,h7,h8⟩
 ·omega
 exact ⟨b,off,cap,by rw [h3,h5],h6,h7,h8⟩
theorem Row.slice {M:Nat→Prop} {w:World} {s n:Nat} {sl:Value} {vs:List Value} (h:Row M w s sl n vs):∃a cap,sl= .slice a n cap:=by
 obtain ⟨_,_,a,cap,h3,_⟩:=h;exact ⟨a,cap,h3⟩
theorem Row.caps {M:Nat→Prop} {w:World} {s n cap:Nat} {a:Option Addr} {vs:List Value} (h:Row M w s (.slice a n cap) n vs):n≤cap∧cap≤9223372036854775807:=by
 obtain ⟨_,_,a',cap',h3,h4,_⟩:=h
 simp only [Value.slice.injEq] at h3
 obtain ⟨_,_,rfl⟩:=h3
 exact h4
theorem Row.bG {M:Nat→Prop} {w:World} {base:Nat} {e:TypeId} {size n:Nat} {v:Value} {xs:List Value} (h:w.ownsRow base e size v n xs) (hM:∀b,base≤b→¬M b):Row M w size v n xs:=by
 have hc:=h
 obtain ⟨h1,h2⟩:=h
 rcases h2 with ⟨rfl,rfl⟩|⟨g,cap,cur,rfl,hb,hg,hl,hm,hs,ht⟩
 ·exact ⟨h1,by omega,none,0,rfl,⟨by omega,by omega⟩,.inl rfl⟩
 refine ⟨h1,by simp only [maxLen] at hm;omega,_,cap,rfl,⟨hl,by simp only [maxLen] at hm;omega⟩,.inr ⟨g,0,rfl,lt_of_block hg,hM g hb,fun j u hj=>?_⟩⟩
 have:=hc.cells (g:=g) (by simp [Value.ownBlock]) j u hj
 have hadd:(⟨g,0,none⟩:Addr).add j=⟨g,j,none⟩:=by unfold Addr.add;split<;>simp_all
 rw [hadd] at this
 rw [Nat.zero_add]
 exact this
theorem Row.newAt {M:Nat→Prop} {w w':World} {s n:Nat} {sl:Value} {vs:List Value} (h:Row M w s sl n vs) (hx:Ext No w w') (M':Nat→Prop) (hM:∀i,i < w.heap.size→M' i→M i):Row M' w' s sl n vs:=by
 obtain ⟨h1,h2,a,cap,h3,hcp,h4⟩:=h
 refine ⟨h1,h2,a,cap,h3,hcp,?_⟩
 rcases h4 with h4|⟨b,off,h5,h6,h7,h8⟩
 ·exact .inl h4
 exact .inr ⟨b,off,h5,Nat.lt_of_lt_of_le h6 hx.size,fun x=>h7 (hM b h6 x),fun j u hj=>(hx.cell (p:=⟨b,off+j,none⟩) h6 (fun x=>x.elim)).trans (h8 j u hj)⟩
theorem ah {w:World} {o:Obj} {n:Nat} (h:n=w.heap.size):(w.alloc o).heap[n]? =some o:=by subst h;exact heap_alloc_new w o
theorem ay {w:World} {o o':Obj} {n:Nat} (h:w.heap[n]? =some o'):(w.alloc o).heap[n]? =some o':=(Below.heap_alloc w o n (lt_of_block h)).trans h
theorem zK {M:Nat→Prop} {W:World} {o1 o2:Obj} (_:Ext M W ((W.alloc o1).alloc o2)):((W.alloc o1).alloc o2).heap[W.heap.size]? =some o1:=ay (ah rfl)
theorem zM {M:Nat→Prop} {W:World} {o1 o2:Obj} (_:Ext M W ((W.alloc o1).alloc o2)):((W.alloc o1).alloc o2).heap[W.heap.size+1]? =some o2:=ah (by simp)
theorem Ext.blk {M:Nat→Prop} {w w':World} {o:Obj} {n:Nat} (hx:Ext M w w') (h:w.heap[n]? =some o) (hn:¬M n):w'.heap[n]? =some o:=(hx.block n (lt_of_block h) hn).trans h
theorem lJ {w:World} {a:Addr} {u:Value} {n:Nat} {o:Obj} (h:w.heap[n]? =some o) (hn:n≠a.block):(w.setCell a u).heap[n]? =some o:=(Below.heap_setCell w a u n hn).trans h
theorem az {w:World} {b j:Nat} {cs:Array Value} {T:TypeId} {u:Value} (h:w.heap[b]? =some (.cells cs T (0,0))):(w.setCell ⟨b,j,none⟩ u).heap[b]? =some (.cells (cs.setIfInBounds j u) T (0,0)):=by
 have hlt:=lt_of_block h
 have h':w.heap[b]= .cells cs T (0,0):=by simpa [Array.getElem?_eq_getElem hlt] using h
 exact Fb
theorem cellOf {w:World} {b:Nat} {cs:Array Value} {T:TypeId} (h:w.heap[b]? =some (.cells cs T (0,0))) (j:Nat):w.cell? ⟨b,j,none⟩=cs[j]? :=by
 simp [World.cell?,h]
theorem aH {w:World} {b:Nat} {cs:Array Value} {T:TypeId} (h:w.heap[b]? =some (.cells cs T (0,0))) (j:Nat):w.frozen? ⟨b,j,none⟩=false:=by
 simp [World.frozen?,h]
theorem Ext.keep {w w':World} {a:Addr} {v:Value} (hx:Ext No w w') (h:w.cell? a=some v):w'.cell? a=some v:=(hx.cell (World.block_lt_of_cell? w a h) (fun x=>x.elim)).trans h
theorem Ext.oK {M:Nat→Prop} {w w':World} {a:Addr} {v:Value} (hx:Ext M w w') (h:w.cell? a=some v) (hn:¬M a.block):w'.cell? a=some v:=(hx.cell (World.block_lt_of_cell? w a h) hn).trans h
theorem Row.V8 {w:World} {k:IntKind} {x:Addr} {len cap:Nat} {zs:List Int} (hl:len≤cap) (hm:cap≤maxLen) (hz:zs.length=cap) (hc:∀i,i < zs.length→w.cell? (x.add i)=some (.int k (zs.getD i 0))):
  Row No w 1 (.slice (some x) len cap) (zs.take len).length ((zs.take len).map (.int k)):=by
 have hlen:(zs.take len).length=len:=by simp;omega
 rw [hlen]
 refine ⟨by simp;omega,by simp only [maxLen] at hm;omega,some x,cap,rfl,⟨hl,by simp only [maxLen] at hm;omega⟩,?_⟩
 by_cases h0:len=0
 ·exact .inl h0
 right
 have h1:=hc 0 (by omega)
 have hx0:x.add 0=x:=by simp [Addr.add]
 rw [hx0] at h1
 obtain ⟨b,off,sp⟩:=x
 have hsp:sp=none:=by
  cases sp with
  |none=>rfl
  |some s=>
   exfalso
   simp only [World.cell?] at h1
   split at h1<;>simp at h1
 subst hsp
 refine ⟨b,off,rfl,World.block_lt_of_cell? w _ h1,fun x=>x.elim,fun j u hj=>?_⟩
 have hj2:j < len:=by
  have:=(List.getElem?_eq_some_iff.1 hj).1
  simp at this
  omega
 have h2:=hc j (by omega)
 have hadd:(⟨b,off,none⟩:Addr).add j=⟨b,off+j,none⟩:=by unfold Addr.add;split<;>simp_all
 rw [hadd] at h2
 rw [h2]
 rw [←hj]
 have hjz:j < zs.length:=by omega
 simp [hj2,hjz]
end Go.Proofs.YtmddchceacmopaaGreatDoor
namespace Go.Proofs.YtmddchceacmopaaGreatDoor
open Go Go.RowKit
theorem Row.src {M:Nat→Prop} {w:World} {s m:Nat} {A:Option Addr} {c:Nat} {vs:List Value} (h:Row M w s (.slice A m c) m vs):
  vs.length=m*s∧((m=0∧vs=[])∨∃ad:Addr,A=some ad∧∀j u,vs[j]? =some u→w.cell? (ad.add j)=some u):=by
 obtain ⟨h1,_,a,cap,h3,_,h4⟩:=h
 refine ⟨h1,?_⟩
 simp only [Value.slice.injEq] at h3
 obtain ⟨rfl,_,_⟩:=h3
 rcases h4 with h4|⟨b,off,rfl,_,_,h8⟩
 ·subst h4
  exact .inl ⟨rfl,List.eq_nil_of_length_eq_zero (by simpa using h1)⟩
 refine .inr ⟨_,rfl,fun j u hj=>?_⟩
 have hadd:(⟨b,off,none⟩:Addr).add j=⟨b,off+j,none⟩:=by unfold Addr.add;split<;>simp_all
 rw [hadd];exact h8 j u hj
section
variable {P:Program} (w:World)
theorem UW (base:Nat) (t ty e:TypeId) (i:TypeInfo) (z:Value) (size bytes:Nat) (ht:P.underlying t=some (.slice e)) (hi:P.info? e=some i) (hz:i.zero=some z)
  (hsize:i.size=size) (hby:i.bytes=bytes) (hzs:z.cells.size=size) (hsz:0 < size)
  (v:Value) (n:Nat) (xs:List Value) (hown:w.ownsRow base e size v n xs)
  (M:Nat→Prop) (A:Option Addr) (m c:Nat) (news:List Value) (hr:Row M w size (.slice A m c) m news) (h1:∀u∈news,u.oneCell'=true)
  (h63:n+m≤9223372036854775807) (hbytes:(n+m)*bytes≤140737488355328) (hbase:base≤w.heap.size):
  ∃v' w',(Builtin.append_ #[t,t] ty #[v,.slice A m c]).run P w= .ok v' w'∧w'.ownsRow base e size v' (n+m) (xs++news)∧w.grownBy w' v.ownBlock∧
   (v'.ownBlock=v.ownBlock∨v'.ownBlock=some w.heap.size):=by
 have h63':n+m≤maxLen:=by simp only [maxLen];omega
 obtain ⟨hl,hc⟩:=hr.src
 have key:∀ad:Addr,A=some ad→(∀j u,news[j]? =some u→w.cell? (ad.add j)=some u)→∃v' w',(Builtin.append_ #[t,t] ty #[v,.slice A m c]).run P w= .ok v' w'∧w'.ownsRow base e size v' (n+m) (xs++news)∧w.grownBy w' v.ownBlock∧
   (v'.ownBlock=v.ownBlock∨v'.ownBlock=some w.heap.size):=by
  intro ad hA hcells
  subst hA
  obtain ⟨v',w',hrun,h2,h3,_,h5⟩:=run_append_own_at (P:=P) w base t ty e i z size bytes ht hi hz hsize hby hzs hsz v n xs hown ad m c news hl hcells h1 h63' hbytes hbase
  exact ⟨v',w',hrun,h2,h3,h5⟩
 rcases hc with ⟨rfl,rfl⟩|⟨ad,hA,hcells⟩
 ·cases A with
  |some ad=>exact key ad rfl (fun j u hj=>by simp at hj)
  |none=>
   refine ⟨v,w,?_,by simpa using hown,World.grownBy.refl w _,.inl rfl⟩
   rcases hown.2 with ⟨rfl,rfl⟩|⟨g,cap,cur,rfl,_,_,hnc,_⟩
   ·simp [Builtin.append_,run_underlying ht,sizeOf,typeInfo,hi,Builtin.lenOf,Builtin.firstCells]
   simp [Builtin.append_,run_underlying ht,sizeOf,typeInfo,hi,Builtin.lenOf,Builtin.firstCells,hnc,storeCells]
 exact key ad hA hcells
theorem jY {o:Oper} {a:Act} {K:Act→World→Prop} {Q:Exit→Act→World→Prop} (s x:Operand) (t:TypeId)
  (ho:o.op= .call { callee:= .builtin .append,args:=#[s,x],argTypes:=#[t,t] })
  (base:Nat) (e:TypeId) (i:TypeInfo) (z:Value) (size bytes:Nat) (ht:P.underlying t=some (.slice e)) (hi:P.info? e=some i) (hz:i.zero=some z)
  (hsize:i.size=size) (hby:i.bytes=bytes) (hzs:z.cells.size=size) (hsz:0 < size)
  (v:Value) (n:Nat) (xs:List Value) (hs:a.eval s=v) (hown:w.ownsRow base e size v n xs)
  (M:Nat→Prop) (A:Option Addr) (m c:Nat) (news:List Value) (hx:a.eval x= .slice A m c) (hr:Row M w size (.slice A m c) m news) (h1:∀u∈news,u.oneCell'=true)
  (h63:n+m≤9223372036854775807) (hbytes:(n+m)*bytes≤140737488355328) (hbase:base≤w.heap.size)
  (h:∀v' w',w'.ownsRow base e size v' (n+m) (xs++news)→w.grownBy w' v.ownBlock→(v'.ownBlock=v.ownBlock∨v'.ownBlock=some w.heap.size)→K (a.put o.dst v') w'):o.wp P a w K Q:=by
 obtain ⟨v',w',hrun,h2,h3,h4⟩:=UW (P:=P) w base t o.type e i z size bytes ht hi hz hsize hby hzs hsz v n xs hown M A m c news hr h1 h63 hbytes hbase
 unfold Oper.wp execOp
 simp only [ho,resolve,invoke,builtin,Sem.run_bind,Sem.run_pure,Result.andThen_ok,List.map_toArray,List.map_cons,List.map_nil,hs,hx,hrun]
 exact h v' w' h2 h3 h4
theorem bE {ops:Array Oper} {rest:List Oper} {o:Oper} {a:Act} {Q:Exit→Act→World→Prop} (hgd:o.guard=none) (s x:Operand) (t:TypeId)
  (ho:o.op= .call { callee:= .builtin .append,args:=#[s,x],argTypes:=#[t,t] })
  (base:Nat) (e:TypeId) (i:TypeInfo) (z:Value) (size bytes:Nat) (ht:P.underlying t=some (.slice e)) (hi:P.info? e=some i) (hz:i.zero=some z)
  (hsize:i.size=size) (hby:i.bytes=bytes) (hzs:z.cells.size=size) (hsz:0 < size)
  (v:Value) (n:Nat) (xs:List Value) (hs:a.eval s=v) (hown:w.ownsRow base e size v n xs)
  (M:Nat→Prop) (A:Option Addr) (m c:Nat) (news:List Value) (hx:a.eval x= .slice A m c) (hr:Row M w size (.slice A m c) m news) (h1:∀u∈news,u.oneCell'=true)
  (h63:n+m≤9223372036854775807) (hbytes:(n+m)*bytes≤140737488355328) (hbase:base≤w.heap.size)
  (h:∀v' w',w'.ownsRow base e size v' (n+m) (xs++news)→w.grownBy w' v.ownBlock→(v'.ownBlock=v.ownBlock∨v'.ownBlock=some w.heap.size)→wpList P ops Q rest (a.put o.dst v') w'):wpList P ops Q (o::rest) a w:=
 wpList_plain hgd fun _ hK=>jY w s x t ho base e i z size bytes ht hi hz hsize hby hzs hsz v n xs hs hown M A m c news hx hr h1 h63 hbytes hbase fun v' w' h2 h3 h4=>hK _ _ (h v' w' h2 h3 h4)
end
theorem Ext.own {M:Nat→Prop} {a w:World} (h:Ext M a w) {p:Addr} (hp:a.heap.size≤p.block) (u:Value):Ext M a (w.setCell p u):=h.setCell (fun hlt=>absurd hlt (Nat.not_lt.2 hp)) u
theorem Row.take {M:Nat→Prop} {w:World} {s n cap k:Nat} {a:Option Addr} {vs:List Value} (h:Row M w s (.slice a n cap) n vs) (hk:k≤n):Row M w s (.slice a k k) k (vs.take (k*s)):=by
 obtain ⟨h1,h2,a',cap',h3,_,h4⟩:=h
 simp only [Value.slice.injEq] at h3
 obtain ⟨rfl,_,rfl⟩:=h3
 have hks:k*s≤n*s:=Nat.mul_le_mul_right _ hk
 refine ⟨by rw [List.length_take,h1];omega,by omega,_,_,rfl,⟨Nat.le_refl _,by omega⟩,?_⟩
 rcases h4 with h4|⟨b,off,h5,h6,h7,h8⟩
 ·exact .inl (by omega)
 exact .inr ⟨b,off,h5,h6,h7,fun j u hj=>h8 j u (by
  rw [List.getElem?_take] at hj
  split at hj
  ·exact hj
  simp at hj)⟩
theorem Row.drop {M:Nat→Prop} {w:World} {s n cap k b off:Nat} {vs:List Value} (h:Row M w s (.slice (some ⟨b,off,none⟩) n cap) n vs) (hk:k≤n):Row M w s (.slice (some ⟨b,off+k*s,none⟩) (n - k) (cap - k)) (n - k) (vs.drop (k*s)):=by
 obtain ⟨h1,h2,a',cap',h3,h9,h4⟩:=h
 simp only [Value.slice.injEq] at h3
 obtain ⟨rfl,_,rfl⟩:=h3
 refine ⟨by rw [List.length_drop,h1,Nat.sub_mul],by omega,_,_,rfl,⟨by omega,by omega⟩,?_⟩
 rcases h4 with h4|⟨b',off',h5,h6,h7,h8⟩
 ·exact .inl (by omega)
 simp only [Option.some.injEq,Addr.mk.injEq] at h5
 obtain ⟨rfl,rfl,_⟩:=h5
 exact .inr ⟨b,off+k*s,rfl,h6,h7,fun j u hj=>by
  rw [Nat.add_assoc]
  exact h8 _ u (by rw [List.getElem?_drop] at hj;exact hj)⟩
def Lo (n:Nat):Nat→Prop:=fun b=>b < n
theorem Row.block {M:Nat→Prop} {w:World} {g n s:Nat} {cs:Array Value} {T:TypeId} (h:w.heap[g]? =some (.cells cs T (0,0))) (hn:cs.size=n*s) (hM:¬M g) (hs:n≤9223372036854775807):Row M w s (.slice (some ⟨g,0,none⟩) n n) n cs.toList:=by
 refine ⟨by simpa using hn,hs,_,n,rfl,⟨Nat.le_refl _,hs⟩,.inr ⟨g,0,rfl,lt_of_block h,hM,fun j u hj=>?_⟩⟩
 rw [Nat.zero_add,cellOf h j]
 simpa using hj
theorem Row.fin {M:Nat→Prop} {w w4 w5:World} {base:Nat} {e:TypeId} {size n:Nat} {v:Value} {xs:List Value} (h:w4.ownsRow base e size v n xs) (hb:w.heap.size≤base) (hM:∀b,M b→b < w.heap.size) (hx:Ext (Lo base) w4 w5):Row M w5 size v n xs:=
 ((Row.bG (M:=Lo base) h (fun _ hb hl=>absurd hl (Nat.not_lt.2 hb))).ext hx (fun _ _ x=>x)).mono (fun b _ hm=>Nat.lt_of_lt_of_le (hM b hm) hb)
end Go.Proofs.YtmddchceacmopaaGreatDoor
namespace Go.Proofs.YtmddchceacmopaaGreatDoor
open Go Go.RowKit
theorem Row.takeC {M:Nat→Prop} {w:World} {s n cap k:Nat} {a:Option Addr} {vs:List Value} (h:Row M w s (.slice a n cap) n vs) (hk:k≤n):Row M w s (.slice a k cap) k (vs.take (k*s)):=by
 have hc:=h.caps
 obtain ⟨h1,h2,a',cap',h3,h4,h5⟩:=h.take hk
 simp only [Value.slice.injEq] at h3
 obtain ⟨rfl,_,rfl⟩:=h3
 exact ⟨h1,h2,_,cap,rfl,⟨by omega,hc.2⟩,h5⟩
end Go.Proofs.YtmddchceacmopaaGreatDoor
namespace Go.Proofs.YtmddchceacmopaaGreatDoor
open Go Go.RowKit
def nw (w:Nat):Nat:=(w+63) / 64
def dD (m i:Nat):Nat:=(m >>> (64*i)) % 2 ^ 64
def aY (w m:Nat):List Nat:=(List.range (nw w)).map (dD m)
def dz (a b:Nat):Nat:=a ^^^ (a&&& b)
theorem gN (m i:Nat):dD m i < 2 ^ 64:=Nat.mod_lt _ (by decide)
theorem gW (m i j:Nat):(dD m i).testBit j=(decide (j < 64)&&m.testBit (64*i+j)):=by
 unfold dD
 rw [Nat.testBit_mod_two_pow,Nat.testBit_shiftRight]
theorem eG (a b j:Nat):(dz a b).testBit j=(a.testBit j&& !b.testBit j):=by
 unfold dz
 rw [Nat.testBit_xor,Nat.testBit_and]
 cases a.testBit j<;>cases b.testBit j<;>rfl
theorem lY {a b w:Nat} (h:a < 2 ^ w):dz a b < 2 ^ w:=by
 refine Nat.lt_pow_two_of_testBit _ (fun i hi=>?_)
 rw [eG,Nat.testBit_lt_two_pow (Nat.lt_of_lt_of_le h (Nat.pow_le_pow_right (by decide) hi))];rfl
theorem fZ {a b w:Nat} (h:a < 2 ^ w) (h2:b < 2 ^ w):a|||b < 2 ^ w:=Nat.or_lt_two_pow h h2
theorem eZ {b w:Nat} (h:b < w):2 ^ b < 2 ^ w:=Nat.pow_lt_pow_right (by decide) h
theorem JA (a b i:Nat):dD (a|||b) i=dD a i|||dD b i:=Nat.eq_of_testBit_eq fun j=>by
 rw [Nat.testBit_or,gW,gW,gW,Nat.testBit_or]
 cases decide (j < 64)<;>rfl
theorem Bg (a b i:Nat):dD (dz a b) i=dz (dD a i) (dD b i):=Nat.eq_of_testBit_eq fun j=>by
 rw [eG,gW,gW,gW,eG]
 cases decide (j < 64)<;>rfl
theorem Bh (i:Nat):dD 0 i=0:=by simp [dD]
theorem Bi (b i:Nat):dD (2 ^ b) i=if i=b / 64 then 2 ^ (b % 64) else 0:=Nat.eq_of_testBit_eq fun j=>by
 rw [gW,Nat.testBit_two_pow]
 have h1:=Nat.div_add_mod b 64
 have h2:=Nat.mod_lt b (show 64 > 0 by decide)
 split
 ·rename_i h
  rw [Nat.testBit_two_pow]
  by_cases hj:j < 64
  ·simp only [hj,decide_true,Bool.true_and]
   apply decide_eq_decide.2
   omega
  simp only [hj,decide_false,Bool.false_and]
  symm;apply decide_eq_false;omega
 rename_i h
 rw [Nat.zero_testBit]
 by_cases hj:j < 64
 ·simp only [hj,decide_true,Bool.true_and]
  apply decide_eq_false;omega
 simp [hj]
theorem aX (w m:Nat):(aY w m).length=nw w:=by simp [aY]
theorem gL (w m i:Nat) (h:i < (aY w m).length):(aY w m)[i]=dD m i:=by simp [aY]
theorem adP (w m:Nat):∀n∈aY w m,n < 2 ^ 64:=by
 intro n hn
 obtain ⟨i,_,rfl⟩:=List.mem_map.1 hn
 exact gN m i
theorem Lf (w:Nat):w≤64*nw w∧64*nw w < w+64:=by unfold nw;omega
theorem Bj {w m m':Nat} (h:m < 2 ^ w) (h':m' < 2 ^ w) (e:aY w m=aY w m'):m=m':=Nat.eq_of_testBit_eq fun b=>by
 by_cases hb:b < w
 ·have hk:b / 64 < nw w:=by unfold nw;omega
  have h1:dD m (b / 64)=dD m' (b / 64):=by
   have h1:=congrArg (fun l=>l[b / 64]?) e
   simp only [aY,List.getElem?_map,List.getElem?_range hk,Option.map_some,Option.some.injEq] at h1
   exact h1
  have h2:=congrArg (fun n=>n.testBit (b % 64)) h1
  have hm:b % 64 < 64:=Nat.mod_lt _ (by decide)
  simp only [gW,hm,decide_true,Bool.true_and,Nat.div_add_mod] at h2
  exact h2
 rw [Nat.testBit_lt_two_pow (Nat.lt_of_lt_of_le h (Nat.pow_le_pow_right (by decide) (by omega))),Nat.testBit_lt_two_pow (Nat.lt_of_lt_of_le h' (Nat.pow_le_pow_right (by decide) (by omega)))]
def lX:List Nat→Nat
 |[]=>0
 |a::l=>a+2 ^ 64*lX l
theorem tJ (l:List Nat) (h:∀n∈l,n < 2 ^ 64) (b:Nat):(lX l).testBit b=((l[b / 64]?).getD 0).testBit (b % 64):=by
 induction l generalizing b with
 |nil=>simp [lX]
 |cons a l ih=>
  have ha:=h a (List.mem_cons_self ..)
  have ih:=fun b=>ih (fun n hn=>h n (List.mem_cons_of_mem _ hn)) b
  rw [lX,Nat.add_comm,Nat.testBit_two_pow_mul_add _ ha]
  by_cases hb:b < 64
  ·rw [if_pos hb,Nat.div_eq_of_lt hb,Nat.mod_eq_of_lt hb];rfl
  rw [if_neg hb,ih]
  have h1:b / 64=(b - 64) / 64+1:=by omega
  have h2:b % 64=(b - 64) % 64:=by omega
  rw [h1,h2];rfl
theorem LY (l:List Nat) (h:∀n∈l,n < 2 ^ 64) (i:Nat):dD (lX l) i=(l[i]?).getD 0:=Nat.eq_of_testBit_eq fun j=>by
 rw [gW,tJ l h]
 by_cases hj:j < 64
 ·have h1:(64*i+j) / 64=i:=by omega
  have h2:(64*i+j) % 64=j:=by omega
  rw [h1,h2];simp [hj]
 simp only [hj,decide_false,Bool.false_and]
 symm
 apply Nat.testBit_lt_two_pow
 have:(l[i]?).getD 0 < 2 ^ 64:=by
  cases e:l[i]? with
  |none=>exact by decide
  |some n=>exact h n (List.mem_of_getElem? e)
 exact Nat.lt_of_lt_of_le this (Nat.pow_le_pow_right (by decide) (by omega))
theorem J9 (w:Nat) (l:List Nat) (h:∀n∈l,n < 2 ^ 64) (hl:l.length=nw w):aY w (lX l)=l:=by
 refine List.ext_getElem (by rw [aX,hl]) (fun i h1 h2=>?_)
 rw [gL,LY l h,List.getElem?_eq_getElem h2];rfl
structure bC where
 width:Int
 words:List Nat
def mE (w:Nat) (l:List Nat):Bool:=decide (lX l < 2 ^ w)
def fH (s:bC):Bool:=decide (0≤s.width∧s.width≤256∧s.words.length=nw s.width.toNat)&&mE s.width.toNat s.words
def bJ (w m:Nat):bC:=⟨w,aY w m⟩
theorem Ka (w m:Nat) (h:m < 2 ^ w):lX (aY w m)=m:=Nat.eq_of_testBit_eq fun b=>by
 rw [tJ _ (adP w m)]
 by_cases hb:b / 64 < nw w
 ·have:(aY w m)[b / 64]? =some (dD m (b / 64)):=by rw [List.getElem?_eq_getElem (by rw [aX];exact hb),gL]
  rw [this,Option.getD_some,gW,Nat.div_add_mod]
  have hm:b % 64 < 64:=Nat.mod_lt _ (by decide)
  simp [hm]
 rw [List.getElem?_eq_none (by rw [aX];omega),Option.getD_none,Nat.zero_testBit,Nat.testBit_lt_two_pow]
 refine Nat.lt_of_lt_of_le h (Nat.pow_le_pow_right (by decide) ?_)
 have:=Lf w
 omega
theorem nT {s:bC} (hl:∀n∈s.words,n < 2 ^ 64):fH s=true↔∃w m:Nat,w≤256∧m < 2 ^ w∧s=bJ w m:=by
 constructor
 ·intro h
  simp only [fH,mE,Bool.and_eq_true,decide_eq_true_eq] at h
  obtain ⟨⟨h1,h2,h3⟩,h4⟩:=h
  refine ⟨s.width.toNat,lX s.words,by omega,h4,?_⟩
  obtain ⟨width,words⟩:=s
  simp only at h1 h3
  rw [bJ,J9 _ _ hl h3]
  simp only [bC.mk.injEq,and_true]
  omega
 rintro ⟨w,m,h1,h2,rfl⟩
 simp only [fH,mE,bJ,Bool.and_eq_true,decide_eq_true_eq,aX,Int.toNat_natCast,Ka w m h2]
 exact ⟨⟨by omega,by omega,trivial⟩,h2⟩
theorem dI {w m:Nat} (h1:w≤256) (h2:m < 2 ^ w):fH (bJ w m)=true:=(nT (adP w m)).2 ⟨w,m,h1,h2,rfl⟩
theorem qV (n:Nat) (h:n < 2 ^ 64):IntKind.u64.wrap (n:Int)=n:=by
 simp only [IntKind.wrap,IntKind.bits,IntKind.signed]
 simp
 omega
theorem xJ (a:Nat):BitVec.ofInt 64 (a:Int)=BitVec.ofNat 64 a:=by
 apply BitVec.eq_of_toNat_eq
 simp
theorem H7 (a b:Nat) (ha:a < 2 ^ 64) (hb:b < 2 ^ 64):bits .or .u64 (a:Int) (b:Int)=((a|||b:Nat):Int):=by
 unfold bits
 show IntKind.u64.wrap (((BitVec.ofInt 64 (a:Int)|||BitVec.ofInt 64 (b:Int)).toNat:Nat):Int)=_
 rw [xJ,xJ,BitVec.toNat_or,BitVec.toNat_ofNat,BitVec.toNat_ofNat,Nat.mod_eq_of_lt ha,Nat.mod_eq_of_lt hb,qV _ (Nat.or_lt_two_pow ha hb)]
theorem wN (a b:Nat) (ha:a < 2 ^ 64) (hb:b < 2 ^ 64):bits .and .u64 (a:Int) (b:Int)=((a&&& b:Nat):Int):=by
 unfold bits
 show IntKind.u64.wrap (((BitVec.ofInt 64 (a:Int)&&& BitVec.ofInt 64 (b:Int)).toNat:Nat):Int)=_
 rw [xJ,xJ,BitVec.toNat_and,BitVec.toNat_ofNat,BitVec.toNat_ofNat,Nat.mod_eq_of_lt ha,Nat.mod_eq_of_lt hb,qV _ (Nat.lt_of_le_of_lt Nat.and_le_left ha)]
theorem zq (a b:Nat) (ha:a < 2 ^ 64):bits .andNot .u64 (a:Int) (b:Int)=((dz a b:Nat):Int):=by
 unfold bits
 show IntKind.u64.wrap (((BitVec.ofInt 64 (a:Int)&&& ~~~(BitVec.ofInt 64 (b:Int))).toNat:Nat):Int)=_
 have e:(BitVec.ofInt 64 (a:Int)&&& ~~~(BitVec.ofInt 64 (b:Int))).toNat=dz a b:=by
  rw [xJ,xJ]
  refine Nat.eq_of_testBit_eq fun j=>?_
  rw [eG,←BitVec.getLsbD,BitVec.getLsbD_and,BitVec.getLsbD_not,BitVec.getLsbD_ofNat,BitVec.getLsbD_ofNat]
  by_cases hj:j < 64
  ·simp [hj]
  have:a.testBit j=false:=Nat.testBit_lt_two_pow (Nat.lt_of_lt_of_le ha (Nat.pow_le_pow_right (by decide) (by omega)))
  simp [hj,this]
 rw [e,qV _ (lY ha)]
theorem and_one (n:Nat):n&&& 1=if n.testBit 0 then 1 else 0:=by
 rw [Nat.and_one_is_mod,Nat.testBit_zero]
 rcases Nat.mod_two_eq_zero_or_one n with h|h<;>simp [h]
theorem AX (n k:Nat) (h:n < 2 ^ 64):bits .and .u64 ((n:Int) / 2 ^ k) 1=if n.testBit k then 1 else 0:=by
 have e:(n:Int) / 2 ^ k=((n >>> k:Nat):Int):=by
  rw [Nat.shiftRight_eq_div_pow]
  simp
 rw [e,show (1:Int)=((1:Nat):Int) from rfl,wN _ _ (Nat.lt_of_le_of_lt (Nat.shiftRight_le _ _) h) (by decide),and_one,Nat.testBit_shiftRight,Nat.add_zero]
 split<;>rfl
theorem UX (k:Nat) (h:k < 64):IntKind.u64.wrap (1*2 ^ k)=((2 ^ k:Nat):Int):=by
 have e:(1*2 ^ k:Int)=((2 ^ k:Nat):Int):=by simp
 rw [e,qV _ (Nat.pow_lt_pow_right (by decide) h)]


import Derived.Test.YtmddchceacmopaaGreatDoorE9
import Derived.Laws.OwnMore
import Derived.Laws.CopyRow
import Derived.Laws.MakeOwn
set_option linter.unusedVariables false
set_option linter.unusedSimpArgs false
namespace Go.Proofs.YtmddchceacmopaaGreatDoor
open Go Go.RowKit
theorem CY {p:Prop} (h:p:=by
 refine hHc 8 fun K hK=>?_
 ((have cS:=cellOf hB.out);(have fS:=aH hB.out);go_simp;(clear cS fS))
 refine uK hK (gG (show Ext No V _ from hHeld) YF) ?_
 clear hK K hHeld
 intro hHeld
 refine uD ?_
 have eX:Ext No V _:=hHeld
 go_wp2_with fail
 go_meet
 exact ⟨D,G,rfl,eX,(az (j:=1) (az (j:=0) hB)).trans rfl,(((Ext.refl (At D) v2).setAt 0 _).setAt 1 _).blk hG (fun e=>hne e),hne,hGW,YF⟩):p:=h
theorem oH {P:Program} (w:World) (dT sT ty elem:TypeId) (k:Nat) (g o dLen dCap:Nat) (a:Addr) (sLen sCap:Nat) (cur:Array Value) (t:TypeId) (cs:List Value)
  (hu:P.underlying dT=some (.slice elem)) (hs:(P.info? elem).map (·.size)=some k)
  (hg:w.heap[g]? =some (.cells cur t (0,0))) (hn:cs.length=Nat.min sLen dLen*k)
  (hsrc:∀j v,cs[j]? =some v→w.cell? (a.add j)=some v) (hfit:o+cs.length≤cur.size) (h1:∀v∈cs,v.oneCell'=true):
  (Builtin.copy_ #[dT,sT] ty #[.slice (some ⟨g,o,none⟩) dLen dCap,.slice (some a) sLen sCap]).run P w=
   .ok (goInt (Nat.min sLen dLen)) (w.setRow g (cur.toList.take o++cs++cur.toList.drop (o+cs.length)).toArray):=by
 have hl:=run_loadCells_list (P:=P) w a cs hsrc
 have hst:=run_storeCells_at P g o t cs 0 cur w hg (by simpa using hfit) h1
 cases hq:P.info? elem with
 |none=>simp [hq] at hs
 |some i=>
  have hi:i.size=k:=by simpa [hq] using hs
  simp [Builtin.copy_,run_underlying hu,Builtin.lenOf,Builtin.firstCells,sizeOf,typeInfo,hq,hi,←hn,hl,hst]
theorem Jh {P:Program} {o:Oper} {a:Act} {w:World} {K:Act→World→Prop} {Q:Exit→Act→World→Prop} (d s:Operand) (dT sT:TypeId) (k:Nat)
  (ho:o.op= .call { callee:= .builtin .copy,args:=#[d,s],argTypes:=#[dT,sT] }) (elem:TypeId) (hu:P.underlying dT=some (.slice elem)) (hsz:(P.info? elem).map (·.size)=some k)
  (g off dLen dCap:Nat) (ad:Addr) (sLen sCap:Nat) (hd:a.eval d= .slice (some ⟨g,off,none⟩) dLen dCap) (hs:a.eval s= .slice (some ad) sLen sCap)
  (cur:List Value) (t:TypeId) (hg:w.heap[g]? =some (.cells cur.toArray t (0,0))) (cs:List Value) (hn:cs.length=Nat.min sLen dLen*k)
  (hsrc:∀j v,cs[j]? =some v→w.cell? (ad.add j)=some v) (hfit:off+cs.length≤cur.length) (h1:∀v∈cs,v.oneCell'=true)
  (h:∀w',w'.heap[g]? =some (.cells (cur.take off++(cs++cur.drop (off+cs.length))).toArray t (0,0))→Ext (At g) w w'→K (a.put o.dst (goInt (Nat.min sLen dLen))) w'):
  Oper.wp P o a w K Q:=by
 have hrun:=oH (P:=P) w dT sT o.type elem k g off dLen dCap ad sLen sCap cur.toArray t cs hu hsz hg hn hsrc (by simpa using hfit) h1
 unfold Oper.wp
 simp only [execOp,ho,resolve,invoke,builtin,Sem.run_bind,Sem.run_pure,Result.andThen_ok,List.map_toArray,List.map_cons,List.map_nil,hd,hs,hrun]
 refine h _ (by simpa using setRow_heap w g _ _ t _ hg) ⟨rfl,rfl,rfl,by simp [World.setRow],fun i hi hne=>setRow_other w g i _ (fun e=>hne e)⟩
theorem JK {P:Program} {o:Oper} {a:Act} {w:World} {K:Act→World→Prop} {Q:Exit→Act→World→Prop} (s x:Operand) (t:TypeId)
  (ho:o.op= .call { callee:= .builtin .append,args:=#[s,x],argTypes:=#[t,t] })
  (base:Nat) (e:TypeId) (i:TypeInfo) (size:Nat) (ht:P.underlying t=some (.slice e)) (hi:P.info? e=some i) (hsize:i.size=size)
  (g n cap:Nat) (xs:List Value) (hs:a.eval s= .slice (some ⟨g,0,none⟩) n cap) (hown:w.ownsRow base e size (.slice (some ⟨g,0,none⟩) n cap) n xs)
  (A:Addr) (m c:Nat) (news:List Value) (hx:a.eval x= .slice (some A) m c) (hl:news.length=m*size) (hnews:∀j u,news[j]? =some u→w.cell? (A.add j)=some u) (h1:∀u∈news,u.oneCell'=true)
  (hroom:n+m≤cap)
  (h:∀w',w'.ownsRow base e size (.slice (some ⟨g,0,none⟩) (n+m) cap) (n+m) (xs++news)→w.grownBy w' (some g)→K (a.put o.dst (.slice (some ⟨g,0,none⟩) (n+m) cap)) w'):o.wp P a w K Q:=by
 obtain ⟨w',hrun,h2,h3⟩:=run_append_fits (P:=P) w base t o.type e i size ht hi hsize g n cap xs hown A m c news hl hnews h1 hroom
 unfold Oper.wp execOp
 simp only [ho,resolve,invoke,builtin,Sem.run_bind,Sem.run_pure,Result.andThen_ok,List.map_toArray,List.map_cons,List.map_nil,hs,hx,hrun]
 exact h w' h2 h3
theorem wU {base g cap n size:Nat} {e:TypeId} {xs:List Value}:∀(vs:List Value) (o:Nat) (w:World),n*size≤o→w.ownsRow base e size (.slice (some ⟨g,0,none⟩) n cap) n xs→(w.setCells g o vs).ownsRow base e size (.slice (some ⟨g,0,none⟩) n cap) n xs∧Ext (At g) w (w.setCells g o vs)
 |[],_,w,_,h=>⟨h,Ext.refl _ _⟩
 |v::r,o,w,ho,h=>by
  have h1:=(World.ownsRow.stored (w:=w) h o v).1
  have e1:xs.set o v=xs:=List.set_eq_of_length_le (by rw [h.1];exact ho)
  rw [e1] at h1
  obtain ⟨h2,h3⟩:=wU r (o+1) _ (by omega) h1
  exact ⟨h2,((Ext.refl (At g) w).setAt o v).trans h3⟩
theorem JL {P:Program} (w:World) (t e ty:TypeId) (z:Value) (ht:P.underlying t=some (.slice e)) (hv:∀w,(zeroValue e).run P w= .ok z w) (b o n c:Nat) (hn:0 < n)
  (h1:∀v∈(Builtin.zeroCells z.cells n).toList,v.oneCell'=true) (hc:∀j,j < (Builtin.zeroCells z.cells n).size→(w.cell? ⟨b,o+j,none⟩).isSome=true) (hf:∀j,j < (Builtin.zeroCells z.cells n).size→w.frozen? ⟨b,o+j,none⟩=false):
  (Builtin.clear_ #[t] ty #[.slice (some ⟨b,o,none⟩) n c]).run P w= .ok (.tuple #[]) (w.setCells b o (Builtin.zeroCells z.cells n).toList):=by
 have hst:=run_storeCells_cells (P:=P) b o (Builtin.zeroCells z.cells n).toList 0 w (by simpa using hc) (by simpa using hf) h1
 simp only [Nat.add_zero] at hst
 obtain ⟨m,rfl⟩:∃m,n=m+1:=⟨n - 1,by omega⟩
 simp [Builtin.clear_,run_underlying ht,hv,hst]
theorem Uj {w:World} {base g n cap i size:Nat} {e:TypeId} {xs:List Value} (h:w.ownsRow base e size (.slice (some ⟨g,0,none⟩) n cap) n xs) (hi:i≤n):w.ownsRow base e size (.slice (some ⟨g,0,none⟩) i cap) i (xs.take (i*size)):=by
 obtain ⟨h1,h2⟩:=h
 rcases h2 with ⟨h3,_⟩|⟨g',cap',cur,h3,hb,hg,hnc,hcm,hcs,htake⟩
 ·simp at h3
 simp only [Value.slice.injEq,Option.some.injEq,Addr.mk.injEq,and_true,true_and] at h3
 obtain ⟨rfl,rfl⟩:=h3
 have hm:i*size≤n*size:=Nat.mul_le_mul_right _ hi
 refine ⟨by rw [List.length_take,h1];omega,.inr ⟨g,cap,cur,rfl,hb,hg,by omega,hcm,hcs,?_⟩⟩
 rw [←htake,List.take_take,Nat.min_eq_left hm]
theorem xU (K:EK (Int×dS×Value×Value×Value)):∀(L:LA) (i:Nat),(L.flatMap K.cells).take (i*K.s)=(L.take i).flatMap K.cells
 |[],_=>by simp
 |p::L,0=>by simp
 |p::L,i+1=>by
  rw [List.flatMap_cons,List.take_succ_cons,List.flatMap_cons,←xU K L i,Nat.succ_mul,Nat.add_comm (i*K.s),List.take_append,K.len]
  rw [List.take_of_length_le (by rw [K.len];omega),Nat.add_sub_cancel_left]
theorem xV (K:EK (Int×dS×Value×Value×Value)):∀(L:LA) (i:Nat),(L.flatMap K.cells).drop (i*K.s)=(L.drop i).flatMap K.cells
 |[],_=>by simp
 |p::L,0=>by simp
 |p::L,i+1=>by
  rw [List.flatMap_cons,List.drop_succ_cons,←xV K L i,Nat.succ_mul,Nat.add_comm (i*K.s),List.drop_append,K.len]
  rw [List.drop_of_length_le (by rw [K.len];omega),Nat.add_sub_cancel_left,List.nil_append]
end Go.Proofs.YtmddchceacmopaaGreatDoor

namespace Go.Proofs.YtmddchceacmopaaGreatDoor
open Go Go.RowKit
theorem QD {l:bP} {n k:Nat} (hk:k < l.length) (h1:l[k].1=n) (h2:∀j (hj:j < l.length),j < k→l[j].1≠n):oh l n=k:=by
 rcases Nat.lt_trichotomy (oh l n) k with h|h|h
 ·exact absurd (qW (by omega)) (h2 _ (by omega) h)
 ·exact h
 exact absurd h1 (Uk h hk)
theorem QE {l:bP} {n:Nat} (h2:∀j (hj:j < l.length),l[j].1≠n):¬oh l n < l.length:=fun h=>h2 _ h (qW h)
def K5 (l:bP) (n:Nat) (W:World) (e:Ending) (w':World):Prop:=
 ((oh l n < l.length∧e= .returned (.int .i64 (oh l n:Int)))∨(¬oh l n < l.length∧e= .returned (.int .i64 (-1))))∧Ext No W w'
theorem QU (m n w:Nat) (ag ak ac:Option Addr) (cg ck nc cc:Nat) (g:Nat) (W:World) (h0:W.cell? ⟨g,0,none⟩=some (.int .i64 (n:Int))):
  Calls Tryz.prog 112 #[.agg #[.int .i64 (m:Int),.int .i64 (w:Int),.slice ag (nw w) cg,.int .i64 (w:Int),.slice ak (nw w) ck,.slice ac nc cc],.pointer (some ⟨g,0,none⟩)] W (kz (m=n) W):=by
 have hx0:Ext No W (W.alloc (.cells #[.int .i64 (m:Int),.int .i64 (w:Int),.slice ag (nw w) cg,.int .i64 (w:Int),.slice ak (nw w) ck,.slice ac nc cc] 49)):=(Ext.refl _ _).alloc _
 have c0:=hx0.keep h0
 have abe:=World.block_lt_of_cell? W _ h0
 by_cases hmn:m=n
 ·have hz:((m:Int)==(n:Int))=true:=by simp [hmn]
  have Pz:=aa hmn
  clear hmn
  go_enter Tryz.func112,Tryz.ntmps112
  go_wp2_with fail
  go_ret
  exact iw Pz hx0
 have hz:((m:Int)==(n:Int))=false:=by simp;omega
 have Pz:=aa hmn
 clear hmn
 go_enter Tryz.func112,Tryz.ntmps112
 go_wp2_with fail
 go_ret
 exact aP Pz hx0
set_option maxRecDepth 100000 in
set_option maxHeartbeats 2000000 in
theorem Ic (n w:Nat) (g:Nat) (sl:Value) (l:bP) (W:World) (hr:∀p∈l,eO p.2∧p.2.w=w) (h:fq No W sl l) (hl:l.length≤1024) (h0:W.cell? ⟨g,0,none⟩=some (.int .i64 (n:Int))):
  Calls Tryz.prog 77 #[sl,.func (.func 112) #[] #[.pointer (some ⟨g,0,none⟩)]] W (K5 l n W):=by
 have H:=aa h
 have HR:=aa hr
 obtain ⟨a,cap,rfl⟩:=h.slice
 clear h hr
 obtain ⟨N,hN⟩:∃N,N=l.length:=⟨_,rfl⟩
 rw [←hN] at H hl ⊢
 have ME:=aa hN
 clear hN
 go_enter Tryz.func77,Tryz.ntmps77
 go_wp2_with fail
 go_loopw [5,8] (fun _ i wr=>∃k:Nat,k≤N∧i= .int .i64 k∧Hid (Ext No W wr)∧Hid (∀j (hj:j < l.length),j < k→l[j].1≠n)) (fun _ i _=>N - (intOf i).toNat)
 case atStart=>exact mY
 obtain ⟨k,hk,rfl,hx,hm⟩:=hrel
 rename World=>wr
 by_cases hlt:k < N
 ·have hlz:(k:Int) < (N:Int):=by omega
  have HKK:Hid (Value.int .i64 ((k:Int)+1)= .int .i64 ((k+1:Nat):Int)):=aa (by rw [show ((k+1:Nat):Int)=(k:Int)+1 from by omega])
  have hkl:k < l.length:=by rw [←ME];exact hlt
  obtain ⟨⟨m,f⟩,jq⟩:∃q:Nat×cK,q=l[k]:=⟨_,rfl⟩
  obtain ⟨b,off,cap',ag,cg,ak,ck,ac,nc,cc,hsl,gt,-,-⟩:=fq.at HR.out (H.aj hx) hkl jq
  rw [←ME] at hsl
  simp only [Value.slice.injEq] at hsl
  obtain ⟨rfl,-,rfl⟩:=hsl
  obtain ⟨q0,q1,q2,q3,q4,q5⟩:=gt
  have oP:=aa (show l[k].1=m from by rw [←jq])
  clear jq
  go_wp2_with fail
  clear q0 q1 q2 q3 q4 q5
  go_at_call 112
  refine (QU m n w ag ak ac cg ck nc cc g _ (hx.keep h0)).mono ?_
  rintro e1 w1 ⟨bb,rfl,hbb,hx1⟩
  cases bb with
  |true=>
   have qM:=aa (iG hbb)
   clear hbb
   go_wp2_with fail
   go_ret
   have e:=QD hkl (oP.trans qM) hm.out
   exact ⟨.inl ⟨by rw [e];exact hkl,by rw [e];rfl⟩,hx.af hx1⟩
  |false=>
   have qM:=aa (ig hbb)
   clear hbb
   go_wp2_with fail
   go_roundw
   case rel=>exact ⟨k+1,by omega,HKK,hx.af hx1,aa (fun j hj hjk=>by
    by_cases e:j=k
    ·subst e
     rw [oP]
     exact qM
    exact hm j hj (by omega))⟩
   case measure=>simp [intOf];omega
 have hge:¬(k:Int) < (N:Int):=by omega
 go_wp2_with fail
 go_ret
 exact ⟨.inr ⟨QE (fun j hj=>hm j hj (by have:=ME.out;omega)),rfl⟩,hx⟩
theorem Ho (n w:Nat) (sl:Value) (l:bP) (W:World) (hr:∀p∈l,eO p.2∧p.2.w=w) (h:fq No W sl l) (hl:l.length≤1024):
  Calls Tryz.prog 83 #[sl,.int .i64 (n:Int)] W (K5 l n W):=by
 have H:=aa h
 have HR:=aa hr
 have HL:=aa hl
 obtain ⟨a,cap,rfl⟩:=h.slice
 clear h hr
 obtain ⟨N,hN⟩:∃N,N=l.length:=⟨_,rfl⟩
 rw [←hN] at H ⊢
 clear hN
 go_enter Tryz.func83,Tryz.ntmps83
 go_wp2_with fail
 have hx0:Ext No W (W.alloc (.cells #[.int .i64 (n:Int)] 3)):=(Ext.refl _ _).alloc _
 have hc:=cellOf (ah (w:=W) (o:=(.cells #[.int .i64 (n:Int)] 3)) rfl) 0
 refine (Ic n w W.heap.size _ l _ HR (H.aj hx0) HL (by simp [hc])).mono ?_
 rintro e1 w1 ⟨hh,hx1⟩
 have HX:=aa (hx0.af hx1)
 clear hx0 hx1 hc
 rcases hh with ⟨h1,rfl⟩|⟨h1,rfl⟩
 ·have H1:=aa h1
  clear h1
  go_wp2_with fail
  go_ret
  exact ⟨.inl ⟨H1.out,rfl⟩,HX⟩
 have H1:=aa h1
 clear h1
 go_wp2_with fail
 go_ret
 exact ⟨.inr ⟨H1.out,rfl⟩,HX⟩
end Go.Proofs.YtmddchceacmopaaGreatDoor

namespace Go.Proofs.YtmddchceacmopaaGreatDoor
open Go Go.RowKit
def kN (l:bP) (x:Nat):Nat:=(l.takeWhile (fun p=>p.1 < x)).length
theorem MP (l:bP) (x:Nat):kN l x≤l.length:=(List.takeWhile_sublist _).length_le
theorem QV {l:bP} {x:Nat} (h:(dR l).Pairwise (· < ·)) {k:Nat} (hk:k < l.length):l[k].1 < x↔k < kN l x:=by
 have hp:=List.takeWhile_append_dropWhile (p:=fun p:Nat×cK=>decide (p.1 < x)) (l:=l)
 constructor
 ·intro h1
  rcases Nat.lt_or_ge k (kN l x) with h2|h2
  ·exact h2
  exfalso
  have h3:kN l x < l.length:=by omega
  have h4:¬l[kN l x].1 < x:=by
   have h5:l.dropWhile (fun p=>decide (p.1 < x))≠[]:=fun e=>by
    have:=congrArg List.length hp
    rw [e,List.append_nil] at this
    unfold kN at h3;omega
   have h6:=List.head_dropWhile_not (fun p:Nat×cK=>decide (p.1 < x)) h5
   have h7:l[kN l x]=(l.dropWhile (fun p=>decide (p.1 < x))).head h5:=by
    have h8:l[kN l x]? =some ((l.dropWhile (fun p=>decide (p.1 < x))).head h5):=by
     have h9:l[kN l x]? =(l.takeWhile (fun p=>decide (p.1 < x))++l.dropWhile (fun p=>decide (p.1 < x)))[kN l x]? :=by rw [hp]
     rw [h9,List.getElem?_append_right (by unfold kN;omega)]
     unfold kN
     rw [Nat.sub_self,←List.head?_eq_getElem?,List.head?_eq_some_head h5]
    rw [List.getElem?_eq_getElem h3] at h8
    exact Option.some.inj h8
   rw [h7]
   simpa using h6
  rcases Nat.lt_or_ge (kN l x) k with h5|h5
  ·have:=Ar h h3 hk h5;omega
  have e:kN l x=k:=by omega
  simp only [e] at h4
  exact h4 h1
 intro h1
 have h2:l[k]=(l.takeWhile (fun p=>decide (p.1 < x)))[k]'h1:=by
  have h3:l[k]? =(l.takeWhile (fun p=>decide (p.1 < x)))[k]? :=by
   have h9:l[k]? =(l.takeWhile (fun p=>decide (p.1 < x))++l.dropWhile (fun p=>decide (p.1 < x)))[k]? :=by rw [hp]
   rw [h9,List.getElem?_append_left h1]
  rw [List.getElem?_eq_getElem hk,List.getElem?_eq_getElem h1] at h3
  exact Option.some.inj h3
 rw [h2]
 exact Au _ (List.getElem_mem h1)
theorem QW (l:bP) (a:Nat×cK):GK l a=l.take (kN l a.1)++a::l.drop (kN l a.1):=by
 have hp:=List.takeWhile_append_dropWhile (p:=fun p:Nat×cK=>decide (p.1 < a.1)) (l:=l)
 have h1:l.take (kN l a.1)=l.takeWhile (fun p=>decide (p.1 < a.1)):=by
  have h9:l.take (kN l a.1)=(l.takeWhile (fun p=>decide (p.1 < a.1))++l.dropWhile (fun p=>decide (p.1 < a.1))).take (kN l a.1):=by rw [hp]
  rw [h9]
  exact List.take_left' rfl
 have h2:l.drop (kN l a.1)=l.dropWhile (fun p=>decide (p.1 < a.1)):=by
  have h9:l.drop (kN l a.1)=(l.takeWhile (fun p=>decide (p.1 < a.1))++l.dropWhile (fun p=>decide (p.1 < a.1))).drop (kN l a.1):=by rw [hp]
  rw [h9]
  exact List.drop_left' rfl
 unfold GK
 rw [h1,h2]
theorem CZ (m x w:Nat) (ag ak ac:Option Addr) (cg ck nc cc:Nat) (W:World):
  Calls Tryz.prog 118 #[.agg #[.int .i64 (m:Int),.int .i64 (w:Int),.slice ag (nw w) cg,.int .i64 (w:Int),.slice ak (nw w) ck,.slice ac nc cc],.int .i64 (x:Int)] W (fun e w'=>e= .returned (.int .i64 (qK (m:Int) (x:Int)))∧Ext No W w'):=by
 have hx0:Ext No W (W.alloc (.cells #[.int .i64 (m:Int),.int .i64 (w:Int),.slice ag (nw w) cg,.int .i64 (w:Int),.slice ak (nw w) ck,.slice ac nc cc] 49)):=(Ext.refl _ _).alloc _
 go_enter Tryz.func118,Tryz.ntmps118
 go_wp2_with fail
 refine (MQ (m:Int) (x:Int) _).mono ?_
 rintro e1 w1 ⟨rfl,hw⟩
 rw [←hw]
 clear hw
 go_wp2_with fail
 go_ret
 exact ⟨rfl,hx0⟩
theorem MR {m x:Nat}:qK (m:Int) (x:Int) < 0↔m < x:=by
 unfold qK
 split
 ·omega
 split<;>omega
def XB (l:bP) (x:Nat) (W:World) (e:Ending) (w':World):Prop:=∃b:Bool,e= .returned (.tuple #[.int .i64 (kN l x:Int),.bool b])∧Ext No W w'
set_option maxRecDepth 100000 in
set_option maxHeartbeats 4000000 in
theorem JM (x w:Nat) (sl:Value) (l:bP) (W:World) (hasc:(dR l).Pairwise (· < ·)) (hr:∀p∈l,eO p.2∧p.2.w=w) (h:fq No W sl l) (hl:l.length≤1024):
  Calls Tryz.prog 117 #[sl,.int .i64 (x:Int),.func (.func 118) #[] #[]] W (XB l x W):=by
 have H:=aa h
 have HR:=aa hr
 have HA:=aa hasc
 obtain ⟨a,cap,rfl⟩:=h.slice
 clear h hr hasc
 have hpos:=MP l x
 obtain ⟨N,hN⟩:∃N,N=l.length:=⟨_,rfl⟩
 rw [←hN] at H hl hpos ⊢
 have ME:=aa hN
 clear hN
 obtain ⟨P,hP⟩:∃P,P=kN l x:=⟨_,rfl⟩
 rw [←hP] at hpos
 have HP:=aa hP
 clear hP
 go_enter Tryz.func117,Tryz.ntmps117
 go_wp2_with fail
 go_loopw [9,10,11] (fun s9 s10 _ wr=>∃i j:Nat,s9= .int .i64 (i:Int)∧s10= .int .i64 (j:Int)∧i≤P∧P≤j∧j≤N∧Hid (Ext No W wr)) (fun s9 s10 _ _=>(intOf s10).toNat - (intOf s9).toNat)
 case atStart=>exact ⟨0,N,rfl,rfl,Nat.zero_le _,hpos,Nat.le_refl _,Ext.refl _ _⟩
 obtain ⟨i,j,rfl,rfl,hi,hj,hjn,hx⟩:=hrel
 rename World=>wr
 by_cases hlt:i < j
 ·have hlz:(i:Int) < (j:Int):=by omega
  obtain ⟨q,hq⟩:∃q:Nat,q=(i+j) / 2:=⟨_,rfl⟩
  have hqi:i≤q:=by omega
  have hqj:q < j:=by omega
  have HQZ:=aa (show ((i:Int)+(j:Int)) / 2=(q:Int) from by omega)
  clear hq
  have hqN:q < N:=by omega
  have hqz:(q:Int) < (N:Int):=by omega
  have Yd:q < l.length:=by rw [←ME];exact hqN
  obtain ⟨⟨mm,f⟩,jq⟩:∃p:Nat×cK,p=l[q]:=⟨_,rfl⟩
  obtain ⟨b,off,cap',ag,cg,ak,ck,ac,nc,cc,hsl,gt,-,-⟩:=fq.at HR.out (H.aj hx) Yd jq
  rw [←ME] at hsl
  simp only [Value.slice.injEq] at hsl
  obtain ⟨rfl,-,rfl⟩:=hsl
  obtain ⟨q0,q1,q2,q3,q4,q5⟩:=gt
  have HMP:=aa (show mm < x↔q < P from by rw [HP,←QV HA Yd,←jq])
  have Sd:Hid (Value.int .i64 ((q:Int)+1)= .int .i64 ((q+1:Nat):Int)):=aa (by rw [show ((q+1:Nat):Int)=(q:Int)+1 from by omega])
  clear jq Yd
  go_upto_region 5 with (fail)
  rw [HQZ]
  go_wp2_with fail
  clear q0 q1 q2 q3 q4 q5
  go_at_call 118
  refine (CZ mm x w ag ak ac cg ck nc cc _).mono ?_
  rintro e1 w1 ⟨rfl,hx1⟩
  by_cases hc:mm < x
  ·have hcz:=MR.2 hc
   have hqP:=HMP.1 hc
   go_wp2_with fail
   go_roundw
   case rel=>exact ⟨q+1,j,Sd,rfl,by omega,hj,hjn,hx.af hx1⟩
   case measure=>simp [intOf];omega
  have hcz:¬qK (mm:Int) (x:Int) < 0:=fun h=>hc (MR.1 h)
  have hqP:¬q < P:=fun h=>hc (HMP.2 h)
  go_wp2_with fail
  go_roundw
  case rel=>exact ⟨i,q,rfl,rfl,hi,by omega,by omega,hx.af hx1⟩
  case measure=>simp [intOf];omega
 have hge:¬(i:Int) < (j:Int):=by omega
 have hiP:i=P:=by omega
 subst hiP
 have YG:=aa (show kN l x=i from HP.symm)
 by_cases hlt:i < N
 ·have hlz:(i:Int) < (N:Int):=by omega
  have Yd:i < l.length:=by rw [←ME];exact hlt
  obtain ⟨⟨mm,f⟩,jq⟩:∃p:Nat×cK,p=l[i]:=⟨_,rfl⟩
  obtain ⟨b,off,cap',ag,cg,ak,ck,ac,nc,cc,hsl,gt,-,-⟩:=fq.at HR.out (H.aj hx) Yd jq
  rw [←ME] at hsl
  simp only [Value.slice.injEq] at hsl
  obtain ⟨rfl,-,rfl⟩:=hsl
  obtain ⟨q0,q1,q2,q3,q4,q5⟩:=gt
  clear jq Yd
  go_wp2_with fail
  clear q0 q1 q2 q3 q4 q5
  go_at_call 118
  refine (CZ mm x w ag ak ac cg ck nc cc _).mono ?_
  rintro e1 w1 ⟨rfl,hx1⟩
  go_wp2_with fail
  refine aW rfl ?_
  simp [results,Tryz.results117,go_sem]
  exact ⟨_,by rw [YG],hx.af hx1⟩
 have hlz:¬(i:Int) < (N:Int):=by omega
 go_wp2_with fail
 refine aW rfl ?_
 simp [results,Tryz.results117,go_sem]
 exact ⟨_,by rw [YG],hx⟩
end Go.Proofs.YtmddchceacmopaaGreatDoor

namespace Go.Proofs.YtmddchceacmopaaGreatDoor
open Go Go.RowKit
theorem Am:(Tryz.prog.info? 49).map (fun i=>(i.zero,i.size,i.bytes))=some (some (.agg #[.int .i64 0,.int .i64 0,.slice none 0 0,.int .i64 0,.slice none 0 0,.slice none 0 0]),6,96):=by kernel_rfl
theorem QX {P:Program} {e:TypeId} {i:TypeInfo} {z:Value} (hi:P.info? e=some i) (hz:i.zero=some z) (w:World):(zeroValue e).run P w= .ok z w:=by simp [zeroValue,typeInfo,hi,hz]
def zA:Value:= .agg #[.int .i64 0,.int .i64 0,.slice none 0 0,.int .i64 0,.slice none 0 0,.slice none 0 0]
theorem XC:∀j:Nat,((Value.cells zA)[j % (Value.cells zA).size]!).oneCell'=true:=fun j=>by
 have h:j % (Value.cells zA).size < 6:=Nat.mod_lt _ (by decide)
 generalize j % (Value.cells zA).size=m at h
 match m,h with
 |0,_=>rfl
 |1,_=>rfl
 |2,_=>rfl
 |3,_=>rfl
 |4,_=>rfl
 |5,_=>rfl
theorem Lh (L:LA) (i:Nat) (hi:i < L.length):(L.take i).flatMap kA.cells++(L.drop (i+1)).flatMap kA.cells=(L.eraseIdx i).flatMap kA.cells:=by
 rw [List.eraseIdx_eq_take_drop_succ,List.flatMap_append]
def Ul (base g n cap:Nat) (L:LA) (i:Nat) (W:World) (e:Ending) (w':World):Prop:=
 e= .returned (.slice (some ⟨g,0,none⟩) (n - 1) cap)∧Hid (w'.ownsRow base 49 6 (.slice (some ⟨g,0,none⟩) (n - 1) cap) (n - 1) ((L.eraseIdx i).flatMap kA.cells))∧Hid (Ext (At g) W w')
set_option maxRecDepth 100000 in
set_option maxHeartbeats 8000000 in
theorem A8 (base g n cap i:Nat) (L:LA) (W:World) (hone:∀u∈L.flatMap kA.cells,u.oneCell'=true) (h:W.ownsRow base 49 6 (.slice (some ⟨g,0,none⟩) n cap) n (L.flatMap kA.cells)) (hn:n=L.length) (hi:i < n) (hn2:n≤1024):
  Calls Tryz.prog 84 #[.slice (some ⟨g,0,none⟩) n cap,.int .i64 (i:Int),.int .i64 ((i:Int)+1)] W (Ul base g n cap L i W):=by
 obtain ⟨iA,um,rC,hA1,hA2⟩:=info_parts Am
 have HO:=aa h
 have Qd:=aa hone
 have HN:=aa hn
 have hcap:n≤cap∧cap≤9223372036854775807:=by
  have:=(Row.bG (M:=No) h (fun _ _ x=>x)).caps
  exact this
 clear h hone hn
 have hz1:¬(i:Int)=(i:Int)+1:=by omega
 have hz2:((i:Int)==(i:Int)+1)=false:=by simp;omega
 have b1:(0:Int)≤(i:Int):=by omega
 have b2:(i:Int)≤(i:Int)+1:=by omega
 have b3:(i:Int)+1≤(n:Int):=by omega
 have b4:(n:Int)≤(cap:Int):=by omega
 have b5:(i:Int)≤(cap:Int):=by omega
 have b6:(0:Int)≤(i:Int)+1:=by omega
 have b7:(i:Int)+1≤(cap:Int):=by omega
 go_enter Tryz.func84,Tryz.ntmps84
 go_upto_region 5 with (fail)
 have abf:=aa (show Row No W 6 (.slice (some ⟨g,0,none⟩) n cap) n (L.flatMap kA.cells) from Row.bG HO (fun _ _ x=>x))
 have hd:=Row.drop (k:=i+1) abf (by omega)
 obtain ⟨A0,WZ⟩:∃A0:Addr,A0=(if cap=i+1 then (⟨g,0,none⟩:Addr) else ⟨g,(i+1)*6,none⟩):=⟨_,rfl⟩
 obtain ⟨A,hA⟩:∃A,A=(if cap=i+1 then some (⟨g,0,none⟩:Addr) else some ⟨g,(i+1)*6,none⟩):=⟨_,rfl⟩
 have HAA:=aa (show A=some A0 from by rw [hA,WZ];split<;>rfl)
 have hld:((L.flatMap kA.cells).drop ((i+1)*6)).length=(n - (i+1))*6:=by rw [List.length_drop,HO.1,←Nat.sub_mul]
 have HLD:=aa hld
 have HND:=aa (show ∀j u,((L.flatMap kA.cells).drop ((i+1)*6))[j]? =some u→W.drew.cell? (A0.add j)=some u from fun j u hj=>by
  by_cases hci:cap=i+1
  ·have hl0:((L.flatMap kA.cells).drop ((i+1)*6)).length=0:=by rw [hld];rw [show n - (i+1)=0 by omega,Nat.zero_mul]
   rw [List.eq_nil_of_length_eq_zero hl0] at hj
   simp at hj
  rw [WZ,if_neg hci]
  obtain ⟨-,hc2⟩:=hd.src
  rcases hc2 with ⟨h0,h2⟩|⟨ad',h0,h2⟩
  ·rw [h2] at hj;simp at hj
  simp only [Option.some.injEq] at h0
  subst h0
  have:=h2 j u hj
  rw [Nat.zero_add] at this
  exact this)
 clear hd hld WZ
 refine wp_region_held_drew (S:=(fun _=>True)) (by kernel_rfl) ?_ (fun hHeld=>?_)
 ·trivial
 have HC:=aa (show W.drew.ownsRow base 49 6 (.slice (some ⟨g,0,none⟩) i cap) i ((L.flatMap kA.cells).take (i*6)) from Uj (aZ HO (Ext.refl No W).drew (fun _ _ x=>x)) (by omega))
 have Ye:=aa (show Ext (At g) W W.drew from (Ext.refl _ W).drew)
 have HOD:=aa (aZ HO (Ext.refl No W).drew (fun _ _ x=>x))
 have hws:base≤g∧g < W.drew.heap.size:=World.ownsRow.lt HOD g rfl
 generalize W.drew=v0 at*
 refine uO [0,1,2,3,4,5] ?_
 iterate 6 refine uT ?_
 refine uZ ?_
 rw [←hA]
 refine hHc 6 fun K hK=>?_
 (refine JK (.tmp 22) (.tmp 25) 40 rfl base 49 iA 6 Tryz.underlying40 um hA1 g i cap ((L.flatMap kA.cells).take (i*6)) rfl HC A0 (n - (i+1)) (cap - (i+1)) ((L.flatMap kA.cells).drop ((i+1)*6)) (by rw [HAA];rfl) HLD HND (fun u hu=>Qd u (List.mem_of_mem_drop hu)) (by omega) ?_);(intro w5 hown hg)
 refine uK hK (by trivial) ?_
 clear hK K hHeld
 intro hHeld
 refine uA 7 ?_
 refine uD ?_
 obtain ⟨q,hq⟩:∃q,q=n - 1:=⟨_,rfl⟩
 rw [show i+(n - (i+1))=q by omega] at hown ⊢
 have nJ:Ext (At g) v0 w5:=(Ext.refl _ v0).grown hg (fun k hk _=>(Option.some.inj hk).symm)
 have YH:=aa (Ye.trans nJ)
 have Wo:=aa (show w5.ownsRow base 49 6 (.slice (some ⟨g,0,none⟩) q cap) q ((L.eraseIdx i).flatMap kA.cells) from by
  rw [show (L.flatMap kA.cells).take (i*6)=(L.take i).flatMap kA.cells from xU kA L i,show (L.flatMap kA.cells).drop ((i+1)*6)=(L.drop (i+1)).flatMap kA.cells from xV kA L (i+1),Lh L i (by rw [←HN];exact hi)] at hown
  exact hown)
 obtain ⟨cur,Nl,hsz⟩:∃cur,w5.heap[g]? =some (.cells cur 49 (0,0))∧cur.size=cap*6:=by
  rcases Wo.2 with ⟨h3,_⟩|⟨g',cap',cur,h3,hb,hg',hnc,hcm,hcs,htake⟩
  ·simp at h3
  simp only [Value.slice.injEq,Option.some.injEq,Addr.mk.injEq,and_true,true_and] at h3
  obtain ⟨rfl,rfl⟩:=h3
  exact ⟨cur,hg',hcs⟩
 have HCU:=aa (And.intro Nl hsz)
 clear hown hg nJ Nl hsz
 have Wp:q < n:=by omega
 have hqc:¬cap=q:=by omega
 have c1:(0:Int)≤(q:Int):=by omega
 have c2:(q:Int)≤(n:Int):=by omega
 have c3:(n:Int)≤(cap:Int):=by omega
 have hzv:∀w,(zeroValue 49).run Tryz.prog w= .ok zA w:=fun w=>QX um rC w
 have HCL:=aa (wU (Builtin.zeroCells (Value.cells zA) (n - q)).toList (q*6) w5 (Nat.le_refl _) Wo)
 have hzc:(Builtin.zeroCells (Value.cells zA) (n - q)).size=(n - q)*6:=by simp [Builtin.zeroCells,zA,Value.cells]
 have hqm:q*6+(n - q)*6≤cap*6:=by rw [←Nat.add_mul];exact Nat.mul_le_mul_right _ (by omega)
 have VQ:∀v∈(Builtin.zeroCells (Value.cells zA) (n - q)).toList,v.oneCell'=true:=fun v hv=>by
  simp only [Builtin.zeroCells,Array.toList_map,List.mem_map] at hv
  obtain ⟨j,_,rfl⟩:=hv
  exact XC _
 have hrun:=JL (P:= Tryz.prog) w5 40 49 0 zA Tryz.underlying40 hzv g (q*6) (n - q) (cap - q) (by omega) VQ (fun j hj=>by
  rw [hzc] at hj
  have h1:q*6+j < cur.size:=by rw [HCU.2];omega
  rw [cellOf HCU.1 (q*6+j),Array.getElem?_eq_getElem h1];rfl) (fun j _=>aH HCU.1 (q*6+j))
 obtain ⟨w6,NF⟩:∃w6,w6=w5.setCells g (q*6) (Builtin.zeroCells (Value.cells zA) (n - q)).toList:=⟨_,rfl⟩
 rw [←NF] at hrun HCL
 have HQ:=aa hq
 clear NF VQ hzc hqm hq
 go_wp2_with fail
 go_ret
 exact ⟨by rw [HQ];rfl,aa (by rw [←HQ];exact HCL.1),YH.trans HCL.2⟩
end Go.Proofs.YtmddchceacmopaaGreatDoor

namespace Go.Proofs.YtmddchceacmopaaGreatDoor
open Go Go.RowKit
theorem uH {P:Program} {w:World} {M:Nat→Prop} (dT sT ty elem:TypeId) (k:Nat) (hu:P.underlying dT=some (.slice elem)) (hsz:(P.info? elem).map (·.size)=some k)
  (g n dCap:Nat) (A:Option Addr) (c:Nat) (cur:Array Value) (t:TypeId) (hg:w.heap[g]? =some (.cells cur t (0,0))) (Nl:cur.size=n*k) (news:List Value) (hr:Row M w k (.slice A n c) n news) (h1:∀u∈news,u.oneCell'=true):
  ∃w',(Builtin.copy_ #[dT,sT] ty #[.slice (some ⟨g,0,none⟩) n dCap,.slice A n c]).run P w= .ok (goInt n) w'∧Hid (w'.heap[g]? =some (.cells news.toArray t (0,0)))∧Hid (Ext (At g) w w'):=by
 obtain ⟨hl,hc⟩:=hr.src
 cases A with
 |some ad=>
  have hsrc:∀j v,news[j]? =some v→w.cell? (ad.add j)=some v:=by
   rcases hc with ⟨h0,h2⟩|⟨ad',h0,h2⟩
   ·intro j v hj
    rw [h2] at hj;simp at hj
   simp only [Option.some.injEq] at h0
   subst h0;exact h2
  have hm:Nat.min n n=n:=Nat.min_self n
  have h0:=oH (P:=P) w dT sT ty elem k g 0 n dCap ad n c cur t news hu hsz hg (by rw [hl,hm]) hsrc (by rw [hl,Nl];omega) h1
  rw [hm] at h0
  refine ⟨_,h0,?_,⟨rfl,rfl,rfl,by simp [World.setRow],fun i hi hne=>setRow_other w g i _ (fun e=>hne e)⟩⟩
  have h:=setRow_heap w g cur (cur.toList.take 0++news++cur.toList.drop (0+news.length)).toArray t (0,0) hg
  have e:(cur.toList.take 0++news++cur.toList.drop (0+news.length))=news:=by
   rw [List.take_zero,List.nil_append,List.drop_of_length_le (by rw [Array.length_toList,Nl,hl];omega),List.append_nil]
  rw [e] at h
  rw [e]
  exact h
 |none=>
  have h0:n=0∧news=[]:=by
   rcases hc with h|⟨_,h,_⟩
   ·exact h
   cases h
  obtain ⟨rfl,rfl⟩:=h0
  refine ⟨w,?_,?_,Ext.refl _ _⟩
  ·cases hq:P.info? elem with
   |none=>simp [hq] at hsz
   |some i=>simp [Builtin.copy_,run_underlying hu,Builtin.lenOf,Builtin.firstCells,sizeOf,typeInfo,hq,storeCells]
  have:cur=#[]:=Array.eq_empty_of_size_eq_zero (by rw [Nl];simp)
  rw [this] at hg
  exact hg
theorem Od {β:Type} (K:EK β) (zp:β) (z:Value) (hz:z.cells.toList=K.cells zp) (hs:0 < K.s) (n:Nat):(madeCells z.cells (n*K.s)).toList=(List.replicate n zp).flatMap K.cells:=by
 have hzs:z.cells.size=K.s:=by rw [←Array.length_toList,hz,K.len]
 refine List.ext_getElem? (fun m=>?_)
 rcases Nat.lt_or_ge m (n*K.s) with h|h
 ·have hm:m / K.s < n:=Nat.div_lt_of_lt_mul (by rw [Nat.mul_comm];exact h)
  have h2:=rV K (List.replicate n zp) (m / K.s) (m % K.s) (by simpa using hm) (Nat.mod_lt _ hs)
  rw [show m / K.s*K.s+m % K.s=m from by rw [Nat.mul_comm];exact Nat.div_add_mod m K.s] at h2
  rw [h2,List.getElem_replicate,←hz]
  simp [madeCells,hzs,h,Nat.mod_lt _ hs]
 rw [List.getElem?_eq_none (by simp [madeCells];exact h),List.getElem?_eq_none (by rw [lD];simpa using h)]
theorem QY {β:Type} (K:EK β) (zp:β) (z:Value) (hz:z.cells.toList=K.cells zp) (hs:0 < K.s) (n:Nat) (hn:n≤maxLen) (w:World):(w.alloc (.cells (madeCells z.cells (n*K.s)) K.T)).ownsRow w.heap.size K.T K.s (.slice (some ⟨w.heap.size,0,none⟩) n n) n ((List.replicate n zp).flatMap K.cells):=by
 refine ⟨by rw [lD];simp,.inr ⟨w.heap.size,n,_,rfl,Nat.le_refl _,ah rfl,Nat.le_refl _,hn,by simp [madeCells],?_⟩⟩
 exact C8
theorem Ao (t e:TypeId) (i:TypeInfo) (z:Value) (ht: Tryz.prog.underlying t=some (.slice e)) (hi: Tryz.prog.info? e=some i) (hz:i.zero=some z) (s b:Nat) (hsz:i.size=s) (hby:i.bytes=b) (n:Nat) (hn:n≤1100) (hs:s≤16) (hb:b≤1000) (w:World):
  (Instr.makeSlice t (.int .i64 (n:Int)) (.int .i64 (n:Int))).run Tryz.prog w= .ok (.slice (some ⟨w.heap.size,0,none⟩) n n) (w.alloc (.cells (madeCells z.cells (n*s)) e)):=by
 have h1:n*s≤1100*16:=Nat.mul_le_mul hn hs
 have h2:(b:Int)*(n:Int)≤1000*1100:=by
  have:=Nat.mul_le_mul hb hn
  have h3:((b*n:Nat):Int)≤((1000*1100:Nat):Int):=by exact_mod_cast this
  rw [Int.natCast_mul] at h3
  omega
 have h:=run_makeSlice (P:= Tryz.prog) w t e i z ht hi hz .i64 .i64 n n (by omega) (Int.le_refl _) (by rw [hsz];simp;omega) (by rw [hby];omega) (by omega)
 simp only [Int.toNat_natCast,hsz] at h
 exact h
theorem aaQ (w:World) (C:Nat) (a b:Value):Ext (At C) w ((w.setCell ⟨C,0,none⟩ a).setCell ⟨C,1,none⟩ b):=((Ext.refl (At C) w).setAt 0 a).setAt 1 b
theorem aaR {w:World} {C:Nat} {T:TypeId} {x0 x1:Value} (h:w.heap[C]? =some (.cells #[x0,x1] T (0,0))) (a b:Value):((w.setCell ⟨C,0,none⟩ a).setCell ⟨C,1,none⟩ b).heap[C]? =some (.cells #[a,b] T (0,0)):=
 (az (j:=1) (az (j:=0) h)).trans rfl
theorem Um:(Tryz.prog.info? 108).map (fun i=>(i.zero,i.size,i.bytes))=some (some (.int .u64 0),1,8):=by kernel_rfl
theorem jP {P:Program} {e:TypeId} {i:TypeInfo} {s:Nat} (hi:P.info? e=some i) (hs:i.size=s):(P.info? e).map (·.size)=some s:=by rw [hi];simp [hs]
set_option maxRecDepth 100000 in
set_option maxHeartbeats 4000000 in
theorem Av (M:Nat→Prop) (w m:Nat) (sl:Value) (W:World) (hM:∀b,M b→b < W.heap.size) (h:aG No W sl w m):Calls Tryz.prog 81 #[.agg #[.int .i64 (w:Int),sl]] W (jA M w m W):=by
 obtain ⟨iU,hiU,hU0,hU1,hU2⟩:=info_parts Um
 have H:=aa h
 have HM:=aa hM
 have hw:=h.hw
 obtain ⟨a,c,rfl⟩:=h.slice
 clear h hM
 have hnw:nw w≤4:=by unfold nw;omega
 have hmk:=Ao 42 108 iU _ Tryz.underlying42 hiU hU0 1 8 hU1 hU2 (nw w) (by omega) (by omega) (by omega)
 go_enter Tryz.func81,Tryz.ntmps81
 go_upto_region 1 with (fail)
 have hx0:Ext No W ((W.alloc (.cells #[.int .i64 (w:Int),.slice a (nw w) c] 44)).alloc (.cells #[.int .i64 0,.slice none 0 0] 44)):=((Ext.refl _ _).alloc _).alloc _
 have HA:=aa (zK hx0)
 have HC:=aa (zM hx0)
 have HX:=aa hx0
 clear hx0
 generalize World.alloc (World.alloc W _) _=V at*
 go_cut [3] (fun s3 wx=>∃(D G:Nat),s3= .pointer (some ⟨D,0,none⟩)∧Hid (Ext No V wx)∧Hid (wx.heap[D]? =some (.cells #[.int .i64 (w:Int),.slice (some ⟨G,0,none⟩) (nw w) (nw w)] 44 (0,0)))∧Hid (wx.heap[G]? =some (.cells (madeCells #[.int .u64 0] (nw w)) 108 (0,0)))∧G≠D∧V.heap.size≤G∧V.heap.size≤D)
 case first=>
  refine uW (fun w'=>Ext No V w') aS fun hHeld=>?_
  generalize V.drew=v0 at*
  refine uO [0,1,2,3,4] ?_
  iterate 5 refine uT ?_ (hy:=(by intro w hSw;(have fG:Ext No V _:=hSw);(have q0:=cellOf (fG.blk HA ax));go_simp;(try with_reducible rfl)))
  refine uZ ?_
  refine aN (i:=5) (j:=7) (by kernel_rfl) (aD.mk rfl rfl (fun K hK=>?_)) (aD.mk rfl rfl (fun K hK=>?_))
  ·((have BG:V.heap.size≤v0.heap.size:=(show Ext No V _ from hHeld).size);go_simp)
   refine uK hK mZ ?_
   clear hK K hHeld
   intro hHeld
   have hG:=aa (ah (w:=v0) (o:=(.cells (madeCells #[.int .u64 0] (nw w)) 108)) rfl)
   have hGl:=aa (show v0.heap.size < (v0.alloc (.cells (madeCells #[.int .u64 0] (nw w)) 108)).heap.size from by simp)
   have hGW:=aa (show V.heap.size≤v0.heap.size from BG)
   clear BG
   generalize World.alloc v0 _=v1 at*
   generalize v0.heap.size=G at*
   refine uA 6 ?_
   refine hHc 7 fun K hK=>?_
   ((have BG:V.heap.size≤v1.heap.size:=(show Ext No V _ from hHeld).size);go_simp)
   refine uK hK mZ ?_
   clear hK K hHeld
   intro hHeld
   have hB:=aa (ah (w:=v1) (o:=(.cells #[.int .i64 0,.slice none 0 0] 44)) rfl)
   replace hG:=aa (((Ext.refl No v1).alloc (.cells #[.int .i64 0,.slice none 0 0] 44)).blk hG ax)
   have hne:=aa (show G≠v1.heap.size from by have:=hGl.out;omega)
   have hDl:=aa (show v1.heap.size < (v1.alloc (.cells #[.int .i64 0,.slice none 0 0] 44)).heap.size from by simp)
   have YF:=BG
   clear BG
   generalize World.alloc v1 _=v2 at*
   generalize v1.heap.size=D at*
   exact CY
  ((have BG:V.heap.size≤v0.heap.size:=(show Ext No V _ from hHeld).size);go_simp)
  refine uK hK mZ ?_
  clear hK K hHeld
  intro hHeld
  have hB:=aa (ah (w:=v0) (o:=(.cells #[.int .i64 0,.slice none 0 0] 44)) rfl)
  have hDl:=aa (show v0.heap.size < (v0.alloc (.cells #[.int .i64 0,.slice none 0 0] 44)).heap.size from by simp)
  have YF:=BG
  clear BG
  generalize World.alloc v0 _=v1 at*
  generalize v0.heap.size=D at*
  refine hHc 5 fun K hK=>?_
  ((have BG:V.heap.size≤v1.heap.size:=(show Ext No V _ from hHeld).size);go_simp)
  refine uK hK mZ ?_
  clear hK K hHeld
  intro hHeld
  have hG:=aa (ah (w:=v1) (o:=(.cells (madeCells #[.int .u64 0] (nw w)) 108)) rfl)
  replace hB:=aa (((Ext.refl No v1).alloc (.cells (madeCells #[.int .u64 0] (nw w)) 108)).blk hB ax)
  have hne:=aa (show v1.heap.size≠D from by have:=hDl.out;omega)
  replace hDl:=aa (show D < (v1.alloc (.cells (madeCells #[.int .u64 0] (nw w)) 108)).heap.size from by have:=hDl.out;simp;omega)
  have hGl:=aa (show v1.heap.size < (v1.alloc (.cells (madeCells #[.int .u64 0] (nw w)) 108)).heap.size from by simp)
  have hGW:=aa (show V.heap.size≤v1.heap.size from BG)
  clear BG
  generalize World.alloc v1 _=v2 at*
  generalize v1.heap.size=G at*
  refine uA 6 ?_
  exact CY
 case rest=>
  obtain ⟨D,G,rfl,hx,hD,hG,hne,BG,YF⟩:=hcut
  rename World=>wx
  have HAx:=aa (hx.blk HA ax)
  have KO:Row No wx 1 (.slice a (nw w) c) (nw w) (iY (aY w m)):=by
   have h:=(H.aj (HX.af hx)).words.row
   rw [aX] at h
   exact h
  obtain ⟨w2,hrun,hG2,hE2⟩:=uH (P:= Tryz.prog) 42 42 3 108 1 Tryz.underlying42 (jP hiU hU1) G (nw w) (nw w) a c _ _ hG (by simp [madeCells]) (iY (aY w m)) KO (Aw _)
  have HB2:=aa (show fU w2 G w m from hG2)
  have HD2:=aa (hE2.blk hD (fun (e:D=G)=>hne e.symm))
  have HVx:=hx.size
  have HVs:=lt_of_block HC.out
  have Ti:=aa (hE2.blk (hx.blk HC ax) (fun (e:W.heap.size+1=G)=>by omega))
  have KP:=aa (H.hm)
  have ji:=aa ((HX.af hx).aJ hE2 (fun i hi e=>by have h9:=HX.size;unfold At at e;omega))
  have cA:=cellOf HAx.out
  have cD0:=cellOf hD.out
  have cD:=cellOf HD2.out
  have cC:=cellOf Ti.out
  have fC:=aH Ti.out
  have hC2:=lt_of_block Ti.out
  have HWs:=aa HX.size
  clear hG hG2 KO hx hE2
  go_wp2_with fail
  refine aW rfl ?_
  have cF:=cellOf (aaR Ti (.int .i64 (w:Int)) (.slice (some ⟨G,0,none⟩) (nw w) (nw w)))
  clear cC fC cA cD0 cD
  simp [results,Tryz.results81,go_sem,cF]
  have jR:Ext (At (W.heap.size+1)) w2 ((w2.setCell ⟨W.heap.size+1,0,none⟩ (.int .i64 (w:Int))).setCell ⟨W.heap.size+1,1,none⟩ (.slice (some ⟨G,0,none⟩) (nw w) (nw w))):=aaQ w2 _ _ _
  have hGC:G≠W.heap.size+1:=by have h9:=HX.size;omega
  exact ⟨some ⟨G,0,none⟩,nw w,rfl,aa ((HB2.set (M:=fun b=>M b∨b=W.heap.size+1) hw KP.out (fun e=>by
   rcases e with e|e
   ·have:=HM.out G e;have:=HWs.out;omega
   exact hGC e)).ext jR (fun i _ e=> .inr e) |>.mono (fun i _ e=> .inl e)),ji.aJ jR (fun i hi e=>by unfold At at e;omega)⟩

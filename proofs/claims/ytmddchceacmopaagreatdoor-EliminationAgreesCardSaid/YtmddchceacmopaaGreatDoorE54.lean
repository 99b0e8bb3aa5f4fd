
import Derived.ProofKit
import Derived.Deep.Slices
import Derived.Test.YtmddchceacmopaaGreatDoorE53
import Derived.SizedLaws
set_option linter.unusedVariables false
set_option linter.unusedSimpArgs false
namespace Go.Proofs.YtmddchceacmopaaGreatDoor
open Go Go.RowKit Go.ChangeShapes Go.WideShapes Go.Deep
theorem EN (n j:Nat) (hn:0 < n):j=n*(j / n)+j % n∧j % n < n:=⟨(Nat.div_add_mod j n).symm,Nat.mod_lt _ hn⟩
theorem Jt {α:Type} (f:α→List Value) (n:Nat):∀(l:List α),(∀a∈l,(f a).length=n)→∀(i j:Nat) (hi:i < l.length),j < n→(l.flatMap f)[n*i+j]? =(f l[i])[j]? :=by
 intro l
 induction l with
 |nil=>intro _ i j hi;simp at hi
 |cons a l ih=>
  intro hf i j hi hj
  have ha:=hf a (List.mem_cons_self ..)
  have ih:=ih (fun b hb=>hf b (List.mem_cons_of_mem _ hb))
  rw [List.flatMap_cons]
  cases i with
  |zero=>simp only [Nat.mul_zero,Nat.zero_add,List.getElem_cons_zero];rw [List.getElem?_append_left (by rw [ha];exact hj)]
  |succ i=>
   rw [List.getElem?_append_right (by rw [ha,Nat.mul_add];omega),ha]
   exact EO
theorem Ju {α:Type} (f:α→List Value) (n:Nat) (l:List α) (hf:∀a∈l,(f a).length=n):(l.flatMap f).length=l.length*n:=by
 induction l with
 |nil=>simp
 |cons a l ih=>rw [List.flatMap_cons,List.length_append,hf a (List.mem_cons_self ..),ih (fun b hb=>hf b (List.mem_cons_of_mem _ hb)),List.length_cons,Nat.add_mul];omega
section
variable {H:Type} {enc:TypeId×Value→H} {P:Program} {w:World} {base:Nat} {spare:Nat→Bool} {held:Bool}
def Lc (enc:TypeId×Value→H) (P:Program) (w:World) (base:Nat) (spare:Nat→Bool) (held:Bool) (k:IntKind) (t:TypeId) (n:Nat):Prop:=
 ∀fuel cs x,DataW.trod enc P w base spare held fuel t cs=some x→∃zs:List Int,cs=zs.map (.int k)∧zs.length=n∧∀z∈zs,(Lit.int k z).wf=true
theorem Rq {k:IntKind} {t:TypeId} (ht:P.underlying t=some (.int k)):Lc enc P w base spare held k t 1:=fun _ _ _ h=>by
 obtain ⟨n,h1,_,h2⟩:=DataW.trod_int ht h
 exact ⟨[n],h1,rfl,fun z hz=>by simp at hz;rw [hz];exact h2⟩
theorem JZ {t:TypeId} {fs:Array Field} {k:IntKind} (hs:P.underlying t=some (.struct fs)) (hC:P.cellsOf t=fs.size)
  (hf:∀(i:Nat) (f:Field),fs[i]? =some f→f.offset=i∧P.underlying f.type=some (.int k)∧P.cellsOf f.type=1):Lc enc P w base spare held k t fs.size:=fun fuel cs x h=>by
 obtain ⟨xs,n,_,_,hl,hlen,hx⟩:=DataW.trod_struct hs h
 have hl':cs.length=fs.size:=by rw [←hC];exact hl
 have hel:∀i,i < fs.size→∃z:Int,cs[i]? =some (.int k z)∧(Lit.int k z).wf=true:=by
  intro i hi
  obtain ⟨ho,hu,hc⟩:=hf i fs[i] (by simp [hi])
  have h1:=hx i fs[i] (by simp [hi])
  have hi2:i < xs.length:=by omega
  rw [List.getElem?_eq_getElem hi2] at h1
  obtain ⟨z,hz,_,hw⟩:=DataW.trod_int hu h1
  refine ⟨z,?_,hw⟩
  rw [ho,hc] at hz
  have h3:((cs.drop i).take 1)[0]? =some (.int k z):=by rw [hz];rfl
  simpa [List.getElem?_take] using h3
 refine ⟨cs.map (fun v=>match v with| .int _ z=>z|_=>0),?_,by simpa using hl',?_⟩
 ·apply List.ext_getElem?
  intro i
  by_cases hi:i < fs.size
  ·obtain ⟨z,hz,_⟩:=hel i hi
   rw [List.map_map,List.getElem?_map,hz];rfl
  rw [List.getElem?_eq_none (by omega),List.getElem?_eq_none (by simp;omega)]
 intro z hz
 obtain ⟨v,hv,rfl⟩:=List.mem_map.1 hz
 obtain ⟨i,hi,rfl⟩:=List.getElem_of_mem hv
 obtain ⟨z,hz1,hz2⟩:=hel i (by omega)
 rw [List.getElem?_eq_getElem hi] at hz1
 simp only [Option.some.injEq] at hz1
 rw [hz1];exact hz2
theorem add_plain (b off j:Nat):(⟨b,off,none⟩:Addr).add j=⟨b,off+j,none⟩:=by unfold Addr.add;split<;>simp_all
theorem Be {w:World} {x:Addr} {v:Value} (h:w.cell? x=some v):x.spot=none:=by
 obtain ⟨b,off,sp⟩:=x
 cases sp with
 |none=>rfl
 |some s=>
  exfalso
  simp only [World.cell?] at h
  split at h<;>simp at h
theorem EP {t e:TypeId} {n:Nat} {k:IntKind} (ht:P.underlying t=some (.slice e)) (hC:P.cellsOf e=n) (hn:0 < n) (hel:Lc enc P w base spare held k e n) {fuel:Nat} {cs:List Value} {x:DataW H×List MemPlace}
  (h:DataW.trod enc P w base spare held fuel t cs=some x):
  ∃(a:Option Addr) (cap:Nat) (om:List (List Int)),cs=[.slice a om.length cap]∧(∀z∈om,z.length=n∧∀y∈z,(Lit.int k y).wf=true)∧Row No w n (.slice a om.length cap) om.length (om.flatMap fun z=>z.map (.int k)):=by
 rcases open_slice ht h with ⟨rfl,_⟩|⟨a,len,cap,m,n',D,Pl,rfl,_,hl,hm,hmm,_,hi⟩
 ·exact ⟨none,0,[],rfl,by simp,Row.nil _ _ _ _ _ (by omega)⟩
 have hlm:len≤m:=by rw [hmm];split<;>omega
 have hz:∀i,i < len→∃zs:List Int,(zs.length=n∧∀y∈zs,(Lit.int k y).wf=true)∧∀j,j < n→w.cell? (a.add (i*n+j))=(zs.map (Value.int k))[j]? :=by
  intro i hil
  obtain ⟨cs',h1,h2⟩:=hi i (by omega)
  obtain ⟨zs,h3,h4,h5⟩:=hel _ _ _ h2
  obtain ⟨_,h6,h7⟩:=World.cells?_some h1
  refine ⟨zs,⟨h4,h5⟩,fun j hj=>?_⟩
  have:=h7 j (by rw [hC];exact hj)
  rw [h3] at this
  rw [←this,hC,Go.Deep.add_add]
 let om:List (List Int):=(List.range len).attach.map fun i=>(hz i.1 (List.mem_range.1 i.2)).choose
 have hlen:om.length=len:=by simp [om]
 have hget:∀i (hi:i < om.length),(om[i].length=n∧∀y∈om[i],(Lit.int k y).wf=true)∧∀j,j < n→w.cell? (a.add (i*n+j))=(om[i].map (Value.int k))[j]? :=by
  intro i hi
  have hs:=(hz i (by omega)).choose_spec
  have e:om[i]=(hz i (by omega)).choose:=by simp [om]
  rw [e];exact hs
 have hmem:∀z∈om,z.length=n∧∀y∈z,(Lit.int k y).wf=true:=fun z hz=>by
  obtain ⟨i,hi,rfl⟩:=List.getElem_of_mem hz
  exact (hget i hi).1
 have hfl:(om.flatMap fun z=>z.map (Value.int k)).length=om.length*n:=Ju _ n _ (fun z hz=>by rw [List.length_map];exact (hmem z hz).1)
 refine ⟨some a,cap,om,by rw [hlen],hmem,hfl,by rw [hlen];simp only [maxLen] at hm;omega,some a,cap,rfl,⟨by rw [hlen];exact hl,by simp only [maxLen] at hm;omega⟩,?_⟩
 by_cases h0:len=0
 ·exact .inl (by rw [hlen];exact h0)
 right
 have hl0:0 < om.length:=by omega
 have h1:=(hget 0 hl0).2 0 hn
 have hx0:a.add (0*n+0)=a:=by simp [Addr.add]
 rw [hx0] at h1
 have hl1:=(hget 0 hl0).1.1
 rw [List.getElem?_eq_getElem (by rw [List.length_map,hl1];exact hn)] at h1
 have hsp:=Be h1
 obtain ⟨b,off,sp⟩:=a
 simp only at hsp
 subst hsp
 refine ⟨b,off,rfl,World.block_lt_of_cell? w _ h1,fun x=>x.elim,fun j u hj=>?_⟩
 have hj2:j < om.length*n:=by rw [←hfl];exact (List.getElem?_eq_some_iff.1 hj).1
 obtain ⟨e1,e2⟩:=EN n j hn
 have hi:j / n < om.length:=by rw [Nat.div_lt_iff_lt_mul hn];exact hj2
 have h3:=(hget (j / n) hi).2 (j % n) e2
 have h4:=Jt (fun z:List Int=>z.map (Value.int k)) n om (fun z hz=>by rw [List.length_map];exact (hmem z hz).1) (j / n) (j % n) hi e2
 rw [←e1] at h4
 rw [h4] at hj
 rw [hj] at h3
 have hadd:(⟨b,off,none⟩:Addr).add (j / n*n+j % n)=⟨b,off+j,none⟩:=by
  have:j / n*n+j % n=j:=by rw [Nat.mul_comm];exact e1.symm
  rw [this];exact add_plain _ _ _
 rw [hadd] at h3
 exact h3
theorem rz {t:TypeId} {fs:Array Field} {cs:Array Value} {d:DataW H} {p:List MemPlace} (hs:P.underlying t=some (.struct fs)) (h:DataW.Trod enc P w base spare held t (.agg cs) d p):
  ∃n,∀(i:Nat) (f:Field),fs[i]? =some f→∃x,DataW.trod enc P w base spare held n f.type ((cs.toList.drop f.offset).take (P.cellsOf f.type))=some x:=by
 obtain ⟨fuel,h⟩:=h
 obtain ⟨xs,n,_,_,hl,hlen,hx⟩:=DataW.trod_struct hs h
 refine ⟨n,fun i f hf=>?_⟩
 have hi:i < fs.size:=(Array.getElem?_eq_some_iff.1 hf).1
 have h1:=hx i f hf
 rw [List.getElem?_eq_getElem (by omega)] at h1
 exact ⟨_,h1⟩
end
end Go.Proofs.YtmddchceacmopaaGreatDoor

namespace Go.Proofs.YtmddchceacmopaaGreatDoor
open Go Go.RowKit Go.ChangeShapes Go.WideShapes
variable {H:Type} {enc:TypeId×Value→H} {W:World} {base:Nat} {spare:Nat→Bool} {held:Bool}
def NA (z:List Int):Nat:=(z[0]?.getD 0).toNat
theorem Bf {z:List Int} (h:z.length=1) (hw:∀y∈z,(Lit.int .u64 y).wf=true):z.map (Value.int .u64)=[.int .u64 (NA z:Int)]∧NA z < 2 ^ 64:=by
 match z,h with
 |[y],_=>
  have h1:=hw y (List.mem_cons_self ..)
  have h1:0≤y∧y < 18446744073709551616:=by
   simp [Lit.wf,IntKind.min,IntKind.max,IntKind.bits,IntKind.signed] at h1
   omega
  have h2:NA [y]=y.toNat:=rfl
  have h3:((NA [y]:Nat):Int)=y:=by rw [h2];exact Int.toNat_of_nonneg h1.1
  refine ⟨by rw [h3];rfl,?_⟩
  omega
theorem OC {om:List (List Int)} (h:∀z∈om,z.length=1∧∀y∈z,(Lit.int .u64 y).wf=true):om.flatMap (fun z=>z.map (Value.int .u64))=iY (om.map NA):=by
 induction om with
 |nil=>rfl
 |cons z om ih=>
  have e:=ih (fun y hy=>h y (List.mem_cons_of_mem _ hy))
  have h1:=h z (List.mem_cons_self ..)
  rw [List.flatMap_cons,e,(Bf h1.1 h1.2).1]
  rfl
def Aq (z:List Int):Int×Int:=(z[0]?.getD 0,z[1]?.getD 0)
theorem J2 {om:List (List Int)} (h:∀z∈om,z.length=2):om.flatMap (fun z=>z.map (Value.int .i64))=iZ (om.map Aq):=by
 induction om with
 |nil=>rfl
 |cons z om ih=>
  have e:=ih (fun y hy=>h y (List.mem_cons_of_mem _ hy))
  rw [List.flatMap_cons,e]
  match z,h z (List.mem_cons_self ..) with
  |[a,b],_=>rfl
theorem LM {fuel:Nat} {cs:List Value} {x:DataW H×List MemPlace} (h:DataW.trod enc Tryz.prog W base spare held fuel 42 cs=some x):
  ∃(a:Option Addr) (c:Nat) (l:List Nat),cs=[.slice a l.length c]∧aU No W (.slice a l.length c) l:=by
 obtain ⟨a,cap,om,e,hz,hrow⟩:=EP (n:=1) (k:= .u64) Tryz.underlying42 (by kernel_rfl) (by omega) (Rq Tryz.underlying108) h
 refine ⟨a,cap,om.map NA,by rw [List.length_map];exact e,⟨?_,fun n hn=>?_⟩⟩
 ·rw [List.length_map,←OC hz]
  exact hrow
 obtain ⟨z,hz',rfl⟩:=List.mem_map.1 hn
 exact (Bf (hz z hz').1 (hz z hz').2).2
set_option maxRecDepth 100000 in
theorem AU {fuel:Nat} {v0 v1:Value} {x:DataW H×List MemPlace} (h:DataW.trod enc Tryz.prog W base spare held fuel 44 [v0,v1]=some x):
  ∃(s:bC) (a:Option Addr) (c:Nat),v0= .int .i64 s.width∧v1= .slice a s.words.length c∧aU No W (.slice a s.words.length c) s.words:=by
 obtain ⟨n,hf⟩:=rz (cs:=#[v0,v1]) (d:=x.1) (p:=x.2) Tryz.underlying44 ⟨fuel,h⟩
 obtain ⟨x0,h0⟩:=hf 0 _ rfl
 obtain ⟨x1,h1⟩:=hf 1 _ rfl
 obtain ⟨z0,e0,_,_⟩:=DataW.trod_int Tryz.underlying3 h0
 obtain ⟨a,c,l,e1,hw⟩:=LM h1
 have k1: Tryz.prog.cellsOf 3 =1:=by kernel_rfl
 have k2: Tryz.prog.cellsOf 42 =1:=by kernel_rfl
 simp [k1] at e0
 simp [k2] at e1
 subst e0 e1
 exact ⟨⟨z0,l⟩,a,c,rfl,rfl,hw⟩
theorem J3 {fuel:Nat} {cs:List Value} {x:DataW H×List MemPlace} (h:DataW.trod enc Tryz.prog W base spare held fuel 45 cs=some x):
  ∃(a:Option Addr) (c:Nat) (l:List (Int×Int)),cs=[.slice a l.length c]∧fo No W (.slice a l.length c) l:=by
 obtain ⟨a,cap,om,e,hz,hrow⟩:=EP (n:=2) (k:= .i64) Tryz.underlying45 (by kernel_rfl) (by omega) (JZ Tryz.underlying75 (by kernel_rfl) (by
   intro i f hi
   match i,hi with
   |0,hi=>cases hi;exact ⟨rfl,Tryz.underlying3,by kernel_rfl⟩
   |1,hi=>cases hi;exact ⟨rfl,Tryz.underlying3,by kernel_rfl⟩
   |i+2,hi=>simp at hi)) h
 refine ⟨a,cap,om.map Aq,by rw [List.length_map];exact e,?_⟩
 show Row No W 2 (.slice a (om.map Aq).length cap) (om.map Aq).length (iZ (om.map Aq))
 rw [List.length_map,←J2 (fun z hz'=>(hz z hz').1)]
 exact hrow
end Go.Proofs.YtmddchceacmopaaGreatDoor

namespace Go.Proofs.YtmddchceacmopaaGreatDoor
open Go Go.RowKit Go.ChangeShapes Go.WideShapes Go.Deep
variable {H:Type} {enc:TypeId×Value→H} {W:World} {base:Nat} {spare:Nat→Bool} {held:Bool}
set_option maxRecDepth 100000 in
theorem OD {fuel:Nat} {cs:List Value} {x:DataW H×List MemPlace} (hsz:cs.length=2) (h:DataW.trod enc Tryz.prog W base spare held fuel 44 cs=some x):
  ∃p:bC×Value,cs=kS.cells p∧kS.ok No W p:=by
 match cs,hsz with
 |[v0,v1],_=>
  obtain ⟨s,a,c,rfl,rfl,hw⟩:=AU h
  exact ⟨(s,_),rfl,hw⟩
set_option maxRecDepth 100000 in
theorem Rs {fuel:Nat} {cs:List Value} {x:DataW H×List MemPlace} (hsz:cs.length=5) (h:DataW.trod enc Tryz.prog W base spare held fuel 47 cs=some x):
  ∃p:dS×Value×Value×Value,cs=kT.cells p∧kT.ok No W p:=by
 match cs,hsz with
 |[v0,v1,v2,v3,v4],_=>
  obtain ⟨n,hf⟩:=rz (cs:=#[v0,v1,v2,v3,v4]) (d:=x.1) (p:=x.2) Tryz.underlying47 ⟨fuel,h⟩
  obtain ⟨x0,h0⟩:=hf 0 _ rfl
  obtain ⟨x1,h1⟩:=hf 1 _ rfl
  obtain ⟨x2,h2⟩:=hf 2 _ rfl
  have k1: Tryz.prog.cellsOf 44 =2:=by kernel_rfl
  have k2: Tryz.prog.cellsOf 45 =1:=by kernel_rfl
  simp only [k1] at h0 h1
  simp only [k2] at h2
  obtain ⟨s,a1,c1,e0,e1,hw1⟩:=AU (v0:=v0) (v1:=v1) h0
  obtain ⟨t,a2,c2,e2,e3,hw2⟩:=AU (v0:=v2) (v1:=v3) h1
  obtain ⟨a3,c3,q,e4,hw3⟩:=J3 h2
  have e5:v4= .slice a3 q.length c3:=by simpa [k2] using e4
  subst e0 e1 e2 e3 e5
  exact ⟨(⟨s,t,q⟩,_,_,_),rfl,hw1,hw2,hw3⟩
end Go.Proofs.YtmddchceacmopaaGreatDoor

namespace Go.Proofs.YtmddchceacmopaaGreatDoor
open Go Go.RowKit Go.ChangeShapes Go.WideShapes Go.Deep
variable {H:Type} {enc:TypeId×Value→H} {W:World} {base:Nat} {spare:Nat→Bool} {held:Bool}
theorem ve {β:Type} (K:EK β) {P:Program} {t e:TypeId} (ht:P.underlying t=some (.slice e)) (hC:P.cellsOf e=K.s) (hn:0 < K.s) (Q:β→DataW H→Prop)
  (hel:∀fuel cs x,cs.length=K.s→DataW.trod enc P W base spare held fuel e cs=some x→∃p:β,cs=K.cells p∧K.ok No W p∧Q p x.1) {fuel:Nat} {cs:List Value} {x:DataW H×List MemPlace}
  (h:DataW.trod enc P W base spare held fuel t cs=some x):∃(sl:Value) (L:List β) (D:Nat→DataW H),cs=[sl]∧jb K No W sl L∧(∀i (h:i < L.length),Q L[i] (D i))∧(L=[]∨∃r,x.1= .slice ((List.range L.length).map D) r):=by
 rcases open_slice ht h with ⟨rfl,_⟩|⟨a,len,cap,m,n',D,Pl,rfl,_,hl,hm,hmm,IJ,hi⟩
 ·exact ⟨.slice none 0 0,[],fun _=> .nil,rfl,jb.nil _ _ (Nat.zero_le _),fun i h=>absurd h (Nat.not_lt_zero _),.inl rfl⟩
 have hlm:len≤m:=by rw [hmm];split<;>omega
 have hz:∀i,i < len→∃p:β,K.ok No W p∧Q p (D i)∧∀j,j < K.s→W.cell? (a.add (i*K.s+j))=(K.cells p)[j]? :=by
  intro i hil
  obtain ⟨cs',h1,h2⟩:=hi i (by omega)
  obtain ⟨h5,h6,h7⟩:=World.cells?_some h1
  obtain ⟨p,h3,h4,hq⟩:=hel _ _ _ (h6.trans hC) h2
  refine ⟨p,h4,hq,fun j hj=>?_⟩
  have:=h7 j (by rw [hC];exact hj)
  rw [h3] at this
  rw [←this,hC,Go.Deep.add_add]
 let L:List β:=(List.range len).attach.map fun i=>(hz i.1 (List.mem_range.1 i.2)).choose
 have hlen:L.length=len:=by simp [L]
 have hget:∀i (hi:i < L.length),K.ok No W L[i]∧Q L[i] (D i)∧∀j,j < K.s→W.cell? (a.add (i*K.s+j))=(K.cells L[i])[j]? :=by
  intro i hi
  have hs:=(hz i (by omega)).choose_spec
  have e:L[i]=(hz i (by omega)).choose:=by simp [L]
  rw [e];exact hs
 have hfl:(L.flatMap K.cells).length=L.length*K.s:=Ju _ _ _ (fun z _=>K.len z)
 refine ⟨_,L,D,rfl,⟨⟨hfl,by rw [hlen];simp only [maxLen] at hm;omega,some a,cap,by rw [hlen],⟨by rw [hlen];exact hl,by simp only [maxLen] at hm;omega⟩,?_⟩,fun p hp=>?_⟩,fun i hi=>(hget i hi).2.1,.inr ⟨_,by rw [IJ,hlen]⟩⟩
 ·by_cases h0:len=0
  ·exact .inl (by rw [hlen];exact h0)
  right
  have hl0:0 < L.length:=by omega
  have h1:=(hget 0 hl0).2.2 0 hn
  have hx0:a.add (0*K.s+0)=a:=by simp [Addr.add]
  rw [hx0] at h1
  rw [List.getElem?_eq_getElem (by rw [K.len];exact hn)] at h1
  have hsp:=Be h1
  obtain ⟨b,off,sp⟩:=a
  simp only at hsp
  subst hsp
  refine ⟨b,off,rfl,World.block_lt_of_cell? W _ h1,fun x=>x.elim,fun j u hj=>?_⟩
  have hj2:j < L.length*K.s:=by rw [←hfl];exact (List.getElem?_eq_some_iff.1 hj).1
  obtain ⟨e1,e2⟩:=EN K.s j hn
  have hi:j / K.s < L.length:=by rw [Nat.div_lt_iff_lt_mul hn];exact hj2
  have h3:=(hget (j / K.s) hi).2.2 (j % K.s) e2
  have h4:=Jt K.cells K.s L (fun z _=>K.len z) (j / K.s) (j % K.s) hi e2
  rw [←e1] at h4
  rw [h4] at hj
  rw [hj] at h3
  have hadd:(⟨b,off,none⟩:Addr).add (j / K.s*K.s+j % K.s)=⟨b,off+j,none⟩:=by
   have:j / K.s*K.s+j % K.s=j:=by rw [Nat.mul_comm];exact e1.symm
   rw [this];exact add_plain _ _ _
  rw [hadd] at h3
  exact h3
 obtain ⟨i,hi,rfl⟩:=List.getElem_of_mem hp
 exact (hget i hi).1
set_option maxRecDepth 100000 in
theorem OE {fuel:Nat} {cs:List Value} {x:DataW H×List MemPlace} (hsz:cs.length=6) (h:DataW.trod enc Tryz.prog W base spare held fuel 49 cs=some x):
  ∃p:Int×dS×Value×Value×Value,cs=kA.cells p∧kA.ok No W p:=by
 match cs,hsz with
 |[v0,v1,v2,v3,v4,v5],_=>
  obtain ⟨n,hf⟩:=rz (cs:=#[v0,v1,v2,v3,v4,v5]) (d:=x.1) (p:=x.2) Tryz.underlying49 ⟨fuel,h⟩
  obtain ⟨x0,h0⟩:=hf 0 _ rfl
  obtain ⟨x1,h1⟩:=hf 1 _ rfl
  have k0: Tryz.prog.cellsOf 3 =1:=by kernel_rfl
  have k1: Tryz.prog.cellsOf 47 =5:=by kernel_rfl
  simp only [k0] at h0
  simp only [k1] at h1
  obtain ⟨z0,e0,_,_⟩:=DataW.trod_int Tryz.underlying3 h0
  obtain ⟨q,e1,hq⟩:=Rs rfl h1
  have f0:v0= .int .i64 z0:=by simpa [k0] using e0
  have f1:[v1,v2,v3,v4,v5]=kT.cells q:=by simpa [k1] using e1
  subst f0
  exact ⟨(z0,q.1,q.2.1,q.2.2.1,q.2.2.2),by rw [f1];rfl,hq⟩
theorem Nb {P:Program} {e:TypeId} {d:DataW H} {n:Nat}:∀{l:List (DataW H)},d∈l→n∈d.weights P e→n∈DataW.weightsAll P e l
 |y::l,hd,hn=>by
  simp only [DataW.weightsAll,List.mem_append]
  rcases List.mem_cons.1 hd with rfl|hd
  ·exact .inl hn
  exact .inr (Nb hd hn)
def aaw (p:LA×Value) (d:DataW H):Prop:=(∀n∈d.weights Tryz.prog 40,n≤reachBytes)→p.1.length≤1500000000000
set_option maxRecDepth 100000 in
theorem OG {fuel:Nat} {cs:List Value} {x:DataW H×List MemPlace} (h:DataW.trod enc Tryz.prog W base spare held fuel 40 cs=some x):
  ∃p:LA×Value,cs=kL.cells p∧kL.ok No W p∧aaw p x.1:=by
 obtain ⟨sl,L,D,rfl,hL,-,hx⟩:=ve kA Tryz.underlying40 (by kernel_rfl) (by decide) (fun _ _=>True) (fun _ _ _ hl h=>by obtain ⟨p,h1,h2⟩:=OE hl h;exact ⟨p,h1,h2,trivial⟩) h
 refine ⟨(L,sl),rfl,hL,fun hw=>?_⟩
 rcases hx with rfl|⟨r,hx⟩
 ·exact Nat.zero_le _
 have hb: Tryz.prog.bytesOf 49 =96:=by kernel_rfl
 have h1:=hw ((L.length+r.length)*96) (by rw [hx];simp [DataW.weights,Tryz.underlying40,hb])
 have h2:reachBytes=140737488351232:=rfl
 show L.length≤_
 omega
set_option maxRecDepth 100000 in
theorem Rt {r:Reach} {b0:Nat} {v:Value} {d:DataW H} {p:List MemPlace}
  (hv:Value.okWide Tryz.prog W r b0 26 v) (h:DataW.Trod enc Tryz.prog W base spare held 26 v d p) (hz:∀n∈d.weights Tryz.prog 26,n≤reachBytes):
  ∃(x:Int) (vb vi:Value) (LB:LS) (Li:fe),v= .agg #[.int .i64 x,vb,vi]∧YW No W vb vi LB Li∧mD Li:=by
 obtain ⟨cs,rfl,hsz⟩:=okWide_struct Tryz.underlying26 hv
 have acf:cs.size=3:=hsz.trans (by kernel_rfl)
 obtain ⟨fuel,h⟩:=h
 obtain ⟨xs,n,_,hd,_,hlen,hf⟩:=DataW.trod_struct Tryz.underlying26 h
 obtain ⟨l⟩:=cs
 match l,acf,xs,hlen with
 |[v0,v1,v2],_,[y0,y1,y2],_=>
  have h0:DataW.trod enc Tryz.prog W base spare held n 3 (List.take (Tryz.prog.cellsOf 3) [v0,v1,v2])=some y0:=hf 0 _ rfl
  have h1:DataW.trod enc Tryz.prog W base spare held n 23 (List.take (Tryz.prog.cellsOf 23) [v1,v2])=some y1:=hf 1 _ rfl
  have h2:DataW.trod enc Tryz.prog W base spare held n 24 (List.take (Tryz.prog.cellsOf 24) [v2])=some y2:=hf 2 _ rfl
  have k0: Tryz.prog.cellsOf 3 =1:=by kernel_rfl
  have k1: Tryz.prog.cellsOf 23 =1:=by kernel_rfl
  have k2: Tryz.prog.cellsOf 24 =1:=by kernel_rfl
  rw [k0] at h0
  rw [k1] at h1
  rw [k2] at h2
  obtain ⟨z0,e0,_,_⟩:=DataW.trod_int Tryz.underlying3 (x:=y0) h0
  obtain ⟨s1,L1,_,e1,hw1,-,-⟩:=ve kS Tryz.underlying23 (by kernel_rfl) (by decide) (fun _ _=>True) (fun _ _ _ hl h=>by obtain ⟨p,h1,h2⟩:=OD hl h;exact ⟨p,h1,h2,trivial⟩) (x:=y1) h1
  obtain ⟨s2,L2,D,e2,hw2,hQ,hx⟩:=ve kL Tryz.underlying24 (by kernel_rfl) (by decide) aaw (fun _ _ _ _ h=>OG h) (x:=y2) h2
  have f0:v0= .int .i64 z0:=by simpa [k0] using e0
  have f1:v1=s1:=by simpa [k1] using e1
  have f2:v2=s2:=by simpa [k2] using e2
  subst f0 f1 f2
  refine ⟨z0,_,_,L1,L2,rfl,⟨hw1,hw2⟩,fun q hq=>?_⟩
  obtain ⟨i,hi,rfl⟩:=List.getElem_of_mem hq
  refine hQ i hi (fun m hm=>hz m ?_)
  rcases hx with rfl|⟨r,hx⟩
  ·exact absurd hi (Nat.not_lt_zero _)
  have h9:m∈y2.1.weights Tryz.prog 24 :=by
   rw [hx]
   simp only [DataW.weights,Tryz.underlying24,List.mem_cons,List.mem_append]
   exact .inr (.inl (Nb (List.mem_map.2 ⟨i,List.mem_range.2 hi,rfl⟩) hm))
  have hdd:d= .agg [y0.1,y1.1,y2.1]:=congrArg Prod.fst hd
  subst hdd
  simp only [DataW.weights,Tryz.underlying26]
  exact DataW.weights_mem_each (j:=2) rfl rfl m h9

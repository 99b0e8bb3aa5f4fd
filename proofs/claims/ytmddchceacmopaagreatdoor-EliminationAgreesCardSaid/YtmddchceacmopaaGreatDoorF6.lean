
import Derived.Test.YtmddchceacmopaaGreatDoorRefB
set_option linter.unusedVariables false
set_option linter.unusedSimpArgs false
namespace Go.Proofs.YtmddchceacmopaaGreatDoor
open Go Go.RowKit
theorem EX {p:Prop} (h:p:=by
 go_wp2_with fail
 go_roundw
 case rel=>exact ⟨a+1,_,_,by omega,HKK,by rw [←HV];exact hm1⟩
 case measure=>simp [intOf];omega):p:=h
def NC (t:cK) (s a:Nat):Nat:=qU t.w fun j=>VF t s j a
def Cr (t:cK) (s a b:Nat):Nat:=qU t.w fun j=>VF t s j a||(gz t.w s a&&(decide (j < b)&&iK t a j))
theorem Hz (t:cK) (s a b:Nat):Cr t s a b < 2 ^ t.w:=wL _ _
theorem OH {t:cK} (ho:eO t) (s:Nat):NC t s 0=t.gen:=(qY ho.gen (fun b hb=>(eP hb).symm)).symm
theorem OI {t:cK} (ho:eO t) {s:Nat} (hs:s < 2 ^ t.w):NC t s t.w=bL t s:=(qY (sN ho hs) (fun b hb=>by rw [←eP hb];exact OJ ho hb)).symm
theorem OL (t:cK) (s a:Nat):Cr t s a 0=NC t s a:=oD (fun j _=>by simp)
theorem Jy {t:cK} {s a b:Nat} (h:gz t.w s a=false∨b=t.w):Cr t s a b=NC t s (a+1):=oD (fun j hj=>by
 rw [VF]
 rcases h with h|h
 ·simp [h]
 subst h;simp [hj])
theorem Ry {t:cK} {s a b:Nat} (hb:b < t.w) (h:gz t.w s a=true) (hf:iK t a b=true):Cr t s a (b+1)=Cr t s a b|||2 ^ b:=by
 refine oU (Hz t s a (b+1)) (fZ (Hz t s a b) (eZ hb)) (fun j hj=>?_)
 rw [or_bit]
 unfold Cr
 rw [lI,lI,h]
 by_cases e:b=j
 ·subst e;simp [hf,hj]
 have:decide (j < b+1)=decide (j < b):=by rw [decide_eq_decide];omega
 simp [this,e]
theorem UL {t:cK} {s a b:Nat} (hf:iK t a b=false):Cr t s a (b+1)=Cr t s a b:=oD (fun j _=>by
 by_cases e:b=j
 ·subst e;simp [hf]
 have:decide (j < b+1)=decide (j < b):=by rw [decide_eq_decide];omega
 simp [this])
set_option maxRecDepth 100000 in
set_option maxHeartbeats 4000000 in
theorem vk (M:Nat→Prop) (t:cK) (w s:Nat) (sg sk sc ss:Value) (W:World) (hw:t.w=w) (hM:∀b,M b→b < W.heap.size) (h:dF M W sg sk sc t) (hs:aG No W ss w s):
  Calls Tryz.prog 101 #[.agg #[.int .i64 (w:Int),sg,.int .i64 (w:Int),sk,sc],.agg #[.int .i64 (w:Int),ss]] W (jA M w (bL t s) W):=by
 subst hw
 have H:=aa h
 have HS:=aa hs
 have HM:=aa hM
 obtain ⟨ag,cg,rfl⟩:=h.gen.slice
 obtain ⟨ak,ck,rfl⟩:=h.kill.slice
 obtain ⟨ac,cc,rfl⟩:=Row.slice h.copies
 obtain ⟨a1,c1,rfl⟩:=hs.slice
 have hw:=hs.hw
 have HO:=aa h.ok
 clear h hs hM
 go_enter Tryz.func101,Tryz.ntmps101
 go_wp2_with fail
 have hm0:=aa (show oM M W ((((W.alloc (.cells #[.int .i64 (t.w:Int),.slice ag (nw t.w) cg,.int .i64 (t.w:Int),.slice ak (nw t.w) ck,.slice ac t.copies.length cc] 47)).alloc (.cells #[.int .i64 (t.w:Int),.slice a1 (nw t.w) c1] 44)).alloc (.cells #[.int .i64 0,.slice none 0 0] 44)).alloc (.cells #[.int .i64 (t.w:Int),.slice ag (nw t.w) cg] 44)) t s (NC t s 0) (W.heap.size+3) (.slice ag (nw t.w) cg) (.slice ak (nw t.w) ck) (.slice ac t.copies.length cc) (.slice a1 (nw t.w) c1) (.slice ag (nw t.w) cg) from
  ⟨((((Ext.refl _ _).alloc _).alloc _).alloc _).alloc _,ay (ay (ay (ah rfl))),ay (ay (ah (by simp))),ay (ah (by simp)),ah (by simp),
   by rw [OH HO];exact (H.gen.mono (fun i hi e=>by rcases e with e|e|e;exact e;omega;omega)).aj (((((Ext.refl _ _).alloc _).alloc _).alloc _).alloc _),by omega⟩)
 generalize World.alloc (World.alloc (World.alloc (World.alloc W _) _) _) _=W0 at*
 go_loopw [6] (fun i wr=>∃(a:Nat) (ao:Option Addr) (co:Nat),a≤t.w∧i= .int .i64 a∧Hid (oM M W wr t s (NC t s a) (W.heap.size+3) (.slice ag (nw t.w) cg) (.slice ak (nw t.w) ck) (.slice ac t.copies.length cc) (.slice a1 (nw t.w) c1) (.slice ao (nw t.w) co))) (fun i _=>t.w - (intOf i).toNat)
 case atStart=>exact yu
 clear hm0
 obtain ⟨a,ao,co,ha,rfl,hm⟩:=hrel
 rename World=>wr
 have hpos:(0:Int)≤(a:Int):=by omega
 by_cases hlt:a < t.w
 ·have hlz:(a:Int) < (t.w:Int):=by omega
  have HKK:Hid (Value.int .i64 ((a:Int)+1)= .int .i64 ((a+1:Nat):Int)):=aa (by rw [show ((a+1:Nat):Int)=(a:Int)+1 from by omega])
  have cS:=cellOf hm.vO
  go_wp2_with fail
  clear cS
  rw [←OL] at hm
  go_loopw [7] (fun i wr=>∃(b:Nat) (ao:Option Addr) (co:Nat),b≤t.w∧i= .int .i64 b∧Hid (oM M W wr t s (Cr t s a b) (W.heap.size+3) (.slice ag (nw t.w) cg) (.slice ak (nw t.w) ck) (.slice ac t.copies.length cc) (.slice a1 (nw t.w) c1) (.slice ao (nw t.w) co))) (fun i _=>t.w - (intOf i).toNat)
  case atStart=>exact ⟨0,_,_,Nat.zero_le _,rfl,hm⟩
  clear hm
  obtain ⟨b,ap,cp,hb,rfl,hm⟩:=hrel
  rename World=>wi
  have Qx:(0:Int)≤(b:Int):=by omega
  have cS:=cellOf hm.vO
  go_wp2_with fail
  clear cS
  refine (wM t.w s _ (a:Int) _ (HS.aj hm.ext)).mono ?_
  rintro e1 w1 ⟨he1,hy1⟩
  have hm1:=aa (hm.aC hy1)
  clear hm hy1
  have cS:=cellOf hm1.vO
  cases hh:gz t.w s (a:Int)
  ·rw [hh] at he1
   subst he1
   have HV:=aa (Jy (t:=t) (s:=s) (a:=a) (b:=b) (.inl hh))
   clear hh
   exact EX
  rw [hh] at he1
  subst he1
  have HH:=aa hh
  clear hh
  by_cases hlb:b < t.w
  ·have Xu:(b:Int) < (t.w:Int):=by omega
   have Cj:Hid (Value.int .i64 ((b:Int)+1)= .int .i64 ((b+1:Nat):Int)):=aa (by rw [show ((b+1:Nat):Int)=(b:Int)+1 from by omega])
   have cT:=cellOf hm1.jl
   go_wp2_with fail
   clear cS cT
   refine (Il t t.w _ _ _ (a:Int) (b:Int) _ rfl (H.no.aj hm1.ext)).mono ?_
   rintro e2 w2 ⟨he2,hy2⟩
   have hm2:=aa (hm1.aC hy2)
   clear hm1 hy2
   cases hf:iK t (a:Int) (b:Int)
   ·rw [hf] at he2
    subst he2
    have HV:=aa (UL (t:=t) (s:=s) (a:=a) (b:=b) hf)
    clear hf
    go_wp2_with fail
    go_roundw
    case rel=>exact ⟨b+1,_,_,by omega,Cj,by rw [HV];exact hm2⟩
    case measure=>simp [intOf];omega
   rw [hf] at he2
   subst he2
   have HV:=aa (Ry hlb HH hf)
   clear hf
   have cD:=cellOf hm2.dB
   go_wp2_with fail
   clear cD
   refine (iW t.w (Cr t s a b) b _ _ hlb hm2.set.no).mono ?_
   rintro e3 w3 ⟨g,rfl,hbg,hlo,hy3⟩
   have gX:=aa (hm2.aC hy3)
   have hset:=hbg.set (M:=fun b=>M b∨b=W.heap.size+2∨b=W.heap.size+3) hw (fZ (Hz t s a b) (eZ hlb)) (fun e=>by have:=hm2.hM HM g e;omega)
   have hput:=gX.put hset
   have cD:=cellOf gX.dB
   have fD:=aH gX.dB
   have HP:=aa hput
   clear hm2 hset hput hlo hbg hy3
   go_wp2_with fail
   clear cD fD
   go_roundw
   case rel=>exact ⟨b+1,_,_,by omega,Cj,by rw [HV];exact HP⟩
   case measure=>simp [intOf];omega
  obtain rfl:b=t.w:=by omega
  have hge:¬(t.w:Int) < (t.w:Int):=by omega
  have HV:=aa (Jy (t:=t) (s:=s) (a:=a) (b:=t.w) (.inr rfl))
  exact EX
 obtain rfl:a=t.w:=by omega
 have hge:¬(t.w:Int) < (t.w:Int):=by omega
 have cS:=cellOf hm.vO
 have cD:=cellOf hm.dB
 have cC:=cellOf hm.bV
 have fC:=aH hm.bV
 have hne:¬W.heap.size+2=W.heap.size+3:=by omega
 go_wp2_with fail
 have hE:Ext (At (W.heap.size+2)) wr ((wr.setCell ⟨W.heap.size+2,0,none⟩ (.int .i64 (t.w:Int))).setCell ⟨W.heap.size+2,1,none⟩ (.slice ao (nw t.w) co)):=((Ext.refl (At (W.heap.size+2)) _).setAt _ _).setAt _ _
 have hbF:=(az (j:=1) (u:= .slice ao (nw t.w) co) (az (j:=0) (u:= .int .i64 (t.w:Int)) hm.bV)).trans rfl
 clear cS cD cC fC
 generalize World.setCell (World.setCell wr _ _) _ _=WF at*
 have cF:=cellOf hbF
 refine aW rfl ?_
 simp [results,Tryz.results101,go_sem,cF]
 rw [OI HO HS.hm] at hm
 exact tq
end Go.Proofs.YtmddchceacmopaaGreatDoor

namespace Go.Proofs.YtmddchceacmopaaGreatDoor
open Go Go.RowKit
set_option maxRecDepth 100000 in
set_option maxHeartbeats 2000000 in
theorem Lx (M:Nat→Prop) (t:cK) (s:Nat) (sg sk sc ss:Value) (W:World) (hM:∀b,M b→b < W.heap.size) (h:dF M W sg sk sc t) (hs:aG No W ss t.w s):
  Calls Tryz.prog 69 #[.agg #[.int .i64 (t.w:Int),sg,.int .i64 (t.w:Int),sk,sc],.agg #[.int .i64 (t.w:Int),ss]] W (iq M t.w (bL t s) W):=by
 have H:=aa h
 have HS:=aa hs
 have HM:=aa hM
 have hv:=dI hs.hw hs.hm
 obtain ⟨ag,ng,cg,rfl⟩:=h.gen.shaped
 obtain ⟨ak,nk,ck,rfl⟩:=h.kill.shaped
 obtain ⟨ac,nc,cc,rfl⟩:=h.copies.shaped
 obtain ⟨WR,ns,cs,rfl⟩:=hs.shaped
 clear h hs hM
 go_enter Tryz.func69,Tryz.ntmps69
 go_wp2_with fail
 have hx0:Ext No W (((W.alloc (.cells #[.int .i64 (t.w:Int),.slice ag ng cg,.int .i64 (t.w:Int),.slice ak nk ck,.slice ac nc cc] 47)).alloc (.cells #[.int .i64 (t.w:Int),.slice WR ns cs] 44)).alloc (.cells #[.int .i64 0,.slice none 0 0] 44)):=(((Ext.refl _ _).alloc _).alloc _).alloc _
 refine (xg t _ _ _ _ _ rfl (H.no.aj hx0)).mono ?_
 rintro e1 w1 ⟨rfl,hx1⟩
 have hA:=hx1.blk (ay (ay (ah (w:=W) rfl))) ax
 have hB:=hx1.blk (n:=W.heap.size+1) (ay (ah (by simp))) ax
 have hC:=hx1.blk (n:=W.heap.size+2) (ah (by simp)) ax
 have hxa:=hx0.af hx1
 have cB:=cellOf hB
 clear hx0 hx1
 go_wp2_with fail
 refine (dL _ (bJ t.w s) _ (HS.raw.aj hxa)).mono ?_
 rintro e2 w2 ⟨rfl,hx2⟩
 rw [hv]
 replace hA:=hx2.blk hA ax
 replace hB:=hx2.blk hB ax
 replace hC:=hx2.blk hC ax
 replace hxa:=hxa.af hx2
 clear hx2 cB
 have cA:=cellOf hA
 have cB:=cellOf hB
 have oJ:=lt_of_block hC
 go_wp2_with fail
 refine (vk (fun b=>M b∨b=W.heap.size+2) t _ s _ _ _ _ _ rfl (fun b hb=>?_) ((H.mono (fun i hi e=>?_)).aj hxa) (HS.aj hxa)).mono ?_
 ·exact yx
 ·exact tu
 rintro e3 w3 ⟨a3,c3,rfl,hs3,hx3⟩
 replace hC:=hx3.blk hC ax
 replace hxa:=hxa.af hx3
 clear hx3 cA cB hA hB
 have cC:=cellOf hC
 have fC:=aH hC
 go_wp2_with fail
 refine aW rfl ?_
 simp [results,Tryz.results69,go_sem,cC]
 exact tC
end Go.Proofs.YtmddchceacmopaaGreatDoor

namespace Go.Proofs.YtmddchceacmopaaGreatDoor
open Go Go.RowKit
structure EK (β:Type) where
 s:Nat
 T:TypeId
 cells:β→List Value
 ok:(Nat→Prop)→World→β→Prop
 len:∀b,(cells b).length=s
 ext:∀{M M':Nat→Prop} {w w':World} {b:β},ok M w b→Ext M' w w'→(∀i,i < w.heap.size→M' i→M i)→ok M w' b
 mono:∀{M M':Nat→Prop} {w:World} {b:β},ok M w b→(∀i,i < w.heap.size→M' i→M i)→ok M' w b
structure jb {β:Type} (K:EK β) (M:Nat→Prop) (w:World) (sl:Value) (L:List β):Prop where
 row:Row M w K.s sl L.length (L.flatMap K.cells)
 ok:∀p∈L,K.ok M w p
structure cZ {β:Type} (K:EK β) (A:Nat→Prop) (w:World) (base:Nat) (v:Value) (L:List β):Prop where
 own:w.ownsRow base K.T K.s v L.length (L.flatMap K.cells)
 ok:∀p∈L,K.ok (fun b=>A b∨v.ownBlock=some b) w p
section
variable {β:Type} {K:EK β} {M M' A:Nat→Prop} {w w':World} {sl v v':Value} {L:List β} {base g cap:Nat} {p:β}
theorem rV (K:EK β) (L:List β) (i j:Nat) (hi:i < L.length) (hj:j < K.s):(L.flatMap K.cells)[i*K.s+j]? =(K.cells L[i])[j]? :=by
 rw [Nat.mul_comm]
 exact flat_get K.cells K.s K.len L i j hi hj
theorem jb.ext (h:jb K M w sl L) (hx:Ext M' w w') (hm:∀i,i < w.heap.size→M' i→M i):jb K M w' sl L:=⟨h.row.ext hx hm,fun p hp=>K.ext (h.ok p hp) hx hm⟩
theorem jb.aj (h:jb K M w sl L) (hx:Ext No w w'):jb K M w' sl L:=h.ext hx (fun _ _ x=>x.elim)
theorem jb.mono (h:jb K M w sl L) (hm:∀i,i < w.heap.size→M' i→M i):jb K M' w sl L:=⟨h.row.mono hm,fun p hp=>K.mono (h.ok p hp) hm⟩
theorem jb.no (h:jb K M w sl L):jb K No w sl L:=h.mono (fun _ _ x=>x.elim)
theorem jb.slice (h:jb K M w sl L):∃a c,sl= .slice a L.length c:=h.row.slice
theorem jb.at (h:jb K M w sl L) {i:Nat} (hi:i < L.length):∃b off cap,sl= .slice (some ⟨b,off,none⟩) L.length cap∧b < w.heap.size∧¬M b∧
  ∀k (hk:k < L.length) j u,j < K.s→(K.cells L[k])[j]? =some u→w.cell? ⟨b,off+(k*K.s+j),none⟩=some u:=by
 obtain ⟨b,off,cap,h1,h2,h3,h4⟩:=h.row.shape (by omega)
 exact ⟨b,off,cap,h1,h2,h3,fun k hk j u hj hu=>h4 _ u (by rw [rV K L k j hk hj];exact hu)⟩
theorem jb.nil (a:Option Addr) (c:Nat) (hc:c≤9223372036854775807):jb K M w (.slice a 0 c) []:=⟨Row.nil _ _ _ _ _ hc,fun _ h=>by cases h⟩
theorem cZ.nil (K:EK β) (A:Nat→Prop) (w:World) (base:Nat):cZ K A w base (.slice none 0 0) []:=⟨⟨by simp,.inl ⟨rfl,rfl⟩⟩,fun _ h=>by cases h⟩
theorem cZ.ext (h:cZ K A w base v L) (hx:Ext M w w') (h1:∀i,base≤i→¬M i) (h2:∀i,M i→A i):cZ K A w' base v L:=
 ⟨dG h.own hx h1,fun p hp=>K.ext (h.ok p hp) hx (fun i _ e=> .inl (h2 i e))⟩
theorem cZ.gG (h:cZ K A w base v L) (hx:Ext M w w') (h1:∀i,v.ownBlock=some i→¬M i) (h2:∀i,i < w.heap.size→M i→A i):cZ K A w' base v L:=
 ⟨aZ h.own hx h1,fun p hp=>K.ext (h.ok p hp) hx (fun i hi e=> .inl (h2 i hi e))⟩
theorem cZ.aj (h:cZ K A w base v L) (hx:Ext No w w'):cZ K A w' base v L:=h.ext hx (fun _ _ x=>x) (fun _ x=>x.elim)
theorem cZ.mono {A':Nat→Prop} (h:cZ K A w base v L) (hm:∀i,i < w.heap.size→A' i→A i):cZ K A' w base v L:=⟨h.own,fun p hp=>K.mono (h.ok p hp) (fun i hi e=>by
 rcases e with e|e
 ·exact .inl (hm i hi e)
 exact .inr e)⟩
theorem cZ.lower {base':Nat} (h:cZ K A w base v L) (hb:base'≤base):cZ K A w base' v L:=⟨dY h.own hb,h.ok⟩
theorem cZ.slice (h:cZ K A w base v L):∃a c,v= .slice a L.length c:=(Row.bG (M:=No) h.own (fun _ _ x=>x)).slice
theorem cZ.lt (h:cZ K A w base v L) (k:Nat) (hk:v.ownBlock=some k):base≤k∧k < w.heap.size:=World.ownsRow.lt h.own k hk
theorem cZ.app {E:Nat→Prop} (h:cZ K A w base v L) (hp:K.ok (fun b=>A b∨v.ownBlock=some b) w p) (hown:w'.ownsRow base K.T K.s v' (L.length+1) (L.flatMap K.cells++K.cells p))
  (hE:Ext E w w') (hE2:∀i,E i→v.ownBlock=some i) (hv:v'.ownBlock=v.ownBlock∨∀k,v'.ownBlock=some k→w.heap.size≤k):cZ K A w' base v' (L++[p]):=by
 refine ⟨?_,fun q hq=>?_⟩
 ·rw [List.length_append,List.flatMap_append,List.flatMap_cons,List.flatMap_nil,List.append_nil];exact hown
 have hq2:K.ok (fun b=>A b∨v.ownBlock=some b) w q:=by
  rcases List.mem_append.1 hq with hq|hq
  ·exact h.ok q hq
  rw [List.mem_singleton.1 hq];exact hp
 have hq3:K.ok (fun b=>(A b∨v.ownBlock=some b)∨w.heap.size≤b) w q:=K.mono hq2 (fun i hi e=>by
  rcases e with e|e
  ·exact e
  omega)
 refine K.mono (K.ext hq3 hE (fun i _ e=> .inl (.inr (hE2 i e)))) (fun i _ e=>?_)
 rcases e with e|e
 ·exact .inl (.inl e)
 rcases hv with hv|hv
 ·rw [hv] at e;exact .inl (.inr e)
 exact .inr (hv i e)
theorem cZ.list (h:cZ K A w base v L) (hb:∀b,base≤b→¬M b) (hA:∀b,M b→A b):jb K M w v L:=
 ⟨Row.bG h.own hb,fun p hp=>K.mono (h.ok p hp) (fun i _ e=> .inl (hA i e))⟩
theorem cZ.uy (h:cZ K A w base v L) (hb:∀b,v.ownBlock=some b→¬M b) (hA:∀b,M b→A b):jb K M w v L:=by
 have h0:Row No w K.s v L.length (L.flatMap K.cells):=Row.bG h.own (fun _ _ x=>x)
 refine ⟨?_,fun p hp=>K.mono (h.ok p hp) (fun i _ e=> .inl (hA i e))⟩
 obtain ⟨h1,h2,a,c,rfl,hcp,h4⟩:=h0
 refine ⟨h1,h2,a,c,rfl,hcp,?_⟩
 rcases h4 with h4|⟨b,off,h5,h6,_,h8⟩
 ·exact .inl h4
 refine .inr ⟨b,off,h5,h6,hb b ?_,h8⟩
 rw [h5];rfl
end
def kS:EK (bC×Value) where
 s:=2
 T:= 44
 cells:=fun p=>[.int .i64 p.1.width,p.2]
 ok:=fun M w p=>aU M w p.2 p.1.words
 len:=fun _=>rfl
 ext:=fun h hx hm=>h.ext hx hm
 mono:=fun h hm=>h.mono hm
def kT:EK (dS×Value×Value×Value) where
 s:=5
 T:= 47
 cells:=fun p=>[.int .i64 p.1.gen.width,p.2.1,.int .i64 p.1.kill.width,p.2.2.1,p.2.2.2]
 ok:=fun M w p=>bN M w p.2.1 p.2.2.1 p.2.2.2 p.1
 len:=fun _=>rfl
 ext:=fun h hx hm=>h.ext hx hm
 mono:=fun h hm=>h.mono hm
def kD:EK (List Int×Value) where
 s:=1
 T:= 22
 cells:=fun p=>[p.2]
 ok:=fun M w p=>Ints M w .i64 p.2 p.1
 len:=fun _=>rfl
 ext:=fun h hx hm=>Row.ext h hx hm
 mono:=fun h hm=>Row.mono h hm
theorem jb.atS {M:Nat→Prop} {w:World} {sl:Value} {L:List (bC×Value)} (h:jb kS M w sl L) {i:Nat} (hi:i < L.length):∃b off cap,sl= .slice (some ⟨b,off,none⟩) L.length cap∧b < w.heap.size∧¬M b∧
  ∀k (hk:k < L.length),w.cell? ⟨b,off+k*2,none⟩=some (.int .i64 L[k].1.width)∧w.cell? ⟨b,off+k*2+1,none⟩=some L[k].2:=by
 obtain ⟨b,off,cap,h1,h2,h3,h4⟩:=h.at hi
 exact ⟨b,off,cap,h1,h2,h3,fun k hk=>⟨h4 k hk 0 _ (by decide) rfl,h4 k hk 1 _ (by decide) rfl⟩⟩
theorem jb.atT {M:Nat→Prop} {w:World} {sl:Value} {L:List (dS×Value×Value×Value)} (h:jb kT M w sl L) {i:Nat} (hi:i < L.length):∃b off cap,sl= .slice (some ⟨b,off,none⟩) L.length cap∧b < w.heap.size∧¬M b∧
  ∀k (hk:k < L.length),w.cell? ⟨b,off+k*5,none⟩=some (.int .i64 L[k].1.gen.width)∧w.cell? ⟨b,off+k*5+1,none⟩=some L[k].2.1∧w.cell? ⟨b,off+k*5+2,none⟩=some (.int .i64 L[k].1.kill.width)∧w.cell? ⟨b,off+k*5+3,none⟩=some L[k].2.2.1∧w.cell? ⟨b,off+k*5+4,none⟩=some L[k].2.2.2:=by
 obtain ⟨b,off,cap,h1,h2,h3,h4⟩:=h.at hi
 exact ⟨b,off,cap,h1,h2,h3,fun k hk=>⟨h4 k hk 0 _ (by decide) rfl,h4 k hk 1 _ (by decide) rfl,h4 k hk 2 _ (by decide) rfl,h4 k hk 3 _ (by decide) rfl,h4 k hk 4 _ (by decide) rfl⟩⟩
theorem jb.atD {M:Nat→Prop} {w:World} {sl:Value} {L:List (List Int×Value)} (h:jb kD M w sl L) {i:Nat} (hi:i < L.length):∃b off cap,sl= .slice (some ⟨b,off,none⟩) L.length cap∧b < w.heap.size∧¬M b∧
  ∀k (hk:k < L.length),w.cell? ⟨b,off+k,none⟩=some L[k].2:=by
 exact EQ
theorem Ints.at {M:Nat→Prop} {w:World} {sl:Value} {l:List Int} (h:Ints M w .i64 sl l) {i:Nat} (hi:i < l.length):∃b off cap,sl= .slice (some ⟨b,off,none⟩) l.length cap∧b < w.heap.size∧¬M b∧
  ∀k (hk:k < l.length),w.cell? ⟨b,off+k,none⟩=some (.int .i64 l[k]):=by
 obtain ⟨b,off,cap,h1,h2,h3,h4⟩:=Row.shape h (by omega)
 exact ⟨b,off,cap,h1,h2,h3,fun k hk=>h4 k _ (by simp [hk])⟩
abbrev LD:=List (List Int×Value)
abbrev LT:=List (dS×Value×Value×Value)
abbrev LS:=List (bC×Value)
structure G9 (M:Nat→Prop) (w:World) (vd vt vb:Value) (Ld:LD) (Lt:LT) (Lb:LS):Prop where
 d:jb kD M w vd Ld
 t:jb kT M w vt Lt
 b:jb kS M w vb Lb
section
variable {M M':Nat→Prop} {w w':World} {vd vt vb:Value} {Ld:LD} {Lt:LT} {Lb:LS}
theorem G9.ext (h:G9 M w vd vt vb Ld Lt Lb) (hx:Ext M' w w') (hm:∀i,i < w.heap.size→M' i→M i):G9 M w' vd vt vb Ld Lt Lb:=⟨h.d.ext hx hm,h.t.ext hx hm,h.b.ext hx hm⟩
theorem G9.aj (h:G9 M w vd vt vb Ld Lt Lb) (hx:Ext No w w'):G9 M w' vd vt vb Ld Lt Lb:=h.ext hx (fun _ _ x=>x.elim)
theorem G9.mono (h:G9 M w vd vt vb Ld Lt Lb) (hm:∀i,i < w.heap.size→M' i→M i):G9 M' w vd vt vb Ld Lt Lb:=⟨h.d.mono hm,h.t.mono hm,h.b.mono hm⟩
theorem G9.no (h:G9 M w vd vt vb Ld Lt Lb):G9 No w vd vt vb Ld Lt Lb:=h.mono (fun _ _ x=>x.elim)
end
def oI (l:List Int) (n:Int):Prop:=∀i (h:i < l.length),0≤l[i]∧l[i] < n∧(0 < i→l[i - 1]'(by omega) < l[i])
def qL (Ld:LD):Nat:=(Ld.map fun p=>p.1.length).sum
def Af (x:Int) (r:dS):Prop:=gu r=true∧r.gen.width=x
def ze (x:Int) (r:bC):Prop:=fH r=true∧r.width=x
structure VS (x:Int) (Ld:LD) (Lt:LT) (Lb:LS):Prop where
 w:0≤x∧x≤256
 n:1≤Ld.length∧Ld.length≤256
 lt:Lt.length=Ld.length
 lb:Lb.length=Ld.length
 uq:∀p∈Ld,oI p.1 Ld.length
 tot:qL Ld≤1024
 sets:∀p∈Lb,ze x p.1
 jX:∀p∈Lt,Af x p.1
def kz (p:Prop) (W:World) (e:Ending) (w':World):Prop:=∃b:Bool,e= .returned (.bool b)∧(b=true↔p)∧Ext No W w'
end Go.Proofs.YtmddchceacmopaaGreatDoor

namespace Go.Proofs.YtmddchceacmopaaGreatDoor
open Go Go.RowKit
structure mU where
 w:Nat
 deps:List (List Nat)
 jX:List cK
 bnd:List Nat
def dh (l:List Nat):List Int:=l.map fun (n:Nat)=>(n:Int)
def dA (rs:List Nat) (k:Nat):Nat:=(rs[k]?).getD 0
theorem kI {rs:List Nat} {k:Nat} (h:k < rs.length):dA rs k=rs[k]:=by simp [dA,h]
structure qR (S:mU):Prop where
 w:S.w≤256
 n1:1≤S.deps.length
 n2:S.deps.length≤256
 lt:S.jX.length=S.deps.length
 lb:S.bnd.length=S.deps.length
 uq:∀l∈S.deps,oI (dh l) S.deps.length
 tot:(S.deps.map List.length).sum≤1024
 jX:∀t∈S.jX,eO t∧t.w=S.w
 bnd:∀m∈S.bnd,m < 2 ^ S.w
def xR (S:mU) (i:Nat):cK:=(S.jX[i]?).getD ⟨S.w,0,0,[]⟩
def kP (S:mU) (i:Nat):List Nat:=(S.deps[i]?).getD []
section
variable {S:mU}
theorem qR.tr (h:qR S) {i:Nat} (hi:i < S.deps.length):eO (xR S i)∧(xR S i).w=S.w:=by
 have hl:i < S.jX.length:=by rw [h.lt];exact hi
 have e:xR S i=S.jX[i]:=by simp [xR,hl]
 rw [e]
 exact h.jX _ (List.getElem_mem hl)
theorem qR.dep (h:qR S) {i m:Nat} (hm:m∈kP S i):m < S.deps.length:=by
 unfold kP at hm
 cases e:S.deps[i]? with
 |none=>rw [e] at hm;cases hm
 |some l=>
  rw [e] at hm
  obtain ⟨j,hj,rfl⟩:=List.getElem_of_mem hm
  have h1:=h.uq l (List.mem_of_getElem? e)
  have h2:=(h1 j (by simpa [dh] using hj)).2.1
  simp [dh] at h2
  exact h2
theorem qR.bn (h:qR S) (i:Nat):dA S.bnd i < 2 ^ S.w:=by
 exact EU
end
theorem Le {t:cK} (ho:eO t) {s:Nat} (hs:s < 2 ^ t.w):bL t s < 2 ^ t.w:=yz ho hs _
def Mt (S:mU) (vs:List Nat) (out m:Nat):Nat:=gP out (bL (xR S m) (dA vs m))
structure ja (M:Nat→Prop) (W:World) (vd vt vb:Value) (S:mU):Prop where
 ok:qR S
 ex:∃(Ld:LD) (Lt:LT) (Lb:LS),G9 M W vd vt vb Ld Lt Lb∧Ld.map Prod.fst=S.deps.map dh∧Lt.map Prod.fst=S.jX.map bM∧Lb.map Prod.fst=S.bnd.map (bJ S.w)
section
variable {M M':Nat→Prop} {W W':World} {vd vt vb:Value} {S:mU} {x:Int} {Ld:LD} {Lt:LT} {Lb:LS}
theorem ja.ext (h:ja M W vd vt vb S) (hx:Ext M' W W') (hm:∀i,i < W.heap.size→M' i→M i):ja M W' vd vt vb S:=by
 obtain ⟨Ld,Lt,Lb,h1,h2⟩:=h.ex;exact ⟨h.ok,Ld,Lt,Lb,h1.ext hx hm,h2⟩
theorem ja.aj (h:ja M W vd vt vb S) (hx:Ext No W W'):ja M W' vd vt vb S:=h.ext hx (fun _ _ x=>x.elim)
theorem ja.mono (h:ja M W vd vt vb S) (hm:∀i,i < W.heap.size→M' i→M i):ja M' W vd vt vb S:=by
 obtain ⟨Ld,Lt,Lb,h1,h2⟩:=h.ex;exact ⟨h.ok,Ld,Lt,Lb,h1.mono hm,h2⟩
theorem ja.no (h:ja M W vd vt vb S):ja No W vd vt vb S:=h.mono (fun _ _ x=>x.elim)
theorem ja.slices (h:ja M W vd vt vb S):∃ad cd MG ct ab cb,vd= .slice ad S.deps.length cd∧vt= .slice MG S.deps.length ct∧vb= .slice ab S.deps.length cb:=by
 obtain ⟨Ld,Lt,Lb,h1,h2,h3,h4⟩:=h.ex
 obtain ⟨ad,cd,rfl⟩:=h1.d.slice
 obtain ⟨MG,ct,rfl⟩:=h1.t.slice
 obtain ⟨ab,cb,rfl⟩:=h1.b.slice
 have e2:=congrArg List.length h2
 have e3:=congrArg List.length h3
 have e4:=congrArg List.length h4
 simp only [List.length_map] at e2 e3 e4
 exact ⟨ad,cd,MG,ct,ab,cb,by rw [e2],by rw [e3,h.ok.lt],by rw [e4,h.ok.lb]⟩
theorem ja.dep (h:ja M W vd vt vb S) {i:Nat} (hi:i < S.deps.length):∃b off cap a c,vd= .slice (some ⟨b,off,none⟩) S.deps.length cap∧W.cell? ⟨b,off+i,none⟩=some (.slice a (kP S i).length c)∧Hid (Ints M W .i64 (.slice a (kP S i).length c) (dh (kP S i))):=by
 obtain ⟨Ld,Lt,Lb,h1,h2,h3,h4⟩:=h.ex
 have e2:=congrArg List.length h2
 simp only [List.length_map] at e2
 have hi2:i < Ld.length:=by omega
 obtain ⟨b,off,cap,g1,_,_,g4⟩:=h1.d.atD hi2
 have g5:Ints M W .i64 Ld[i].2 Ld[i].1:=h1.d.ok _ (List.getElem_mem hi2)
 have g6:Ld[i].1=dh (kP S i):=by
  have:=congrArg (fun l=>l[i]?) h2
  simp only [List.getElem?_map,List.getElem?_eq_getElem hi2,List.getElem?_eq_getElem hi,Option.map_some,Option.some.injEq] at this
  rw [this]
  simp [kP,hi]
 obtain ⟨a,c,g7⟩:=Row.slice g5
 have g8:Ld[i].1.length=(kP S i).length:=by rw [g6];simp [dh]
 rw [g8] at g7
 refine ⟨b,off,cap,a,c,by rw [g1,e2],by rw [g4 i hi2,g7],aa ?_⟩
 rw [←g6,←g7]
 exact g5
theorem ja.tr (h:ja M W vd vt vb S) {i:Nat} (hi:i < S.deps.length):∃b off cap ag cg ak ck ac n cc,vt= .slice (some ⟨b,off,none⟩) S.deps.length cap∧
  (W.cell? ⟨b,off+i*5,none⟩=some (.int .i64 (S.w:Int))∧W.cell? ⟨b,off+i*5+1,none⟩=some (.slice ag (nw S.w) cg)∧W.cell? ⟨b,off+i*5+2,none⟩=some (.int .i64 (S.w:Int))∧W.cell? ⟨b,off+i*5+3,none⟩=some (.slice ak (nw S.w) ck)∧W.cell? ⟨b,off+i*5+4,none⟩=some (.slice ac n cc))∧
  Hid (dF M W (.slice ag (nw S.w) cg) (.slice ak (nw S.w) ck) (.slice ac n cc) (xR S i))∧Hid ((xR S i).w=S.w):=by
 obtain ⟨Ld,Lt,Lb,h1,h2,h3,h4⟩:=h.ex
 have e3:=congrArg List.length h3
 simp only [List.length_map] at e3
 have hi2:i < Lt.length:=by rw [e3,h.ok.lt];exact hi
 have hi3:i < S.jX.length:=by rw [h.ok.lt];exact hi
 obtain ⟨b,off,cap,g1,_,_,g4⟩:=h1.t.atT hi2
 have g5:bN M W Lt[i].2.1 Lt[i].2.2.1 Lt[i].2.2.2 Lt[i].1:=h1.t.ok _ (List.getElem_mem hi2)
 have g6:Lt[i].1=bM (xR S i):=by
  have:=congrArg (fun l=>l[i]?) h3
  simp only [List.getElem?_map,List.getElem?_eq_getElem hi2,List.getElem?_eq_getElem hi3,Option.map_some,Option.some.injEq] at this
  rw [this]
  simp [xR,hi3]
 obtain ⟨g7,g8⟩:=h.ok.tr hi
 rw [g6] at g5
 have g9:=g5.tr g7
 obtain ⟨ag,cg,k1⟩:=g9.gen.slice
 obtain ⟨ak,ck,k2⟩:=g9.kill.slice
 obtain ⟨ac,cc,k3⟩:=Row.slice g9.copies
 rw [k1,k2,k3] at g9
 rw [g8] at g9 k1 k2
 obtain ⟨c0,c1,c2,c3,c4⟩:=g4 i hi2
 refine ⟨b,off,cap,ag,cg,ak,ck,ac,_,cc,by rw [g1,e3,h.ok.lt],⟨?_,?_,?_,?_,?_⟩,g9,g8⟩
 ·rw [c0,g6];show some (Value.int .i64 ((xR S i).w:Int))=_;rw [g8]
 ·rw [c1,k1]
 ·rw [c2,g6];show some (Value.int .i64 ((xR S i).w:Int))=_;rw [g8]
 ·rw [c3,k2]
 rw [c4,k3]
theorem ja.bn (h:ja M W vd vt vb S) {i:Nat} (hi:i < S.deps.length):∃b off cap a c,vb= .slice (some ⟨b,off,none⟩) S.deps.length cap∧
  W.cell? ⟨b,off+i*2,none⟩=some (.int .i64 (S.w:Int))∧W.cell? ⟨b,off+i*2+1,none⟩=some (.slice a (nw S.w) c)∧Hid (aG M W (.slice a (nw S.w) c) S.w (dA S.bnd i)):=by
 obtain ⟨Ld,Lt,Lb,h1,h2,h3,h4⟩:=h.ex
 have e4:=congrArg List.length h4
 simp only [List.length_map] at e4
 have hi2:i < Lb.length:=by rw [e4,h.ok.lb];exact hi
 have hi3:i < S.bnd.length:=by rw [h.ok.lb];exact hi
 obtain ⟨b,off,cap,g1,_,_,g4⟩:=h1.b.atS hi2
 have g5:aU M W Lb[i].2 Lb[i].1.words:=h1.b.ok _ (List.getElem_mem hi2)
 have g6:Lb[i].1=bJ S.w (dA S.bnd i):=by
  have:=congrArg (fun l=>l[i]?) h4
  simp only [List.getElem?_map,List.getElem?_eq_getElem hi2,List.getElem?_eq_getElem hi3,Option.map_some,Option.some.injEq] at this
  rw [this,kI hi3]
 rw [g6] at g5
 have g7:aG M W Lb[i].2 S.w (dA S.bnd i):=⟨g5,h.ok.w,h.ok.bn i⟩
 obtain ⟨a,c,g8⟩:=g7.slice
 obtain ⟨c0,c1⟩:=g4 i hi2
 refine ⟨b,off,cap,a,c,by rw [g1,e4,h.ok.lb],?_,by rw [c1,g8],g8▸g7⟩
 rw [c0,g6];rfl
theorem UM {l:List Int} {n:Nat} (h:oI l n):∃k:List Nat,l=dh k:=by
 refine ⟨l.map Int.toNat,?_⟩
 unfold dh
 rw [List.map_map]
 refine (List.ext_getElem (by simp) (fun i h1 h2=>?_))
 have:=(h i h1).1
 simp only [List.getElem_map,Function.comp]
 omega
theorem lift_map {α β γ:Type} {f:γ→β}:∀(L:List (β×α)),(∀p∈L,∃c,p.1=f c)→∃K:List γ,L.map Prod.fst=K.map f
 |[],_=>⟨[],rfl⟩
 |p::L,h=>by
  obtain ⟨c,hc⟩:=h p (List.mem_cons_self ..)
  obtain ⟨K,hK⟩:=lift_map L (fun q hq=>h q (List.mem_cons_of_mem _ hq))
  exact ⟨c::K,by simp [hc,hK]⟩
theorem VS.sys (h:VS x Ld Lt Lb) (hy:G9 M W vd vt vb Ld Lt Lb):∃S:mU,x=(S.w:Int)∧ja M W vd vt vb S∧S.deps.length=Ld.length:=by
 obtain ⟨w,rfl⟩:∃w:Nat,x=w:=⟨x.toNat,by have:=h.w;omega⟩
 have hw:w≤256:=by have:=h.w;omega
 obtain ⟨D,hD⟩:=lift_map (f:=dh) Ld (fun p hp=>UM (h.uq p hp))
 obtain ⟨T,hT⟩:=lift_map (f:=fun t:{t:cK // eO t∧t.w=w}=>bM t.1) Lt (fun p hp=>by
  have h1:=h.jX p hp
  have h2:bN M W p.2.1 p.2.2.1 p.2.2.2 p.1:=hy.t.ok p hp
  obtain ⟨t,ho,he⟩:=D9 h1.1 h2.gen.lt h2.kill.lt
  refine ⟨⟨t,ho,?_⟩,he⟩
  have h3:=h1.2
  rw [he] at h3
  have h4:((t.w:Nat):Int)=(w:Int):=h3
  omega)
 obtain ⟨B,hB⟩:=lift_map (f:=fun m:{m:Nat // m < 2 ^ w}=>bJ w m.1) Lb (fun p hp=>by
  have h1:=h.sets p hp
  have h2:aU M W p.2 p.1.words:=hy.b.ok p hp
  obtain ⟨w',m,_,hm,he⟩:=(nT h2.lt).1 h1.1
  have h3:=h1.2
  rw [he] at h3
  have h4:((w':Nat):Int)=(w:Int):=h3
  obtain rfl:w'=w:=by omega
  exact ⟨⟨m,hm⟩,he⟩)
 have eD:=congrArg List.length hD
 have eT:=congrArg List.length hT
 have eB:=congrArg List.length hB
 simp only [List.length_map] at eD eT eB
 refine ⟨⟨w,D,T.map Subtype.val,B.map Subtype.val⟩,rfl,⟨⟨hw,?_,?_,?_,?_,fun l hl=>?_,?_,fun t ht=>?_,fun m hm=>?_⟩,Ld,Lt,Lb,hy,hD,?_,?_⟩,by simp only;omega⟩
 ·have:=h.n;simp only;omega
 ·have:=h.n;simp only;omega
 ·have:=h.lt;simp only [List.length_map];omega
 ·have:=h.lb;simp only [List.length_map];omega
 ·have h1:dh l∈Ld.map Prod.fst:=by rw [hD];exact List.mem_map.2 ⟨l,hl,rfl⟩
  obtain ⟨p,hp,he⟩:=List.mem_map.1 h1
  have h2:=h.uq p hp
  rw [he,eD] at h2
  exact h2
 ·have h1:(Ld.map fun p=>p.1.length)=D.map List.length:=by
   have:=congrArg (fun l=>l.map List.length) hD
   simp only [List.map_map] at this
   rw [show (List.map (List.length ∘ dh) D)=D.map List.length from by
    refine List.map_congr_left (fun l _=>?_)
    simp [dh]] at this
   exact this
  have h2:=h.tot
  unfold qL at h2
  rw [h1] at h2
  exact h2
 ·obtain ⟨c,_,rfl⟩:=List.mem_map.1 ht
  exact c.2
 ·obtain ⟨c,_,rfl⟩:=List.mem_map.1 hm
  exact c.2
 ·rw [hT,List.map_map];rfl
 rw [hB,List.map_map];rfl
theorem ja.vs (h:ja M W vd vt vb S):∃(Ld:LD) (Lt:LT) (Lb:LS),G9 M W vd vt vb Ld Lt Lb∧VS (S.w:Int) Ld Lt Lb:=by
 obtain ⟨Ld,Lt,Lb,h1,h2,h3,h4⟩:=h.ex
 have ho:=h.ok
 have e2:=congrArg List.length h2
 have e3:=congrArg List.length h3
 have e4:=congrArg List.length h4
 simp only [List.length_map] at e2 e3 e4
 have:=ho.w;have:=ho.n1;have:=ho.n2;have:=ho.lt;have:=ho.lb
 refine ⟨Ld,Lt,Lb,h1,⟨by omega,by omega,by omega,by omega,fun p hp=>?_,?_,fun p hp=>?_,fun p hp=>?_⟩⟩
 ·have hm:p.1∈S.deps.map dh:=by rw [←h2];exact List.mem_map.2 ⟨p,hp,rfl⟩
  obtain ⟨l,hl,he⟩:=List.mem_map.1 hm
  rw [←he,e2]
  exact ho.uq l hl
 ·have h5:=congrArg (fun l=>l.map List.length) h2
  simp only [List.map_map] at h5
  rw [show (List.map (List.length ∘ dh) S.deps)=S.deps.map List.length from by
   refine List.map_congr_left (fun l _=>?_)
   simp [dh]] at h5
  have h6:=ho.tot
  rw [←h5] at h6
  exact h6
 ·have hm:p.1∈S.bnd.map (bJ S.w):=by rw [←h4];exact List.mem_map.2 ⟨p,hp,rfl⟩
  obtain ⟨m,hm,he⟩:=List.mem_map.1 hm
  rw [←he]
  exact ⟨dI ho.w (ho.bnd m hm),rfl⟩
 have hm:p.1∈S.jX.map bM:=by rw [←h3];exact List.mem_map.2 ⟨p,hp,rfl⟩
 obtain ⟨t,ht,he⟩:=List.mem_map.1 hm
 obtain ⟨k1,k2⟩:=ho.jX t ht
 rw [←he]
 exact ⟨kg k1,by show ((t.w:Nat):Int)=_;rw [k2]⟩
end
end Go.Proofs.YtmddchceacmopaaGreatDoor

namespace Go.Proofs.YtmddchceacmopaaGreatDoor
open Go Go.RowKit
theorem XT:(Tryz.prog.info? 3).map (fun i=>(i.zero,i.size,i.bytes))=some (some (.int .i64 0),1,8):=by kernel_rfl
def Je (l:List Int) (n:Int) (l':List Int):Prop:=
 ∃i,i≤l.length∧(∀j (h:j < l.length),j < i→l[j] < n)∧(∀h:i < l.length,n≤l[i])∧((∃h:i < l.length,l[i]=n∧l'=l)∨((∀h:i < l.length,l[i]≠n)∧l'=l.take i++n::l.drop i))
theorem Je.uq {l l':List Int} {n N:Int} (h:Je l n l') (ha:oI l N) (h0:0≤n) (h1:n < N):oI l' N:=by
 obtain ⟨i,hi,h2,h3,h4|⟨h4,rfl⟩⟩:=h
 ·obtain ⟨_,_,rfl⟩:=h4
  exact ha
 have hlt:(l.take i).length=i:=by simp;omega
 have key:∀k (hk:k < (l.take i++n::l.drop i).length),(l.take i++n::l.drop i)[k]=if hk1:k < i then l[k]'(by omega) else if hk2:k=i then n else l[k - 1]'(by simp at hk;omega):=fun k hk=>by
  by_cases hk1:k < i
  ·rw [dif_pos hk1,List.getElem_append_left (by omega)]
   simp
  rw [dif_neg hk1,List.getElem_append_right (by omega)]
  by_cases hk2:k=i
  ·subst hk2
   simp [hlt]
  rw [dif_neg hk2]
  obtain ⟨m,rfl⟩:∃m,k=i+1+m:=⟨k - i - 1,by omega⟩
  simp only [hlt,show i+1+m - i=m+1 from by omega,List.getElem_cons_succ,List.getElem_drop]
  congr 1
  omega
 intro k hk
 have hk':k < l.length+1:=by simp at hk;omega
 rw [key k hk]
 by_cases hk1:k < i
 ·rw [dif_pos hk1]
  refine ⟨(ha k (by omega)).1,(ha k (by omega)).2.1,fun hp=>?_⟩
  rw [key (k - 1) (by omega),dif_pos (by omega)]
  exact (ha k (by omega)).2.2 hp
 rw [dif_neg hk1]
 by_cases hk2:k=i
 ·rw [dif_pos hk2]
  refine ⟨h0,h1,fun hp=>?_⟩
  rw [key (k - 1) (by omega),dif_pos (by omega)]
  exact h2 _ _ (by omega)
 rw [dif_neg hk2]
 refine ⟨(ha (k - 1) (by omega)).1,(ha (k - 1) (by omega)).2.1,fun hp=>?_⟩
 rw [key (k - 1) (by omega),dif_neg (by omega)]
 by_cases hk3:k - 1=i
 ·rw [dif_pos hk3]
  have h5:=h3 (by omega)
  have h6:=h4 (by omega)
  have h7:l[k - 1]'(by omega)=l[i]'(by omega):=by congr 1
  rw [h7]
  omega
 rw [dif_neg hk3]
 exact (ha (k - 1) (by omega)).2.2 (by omega)
theorem Je.len {l l':List Int} {n:Int} (h:Je l n l'):l'.length≤l.length+1∧0 < l'.length:=by
 obtain ⟨i,hi,_,_,h4|⟨_,rfl⟩⟩:=h
 ·obtain ⟨_,_,rfl⟩:=h4
  omega
 simp;omega
theorem J7 (l:List Int) (k:Nat):(l.map (Value.int .i64)).take k=(l.take k).map (Value.int .i64):=(List.map_take ..).symm
theorem Row.aco {M:Nat→Prop} {w:World} {s n cap k:Nat} {a:Option Addr} {vs:List Value} (h:Row M w s (.slice a n cap) n vs) (hc:cap≤9223372036854775807) (hcn:n≤cap) (hk:k≤n):Row M w s (.slice a k cap) k (vs.take (k*s)):=by
 obtain ⟨h1,h2,a',cap',h3,h4,h5⟩:=h.take hk
 simp only [Value.slice.injEq] at h3
 obtain ⟨rfl,_,rfl⟩:=h3
 exact ⟨h1,h2,_,cap,rfl,⟨by omega,hc⟩,h5⟩
theorem yA {W wr w':World} {o:Obj} {v:Value} {base:Nat} (hx:Ext No W wr) (hg:(wr.alloc o).grownBy w' v.ownBlock) (hl:∀b,v.ownBlock=some b→base≤b) (hb:W.heap.size≤base):Ext No W w':=
 (hx.aJ (((Ext.refl (fun k=>v.ownBlock=some k) wr).alloc o).grown hg (fun k hk _=>hk)) (fun i hi e=>by have:=hl i e;omega))
def UN (M:Nat→Prop) (l:List Int) (n:Int) (W:World) (e:Ending) (w':World):Prop:=
 ∃(v:Value) (l':List Int),e= .returned v∧Je l n l'∧Hid (Ints M w' .i64 v l')∧Ext No W w'
theorem rP (l:List Int):∀u∈l.map (Value.int .i64),u.oneCell'=true:=fun u hu=>by
 obtain ⟨z,_,rfl⟩:=List.mem_map.1 hu;rfl
set_option maxRecDepth 100000 in
set_option maxHeartbeats 8000000 in
theorem LV (M:Nat→Prop) (sl:Value) (l:List Int) (n:Int) (W:World) (hM:∀b,M b→b < W.heap.size) (h:Ints M W .i64 sl l) (hz:l=[]→sl= .slice none 0 0) (hll:l.length≤1000000):
  Calls Tryz.prog 55 #[sl,.int .i64 n] W (UN M l n W):=by
 obtain ⟨i0,hi0,hz0,hz1,hz2⟩:=info_parts XT
 have H:=aa h
 have HM:=aa hM
 by_cases h0:l=[]
 ·subst h0
  obtain rfl:=hz rfl
  clear h hM hz
  go_enter Tryz.func55,Tryz.ntmps55
  go_wp2_with fail
  go_loopw [5] (fun i wr=>i= .int .i64 0∧Hid (Ext No W wr)) (fun _ _=>0)
  case atStart=>exact ⟨rfl,Ext.refl _ _⟩
  obtain ⟨rfl,hx⟩:=hrel
  rename World=>wr
  have HT1:Hid (Row No wr 1 (.slice none 0 0) 0 (([]:List Int).map (.int .i64))):=aa ⟨by simp,by omega,none,0,rfl,by simp,.inl rfl⟩
  obtain ⟨B,hB⟩:∃B,B=wr.heap.size:=⟨_,rfl⟩
  have xx:B≤(wr.alloc (.cells #[] 3)).heap.size:=by subst hB;simp
  have hmd:(wr.alloc (.cells #[] 3)).ownsRow B 3 1 (.slice (some ⟨wr.heap.size,0,none⟩) 0 0) 0 []:=World.ownsRow_made wr #[] 0 (e:= 3) (size:=1) (by rw [hB];exact Nat.le_refl _) (Nat.zero_le _) rfl
  have Zx:=aa hmd
  have HB:=aa hB
  clear hmd hB
  go_upto_region 7 with (at_builtin;(refine bE _ rfl (.tmp 34) (.tmp 37) 22 rfl B 3 i0 _ 1 8 Tryz.underlying22 hi0 hz0 hz1 hz2 rfl (by omega) (.slice (some ⟨wr.heap.size,0,none⟩) 0 0) 0 [] rfl Zx.out No none 0 0 (([]:List Int).map (.int .i64)) rfl (HT1.out.aj ((Ext.refl No _).alloc _)) (rP _) (by omega) (by omega) ?_ ?_);(first|exact xx|(simp;omega));(intro v1 w1 hown1 hg1 hv1);(have hE1:Ext No wr w1:=(((Ext.refl _ _).alloc _).aJ (((Ext.refl (fun bq=>(Value.slice (some ⟨wr.heap.size,0,none⟩) 0 0).ownBlock=some bq) _).grown hg1 (fun k hk _=>hk))) (fun i hi e=>by simp only [Value.ownBlock,Option.some.injEq] at e;omega)));(simp only [Nat.zero_add,List.nil_append] at hown1);(have hl1:=World.ownsRow.lt hown1);(have Zy:=aa hown1);(have PG:=aa hE1);(have xu:=aa hl1);(obtain ⟨s1,t1,hs1⟩:=(Row.bG (M:=No) hown1 (fun _ _ x=>x)).slice);(subst hs1);(clear hown1 hg1 hv1 hE1 hl1 xx))
  have xx:B≤w1.heap.size:=by rw [HB];exact PG.size
  go_upto_region 8 with (at_builtin;(refine bE _ rfl (.tmp 39) (.tmp 41) 22 rfl B 3 i0 _ 1 8 Tryz.underlying22 hi0 hz0 hz1 hz2 rfl (by omega) (.slice s1 (0) t1) (0) (([]:List Int).map (.int .i64)) rfl (dG Zy.out ((Ext.refl No _).alloc _) (fun _ _ x=>x)) No (some ⟨w1.heap.size,0,none⟩) 1 1 [.int .i64 n] rfl (Row.block (ah rfl) rfl ax (by omega)) (by simp [Value.oneCell']) (by omega) (by omega) ?_ ?_);(first|exact xx|(simp;omega));(intro v2 w2 hown2 hg2 hv2);(have hE2:Ext No wr w2:=yA PG.out hg2 (fun b hb=>(xu.out b hb).1) (by rw [HB.out];exact Nat.le_refl _));(have hl2:=World.ownsRow.lt hown2);(have Zz:=aa hown2);(have HE2:=aa hE2);(have HL2:=aa hl2);(obtain ⟨s2,t2,hs2⟩:=(Row.bG (M:=No) hown2 (fun _ _ x=>x)).slice);(subst hs2);(clear hown2 hg2 hv2 hE2 hl2 xx))
  have xx:B≤w2.heap.size:=by rw [HB];exact HE2.size
  go_wp2_with (at_builtin;(refine bE _ rfl (.tmp 43) (.tmp 46) 22 rfl B 3 i0 _ 1 8 Tryz.underlying22 hi0 hz0 hz1 hz2 rfl (by omega) (.slice s2 (0+1) t2) (0+1) ((([]:List Int).map (.int .i64))++[.int .i64 n]) rfl Zz.out No none 0 0 (([]:List Int).map (.int .i64)) rfl (HT1.out.aj HE2.out) (rP _) (by omega) (by omega) ?_ ?_);(first|exact xx|(simp;omega));(intro v3 w3 hown3 hg3 hv3);(have jR:Ext No wr w3:=(HE2.out.aJ ((Ext.refl (fun bq=>(Value.slice s2 (0+1) t2).ownBlock=some bq) w2).grown hg3 (fun k hk _=>hk)) (fun i hi e=>by have:=(HL2.out i e).1;rw [HB.out] at this;omega)));(have ZA:=aa hown3);(have ZB:=aa jR);(clear hown3 hg3 hv3 jR xx))
  go_ret
  have hfin:Ints M w3 .i64 v3 [n]:=by
   have h1:=Row.bG ZA (M:=M) (fun b hb e=>by have h2:=HM.out b e;rw [HB] at hb;have h3:=hx.size;omega)
   exact h1
  exact ⟨_,[n],rfl,⟨0,Nat.le_refl _,fun j _ hj=>absurd hj (Nat.not_lt_zero _),fun h=>absurd h (Nat.lt_irrefl _),.inr ⟨fun h=>absurd h (Nat.lt_irrefl _),rfl⟩⟩,hfin,hx.af ZB⟩
 have hpos:0 < l.length:=(by rcases l with _|⟨a,l⟩;exact absurd rfl h0;simp)
 obtain ⟨b,off,cap,rfl,hb,hMb,hcell⟩:=Ints.at h hpos
 have hcp:l.length≤cap∧cap≤9223372036854775807:=by
  obtain ⟨_,_,a',cap',h3,h4,_⟩:=h
  simp only [Value.slice.injEq] at h3
  obtain ⟨_,_,rfl⟩:=h3
  exact h4
 have HC:=aa hcell
 have hcap:=hcp.1
 have hcap2:=hcp.2
 clear h hM hz hcell h0 hb hMb hcp
 go_enter Tryz.func55,Tryz.ntmps55
 go_wp2_with fail
 go_loopw [5] (fun i wr=>∃k:Nat,k≤l.length∧i= .int .i64 k∧Hid (Ext No W wr)∧Hid (∀j (h:j < l.length),j < k→l[j] < n)) (fun i _=>l.length - (intOf i).toNat)
 case atStart=>exact mY
 obtain ⟨k,hk,rfl,hx,hm⟩:=hrel
 rename World=>wr
 have hk0:(0:Int)≤(k:Int):=by omega
 have hkl:(k:Int)≤(l.length:Int):=by omega
 have hkc:(k:Int)≤(cap:Int):=by omega
 have hT1:Row No W 1 (.slice (some ⟨b,off,none⟩) k cap) k ((l.take k).map (.int .i64)):=by
  have h1:=(Row.aco H hcap2 hcap hk).mono (M':=No) (fun _ _ e=>e.elim)
  rw [Nat.mul_one,J7] at h1
  exact h1
 have HT1:=aa (hT1.aj hx)
 clear hT1
 by_cases hlt:k < l.length
 ·have hlz:(k:Int) < (l.length:Int):=by omega
  have YA:Row No W 1 (.slice (some ⟨b,off+k,none⟩) (l.length - k) (cap - k)) (l.length - k) ((l.drop k).map (.int .i64)):=by
   have h1:=(Row.drop H hk).mono (M':=No) (fun _ _ e=>e.elim)
   rw [Nat.mul_one,←List.map_drop] at h1
   exact h1
  have HT2:=aa (YA.aj hx)
  clear YA
  have q0:=hx.keep (HC k hlt)
  obtain ⟨y,hy⟩:∃y,y=l[k]:=⟨_,rfl⟩
  rw [←hy] at q0
  have HY:=aa hy
  clear hy
  by_cases h1:y < n
  ·clear HT1 HT2
   go_wp2_with fail
   go_roundw
   case rel=>exact ⟨k+1,by omega,by go_num,hx,aa (fun j hj hjk=>by
    by_cases e:j=k
    ·subst e;rw [←HY];exact h1
    exact hm j hj (by omega))⟩
   case measure=>simp [intOf];omega
  by_cases h2:y=n
  ·have hyn:(y==n)=true:=by simp [h2]
   have H2:=aa h2
   clear h2 HT1 HT2
   go_wp2_with fail
   go_ret
   exact ⟨_,l,rfl,⟨k,hk,hm,fun _=>by rw [←HY,H2];exact Int.le_refl _,.inl ⟨hlt,by rw [←HY,H2],rfl⟩⟩,Row.aj H hx,hx⟩
  have hyn:(y==n)=false:=by simp [h2]
  have H2:=aa h2
  have h1z:¬y < n:=h1
  have hck:¬cap=k:=by omega
  clear h2
  obtain ⟨B,hB⟩:∃B,B=wr.heap.size:=⟨_,rfl⟩
  have xx:B≤(wr.alloc (.cells #[] 3)).heap.size:=by subst hB;simp
  have hmd:(wr.alloc (.cells #[] 3)).ownsRow B 3 1 (.slice (some ⟨wr.heap.size,0,none⟩) 0 0) 0 []:=World.ownsRow_made wr #[] 0 (e:= 3) (size:=1) (by rw [hB];exact Nat.le_refl _) (Nat.zero_le _) rfl
  have Zx:=aa hmd
  have HB:=aa hB
  clear hmd hB
  go_upto_region 7 with (at_builtin;(refine bE _ rfl (.tmp 34) (.tmp 37) 22 rfl B 3 i0 _ 1 8 Tryz.underlying22 hi0 hz0 hz1 hz2 rfl (by omega) (.slice (some ⟨wr.heap.size,0,none⟩) 0 0) 0 [] rfl Zx.out No (some ⟨b,off,none⟩) k cap ((l.take k).map (.int .i64)) rfl (HT1.out.aj ((Ext.refl No _).alloc _)) (rP _) (by omega) (by omega) ?_ ?_);(first|exact xx|(simp;omega));(intro v1 w1 hown1 hg1 hv1);(have hE1:Ext No wr w1:=(((Ext.refl _ _).alloc _).aJ (((Ext.refl (fun bq=>(Value.slice (some ⟨wr.heap.size,0,none⟩) 0 0).ownBlock=some bq) _).grown hg1 (fun k hk _=>hk))) (fun i hi e=>by simp only [Value.ownBlock,Option.some.injEq] at e;omega)));(simp only [Nat.zero_add,List.nil_append] at hown1);(have hl1:=World.ownsRow.lt hown1);(have Zy:=aa hown1);(have PG:=aa hE1);(have xu:=aa hl1);(obtain ⟨s1,t1,hs1⟩:=(Row.bG (M:=No) hown1 (fun _ _ x=>x)).slice);(subst hs1);(clear hown1 hg1 hv1 hE1 hl1 xx))
  have xx:B≤w1.heap.size:=by rw [HB];exact PG.size
  go_upto_region 8 with (at_builtin;(refine bE _ rfl (.tmp 39) (.tmp 41) 22 rfl B 3 i0 _ 1 8 Tryz.underlying22 hi0 hz0 hz1 hz2 rfl (by omega) (.slice s1 (k) t1) (k) ((l.take k).map (.int .i64)) rfl (dG Zy.out ((Ext.refl No _).alloc _) (fun _ _ x=>x)) No (some ⟨w1.heap.size,0,none⟩) 1 1 [.int .i64 n] rfl (Row.block (ah rfl) rfl ax (by omega)) (by simp [Value.oneCell']) (by omega) (by omega) ?_ ?_);(first|exact xx|(simp;omega));(intro v2 w2 hown2 hg2 hv2);(have hE2:Ext No wr w2:=yA PG.out hg2 (fun b hb=>(xu.out b hb).1) (by rw [HB.out];exact Nat.le_refl _));(have hl2:=World.ownsRow.lt hown2);(have Zz:=aa hown2);(have HE2:=aa hE2);(have HL2:=aa hl2);(obtain ⟨s2,t2,hs2⟩:=(Row.bG (M:=No) hown2 (fun _ _ x=>x)).slice);(subst hs2);(clear hown2 hg2 hv2 hE2 hl2 xx))
  have xx:B≤w2.heap.size:=by rw [HB];exact HE2.size
  go_wp2_with (at_builtin;(refine bE _ rfl (.tmp 43) (.tmp 46) 22 rfl B 3 i0 _ 1 8 Tryz.underlying22 hi0 hz0 hz1 hz2 rfl (by omega) (.slice s2 (k+1) t2) (k+1) (((l.take k).map (.int .i64))++[.int .i64 n]) rfl Zz.out No (some ⟨b,off+k,none⟩) (l.length - k) (cap - k) ((l.drop k).map (.int .i64)) rfl (HT2.out.aj HE2.out) (rP _) (by omega) (by omega) ?_ ?_);(first|exact xx|(simp;omega));(intro v3 w3 hown3 hg3 hv3);(have jR:Ext No wr w3:=(HE2.out.aJ ((Ext.refl (fun bq=>(Value.slice s2 (k+1) t2).ownBlock=some bq) w2).grown hg3 (fun k hk _=>hk)) (fun i hi e=>by have:=(HL2.out i e).1;rw [HB.out] at this;omega)));(have ZA:=aa hown3);(have ZB:=aa jR);(clear hown3 hg3 hv3 jR xx))
  go_ret
  have hfin:Ints M w3 .i64 v3 (l.take k++n::l.drop k):=by
   have h1:=Row.bG ZA (M:=M) (fun b hb e=>by have h2:=HM.out b e;rw [HB] at hb;have h3:=hx.size;omega)
   unfold Ints
   have e1:(l.take k++n::l.drop k).length=(k+1+(l.length - k)):=by simp;omega
   rw [e1,show (l.take k++n::l.drop k).map (Value.int .i64)=((l.take k).map (Value.int .i64)++[.int .i64 n]++(l.drop k).map (.int .i64)) from by simp]
   exact h1
  exact ⟨_,_,rfl,⟨k,by omega,hm,(fun _=>by rw [←HY];omega),.inr ⟨fun _=>by rw [←HY];exact H2,rfl⟩⟩,hfin,hx.af ZB⟩
 have hge:¬(k:Int) < (l.length:Int):=by omega
 have hkk:k=l.length:=by omega
 subst hkk
 have HT2:Hid (Row No wr 1 (.slice (if cap=l.length then some ⟨b,off,none⟩ else some ⟨b,off+l.length,none⟩) 0 (cap - l.length)) 0 (([]:List Int).map (.int .i64))):=aa ⟨by simp,by omega,_,_,rfl,⟨by omega,by omega⟩,.inl rfl⟩
 obtain ⟨AA,hAA⟩:∃AA,(if cap=l.length then some (⟨b,off,none⟩:Addr) else some ⟨b,off+l.length,none⟩)=AA:=⟨_,rfl⟩
 rw [hAA] at HT2
 obtain ⟨B,hB⟩:∃B,B=wr.heap.size:=⟨_,rfl⟩
 have xx:B≤(wr.alloc (.cells #[] 3)).heap.size:=by subst hB;simp
 have hmd:(wr.alloc (.cells #[] 3)).ownsRow B 3 1 (.slice (some ⟨wr.heap.size,0,none⟩) 0 0) 0 []:=World.ownsRow_made wr #[] 0 (e:= 3) (size:=1) (by rw [hB];exact Nat.le_refl _) (Nat.zero_le _) rfl
 have Zx:=aa hmd
 have HB:=aa hB
 clear hmd hB
 go_upto_region 7 with (at_builtin;(refine bE _ rfl (.tmp 34) (.tmp 37) 22 rfl B 3 i0 _ 1 8 Tryz.underlying22 hi0 hz0 hz1 hz2 rfl (by omega) (.slice (some ⟨wr.heap.size,0,none⟩) 0 0) 0 [] rfl Zx.out No (some ⟨b,off,none⟩) l.length cap ((l.take l.length).map (.int .i64)) rfl (HT1.out.aj ((Ext.refl No _).alloc _)) (rP _) (by omega) (by omega) ?_ ?_);(first|exact xx|(simp;omega));(intro v1 w1 hown1 hg1 hv1);(have hE1:Ext No wr w1:=(((Ext.refl _ _).alloc _).aJ (((Ext.refl (fun bq=>(Value.slice (some ⟨wr.heap.size,0,none⟩) 0 0).ownBlock=some bq) _).grown hg1 (fun k hk _=>hk))) (fun i hi e=>by simp only [Value.ownBlock,Option.some.injEq] at e;omega)));(simp only [Nat.zero_add,List.nil_append] at hown1);(have hl1:=World.ownsRow.lt hown1);(have Zy:=aa hown1);(have PG:=aa hE1);(have xu:=aa hl1);(obtain ⟨s1,t1,hs1⟩:=(Row.bG (M:=No) hown1 (fun _ _ x=>x)).slice);(subst hs1);(clear hown1 hg1 hv1 hE1 hl1 xx))
 have xx:B≤w1.heap.size:=by rw [HB];exact PG.size
 go_upto_region 8 with (at_builtin;(refine bE _ rfl (.tmp 39) (.tmp 41) 22 rfl B 3 i0 _ 1 8 Tryz.underlying22 hi0 hz0 hz1 hz2 rfl (by omega) (.slice s1 (l.length) t1) (l.length) ((l.take l.length).map (.int .i64)) rfl (dG Zy.out ((Ext.refl No _).alloc _) (fun _ _ x=>x)) No (some ⟨w1.heap.size,0,none⟩) 1 1 [.int .i64 n] rfl (Row.block (ah rfl) rfl ax (by omega)) (by simp [Value.oneCell']) (by omega) (by omega) ?_ ?_);(first|exact xx|(simp;omega));(intro v2 w2 hown2 hg2 hv2);(have hE2:Ext No wr w2:=yA PG.out hg2 (fun b hb=>(xu.out b hb).1) (by rw [HB.out];exact Nat.le_refl _));(have hl2:=World.ownsRow.lt hown2);(have Zz:=aa hown2);(have HE2:=aa hE2);(have HL2:=aa hl2);(obtain ⟨s2,t2,hs2⟩:=(Row.bG (M:=No) hown2 (fun _ _ x=>x)).slice);(subst hs2);(clear hown2 hg2 hv2 hE2 hl2 xx))
 have xx:B≤w2.heap.size:=by rw [HB];exact HE2.size
 go_wp2_with (at_builtin;(refine bE _ rfl (.tmp 43) (.tmp 46) 22 rfl B 3 i0 _ 1 8 Tryz.underlying22 hi0 hz0 hz1 hz2 rfl (by omega) (.slice s2 (l.length+1) t2) (l.length+1) (((l.take l.length).map (.int .i64))++[.int .i64 n]) rfl Zz.out No AA 0 (cap - l.length) (([]:List Int).map (.int .i64)) rfl (HT2.out.aj HE2.out) (rP _) (by omega) (by omega) ?_ ?_);(first|exact xx|(simp;omega));(intro v3 w3 hown3 hg3 hv3);(have jR:Ext No wr w3:=(HE2.out.aJ ((Ext.refl (fun bq=>(Value.slice s2 (l.length+1) t2).ownBlock=some bq) w2).grown hg3 (fun k hk _=>hk)) (fun i hi e=>by have:=(HL2.out i e).1;rw [HB.out] at this;omega)));(have ZA:=aa hown3);(have ZB:=aa jR);(clear hown3 hg3 hv3 jR xx))
 go_ret
 have hfin:Ints M w3 .i64 v3 (l.take l.length++n::l.drop l.length):=by
  have h1:=Row.bG ZA (M:=M) (fun b hb e=>by have h2:=HM.out b e;rw [HB] at hb;have h3:=hx.size;omega)
  unfold Ints
  have e1:(l.take l.length++n::l.drop l.length).length=(l.length+1+0):=by simp
  rw [e1,show (l.take l.length++n::l.drop l.length).map (Value.int .i64)=((l.take l.length).map (Value.int .i64)++[.int .i64 n]++([]:List Int).map (.int .i64)) from by simp]
  exact h1
 exact ⟨_,_,rfl,⟨l.length,by omega,hm,(fun h=>absurd h (Nat.lt_irrefl _)),.inr ⟨(fun h=>absurd h (Nat.lt_irrefl _)),rfl⟩⟩,hfin,hx.af ZB⟩

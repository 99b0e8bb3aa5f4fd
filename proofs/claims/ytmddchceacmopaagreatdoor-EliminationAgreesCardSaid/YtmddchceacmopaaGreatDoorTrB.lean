
import Derived.Test.YtmddchceacmopaaGreatDoorTr6
import Derived.Laws.CopyOwn
set_option linter.unusedVariables false
set_option linter.unusedSimpArgs false
namespace Go.Proofs.YtmddchceacmopaaGreatDoor
open Go Go.RowKit
def bM (t:cK):dS:=⟨bJ t.w t.gen,bJ t.w t.kill,t.copies⟩
theorem kg {t:cK} (h:eO t):gu (bM t)=true:=by
 have hh:nY (bM t)=true:=by
  unfold nY
  rw [show fH (bM t).gen=true from dI h.w h.gen,show fH (bM t).kill=true from dI h.w h.kill,decide_eq_true (show (bM t).gen.width=(bM t).kill.width from rfl),decide_eq_true (show (bM t).copies.length≤64 from h.len)];rfl
 refine vv hh (fun i hi=>?_)
 obtain ⟨h1,h2⟩:=h.inr i hi
 unfold oG
 have e1:mh (bM t).gen.width (bM t).copies[i].1=true:=h1
 have e2:mh (bM t).gen.width (bM t).copies[i].2=true:=h2
 rw [e1,e2]
 cases i with
 |zero=>rfl
 |succ i=>
  have:=h.sorted i hi
  have e3:iM ((bM t).copies[i+1 - 1]'(by have:(bM t).copies.length=t.copies.length:=rfl;omega)) (bM t).copies[i+1] < 0:=this
  rw [decide_eq_true e3];simp
theorem D9 {r:dS} (h:gu r=true) (hg:∀n∈r.gen.words,n < 2 ^ 64) (hk:∀n∈r.kill.words,n < 2 ^ 64):∃t,eO t∧r=bM t:=by
 simp only [gu,nY,Bool.and_eq_true,decide_eq_true_eq] at h
 obtain ⟨⟨h1,h2,h3,h4⟩,h5⟩:=h
 obtain ⟨w,m,hw,hm,e1⟩:=(nT hg).1 h1
 obtain ⟨w',k,hw',hk',e2⟩:=(nT hk).1 h2
 obtain ⟨gen,kill,copies⟩:=r
 simp only at e1 e2 h3 h4 h5
 subst e1 e2
 have:w=w':=by have:(w:Int)=(w':Int):=h3;omega
 subst this
 refine ⟨⟨w,m,k,copies⟩,⟨hw,hm,hk',h4,fun i hi=>?_,fun i hi=>?_⟩,rfl⟩
 ·have:=h5 i hi
  simp only [oG,Bool.and_eq_true] at this
  exact ⟨this.1,this.2.1⟩
 have:=h5 (i+1) hi
 simp only [oG,Bool.and_eq_true,Bool.or_eq_true,decide_eq_true_eq] at this
 rcases this.2.2 with h|h
 ·omega
 exact h
theorem dF.raw {M:Nat→Prop} {W:World} {sg sk sc:Value} {t:cK} (h:dF M W sg sk sc t):bN M W sg sk sc (bM t):=⟨h.gen.words,h.kill.words,h.copies⟩
theorem bN.tr {M:Nat→Prop} {W:World} {sg sk sc:Value} {t:cK} (h:bN M W sg sk sc (bM t)) (ho:eO t):dF M W sg sk sc t:=⟨⟨h.gen,ho.w,ho.gen⟩,⟨h.kill,ho.w,ho.kill⟩,h.copies,ho⟩
theorem zF (t:cK) (sg sk sc:Value) (W:World) (h:dF No W sg sk sc t):Calls Tryz.prog 78 #[.agg #[.int .i64 (t.w:Int),sg,.int .i64 (t.w:Int),sk,sc]] W (bZ true W):=
 (qi (bM t) sg sk sc W h.raw).mono fun _ _ hh=>by rw [kg h.ok] at hh;exact hh
end Go.Proofs.YtmddchceacmopaaGreatDoor
namespace Go.Proofs.YtmddchceacmopaaGreatDoor
open Go Go.RowKit
def kF (t:cK) (s:Nat):Nat→Nat
 |0=>gP (dz s t.kill) t.gen
 |k+1=>match t.copies[k]? with
  |none=>kF t s k
  |some c=>if gz t.w s c.1 then kF t s k|||2 ^ c.2.toNat else kF t s k
def bL (t:cK) (s:Nat):Nat:=kF t s t.copies.length
theorem yz {t:cK} {s:Nat} (ho:eO t) (hs:s < 2 ^ t.w):∀k,kF t s k < 2 ^ t.w:=by
 intro k
 induction k with
 |zero=>exact pX (lY hs) ho.gen
 |succ k ih=>
  unfold kF
  exact FZ
theorem zH {t:cK} {s k:Nat} (hk:k < t.copies.length):kF t s (k+1)=if gz t.w s t.copies[k].1 then kF t s k|||2 ^ t.copies[k].2.toNat else kF t s k:=by
 rw [kF,List.getElem?_eq_getElem hk]
structure oM (M:Nat→Prop) (W wr:World) (t:cK) (s m D:Nat) (sg sk sc ss so:Value):Prop where
 ext:Ext No W wr
 jl:wr.heap[W.heap.size]? =some (.cells #[.int .i64 (t.w:Int),sg,.int .i64 (t.w:Int),sk,sc] 47 (0,0))
 vO:wr.heap[W.heap.size+1]? =some (.cells #[.int .i64 (t.w:Int),ss] 44 (0,0))
 bV:wr.heap[W.heap.size+2]? =some (.cells #[.int .i64 0,.slice none 0 0] 44 (0,0))
 dB:wr.heap[D]? =some (.cells #[.int .i64 (t.w:Int),so] 44 (0,0))
 set:aG (fun b=>M b∨b=W.heap.size+2∨b=D) wr so t.w m
 big:W.heap.size+2 < D
section
variable {M:Nat→Prop} {W wr w':World} {t:cK} {s m m' D:Nat} {sg sk sc ss so so':Value}
theorem oM.aC (h:oM M W wr t s m D sg sk sc ss so) (hx:Ext No wr w'):oM M W w' t s m D sg sk sc ss so:=
 ⟨h.ext.af hx,hx.blk h.jl ax,hx.blk h.vO ax,hx.blk h.bV ax,hx.blk h.dB ax,h.set.aj hx,h.big⟩
theorem oM.put (h:oM M W wr t s m D sg sk sc ss so) (hs:aG (fun b=>M b∨b=W.heap.size+2∨b=D) wr so' t.w m'):oM M W ((wr.setCell ⟨D,0,none⟩ (.int .i64 (t.w:Int))).setCell ⟨D,1,none⟩ so') t s m' D sg sk sc ss so':=by
 have h1:=h.big
 have hx:=jV (u0:= .int .i64 (t.w:Int)) (u1:=so') h.ext D
 exact ⟨gG h.ext (by omega),hx.blk h.jl (by unfold At;omega),hx.blk h.vO (by unfold At;omega),hx.blk h.bV (by unfold At;omega),(az (j:=1) (az (j:=0) h.dB)).trans rfl,hs.ext hx (fun i _ e=> .inr (.inr e)),h1⟩
theorem oM.hM (hM:∀b,M b→b < W.heap.size) (h:oM M W wr t s m D sg sk sc ss so):∀b,(M b∨b=W.heap.size+2∨b=D)→b < wr.heap.size:=fun b hb=>by
 have h1:=lt_of_block h.dB
 have h2:=h.big
 rcases hb with hb|rfl|rfl
 ·have:=hM b hb;omega
 ·omega
 exact h1
end
set_option maxRecDepth 100000 in
set_option maxHeartbeats 2000000 in
theorem Gu (M:Nat→Prop) (t:cK) (s:Nat) (sg sk sc ss:Value) (W:World) (hM:∀b,M b→b < W.heap.size) (h:dF No W sg sk sc t) (hs:aG No W ss t.w s):
  Calls Tryz.prog 91 #[.agg #[.int .i64 (t.w:Int),sg,.int .i64 (t.w:Int),sk,sc],.agg #[.int .i64 (t.w:Int),ss]] W (jA M t.w (bL t s) W):=by
 have H:=aa h
 have HS:=aa hs
 have HM:=aa hM
 have HO:=aa h.ok
 obtain ⟨ag,ng,cg,rfl⟩:=h.gen.shaped
 obtain ⟨ak,nk,ck,rfl⟩:=h.kill.shaped
 obtain ⟨ac,cc,rfl⟩:=Row.slice h.copies
 obtain ⟨WR,ns,cs,rfl⟩:=hs.shaped
 have hlen:=h.ok.len
 clear h hs hM
 go_enter Tryz.func91,Tryz.ntmps91
 go_wp2_with fail
 have hx0:Ext No W (((W.alloc (.cells #[.int .i64 (t.w:Int),.slice ag ng cg,.int .i64 (t.w:Int),.slice ak nk ck,.slice ac t.copies.length cc] 47)).alloc (.cells #[.int .i64 (t.w:Int),.slice WR ns cs] 44)).alloc (.cells #[.int .i64 0,.slice none 0 0] 44)):=(((Ext.refl _ _).alloc _).alloc _).alloc _
 refine (JE (fun b=>M b∨b=W.heap.size+2) t.w s t.kill _ _ _ (fun b hb=>?_) (HS.aj hx0) (H.kill.aj hx0)).mono ?_
 ·simp
  exact yx
 rintro e1 w1 ⟨a1,c1,rfl,hs1,hx1⟩
 have hA:=hx1.blk (ay (ay (ah (w:=W) rfl))) ax
 have hB:=hx1.blk (n:=W.heap.size+1) (ay (ah (by simp))) ax
 have hC:=hx1.blk (n:=W.heap.size+2) (ah (by simp)) ax
 have oJ:=lt_of_block hC
 have hxa:=hx0.af hx1
 have hxd:Ext No w1 (w1.alloc (.cells #[.int .i64 (t.w:Int),.slice a1 (nw t.w) c1] 44)):=(Ext.refl _ _).alloc _
 have hm1:=aa (show oM M W (w1.alloc (.cells #[.int .i64 (t.w:Int),.slice a1 (nw t.w) c1] 44)) t s (dz s t.kill) w1.heap.size (.slice ag ng cg) (.slice ak nk ck) (.slice ac t.copies.length cc) (.slice WR ns cs) (.slice a1 (nw t.w) c1) from
  ⟨hxa.af hxd,hxd.blk hA ax,hxd.blk hB ax,hxd.blk hC ax,ah rfl,⟨⟨Row.newAt hs1.words.row hxd _ (fun i hi e=>by
   rcases e with e|e|e
   ·exact .inl e
   ·exact .inr e
   exact absurd hi (by omega)),hs1.words.lt⟩,hs1.hw,hs1.hm⟩,oJ⟩)
 have cA:=cellOf (hxd.blk hA ax)
 have cD:=cellOf hm1.dB
 clear hx0 hx1 hs1 hA hB hC hxa hxd
 go_wp2_with fail
 generalize World.alloc w1 _=W1 at*
 generalize w1.heap.size=D at*
 refine (nu (fun b=>M b∨b=W.heap.size+2∨b=D) t.w (dz s t.kill) t.gen _ _ _ (hm1.hM HM) hm1.set.no (H.gen.aj hm1.ext)).mono ?_
 rintro e2 w2 ⟨a2,c2,rfl,hs2,hx2⟩
 have hm2:=aa (hm1.aC hx2)
 clear hx2 hm1 cA cD
 have cD:=cellOf hm2.dB
 have fD:=aH hm2.dB
 have cA:=cellOf hm2.jl
 have gX:=aa (hm2.put hs2)
 have aa9:W.heap.size≠D:=by have:=hm2.big;omega
 go_wp2_with fail
 clear hm2 cA cD fD hs2 aa9
 generalize World.setCell (World.setCell w2 _ _) _ _=W2 at*
 go_loopw [26] (fun i wr=>∃(k:Nat) (a':Option Addr) (c':Nat),k≤t.copies.length∧i= .int .i64 k∧Hid (oM M W wr t s (kF t s k) D (.slice ag ng cg) (.slice ak nk ck) (.slice ac t.copies.length cc) (.slice WR ns cs) (.slice a' (nw t.w) c'))) (fun i _=>t.copies.length - (intOf i).toNat)
 case atStart=>exact ⟨0,_,_,Nat.zero_le _,rfl,gX⟩
 clear gX
 obtain ⟨k,a',c',hk,rfl,hm⟩:=hrel
 by_cases hlt:k < t.copies.length
 ·obtain ⟨b,off,cap',hsl,hb1,_,hcell⟩:=H.copies.at hlt
  simp only [Value.slice.injEq] at hsl
  obtain ⟨rfl,_,rfl⟩:=hsl
  obtain ⟨q0,q1⟩:=hcell k hlt
  replace q0:=hm.ext.keep q0
  replace q1:=hm.ext.keep q1
  clear hcell
  have hpos:(0:Int)≤(k:Int):=by omega
  obtain ⟨i1,i2⟩:=HO.inr k hlt
  obtain ⟨f,hf,hf2⟩:=jF i1
  obtain ⟨g,hg,hg2⟩:=jF i2
  have ZQ:=aa (zH (t:=t) (s:=s) hlt)
  have HKK:Hid (Value.int .i64 ((k:Int)+1)= .int .i64 ((k+1:Nat):Int)):=aa (by rw [show ((k+1:Nat):Int)=(k:Int)+1 from by omega])
  rw [hf,hg,Int.toNat_natCast] at ZQ
  rw [hf] at q0
  rw [hg] at q1
  have hgw:g < t.w:=by omega
  clear hf hg i1 i2 hf2 hg2
  rename World=>wr
  have hx4:=(Ext.refl No wr).alloc (.cells #[.int .i64 (f:Int),.int .i64 (g:Int)] 75)
  have hE:(wr.alloc (.cells #[.int .i64 (f:Int),.int .i64 (g:Int)] 75)).heap[wr.heap.size]? =some (.cells #[.int .i64 (f:Int),.int .i64 (g:Int)] 75 (0,0)):=ah rfl
  have og:=aa (hm.aC hx4)
  have cS:=cellOf og.vO
  have hDE:D < wr.heap.size:=lt_of_block hm.dB
  go_wp2_with fail
  clear cS q0 q1
  generalize World.alloc wr _=w4 at*
  generalize wr.heap.size=E at*
  clear hx4 hm
  refine (Ia t.w s _ f _ (HS.aj og.ext)).mono ?_
  rintro e5 w5 ⟨rfl,hx5⟩
  have mH:=aa (og.aC hx5)
  have nJ:=hx5.blk hE ax
  clear og hx5 hE
  cases hh:gz t.w s f with
  |false=>
   rw [hh] at ZQ
   go_wp2_with fail
   go_roundw
   case rel=>exact ⟨k+1,_,_,by omega,HKK,aa (by rw [ZQ];exact mH)⟩
   case measure=>simp [intOf];omega
  |true=>
   rw [hh] at ZQ
   have cD:=cellOf mH.dB
   have cE:=cellOf nJ
   go_wp2_with fail
   refine (wQ (fun b=>M b∨b=W.heap.size+2∨b=D) t.w (kF t s k) g _ _ (mH.hM HM) hgw mH.set.no).mono ?_
   rintro e6 w6 ⟨a6,c6,rfl,hs6,hx6⟩
   have jU:=aa (mH.aC hx6)
   clear mH hx6 cD cE nJ
   have cD:=cellOf jU.dB
   have fD:=aH jU.dB
   have He:=aa (jU.put hs6)
   go_wp2_with fail
   go_roundw
   case rel=>exact ⟨k+1,_,_,by omega,HKK,aa (by rw [ZQ];exact He)⟩
   case measure=>simp [intOf];omega
 obtain rfl:k=t.copies.length:=by omega
 have cC:=cellOf hm.bV
 have fC:=aH hm.bV
 have cD:=cellOf hm.dB
 have hbig:=hm.big
 go_wp2_with fail
 refine aW rfl ?_
 simp [results,Tryz.results91,go_sem,cC]
 exact ⟨_,_,rfl,(hm.set.ext (jV hm.ext (W.heap.size+2)) (fun i _ e=> .inr (.inl e))).mono (fun i _ e=> .inl e),gG hm.ext (by omega)⟩
end Go.Proofs.YtmddchceacmopaaGreatDoor
namespace Go.Proofs.YtmddchceacmopaaGreatDoor
open Go Go.RowKit
set_option maxRecDepth 100000 in
set_option maxHeartbeats 2000000 in
theorem OU (M:Nat→Prop) (t:cK) (s:Nat) (sg sk sc ss:Value) (W:World) (hM:∀b,M b→b < W.heap.size) (h:dF No W sg sk sc t) (hs:aG No W ss t.w s):
  Calls Tryz.prog 53 #[.agg #[.int .i64 (t.w:Int),sg,.int .i64 (t.w:Int),sk,sc],.agg #[.int .i64 (t.w:Int),ss]] W (iq M t.w (bL t s) W):=by
 have H:=aa h
 have HS:=aa hs
 have HM:=aa hM
 have hv:=dI hs.hw hs.hm
 obtain ⟨ag,ng,cg,rfl⟩:=h.gen.shaped
 obtain ⟨ak,nk,ck,rfl⟩:=h.kill.shaped
 obtain ⟨ac,nc,cc,rfl⟩:=h.copies.shaped
 obtain ⟨WR,ns,cs,rfl⟩:=hs.shaped
 clear h hs hM
 go_enter Tryz.func53,Tryz.ntmps53
 go_wp2_with fail
 have hx0:Ext No W (((W.alloc (.cells #[.int .i64 (t.w:Int),.slice ag ng cg,.int .i64 (t.w:Int),.slice ak nk ck,.slice ac nc cc] 47)).alloc (.cells #[.int .i64 (t.w:Int),.slice WR ns cs] 44)).alloc (.cells #[.int .i64 0,.slice none 0 0] 44)):=(((Ext.refl _ _).alloc _).alloc _).alloc _
 refine (zF t _ _ _ _ (H.aj hx0)).mono ?_
 rintro e1 w1 ⟨rfl,hx1⟩
 have hA:=hx1.blk (ay (ay (ah (w:=W) rfl))) ax
 have hB:=hx1.blk (n:=W.heap.size+1) (ay (ah (by simp))) ax
 have hC:=hx1.blk (n:=W.heap.size+2) (ah (by simp)) ax
 have hxa:=hx0.af hx1
 have cB:=cellOf hB
 clear hx0 hx1
 go_wp2_with fail
 refine (eH _ (bJ t.w s) _ (HS.raw.aj hxa)).mono ?_
 rintro e2 w2 ⟨rfl,hx2⟩
 rw [hv]
 replace hA:=hx2.blk hA ax
 replace hB:=hx2.blk hB ax
 replace hC:=hx2.blk hC ax
 replace hxa:=hxa.af hx2
 clear hx2 cB
 have cA:=cellOf hA
 have cB:=cellOf hB
 have oJ:=lt_of_block hC
 go_wp2_with fail
 refine (Gu (fun b=>M b∨b=W.heap.size+2) t s _ _ _ _ _ (fun b hb=>?_) (H.aj hxa) (HS.aj hxa)).mono ?_
 ·exact yx
 rintro e3 w3 ⟨a3,c3,rfl,hs3,hx3⟩
 replace hC:=hx3.blk hC ax
 replace hxa:=hxa.af hx3
 clear hx3 cA cB hA hB
 have cC:=cellOf hC
 have fC:=aH hC
 go_wp2_with fail
 refine aW rfl ?_
 simp [results,Tryz.results53,go_sem,cC]
 exact tC
end Go.Proofs.YtmddchceacmopaaGreatDoor
namespace Go.Proofs.YtmddchceacmopaaGreatDoor
open Go Go.RowKit
def fU (W:World) (g w m:Nat):Prop:=W.heap[g]? =some (.cells (iY (aY w m)).toArray 108 (0,0))
theorem fU.own {W:World} {g w m:Nat} (h:fU W g w m) (hw:w≤256) {base:Nat} (hb:base≤g):gY W base (.slice (some ⟨g,0,none⟩) (nw w) (nw w)) (aY w m):=by
 have hn:(aY w m).length=nw w:=aX w m
 have hk:(iY (aY w m)).length=nw w:=by rw [qZ,hn]
 refine ⟨?_,adP w m⟩
 rw [hn]
 refine ⟨by rw [hk,Nat.mul_one],.inr ⟨g,nw w,_,rfl,hb,h,Nat.le_refl _,by simp only [maxLen];unfold nw;omega,by simp [hk],?_⟩⟩
 rw [Nat.mul_one,←hk]
 simp
theorem fU.set {M:Nat→Prop} {W:World} {g w m:Nat} (h:fU W g w m) (hw:w≤256) (hm:m < 2 ^ w) (hg:¬M g):aG M W (.slice (some ⟨g,0,none⟩) (nw w) (nw w)) w m:=by
 have hn:(aY w m).length=nw w:=aX w m
 refine ⟨⟨⟨by rw [qZ,Nat.mul_one],by rw [hn];unfold nw;omega,some ⟨g,0,none⟩,nw w,by rw [hn],⟨by rw [hn];exact Nat.le_refl _,by unfold nw;omega⟩,.inr ⟨g,0,rfl,lt_of_block h,hg,fun j u hj=>?_⟩⟩,adP w m⟩,hw,hm⟩
 have h':W.heap[g]? =some (.cells (iY (aY w m)).toArray 108 (0,0)):=h
 simp [World.cell?,h',hj]
theorem fU.zero {W:World} {w:Nat}:fU (W.alloc (.cells (oN (nw w)) 108)) W.heap.size w 0:=by
 have e:oN (nw w)=(iY (aY w 0)).toArray:=by rw [zz,←Bt]
 rw [e]
 exact ah rfl
def Xz (w m:Nat) (W:World) (e:Ending) (w':World):Prop:=
 ∃g,e= .returned (.agg #[.int .i64 (w:Int),.slice (some ⟨g,0,none⟩) (nw w) (nw w)])∧Hid (fU w' g w m)∧W.heap.size≤g∧Ext No W w'
set_option maxHeartbeats 400000 in
theorem fK (w:Nat) (W:World) (hw:w≤256):Calls Tryz.prog 39 #[.int .i64 (w:Int)] W (Xz w 0 W):=by
 have hmk:=rq (nw w) (by unfold nw;omega)
 have hn:((w:Int)+63) / 64=(nw w:Int):=by unfold nw;omega
 have hw':(w:Int)≤256:=by omega
 go_enter Tryz.func39,Tryz.ntmps39
 go_wp2_with fail
 have hC:((W.alloc (.cells #[.int .i64 (w:Int),.slice (some ⟨W.heap.size+1,0,none⟩) (nw w) (nw w)] 44)).alloc (.cells (oN (nw w)) 108)).heap[W.heap.size]? =some (.cells #[.int .i64 (w:Int),.slice (some ⟨W.heap.size+1,0,none⟩) (nw w) (nw w)] 44 (0,0)):=ay (ah rfl)
 have cC:=cellOf hC
 refine aW rfl ?_
 simp [results,Tryz.results39,go_sem,cC]
 exact F3
structure zg (W:World) (sl:Value) (w m D g:Nat) (wx:World):Prop where
 ext:Ext No W wx
 bW:wx.heap[W.heap.size]? =some (.cells #[.int .i64 (w:Int),sl] 44 (0,0))
 bV:wx.heap[W.heap.size+1]? =some (.cells #[.int .i64 0,.slice none 0 0] 44 (0,0))
 dB:wx.heap[D]? =some (.cells #[.int .i64 (w:Int),.slice (some ⟨g,0,none⟩) (nw w) (nw w)] 44 (0,0))
 blk:fU wx g w m
 aaN:W.heap.size+2≤D
 big:W.heap.size+2≤g
 ne:D≠g
theorem zg.late {W w3:World} {sl:Value} {w m g:Nat} (hx:Ext No W w3) (hA:w3.heap[W.heap.size]? =some (.cells #[.int .i64 (w:Int),sl] 44 (0,0))) (hC:w3.heap[W.heap.size+1]? =some (.cells #[.int .i64 0,.slice none 0 0] 44 (0,0))) (hb:fU w3 g w m) (hg:W.heap.size+2≤g):
  zg W sl w m w3.heap.size g (w3.alloc (.cells #[.int .i64 (w:Int),.slice (some ⟨g,0,none⟩) (nw w) (nw w)] 44)):=by
 have h1:=lt_of_block hb
 exact ⟨hx.alloc _,ay hA,ay hC,ah rfl,ay hb,by omega,hg,by omega⟩
theorem zg.early {W w3:World} {sl:Value} {w m D g:Nat} (hx:Ext No W w3) (hA:w3.heap[W.heap.size]? =some (.cells #[.int .i64 (w:Int),sl] 44 (0,0))) (hC:w3.heap[W.heap.size+1]? =some (.cells #[.int .i64 0,.slice none 0 0] 44 (0,0))) (hb:fU w3 g w m) (hg:W.heap.size+2≤g)
  (hD:w3.heap[D]? =some (.cells #[.int .i64 0,.slice none 0 0] 44 (0,0))) (hDW:W.heap.size+2≤D) (hne:D < g):
  zg W sl w m D g ((w3.setCell ⟨D,0,none⟩ (.int .i64 (w:Int))).setCell ⟨D,1,none⟩ (.slice (some ⟨g,0,none⟩) (nw w) (nw w))):=by
 have hy:=jV hx (u0:= .int .i64 (w:Int)) (u1:= .slice (some ⟨g,0,none⟩) (nw w) (nw w)) D
 refine ⟨gG hx (by omega),hy.blk hA (by unfold At;omega),hy.blk hC (by unfold At;omega),(az (j:=1) (az (j:=0) hD)).trans rfl,hy.blk hb (by unfold At;omega),hDW,hg,by omega⟩
theorem Mj (w:World) (g:Nat) (cs:Array Value):Ext (At g) w (w.setRow g cs):=⟨rfl,rfl,rfl,by simp [World.setRow],fun k _ h=>setRow_other w g k cs h⟩
theorem zg.copy {W wx:World} {sl:Value} {w m m' D g:Nat} (h:zg W sl w m' D g wx):zg W sl w m D g (wx.setRow g (((iY (aY w m')).toArray).toList.take 0++(iY (aY w m)++((iY (aY w m')).toArray).toList.drop (0+(iY (aY w m)).length))).toArray):=by
 have h1:=h.big
 have hy:=Mj wx g (((iY (aY w m')).toArray).toList.take 0++(iY (aY w m)++((iY (aY w m')).toArray).toList.drop (0+(iY (aY w m)).length))).toArray
 refine ⟨h.ext.aJ hy (fun i hi e=>by unfold At at e;omega),hy.blk h.bW (by unfold At;omega),hy.blk h.bV (by unfold At;omega),hy.blk h.dB h.ne,?_,h.aaN,h1,h.ne⟩
 have e:(((iY (aY w m')).toArray).toList.take 0++(iY (aY w m)++((iY (aY w m')).toArray).toList.drop (0+(iY (aY w m)).length))).toArray=(iY (aY w m)).toArray:=by
  simp [qZ,aX]
 rw [e]
 exact setRow_heap wx g _ _ _ _ h.blk
theorem zg.put {W wx:World} {sl:Value} {w m D g b:Nat} (h:zg W sl w m D g wx) (hb:b < w):zg W sl w (m|||2 ^ b) D g (wx.setCell ⟨g,b / 64,none⟩ (.int .u64 ((dD m (b / 64)|||p2 (b % 64):Nat):Int))):=by
 have h1:=h.big
 have h2:=h.ne
 have h3:=h.ext
 refine ⟨h3.own (by simp only;omega) _,lJ h.bW (by simp only;omega),lJ h.bV (by simp only;omega),lJ h.dB (by simpa using h2),?_,h.aaN,h1,h2⟩
 have e:=az (j:=b / 64) (u:= .int .u64 ((dD m (b / 64)|||p2 (b % 64):Nat):Int)) h.blk
 unfold fU
 rw [e,←zB w m b hb,JD]
 simp [p2]
theorem X4:(Tryz.prog.info? 108).map (·.size)=some 1:=by kernel_rfl
set_option maxHeartbeats 1000000 in
theorem iW (w m b:Nat) (sl:Value) (W:World) (hb:b < w) (h:aG No W sl w m):
  Calls Tryz.prog 40 #[.agg #[.int .i64 (w:Int),sl],.int .i64 (b:Int)] W (Xz w (m|||2 ^ b) W):=by
 have H:=aa h
 have hw:=h.hw
 have hnn:b / 64 < nw w:=by unfold nw;omega
 obtain ⟨bs,off,c,hsl,_,_,hcell⟩:=h.words.row.shape (by rw [aX];omega)
 rw [aX] at hsl
 subst hsl
 have YI:=aa hcell
 have HN:=aa (show (iY (aY w m)).length=Nat.min (nw w) (nw w) by rw [qZ,aX];exact (Nat.min_self _).symm)
 have HF:=aa (show 0+(iY (aY w m)).length≤(iY (aY w 0)).toArray.size by simp [qZ,aX])
 have hk0:(0:Int)≤(b:Int):=by omega
 have hk2:(b:Int)≤256:=by omega
 have hu:IntKind.u64.wrap (b:Int)=b:=qV b (by omega)
 have h64:b % 64 < 64:=Nat.mod_lt _ (by decide)
 have hsh:=Lg h64
 have hor:=H7 (dD m (b / 64)) (p2 (b % 64)) (gN _ _) (QA h64)
 clear h hcell
 go_enter Tryz.func40,Tryz.ntmps40
 go_wp2_with fail
 have hxa:Ext No W ((W.alloc (.cells #[.int .i64 (w:Int),.slice (some ⟨bs,off,none⟩) (nw w) c] 44)).alloc (.cells #[.int .i64 0,.slice none 0 0] 44)):=((Ext.refl _ _).alloc _).alloc _
 have hA:((W.alloc (.cells #[.int .i64 (w:Int),.slice (some ⟨bs,off,none⟩) (nw w) c] 44)).alloc (.cells #[.int .i64 0,.slice none 0 0] 44)).heap[W.heap.size]? =some (.cells #[.int .i64 (w:Int),.slice (some ⟨bs,off,none⟩) (nw w) c] 44 (0,0)):=ay (ah rfl)
 have hC:((W.alloc (.cells #[.int .i64 (w:Int),.slice (some ⟨bs,off,none⟩) (nw w) c] 44)).alloc (.cells #[.int .i64 0,.slice none 0 0] 44)).heap[W.heap.size+1]? =some (.cells #[.int .i64 0,.slice none 0 0] 44 (0,0)):=ah (by simp)
 have HSZ:Hid (((W.alloc (.cells #[.int .i64 (w:Int),.slice (some ⟨bs,off,none⟩) (nw w) c] 44)).alloc (.cells #[.int .i64 0,.slice none 0 0] 44)).heap.size=W.heap.size+2):=aa (by simp)
 refine (fK w _ hw).mono ?_
 rintro e1 w1 ⟨g,rfl,hb1,hg,hx1⟩
 have HG:=aa (show W.heap.size+2≤g by rw [←HSZ];exact hg)
 have hm1:=aa (zg.late (hxa.af hx1) (hx1.blk hA ax) (hx1.blk hC ax) hb1 HG)
 have cA:=cellOf (hm1.bW)
 have cD:=cellOf (hm1.dB)
 have HS:=aa (show ∀j v,(iY (aY w m))[j]? =some v→(w1.alloc (.cells #[.int .i64 (w:Int),.slice (some ⟨g,0,none⟩) (nw w) (nw w)] 44)).cell? (Addr.add ⟨bs,off,none⟩ j)=some v from fun j v hj=>hm1.ext.keep (by rw [show Addr.add ⟨bs,off,none⟩ j=⟨bs,off+j,none⟩ from by unfold Addr.add;by_cases h0:j=0<;>simp [h0]];exact YI j v hj))
 have HB:=aa (show (w1.alloc (.cells #[.int .i64 (w:Int),.slice (some ⟨g,0,none⟩) (nw w) (nw w)] 44)).heap[g]? =some (.cells (iY (aY w 0)).toArray 108 (0,0)) from hm1.blk)
 clear hxa hA hC HSZ hg hx1 hb1
 go_wp2_with ((with_reducible refine wpList_copy_own (o:=Oper.mk (some 13) _ _ _ _ none) ?_ (.tmp 10) (.tmp 12) 42 42 ?_ 108 Tryz.underlying42 X4 g 0 (nw w) (nw w) ⟨bs,off,none⟩ (nw w) c ?_ ?_ _ 108 HB.out (iY (aY w m)) HN.out HS.out HF.out (Aw _) ?_);(rfl);(rfl);(rfl);(rfl);(have hm2:=aa (zg.copy (m:=m) hm1));(clear hm1 cA cD HS HN HF HB);(generalize (World.setRow _ g _)=W3 at*);(generalize w1.heap.size=D at*);(have cD:=cellOf (hm2.dB));(have hc:=(hm2.blk.own hw (Nat.le_refl g)).at' hnn);(have hf:=aH hm2.blk (b / 64));(have gX:=aa (hm2.put hb));(have cD3:=cellOf (gX.dB));(have cC3:=cellOf (gX.bV));(have fC3:=aH (gX.bV));(have hgD:¬g=D:=fun e=>hm2.ne e.symm))
 clear hm2 cD hc hf cD3
 generalize (World.setCell W3 _ _)=W4 at*
 refine aW rfl ?_
 simp [results,Tryz.results40,go_sem,cC3]
 have hx5:=jV gX.ext (u0:= .int .i64 (w:Int)) (u1:= .slice (some ⟨g,0,none⟩) (nw w) (nw w)) (W.heap.size+1)
 have hbig:=gX.big
 exact ⟨_,rfl,hx5.blk gX.blk (by unfold At;omega),by omega,gG gX.ext (by omega)⟩
end Go.Proofs.YtmddchceacmopaaGreatDoor
namespace Go.Proofs.YtmddchceacmopaaGreatDoor
open Go Go.RowKit
structure mV (E:Nat→Prop) (W:World) (C D w m g:Nat) (wx:World):Prop where
 ext:Ext E W wx
 bV:wx.heap[C]? =some (.cells #[.int .i64 0,.slice none 0 0] 44 (0,0))
 dB:wx.heap[D]? =some (.cells #[.int .i64 (w:Int),.slice (some ⟨g,0,none⟩) (nw w) (nw w)] 44 (0,0))
 blk:fU wx g w m
 Qu:W.heap.size≤C
 Uh:W.heap.size≤D
 low:W.heap.size≤g
 XA:C≠D
 neC:C≠g
 neD:D≠g
 hE:∀i,E i→i < W.heap.size
section
variable {E:Nat→Prop} {W wx wy:World} {C D w m g g2 m2:Nat}
theorem mV.step (h:mV E W C D w m g wx) (hx:Ext E wx wy):mV E W C D w m g wy:=by
 have h1:=h.Qu
 have h2:=h.Uh
 have h3:=h.low
 exact ⟨h.ext.trans hx,hx.blk h.bV (fun e=>by have:=h.hE _ e;omega),hx.blk h.dB (fun e=>by have:=h.hE _ e;omega),hx.blk h.blk (fun e=>by have:=h.hE _ e;omega),h1,h2,h3,h.XA,h.neC,h.neD,h.hE⟩
theorem mV.aC (h:mV E W C D w m g wx) (hx:Ext No wx wy):mV E W C D w m g wy:=h.step (hx.mono (fun _ _ x=>x.elim))
theorem mV.drew (h:mV E W C D w m g wx):mV E W C D w m g wx.drew:=h.aC (Ext.refl _ _).drew
theorem mV.drewN (h:mV E W C D w m g wx) (n:Nat):mV E W C D w m g (wx.drewN n):=h.aC ((Ext.refl _ _).drewN n)
theorem mV.put (h:mV E W C D w m g wx) (hb:fU wy g2 w m2) (hx:Ext No wx wy) (hg:wx.heap.size≤g2):mV E W C D w m2 g2 ((wy.setCell ⟨D,0,none⟩ (.int .i64 (w:Int))).setCell ⟨D,1,none⟩ (.slice (some ⟨g2,0,none⟩) (nw w) (nw w))):=by
 have h1:=h.Qu
 have h2:=h.Uh
 have h3:=lt_of_block h.bV
 have h4:=lt_of_block h.dB
 have hs:=h.aC hx
 have hy:=jV (w1:=wy) hx (u0:= .int .i64 (w:Int)) (u1:= .slice (some ⟨g2,0,none⟩) (nw w) (nw w)) D
 have hn:=h.XA
 refine ⟨hs.ext.aJ hy (fun i hi e=>by unfold At at e;omega),hy.blk hs.bV (by unfold At;exact hn),(az (j:=1) (az (j:=0) hs.dB)).trans rfl,hy.blk hb (by unfold At;omega),h1,h2,by omega,hn,by omega,by omega,h.hE⟩
theorem mV.set {M:Nat→Prop} (h:mV E W C D w m g wx) (hw:w≤256) (hm:m < 2 ^ w) (hM:∀b,M b→b < W.heap.size):aG M wx (.slice (some ⟨g,0,none⟩) (nw w) (nw w)) w m:=h.blk.set hw hm (fun e=>by have:=hM _ e;have:=h.low;omega)
end
theorem Mk (k:Nat):(2 ^ k - 1)|||2 ^ k=2 ^ (k+1) - 1:=by
 refine Nat.eq_of_testBit_eq fun j=>?_
 rw [Nat.testBit_or,Nat.testBit_two_pow_sub_one,Nat.testBit_two_pow_sub_one,Nat.testBit_two_pow]
 by_cases h:k=j
 ·subst h;simp
 by_cases h2:j < k
 ·simp [h,h2,show j < k+1 by omega]
 simp [h,h2,show ¬j < k+1 by omega]
theorem RZ {k w:Nat} (h:k≤w):2 ^ k - 1 < 2 ^ w:=by
 have:=Nat.pow_le_pow_right (n:=2) (by decide) h
 have:=Nat.two_pow_pos k
 omega
def CO (k:Nat):Nat:=2 ^ k - 1
set_option maxHeartbeats 1000000 in
theorem Ow (w:Nat) (W:World) (hw:w≤256):Calls Tryz.prog 42 #[.int .i64 (w:Int)] W (Xz w (CO w) W):=by
 go_enter Tryz.func42,Tryz.ntmps42
 go_wp2_with fail
 have hxa:Ext No W (W.alloc (.cells #[.int .i64 0,.slice none 0 0] 44)):=(Ext.refl _ _).alloc _
 have hC:(W.alloc (.cells #[.int .i64 0,.slice none 0 0] 44)).heap[W.heap.size]? =some (.cells #[.int .i64 0,.slice none 0 0] 44 (0,0)):=ah rfl
 refine (fK w _ hw).mono ?_
 rintro e1 w1 ⟨g,rfl,hb1,hg,hx1⟩
 have zO:=hx1.blk hC ax
 have hs1:=lt_of_block zO
 have hs2:=lt_of_block hb1.out
 have hm1:=aa (show mV No W W.heap.size w1.heap.size w (CO 0) g (w1.alloc (.cells #[.int .i64 (w:Int),.slice (some ⟨g,0,none⟩) (nw w) (nw w)] 44)) from
  ⟨(hxa.af hx1).alloc _,ay zO,ah rfl,ay hb1,Nat.le_refl _,by omega,by simp at hg;omega,by omega,by simp at hg;omega,by omega,fun _ x=>x.elim⟩)
 clear hxa hC hx1 hb1 hg zO hs1 hs2
 go_wp2_with fail
 generalize World.alloc w1 _=W1 at*
 generalize w1.heap.size=D at*
 go_loopw [4] (fun i wr=>∃(k g:Nat),k≤w∧i= .int .i64 k∧Hid (mV No W W.heap.size D w (CO k) g wr)) (fun i _=>w - (intOf i).toNat)
 case atStart=>exact ⟨0,g,Nat.zero_le _,rfl,hm1⟩
 clear hm1
 obtain ⟨k,g,hk,rfl,hm⟩:=hrel
 rename World=>wr
 by_cases hlt:k < w
 ·have hpos:(0:Int)≤(k:Int):=by omega
  have HKK:Hid (Value.int .i64 ((k:Int)+1)= .int .i64 ((k+1:Nat):Int)):=aa (by rw [show ((k+1:Nat):Int)=(k:Int)+1 from by omega])
  have cD:=cellOf hm.dB
  go_wp2_with fail
  refine (iW w (CO k) k _ _ hlt (hm.set (M:=No) hw (RZ (Nat.le_of_lt hlt)) (fun _ x=>x.elim))).mono ?_
  rintro e2 w2 ⟨g2,rfl,hb2,hg2,hx2⟩
  have hm2:=aa (hm.put hb2 hx2 hg2)
  have fD:=aH (hm.aC hx2).dB
  have Tf:=cellOf (hm.aC hx2).dB
  clear hm hb2 hg2 hx2 cD
  go_wp2_with fail
  go_roundw
  case rel=>exact ⟨k+1,g2,by omega,HKK,aa (by have:=hm2.out;rw [show CO k|||2 ^ k=CO (k+1) from Mk k] at this;exact this)⟩
  case measure=>simp [intOf];omega
 obtain rfl:k=w:=by omega
 have cD:=cellOf hm.dB
 have cC:=cellOf hm.bV
 have fC:=aH hm.bV
 go_wp2_with fail
 refine aW rfl ?_
 simp [results,Tryz.results42,go_sem,cC]
 have hx5:=jV hm.ext (u0:= .int .i64 (k:Int)) (u1:= .slice (some ⟨g,0,none⟩) (nw k) (nw k)) W.heap.size
 have hlow:=hm.low
 have hne:=hm.neC
 exact ⟨_,rfl,hx5.blk hm.blk (by unfold At;omega),hlow,gG hm.ext (by omega)⟩
end Go.Proofs.YtmddchceacmopaaGreatDoor
namespace Go.Proofs.YtmddchceacmopaaGreatDoor
open Go Go.RowKit
def VF (t:cK) (s b:Nat):Nat→Bool
 |0=>gz t.w t.gen b
 |k+1=>VF t s b k||(gz t.w s k&&iK t k b)
theorem Va (t:cK) (s b k:Nat):VF t s b k=true↔gz t.w t.gen b=true∨∃a:Nat,a < k∧gz t.w s a=true∧iK t a b=true:=by
 induction k with
 |zero=>simp [VF]
 |succ k ih=>
  rw [VF,Bool.or_eq_true,ih,Bool.and_eq_true]
  constructor
  ·rintro ((h|⟨a,h1,h2⟩)|h)
   ·exact .inl h
   ·exact .inr ⟨a,by omega,h2⟩
   exact .inr ⟨k,by omega,h⟩
  rintro (h|⟨a,h1,h2⟩)
  ·exact .inl (.inl h)
  by_cases e:a=k
  ·subst e;exact .inr h2
  exact .inl (.inr ⟨a,by omega,h2⟩)
theorem eP {w m b:Nat} (hb:b < w):gz w m b=m.testBit b:=by
 unfold gz mh
 rw [show decide ((0:Int)≤(b:Int)∧(b:Int) < (w:Int))=true from decide_eq_true ⟨by omega,by omega⟩]
 simp
theorem Bv {t:cK} {s b:Nat} (ho:eO t):∀k,k≤t.copies.length→((kF t s k).testBit b=true↔(s.testBit b=true∧t.kill.testBit b=false)∨t.gen.testBit b=true∨∃(j:Nat) (h:j < t.copies.length),j < k∧gz t.w s t.copies[j].1=true∧t.copies[j].2=(b:Int)):=by
 intro k
 induction k with
 |zero=>
  intro _
  simp [kF,gP,Nat.testBit_or,eG]
 |succ k ih=>
  intro hk
  have hk':k < t.copies.length:=by omega
  obtain ⟨_,i2⟩:=ho.inr k hk'
  obtain ⟨g,hg,_⟩:=jF i2
  rw [zH hk']
  have hset:∀x:Prop,(x∨∃(j:Nat) (h:j < t.copies.length),j < k+1∧gz t.w s t.copies[j].1=true∧t.copies[j].2=(b:Int))↔((x∨∃(j:Nat) (h:j < t.copies.length),j < k∧gz t.w s t.copies[j].1=true∧t.copies[j].2=(b:Int))∨(gz t.w s t.copies[k].1=true∧t.copies[k].2=(b:Int))):=by
   intro x
   constructor
   ·rintro (h|⟨j,h,h1,h2⟩)
    ·exact .inl (.inl h)
    by_cases e:j=k
    ·subst e;exact .inr h2
    exact .inl (.inr ⟨j,h,by omega,h2⟩)
   rintro ((h|⟨j,h,h1,h2⟩)|h)
   ·exact .inl h
   ·exact .inr ⟨j,h,by omega,h2⟩
   exact .inr ⟨k,hk',by omega,h⟩
  have hi:=ih (by omega)
  rw [←or_assoc] at hi
  rw [←or_assoc,hset,←hi]
  by_cases hz:gz t.w s t.copies[k].1=true
  ·rw [if_pos hz,Nat.testBit_or,Bool.or_eq_true,Nat.testBit_two_pow,hg,Int.toNat_natCast,decide_eq_true_eq]
   simp only [hz,true_and]
   exact or_congr Iff.rfl ⟨fun h=>by omega,fun h=>by omega⟩
  rw [if_neg hz]
  simp [hz]
theorem OJ {t:cK} {s b:Nat} (ho:eO t) (hb:b < t.w):gz t.w (bL t s) b=VF t s b t.w:=by
 rw [Bool.eq_iff_iff,Va,eP hb,eP hb]
 unfold bL
 rw [Bv ho _ (Nat.le_refl _)]
 constructor
 ·rintro (⟨h1,h2⟩|h|⟨j,hj,_,h1,h2⟩)
  ·refine .inr ⟨b,hb,by rw [eP hb];exact h1,?_⟩
   unfold iK
   rw [eP hb,h2];simp
  ·exact .inl h
  obtain ⟨i1,_⟩:=ho.inr j hj
  obtain ⟨f,hf,hf2⟩:=jF i1
  refine .inr ⟨f,by omega,by rw [←hf];exact h1,?_⟩
  unfold iK
  rw [yL hj (show t.copies[j]=((f:Int),(b:Int)) from Prod.ext hf h2)]
  simp
 rintro (h|⟨a,ha,h1,h2⟩)
 ·exact .inr (.inl h)
 unfold iK at h2
 rw [Bool.or_eq_true,Bool.and_eq_true] at h2
 rcases h2 with ⟨h3,h4⟩|h3
 ·have e:a=b:=by have:=of_decide_eq_true h3;omega
  subst e
  rw [eP hb] at h1 h4
  exact .inl ⟨h1,by simpa using h4⟩
 obtain ⟨j,hj,he⟩:=List.getElem_of_mem (of_decide_eq_true h3)
 exact .inr (.inr ⟨j,hj,hj,by rw [he];exact h1,by rw [he]⟩)

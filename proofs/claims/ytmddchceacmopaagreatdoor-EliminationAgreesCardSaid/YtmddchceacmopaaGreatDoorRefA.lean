
import Derived.Test.YtmddchceacmopaaGreatDoorTr32
import Derived.Test.YtmddchceacmopaaGreatDoorTr34
set_option linter.unusedVariables false
set_option linter.unusedSimpArgs false
namespace Go.Proofs.YtmddchceacmopaaGreatDoor
open Go Go.RowKit
theorem Ga {p:Prop} (h:p:=by
 obtain ⟨ag,cg,ak,ck,ac,cc,h1,h2,h3⟩:=h.1 (OV h8)
 exact ⟨ag,cg,ak,ck,ac,_,cc,h1,h2,h3⟩):p:=h
theorem Gb {p:Prop} (h:p:=by
 go_enter Tryz.func79,Tryz.ntmps79
 go_wp2_with fail
 go_ret
 exact tL):p:=h
theorem Gc {p:Prop} (h:p:=by
 go_enter Tryz.func133,Tryz.ntmps133
 go_wp2_with fail
 refine (dL _ (bJ w m) _ (H.raw.aj ((Ext.refl _ _).alloc _))).mono ?_
 rintro e1 w1 ⟨rfl,hx1⟩
 rw [hv]
 have cB:=cellOf (hx1.blk (ah (w:=W) rfl) (fun x=>x.elim))
 have hxa:Ext No W w1:=((Ext.refl _ _).alloc _).af hx1
 go_wp2_with fail
 go_ret
 exact ⟨rfl,hxa⟩):p:=h
def KU (r q:dS):Bool:=kW r.gen q.gen&&(kW r.kill q.kill&&decide (r.copies=q.copies))
theorem UY {r q:dS} (h:kW r.gen q.gen=false):KU r q=false:=by simp [KU,h]
theorem RF {r q:dS} (h:kW r.kill q.kill=false):KU r q=false:=by simp [KU,h]
theorem Bp {r q:dS} (h:¬r.copies=q.copies):KU r q=false:=by simp [KU,h]
theorem UZ {r q:dS} (h1:kW r.gen q.gen=true) (h2:kW r.kill q.kill=true) (h3:r.copies=q.copies):KU r q=true:=by simp [KU,h1,h2,h3]
def AB (W0:World) (A:Nat) (r q:dS) (ag:Option Addr) (cg:Nat) (ak:Option Addr) (ck:Nat) (ac:Option Addr) (cc:Nat) (bg:Option Addr) (dg:Nat) (bk:Option Addr) (dk:Nat) (bc:Option Addr) (dc:Nat):Prop:=
 W0.heap[A]? =some (.cells #[.int .i64 r.gen.width,.slice ag r.gen.words.length cg,.int .i64 r.kill.width,.slice ak r.kill.words.length ck,.slice ac r.copies.length cc] 47 (0,0))∧
 W0.heap[A+1]? =some (.cells #[.int .i64 q.gen.width,.slice bg q.gen.words.length dg,.int .i64 q.kill.width,.slice bk q.kill.words.length dk,.slice bc q.copies.length dc] 47 (0,0))
set_option maxRecDepth 100000 in
set_option maxHeartbeats 2000000 in
theorem JY (r q:dS) (g1 k1 c1 g2 k2 c2:Value) (W:World) (h1:bN No W g1 k1 c1 r) (h2:bN No W g2 k2 c2 q):
  Calls Tryz.prog 73 #[.agg #[.int .i64 r.gen.width,g1,.int .i64 r.kill.width,k1,c1],.agg #[.int .i64 q.gen.width,g2,.int .i64 q.kill.width,k2,c2]] W (bZ (KU r q) W):=by
 have H1:=aa h1
 have H2:=aa h2
 obtain ⟨ag,cg,rfl⟩:=h1.gen.slice
 obtain ⟨ak,ck,rfl⟩:=h1.kill.slice
 obtain ⟨ac,cc,rfl⟩:=Row.slice h1.copies
 obtain ⟨bg,dg,rfl⟩:=h2.gen.slice
 obtain ⟨bk,dk,rfl⟩:=h2.kill.slice
 obtain ⟨bc,dc,rfl⟩:=Row.slice h2.copies
 clear h1 h2
 have hxa:Ext No W ((W.alloc (.cells #[.int .i64 r.gen.width,.slice ag r.gen.words.length cg,.int .i64 r.kill.width,.slice ak r.kill.words.length ck,.slice ac r.copies.length cc] 47)).alloc (.cells #[.int .i64 q.gen.width,.slice bg q.gen.words.length dg,.int .i64 q.kill.width,.slice bk q.kill.words.length dk,.slice bc q.copies.length dc] 47)):=((Ext.refl _ _).alloc _).alloc _
 have WU:AB ((W.alloc (.cells #[.int .i64 r.gen.width,.slice ag r.gen.words.length cg,.int .i64 r.kill.width,.slice ak r.kill.words.length ck,.slice ac r.copies.length cc] 47)).alloc (.cells #[.int .i64 q.gen.width,.slice bg q.gen.words.length dg,.int .i64 q.kill.width,.slice bk q.kill.words.length dk,.slice bc q.copies.length dc] 47)) W.heap.size r q ag cg ak ck ac cc bg dg bk dk bc dc:=⟨ay (ah rfl),ah (by simp)⟩
 have cA:=cellOf WU.1
 have cB:=cellOf WU.2
 have hbig:r.copies.length≤9223372036854775807:=H1.copies.2.1
 go_enter Tryz.func73,Tryz.ntmps73
 go_wp2_with fail
 generalize World.alloc (World.alloc W _) _=W0 at*
 generalize W.heap.size=A at*
 clear cA cB
 refine (sw r.gen q.gen _ _ _ ⟨_,rfl,H1.gen.aj hxa⟩ ⟨_,rfl,H2.gen.aj hxa⟩).mono ?_
 rintro e1 w1 ⟨he1,hy1⟩
 have cA:=cellOf (hy1.blk WU.1 ax)
 have cB:=cellOf (hy1.blk WU.2 ax)
 cases hb1:kW r.gen q.gen
 ·rw [hb1] at he1
  subst he1
  have e:=UY hb1
  clear hb1
  go_wp2_with fail
  go_ret
  rw [e]
  exact ⟨rfl,hxa.af hy1⟩
 rw [hb1] at he1
 subst he1
 have HB1:=aa hb1
 clear hb1
 go_wp2_with fail
 have hz1:=hxa.af hy1
 refine (sw r.kill q.kill _ _ _ ⟨_,rfl,H1.kill.aj hz1⟩ ⟨_,rfl,H2.kill.aj hz1⟩).mono ?_
 rintro e2 w2 ⟨he2,hy2⟩
 have I8:=aa (show AB w2 A r q ag cg ak ck ac cc bg dg bk dk bc dc from ⟨hy2.blk (hy1.blk WU.1 ax) ax,hy2.blk (hy1.blk WU.2 ax) ax⟩)
 have hz2:=hz1.af hy2
 clear cA cB WU hy1 hy2 hz1 hxa
 have cA:=cellOf I8.1
 have cB:=cellOf I8.2
 cases hb2:kW r.kill q.kill
 ·rw [hb2] at he2
  subst he2
  have e:=RF hb2
  clear hb2
  go_wp2_with fail
  go_ret
  rw [e]
  exact ⟨rfl,hz2⟩
 rw [hb2] at he2
 subst he2
 have HB2:=aa hb2
 clear hb2
 by_cases hl:r.copies.length=q.copies.length
 ·have HL:=aa hl
  have hlz:(r.copies.length:Int)=(q.copies.length:Int):=by omega
  go_wp2_with fail
  clear cA cB hl hlz
  have hx0:Hid (Ext No w2 w2):=aa (Ext.refl _ _)
  go_loopw [5] (fun i wr=>∃k:Nat,k≤r.copies.length∧i= .int .i64 k∧Hid (∀j (h1:j < r.copies.length) (h2:j < q.copies.length),j < k→r.copies[j]=q.copies[j])∧Hid (Ext No w2 wr)) (fun i _=>r.copies.length - (intOf i).toNat)
  case atStart=>exact yG
  clear hx0
  obtain ⟨k,hk,rfl,hq,hx⟩:=hrel
  rename World=>wr
  have cA:=cellOf (hx.blk I8.1 ax)
  have cB:=cellOf (hx.blk I8.2 ax)
  have hpos:(0:Int)≤(k:Int):=by omega
  by_cases hlt:k < r.copies.length
  ·have hlt2:k < q.copies.length:=HL.out▸hlt
   obtain ⟨bu,ou,pu,hsu,_,_,KX⟩:=fo.at (Row.aj H1.copies (hz2.af hx)) hlt
   obtain ⟨bv,ov,pv,hsv,_,_,hcv⟩:=fo.at (Row.aj H2.copies (hz2.af hx)) hlt2
   simp only [Value.slice.injEq] at hsu hsv
   obtain ⟨rfl,_,rfl⟩:=hsu
   obtain ⟨rfl,_,rfl⟩:=hsv
   obtain ⟨q0,q1⟩:=KX k hlt
   obtain ⟨q2,q3⟩:=hcv k hlt2
   obtain ⟨x,hxe⟩:∃x,x=r.copies[k]:=⟨_,rfl⟩
   obtain ⟨y,hye⟩:∃y,y=q.copies[k]:=⟨_,rfl⟩
   rw [←hxe] at q0 q1
   rw [←hye] at q2 q3
   have I9:=aa hxe
   have VL:=aa hye
   clear KX hcv hxe hye
   have HKK:Hid (Value.int .i64 ((k:Int)+1)= .int .i64 ((k+1:Nat):Int)):=aa (by rw [show ((k+1:Nat):Int)=(k:Int)+1 from by omega])
   have hlz:(k:Int) < (r.copies.length:Int):=by omega
   have TM:(k:Int) < (q.copies.length:Int):=by omega
   obtain ⟨x1,x2⟩:=x
   obtain ⟨y1,y2⟩:=y
   simp only at q0 q1 q2 q3
   by_cases he:x1=y1∧x2=y2
   ·obtain ⟨rfl,rfl⟩:=he
    go_wp2_with fail
    go_quiet (fail)
    go_wp2_with fail
    go_roundw
    case rel=>exact ⟨k+1,by omega,HKK,aa (fun j h1 h2 h3=>by
     by_cases hj:j < k
     ·exact hq j h1 h2 hj
     obtain rfl:j=k:=by omega
     rw [←I9,←VL]),aa (hx.drewN _)⟩
    case measure=>simp [intOf];omega
   have e:KU r q=false:=Bp (fun h=>he (by
    have h2:((x1,x2):Int×Int)=(y1,y2):=by rw [I9,VL];simp only [h]
    exact ⟨congrArg Prod.fst h2,congrArg Prod.snd h2⟩))
   cases hb1:x1==y1<;>cases hb2:x2==y2
   case true.true=>exact absurd ⟨by simpa using hb1,by simpa using hb2⟩ he
   all_goals
    clear he
    go_wp2_with fail
    go_quiet (fail)
    go_wp2_with fail
    go_ret
    rw [e]
    exact ⟨rfl,hz2.af (hx.drewN _)⟩
  have hge:(r.copies.length:Int)≤(k:Int):=by omega
  have e:KU r q=true:=UZ HB1 HB2 (List.ext_getElem HL.out (fun j h1 h2=>hq j h1 h2 (by omega)))
  go_wp2_with fail
  go_ret
  rw [e]
  exact ⟨rfl,hz2.af hx⟩
 have e:KU r q=false:=Bp (fun h=>hl (by rw [h]))
 have hl':¬(r.copies.length:Int)=(q.copies.length:Int):=by omega
 clear hl
 go_wp2_with fail
 go_ret
 rw [e]
 exact ⟨rfl,hz2⟩
end Go.Proofs.YtmddchceacmopaaGreatDoor

namespace Go.Proofs.YtmddchceacmopaaGreatDoor
open Go Go.RowKit
theorem BU {w m m':Nat} (h:∀b,b < w→m.testBit b=m'.testBit b):bU w m=bU w m':=by
 unfold bU
 rw [List.filter_congr (fun b hb=>h b (List.mem_range.1 hb))]
theorem zu {w g:Nat} {rs rs':List Nat} (h:∀a b,a < w→b < w→g.testBit b=false→(rowAt rs a).testBit b=(rowAt rs' a).testBit b):∀k,k≤w→fu w g rs k=fu w g rs' k
 |0,_=>rfl
 |k+1,hk=>by
  have e:bU w (dz (rowAt rs k) g)=bU w (dz (rowAt rs' k) g):=BU (fun b hb=>by
   rw [eG,eG]
   cases hg:g.testBit b with
   |true=>simp
   |false=>rw [h k b (by omega) hb hg])
  rw [fu,fu,zu h k (by omega),e]
theorem Im {w g:Nat} {rs rs':List Nat} (hg:g < 2 ^ w) (h:∀a b,a < w→b < w→g.testBit b=false→(rowAt rs a).testBit b=(rowAt rs' a).testBit b):jd w g rs w=jd w g rs' w:=by
 refine oU (tQ hg w (Nat.le_refl _)) (tQ hg w (Nat.le_refl _)) (fun b hb=>?_)
 rw [vo,vo,eP hb,eP hb]
 cases hgb:g.testBit b with
 |true=>rfl
 |false=>rw [h b b hb hb hgb]
theorem oQ {a b:Bool} (h:a=true↔b=true):a=b:=by cases a<;>cases b<;>simp_all
theorem sN {t:cK} {s:Nat} (ho:eO t) (hs:s < 2 ^ t.w):bL t s < 2 ^ t.w:=yz ho hs _
end Go.Proofs.YtmddchceacmopaaGreatDoor

namespace Go.Proofs.YtmddchceacmopaaGreatDoor
open Go Go.RowKit
def U0 (w:Nat) (t':cK) (W:World) (e:Ending) (w':World):Prop:=
 ∃ag cg ak ck ac n cc,e= .returned (.tuple #[.agg #[.int .i64 (w:Int),.slice ag (nw w) cg,.int .i64 (w:Int),.slice ak (nw w) ck,.slice ac n cc],.int .i64 0])∧
  Hid (dF No w' (.slice ag (nw w) cg) (.slice ak (nw w) ck) (.slice ac n cc) t')∧Ext No W w'
theorem OV {w gen:Nat} {rs:List Nat} (h8:w≤8):(fu w gen rs w).length≤64:=Nat.le_trans (nD w gen rs w) (Nat.mul_le_mul h8 h8)
theorem iF.small {w gen:Nat} {rs:List Nat} {W w':World} {e:Ending} (h:iF No w gen rs W e w') (h8:w≤8):U0 w (jc w gen rs) W e w':=by
 exact Ga
end Go.Proofs.YtmddchceacmopaaGreatDoor

namespace Go.Proofs.YtmddchceacmopaaGreatDoor
open Go Go.RowKit
theorem fU.CL {w m g:Nat} {w':World} (h:fU w' g w m) (hw:w≤256) (hm:m < 2 ^ w):aG No w' (.slice (some ⟨g,0,none⟩) (nw w) (nw w)) w m:=h.set hw hm ax
theorem aG.early {L m D:Nat} {w7:World} {sl u0 u1:Value} (h:aG (Lo L) w7 sl 2 m) (hlt:D < L):aG No ((w7.setCell ⟨D,0,none⟩ u0).setCell ⟨D,1,none⟩ u1) sl 2 m:=
 (h.ext (jV (W:=w7) (w1:=w7) (Ext.refl _ _) D) (fun i _ e=>by cases e;exact hlt)).no
end Go.Proofs.YtmddchceacmopaaGreatDoor

namespace Go.Proofs.YtmddchceacmopaaGreatDoor
open Go Go.RowKit
section
variable {M M':Nat→Prop} {D w n m:Nat} {t:cK} {ag ak ac a:Option Addr} {cg ck cc c:Nat} {wr w':World}
theorem dF.early (h:dF M wr (.slice ag (nw w) cg) (.slice ak (nw w) ck) (.slice ac n cc) t) (hM:∀i,M' i→wr.heap.size≤i):dF M' wr (.slice ag (nw w) cg) (.slice ak (nw w) ck) (.slice ac n cc) t:=h.mono (fun i hi e=>absurd hi (Nat.not_lt.2 (hM i e)))
end
def KI (M:Nat→Prop) (w:Nat) (t':cK) (W:World) (e:Ending) (w':World):Prop:=
 ∃ag cg ak ck ac n cc,e= .returned (.tuple #[.agg #[.int .i64 (w:Int),.slice ag (nw w) cg,.int .i64 (w:Int),.slice ak (nw w) ck,.slice ac n cc],.int .i64 0])∧
  Hid (dF M w' (.slice ag (nw w) cg) (.slice ak (nw w) ck) (.slice ac n cc) t')∧Ext No W w'
theorem iF.xG {M:Nat→Prop} {w gen:Nat} {rs:List Nat} {W w':World} {e:Ending} (h:iF M w gen rs W e w') (h8:w≤8):KI M w (jc w gen rs) W e w':=by
 exact Ga
theorem XH (M:Nat→Prop) (t:cK) (w:Nat) (g1 k1 c1:Value) (W:World) (hw:t.w=w) (hM:∀b,M b→b < W.heap.size) (h8:w≤8) (hT:iQ W) (h1:dF No W g1 k1 c1 t):
  Calls Tryz.prog 97 #[.agg #[.int .i64 (w:Int),g1,.int .i64 (w:Int),k1,c1]] W (KI M w (gm t) W):=by
 subst hw
 exact (RG M t _ _ _ _ hM hT h1).mono (fun _ _ h=>h.xG h8)
theorem QG (M:Nat→Prop) (t u:cK) (w:Nat) (g1 k1 c1 g2 k2 c2:Value) (W:World) (hw:t.w=w) (hu:u.w=w) (hM:∀b,M b→b < W.heap.size) (h8:w≤8) (hT:iQ W) (h1:dF No W g1 k1 c1 t) (h2:dF No W g2 k2 c2 u):
  Calls Tryz.prog 121 #[.agg #[.int .i64 (w:Int),g1,.int .i64 (w:Int),k1,c1],.agg #[.int .i64 (w:Int),g2,.int .i64 (w:Int),k2,c2]] W (KI M w (jZ t u) W):=by
 subst hw
 exact (RH M t u _ _ _ _ _ _ _ hM hT h1 h2 hu).mono (fun _ _ h=>h.xG h8)
theorem QI (M:Nat→Prop) (t u:cK) (w:Nat) (g1 k1 c1 g2 k2 c2:Value) (W:World) (hw:t.w=w) (hu:u.w=w) (hM:∀b,M b→b < W.heap.size) (h8:w≤8) (hT:iQ W) (h1:dF No W g1 k1 c1 t) (h2:dF No W g2 k2 c2 u):
  Calls Tryz.prog 85 #[.agg #[.int .i64 (w:Int),g1,.int .i64 (w:Int),k1,c1],.agg #[.int .i64 (w:Int),g2,.int .i64 (w:Int),k2,c2]] W (KI M w (gJ t u) W):=by
 subst hw
 exact (Kc M t u _ _ _ _ _ _ _ hM hT h1 h2 hu).mono (fun _ _ h=>h.xG h8)
end Go.Proofs.YtmddchceacmopaaGreatDoor

namespace Go.Proofs.YtmddchceacmopaaGreatDoor
open Go Go.RowKit
def vY (a b:Int×Int):Bool:=decide (a.1 < b.1)||(decide (a.1=b.1)&&decide (a.2 < b.2))
theorem Bq (a b:Int×Int):vY a b=decide (iM a b < 0):=by
 unfold vY iM ZJ qK
 by_cases h1:a.1 < b.1
 ·simp [h1]
 by_cases h2:b.1 < a.1
 ·have h3:¬a.1=b.1:=by omega
  simp [h1,h2,h3]
 have h3:a.1=b.1:=by omega
 by_cases h4:a.2 < b.2
 ·simp [h3,h4]
 by_cases h5:b.2 < a.2
 ·simp [h3,h4,h5]
 simp [h3,h4,h5]
theorem zw (a b:Int×Int) (W:World):Calls Tryz.prog 79 #[.agg #[.int .i64 a.1,.int .i64 a.2],.agg #[.int .i64 b.1,.int .i64 b.2]] W (bZ (vY a b) W):=by
 obtain ⟨a1,a2⟩:=a
 obtain ⟨b1,b2⟩:=b
 simp only [vY]
 by_cases h1:a1 < b1
 ·have h1':decide (a1 < b1)=true:=by simpa using h1
  rw [h1',Bool.true_or]
  exact Gb
 have h1':decide (a1 < b1)=false:=by simpa using h1
 by_cases h2:a1=b1
 ·have h2':(a1==b1)=true:=by simpa using h2
  rw [h1',Bool.false_or,show decide (a1=b1)=true from by simpa using h2,Bool.true_and]
  clear h1 h2
  cases h3:decide (a2 < b2)
  all_goals
   go_enter Tryz.func79,Tryz.ntmps79
   go_wp2_with fail
   go_ret
   exact ⟨rfl,by (repeat (first|(with_reducible exact Ext.refl _ _)|(with_reducible assumption)|(with_reducible refine Ext.drewN ?_ _)|(with_reducible refine Ext.drew ?_)|(with_reducible refine Ext.alloc ?_ _)))⟩
 have h2':(a1==b1)=false:=by simpa using h2
 rw [h1',Bool.false_or,show decide (a1=b1)=false from by simpa using h2,Bool.false_and]
 clear h1 h2
 exact Gb
set_option maxHeartbeats 1000000 in
theorem wM (w m:Nat) (sl:Value) (b:Int) (W:World) (h:aG No W sl w m):Calls Tryz.prog 133 #[.agg #[.int .i64 (w:Int),sl],.int .i64 b] W (bZ (gz w m b) W):=by
 have H:=aa h
 obtain ⟨a,c,rfl⟩:=h.slice
 have hv:=dI h.hw h.hm
 have hw:=h.hw
 clear h
 unfold gz
 cases hb:mh w b with
 |false=>
  have hcs:b < 0∨0≤b∧(w:Int)≤b:=by simp only [mh,decide_eq_false_iff_not] at hb;omega
  clear hb
  rcases hcs with h0|⟨h0,h1⟩
  ·have h0':decide (0≤b)=false:=by simpa using h0
   exact Gc
  have h0':decide (0≤b)=true:=by simpa using h0
  have h1':decide (b < (w:Int))=false:=by simpa using h1
  exact Gc
 |true=>
  obtain ⟨k,rfl,hk⟩:=jF hb
  have WM:k < w:=by omega
  have hn:k / 64 < nw w:=by unfold nw;omega
  obtain ⟨b0,off,cap,hsl,hb1,_,hc⟩:=H.at (by omega)
  simp only [Value.slice.injEq] at hsl
  obtain ⟨rfl,_,rfl⟩:=hsl
  have hc1:=hc (k / 64) hn
  have ht:=AX _ (k % 64) (gN m (k / 64))
  rw [xm] at ht
  have hk0:(0:Int)≤(k:Int):=by omega
  have hk2:(k:Int)≤256:=by omega
  have hu:IntKind.u64.wrap (k:Int)=k:=qV k (by omega)
  clear hc hb
  simp only [Bool.true_and,Int.toNat_natCast]
  cases hbit:m.testBit k
  all_goals
   rw [hbit] at ht
   simp only [if_true,if_false,Bool.false_eq_true] at ht
   go_enter Tryz.func133,Tryz.ntmps133
   go_wp2_with fail
   refine (dL _ (bJ w m) _ (H.raw.aj ((Ext.refl _ _).alloc _))).mono ?_
   rintro e1 w1 ⟨rfl,hx1⟩
   rw [hv]
   have cB:=cellOf (hx1.blk (ah (w:=W) rfl) (fun x=>x.elim))
   have hxa:Ext No W w1:=((Ext.refl _ _).alloc _).af hx1
   have hc2:=hxa.keep hc1
   go_wp2_with fail
   go_ret
   exact ⟨rfl,hxa⟩
set_option maxRecDepth 100000 in
set_option maxHeartbeats 2000000 in
theorem Il (t:cK) (w:Nat) (sg sk sc:Value) (a b:Int) (W:World) (hw:t.w=w) (h:dF No W sg sk sc t):Calls Tryz.prog 134 #[.agg #[.int .i64 (w:Int),sg,.int .i64 (w:Int),sk,sc],.int .i64 a,.int .i64 b] W (bZ (iK t a b) W):=by
 subst hw
 have H:=aa h
 obtain ⟨ag,cg,rfl⟩:=h.gen.slice
 obtain ⟨ak,ck,rfl⟩:=h.kill.slice
 obtain ⟨ac,cc,rfl⟩:=Row.slice h.copies
 have hbig:t.copies.length≤64:=h.ok.len
 clear h
 have hx0:Ext No W (W.alloc (.cells #[.int .i64 (t.w:Int),.slice ag (nw t.w) cg,.int .i64 (t.w:Int),.slice ak (nw t.w) ck,.slice ac t.copies.length cc] 47)):=(Ext.refl _ _).alloc _
 have rC:(W.alloc (.cells #[.int .i64 (t.w:Int),.slice ag (nw t.w) cg,.int .i64 (t.w:Int),.slice ak (nw t.w) ck,.slice ac t.copies.length cc] 47)).heap[W.heap.size]? =some (.cells #[.int .i64 (t.w:Int),.slice ag (nw t.w) cg,.int .i64 (t.w:Int),.slice ak (nw t.w) ck,.slice ac t.copies.length cc] 47 (0,0)):=ah rfl
 by_cases hab:(a==b&& !gz t.w t.kill a)=true
 ·simp only [Bool.and_eq_true,beq_iff_eq,Bool.not_eq_true'] at hab
  obtain ⟨rfl,hz⟩:=hab
  have e:iK t a a=true:=by simp [iK,hz]
  rw [e]
  go_enter Tryz.func134,Tryz.ntmps134
  go_wp2_with fail
  refine (wM t.w t.kill _ a _ (H.kill.aj hx0)).mono ?_
  rintro e1 w1 ⟨rfl,hx1⟩
  rw [hz]
  go_wp2_with fail
  go_ret
  exact ⟨rfl,hx0.af hx1⟩
 have hab':(a==b&& !gz t.w t.kill a)=false:=by simpa using hab
 have e:iK t a b=IX t.copies (a,b):=by
  unfold iK
  by_cases hq:a=b
  ·subst hq
   have hz:gz t.w t.kill a=true:=by simpa using hab'
   simp [hz]
  simp [hq]
 rw [e]
 have HE:Hid (∃bb:Bool,(a==b)=bb∧(bb=true→gz t.w t.kill a=true)):=aa ⟨_,rfl,fun h=>by rw [h] at hab';simpa using hab'⟩
 clear hab hab' e
 obtain ⟨bb,he,hbb⟩:=HE
 have qM:=aa hbb
 clear hbb
 cases bb
 ·
  go_enter Tryz.func134,Tryz.ntmps134
  go_wp2_with fail
  have HX:=aa hx0
  have HA:=aa rC
  generalize World.alloc W _=w1 at*
  clear hx0 rC he qM
  go_loopw [7] (fun i wr=>∃k:Nat,k≤t.copies.length∧i= .int .i64 k∧Hid (∀j (h:j < t.copies.length),j < k→t.copies[j]≠(a,b))∧Hid (Ext No w1 wr)) (fun i _=>t.copies.length - (intOf i).toNat)
  case atStart=>exact ⟨0,Nat.zero_le _,rfl,aa (fun j _ h=>absurd h (Nat.not_lt_zero _)),Ext.refl _ _⟩
  obtain ⟨k,hk,rfl,hq,hx⟩:=hrel
  rename World=>wr
  have cA:=cellOf (hx.blk HA ax)
  have hpos:(0:Int)≤(k:Int):=by omega
  by_cases hlt:k < t.copies.length
  ·obtain ⟨bu,ou,pu,hsu,_,_,KX⟩:=fo.at (Row.aj H.copies (HX.af hx)) hlt
   simp only [Value.slice.injEq] at hsu
   obtain ⟨rfl,_,rfl⟩:=hsu
   obtain ⟨q0,q1⟩:=KX k hlt
   obtain ⟨x,hxe⟩:∃x,x=t.copies[k]:=⟨_,rfl⟩
   rw [←hxe] at q0 q1
   have I9:=aa hxe
   clear KX hxe
   have HKK:Hid (Value.int .i64 ((k:Int)+1)= .int .i64 ((k+1:Nat):Int)):=aa (by rw [show ((k+1:Nat):Int)=(k:Int)+1 from by omega])
   have hlz:(k:Int) < (t.copies.length:Int):=by omega
   obtain ⟨x1,x2⟩:=x
   simp only at q0 q1
   by_cases h1:x1=a
   ·have h1':(x1==a)=true:=by simpa using h1
    by_cases h2:x2=b
    ·have h2':(x2==b)=true:=by simpa using h2
     have e:IX t.copies (a,b)=true:=yL hlt (by rw [←I9,h1,h2])
     clear h1 h2
     go_wp2_with fail
     go_ret
     rw [e]
     exact ⟨rfl,HX.af hx⟩
    have h2':(x2==b)=false:=by simpa using h2
    have HN:Hid (t.copies[k]≠(a,b)):=aa (fun h=>h2 (by rw [←I9] at h;exact congrArg Prod.snd h))
    clear h1 h2
    go_wp2_with fail
    go_roundw
    case rel=>exact ⟨k+1,by omega,HKK,aa (fun j hj hjk=>by
     by_cases e:j=k
     ·subst e;exact HN
     exact hq j hj (by omega)),hx⟩
    case measure=>simp [intOf];omega
   have h1':(x1==a)=false:=by simpa using h1
   have HN:Hid (t.copies[k]≠(a,b)):=aa (fun h=>h1 (by rw [←I9] at h;exact congrArg Prod.fst h))
   clear h1
   go_wp2_with fail
   go_roundw
   case rel=>exact ⟨k+1,by omega,HKK,aa (fun j hj hjk=>by
    by_cases e:j=k
    ·subst e;exact HN
    exact hq j hj (by omega)),hx⟩
   case measure=>simp [intOf];omega
  have hge:¬(k:Int) < (t.copies.length:Int):=by omega
  have e:IX t.copies (a,b)=false:=Br (fun j hj=>hq j hj (by omega))
  go_wp2_with fail
  go_ret
  (try rw [e])
  exact ⟨rfl,HX.af hx⟩
 ·
  have HZ:=aa (qM rfl)
  clear qM
  go_enter Tryz.func134,Tryz.ntmps134
  go_wp2_with fail
  refine (wM t.w t.kill _ a _ (H.kill.aj hx0)).mono ?_
  rintro e1 w1 ⟨rfl,hx1⟩
  rw [HZ]
  have HX:=aa (hx0.af hx1)
  have HA:=aa (hx1.blk rC ax)
  clear hx0 rC hx1 he
  have cA:=cellOf HA.out
  go_wp2_with fail
  clear cA
  go_loopw [7] (fun i wr=>∃k:Nat,k≤t.copies.length∧i= .int .i64 k∧Hid (∀j (h:j < t.copies.length),j < k→t.copies[j]≠(a,b))∧Hid (Ext No w1 wr)) (fun i _=>t.copies.length - (intOf i).toNat)
  case atStart=>exact ⟨0,Nat.zero_le _,rfl,aa (fun j _ h=>absurd h (Nat.not_lt_zero _)),Ext.refl _ _⟩
  obtain ⟨k,hk,rfl,hq,hx⟩:=hrel
  rename World=>wr
  have cA:=cellOf (hx.blk HA ax)
  have hpos:(0:Int)≤(k:Int):=by omega
  by_cases hlt:k < t.copies.length
  ·obtain ⟨bu,ou,pu,hsu,_,_,KX⟩:=fo.at (Row.aj H.copies (HX.af hx)) hlt
   simp only [Value.slice.injEq] at hsu
   obtain ⟨rfl,_,rfl⟩:=hsu
   obtain ⟨q0,q1⟩:=KX k hlt
   obtain ⟨x,hxe⟩:∃x,x=t.copies[k]:=⟨_,rfl⟩
   rw [←hxe] at q0 q1
   have I9:=aa hxe
   clear KX hxe
   have HKK:Hid (Value.int .i64 ((k:Int)+1)= .int .i64 ((k+1:Nat):Int)):=aa (by rw [show ((k+1:Nat):Int)=(k:Int)+1 from by omega])
   have hlz:(k:Int) < (t.copies.length:Int):=by omega
   obtain ⟨x1,x2⟩:=x
   simp only at q0 q1
   by_cases h1:x1=a
   ·have h1':(x1==a)=true:=by simpa using h1
    by_cases h2:x2=b
    ·have h2':(x2==b)=true:=by simpa using h2
     have e:IX t.copies (a,b)=true:=yL hlt (by rw [←I9,h1,h2])
     clear h1 h2
     go_wp2_with fail
     go_ret
     rw [e]
     exact ⟨rfl,HX.af hx⟩
    have h2':(x2==b)=false:=by simpa using h2
    have HN:Hid (t.copies[k]≠(a,b)):=aa (fun h=>h2 (by rw [←I9] at h;exact congrArg Prod.snd h))
    clear h1 h2
    go_wp2_with fail
    go_roundw
    case rel=>exact ⟨k+1,by omega,HKK,aa (fun j hj hjk=>by
     by_cases e:j=k
     ·subst e;exact HN
     exact hq j hj (by omega)),hx⟩
    case measure=>simp [intOf];omega
   have h1':(x1==a)=false:=by simpa using h1
   have HN:Hid (t.copies[k]≠(a,b)):=aa (fun h=>h1 (by rw [←I9] at h;exact congrArg Prod.fst h))
   clear h1
   go_wp2_with fail
   go_roundw
   case rel=>exact ⟨k+1,by omega,HKK,aa (fun j hj hjk=>by
    by_cases e:j=k
    ·subst e;exact HN
    exact hq j hj (by omega)),hx⟩
   case measure=>simp [intOf];omega
  have hge:¬(k:Int) < (t.copies.length:Int):=by omega
  have e:IX t.copies (a,b)=false:=Br (fun j hj=>hq j hj (by omega))
  go_wp2_with fail
  go_ret
  (try rw [e])
  exact ⟨rfl,HX.af hx⟩

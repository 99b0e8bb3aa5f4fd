
import Derived.Test.YtmddchceacmopaaGreatDoorRefD
import Derived.Test.YtmddchceacmopaaGreatDoorF8
import Derived.Test.YtmddchceacmopaaGreatDoorI1
import Derived.Laws.CopyOwn
import Derived.Deep.LoopGhost
set_option linter.unusedVariables false
set_option linter.unusedSimpArgs false
namespace Go.Proofs.YtmddchceacmopaaGreatDoor
open Go Go.RowKit
theorem E5 {p:Prop} (h:p:=by intro w hSw;(have fG:Ext No wr _:=hSw);(obtain ⟨p0,p1⟩:=Sd.out);(have q0:=fG.keep p0);(have q1:=fG.keep p1);go_simp;(try with_reducible rfl)):p:=h
theorem E8 {p:Prop} (h:p:=by intro w hSw;(have fG:Ext No wr _:=hSw);(obtain ⟨p0,p1⟩:=WG.out);(have x0:=fG.keep p0);(have x1:=fG.keep p1);go_simp;(try with_reducible rfl)):p:=h
theorem yB {p:Prop} (h:p:=by
 have HF:Hid (VG (m.testBit k) (n.testBit k)=true):=aa (by rw [hbx,hby];rfl)
 clear hbx hby
 have HV:=aa (RA (w:=w) hlt HF)
 have cD:=cellOf hm2.dB
 go_wp2_with fail
 clear cD
 refine (iW w (Ah w VG m n k) k _ _ hlt hm2.set.no).mono ?_
 rintro e5 w5 ⟨g5,rfl,hb5,hlo,hy5⟩
 have mH:=aa (hm2.aC hy5)
 have hset:=hb5.set (M:=fun b=>M b∨b=W.heap.size+2∨b=D) hw (fZ (H6 w VG m n k) (eZ hlt)) (fun e=>by have:=hm2.hM HM g5 e;omega)
 have HP:=aa (mH.put hset)
 have cD:=cellOf mH.dB
 have fD:=aH mH.dB
 clear hm2 hset hlo hb5 hy5
 go_wp2_with fail
 clear cD fD
 go_roundw
 case rel=>exact ⟨k+1,_,_,by omega,HKK,by rw [HV];exact HP⟩
 case measure=>simp [intOf];omega):p:=h
def Ah (w:Nat) (f:Bool→Bool→Bool) (a b k:Nat):Nat:=qU w fun j=>decide (j < k)&&f (a.testBit j) (b.testBit j)
theorem H6 (w:Nat) (f:Bool→Bool→Bool) (a b k:Nat):Ah w f a b k < 2 ^ w:=wL _ _
theorem OO (w:Nat) (f:Bool→Bool→Bool) (a b:Nat):Ah w f a b 0=0:=(qY (Nat.two_pow_pos w) (fun j _=>by simp)).symm
theorem RA {w:Nat} {f:Bool→Bool→Bool} {a b k:Nat} (hk:k < w) (h:f (a.testBit k) (b.testBit k)=true):Ah w f a b (k+1)=Ah w f a b k|||2 ^ k:=by
 refine oU (H6 w f a b (k+1)) (fZ (H6 w f a b k) (eZ hk)) (fun j hj=>?_)
 rw [or_bit]
 unfold Ah
 rw [lI,lI]
 by_cases e:k=j
 ·subst e;simp [h,hj]
 have:decide (j < k+1)=decide (j < k):=by rw [decide_eq_decide];omega
 simp [this,e]
theorem UR {w:Nat} {f:Bool→Bool→Bool} {a b k:Nat} (h:f (a.testBit k) (b.testBit k)=false):Ah w f a b (k+1)=Ah w f a b k:=oD (fun j _=>by
 by_cases e:k=j
 ·subst e;simp [h]
 have:decide (j < k+1)=decide (j < k):=by rw [decide_eq_decide];omega
 simp [this])
def VG (x y:Bool):Bool:=x||y
theorem UT {w a b:Nat} (ha:a < 2 ^ w) (hb:b < 2 ^ w):Ah w VG a b w=gP a b:=(qY (fZ ha hb) (fun j hj=>by rw [Nat.testBit_or];simp [VG,hj])).symm
structure Sz (M:Nat→Prop) (W wr:World) (w m D:Nat) (sa sb s1:Value):Prop where
 ext:Ext No W wr
 bW:wr.heap[W.heap.size]? =some (.cells #[.int .i64 (w:Int),sa] 44 (0,0))
 dQ:wr.heap[W.heap.size+1]? =some (.cells #[.int .i64 (w:Int),sb] 44 (0,0))
 bV:wr.heap[W.heap.size+2]? =some (.cells #[.int .i64 0,.slice none 0 0] 44 (0,0))
 dB:wr.heap[D]? =some (.cells #[.int .i64 (w:Int),s1] 44 (0,0))
 set:aG (fun b=>M b∨b=W.heap.size+2∨b=D) wr s1 w m
 big:W.heap.size+2 < D
section
variable {M:Nat→Prop} {W wr w':World} {w m m' D:Nat} {sa sb s1 s2:Value}
theorem Sz.aC (h:Sz M W wr w m D sa sb s1) (hx:Ext No wr w'):Sz M W w' w m D sa sb s1:=
 ⟨h.ext.af hx,hx.blk h.bW ax,hx.blk h.dQ ax,hx.blk h.bV ax,hx.blk h.dB ax,h.set.aj hx,h.big⟩
theorem Sz.hM (hM:∀b,M b→b < W.heap.size) (h:Sz M W wr w m D sa sb s1):∀b,(M b∨b=W.heap.size+2∨b=D)→b < wr.heap.size:=fun b hb=>by
 have h1:=lt_of_block h.dB
 have h2:=h.big
 rcases hb with hb|rfl|rfl
 ·have:=hM b hb;omega
 ·omega
 exact h1
theorem Sz.put (h:Sz M W wr w m D sa sb s1) (hs:aG (fun b=>M b∨b=W.heap.size+2∨b=D) wr s2 w m'):Sz M W ((wr.setCell ⟨D,0,none⟩ (.int .i64 (w:Int))).setCell ⟨D,1,none⟩ s2) w m' D sa sb s2:=by
 exact yC
end
theorem nP (w m:Nat) (bb:Bool) (sl:Value) (b:Int) (W:World) (hb:gz w m b=bb) (h:aG No W sl w m):Calls Tryz.prog 133 #[.agg #[.int .i64 (w:Int),sl],.int .i64 b] W (bZ bb W):=by
 subst hb;exact wM w m sl b W h
set_option maxRecDepth 100000 in
set_option maxHeartbeats 4000000 in
theorem OP (M:Nat→Prop) (w m n:Nat) (s1 s2:Value) (W:World) (hM:∀b,M b→b < W.heap.size) (h1:aG No W s1 w m) (h2:aG No W s2 w n):
  Calls Tryz.prog 135 #[.agg #[.int .i64 (w:Int),s1],.agg #[.int .i64 (w:Int),s2],.bool true,.bool true,.bool true] W (iq M w (gP m n) W):=by
 have H1:=aa h1
 have H2:=aa h2
 have HM:=aa hM
 obtain ⟨a1,c1,rfl⟩:=h1.slice
 obtain ⟨a2,c2,rfl⟩:=h2.slice
 have hw:=h1.hw
 have hv1:=dI h1.hw h1.hm
 have hv2:=dI h2.hw h2.hm
 clear h1 h2 hM
 go_enter Tryz.func135,Tryz.ntmps135
 go_wp2_with fail
 have hx0:Ext No W (((W.alloc (.cells #[.int .i64 (w:Int),.slice a1 (nw w) c1] 44)).alloc (.cells #[.int .i64 (w:Int),.slice a2 (nw w) c2] 44)).alloc (.cells #[.int .i64 0,.slice none 0 0] 44)):=(((Ext.refl _ _).alloc _).alloc _).alloc _
 have hA:(((W.alloc (.cells #[.int .i64 (w:Int),.slice a1 (nw w) c1] 44)).alloc (.cells #[.int .i64 (w:Int),.slice a2 (nw w) c2] 44)).alloc (.cells #[.int .i64 0,.slice none 0 0] 44)).heap[W.heap.size]? =some (.cells #[.int .i64 (w:Int),.slice a1 (nw w) c1] 44 (0,0)):=ay (ay (ah rfl))
 have hB:(((W.alloc (.cells #[.int .i64 (w:Int),.slice a1 (nw w) c1] 44)).alloc (.cells #[.int .i64 (w:Int),.slice a2 (nw w) c2] 44)).alloc (.cells #[.int .i64 0,.slice none 0 0] 44)).heap[W.heap.size+1]? =some (.cells #[.int .i64 (w:Int),.slice a2 (nw w) c2] 44 (0,0)):=ay (ah (by simp))
 have hC:(((W.alloc (.cells #[.int .i64 (w:Int),.slice a1 (nw w) c1] 44)).alloc (.cells #[.int .i64 (w:Int),.slice a2 (nw w) c2] 44)).alloc (.cells #[.int .i64 0,.slice none 0 0] 44)).heap[W.heap.size+2]? =some (.cells #[.int .i64 0,.slice none 0 0] 44 (0,0)):=ah (by simp)
 generalize World.alloc (World.alloc (World.alloc W _) _) _=W2 at*
 refine (dL _ (bJ w m) _ (H1.raw.aj hx0)).mono ?_
 rintro e1 w1 ⟨rfl,hx1⟩
 rw [hv1]
 have cA:=cellOf (hx1.blk hA ax)
 have cB:=cellOf (hx1.blk hB ax)
 go_wp2_with fail
 refine (dL _ (bJ w n) _ (H2.raw.aj (hx0.af hx1))).mono ?_
 rintro e2 w2 ⟨rfl,hx2⟩
 rw [hv2]
 have hxb:=(hx0.af hx1).af hx2
 have hA2:=hx2.blk (hx1.blk hA ax) ax
 have hB2:=hx2.blk (hx1.blk hB ax) ax
 have hC2:=hx2.blk (hx1.blk hC ax) ax
 clear cA cB hx0 hA hB hC hx1 hx2 hv1 hv2
 have cA:=cellOf hA2
 have cB:=cellOf hB2
 go_wp2_with fail
 refine (fK w _ hw).mono ?_
 rintro e3 w3 ⟨g3,rfl,hb3,hlo,hx3⟩
 have oJ:=lt_of_block (hx3.blk hC2 ax)
 have hm0:=aa (show Sz M W (w3.alloc (.cells #[.int .i64 (w:Int),.slice (some ⟨g3,0,none⟩) (nw w) (nw w)] 44)) w (Ah w VG m n 0) w3.heap.size (.slice a1 (nw w) c1) (.slice a2 (nw w) c2) (.slice (some ⟨g3,0,none⟩) (nw w) (nw w)) from
  ⟨(hxb.af hx3).alloc _,ay (hx3.blk hA2 ax),ay (hx3.blk hB2 ax),ay (hx3.blk hC2 ax),ah rfl,by
   rw [OO]
   refine (hb3.set (M:=fun b=>M b∨b=W.heap.size+2∨b=w3.heap.size) hw (Nat.two_pow_pos w) (fun e=>?_)).aj ((Ext.refl _ _).alloc _)
   have h4:=lt_of_block hC2
   have h5:=lt_of_block hb3.out
   have h6:=hxb.size
   rcases e with e|e|e
   ·have:=HM.out _ e;omega
   ·omega
   omega,oJ⟩)
 clear cA cB hA2 hB2 hC2 hb3 hlo hx3 oJ hxb
 go_wp2_with fail
 generalize World.alloc w3 _=V at*
 generalize w3.heap.size=D at*
 go_loopw [13] (fun i wr=>∃(k:Nat) (ao:Option Addr) (co:Nat),k≤w∧i= .int .i64 k∧Hid (Sz M W wr w (Ah w VG m n k) D (.slice a1 (nw w) c1) (.slice a2 (nw w) c2) (.slice ao (nw w) co))) (fun i _=>w - (intOf i).toNat)
 case atStart=>exact yu
 clear hm0
 obtain ⟨k,ao,co,hk,rfl,hm⟩:=hrel
 rename World=>wr
 have hpos:(0:Int)≤(k:Int):=by omega
 have cA:=cellOf hm.bW
 by_cases hlt:k < w
 ·have hlz:(k:Int) < (w:Int):=by omega
  have HKK:Hid (Value.int .i64 ((k:Int)+1)= .int .i64 ((k+1:Nat):Int)):=aa (by rw [show ((k+1:Nat):Int)=(k:Int)+1 from by omega])
  go_wp2_with fail
  have l0:wr.cell? ⟨W.heap.size,0,none⟩=some (.int .i64 (w:Int)):=cA 0
  have l1:wr.cell? ⟨W.heap.size,1,none⟩=some (.slice a1 (nw w) c1):=cA 1
  have l2:wr.cell? ⟨W.heap.size+1,0,none⟩=some (.int .i64 (w:Int)):=cellOf hm.dQ 0
  have l3:wr.cell? ⟨W.heap.size+1,1,none⟩=some (.slice a2 (nw w) c2):=cellOf hm.dQ 1
  have l4:Ext No wr wr:=Ext.refl _ _
  clear cA
  have HH1:=aa (H1.aj hm.ext)
  have HH2:=aa (H2.aj hm.ext)
  obtain ⟨bx,hbx⟩:∃bx,m.testBit k=bx:=⟨_,rfl⟩
  obtain ⟨by',hby⟩:∃by',n.testBit k=by':=⟨_,rfl⟩
  have HBX:=aa (show gz w m (k:Int)=bx from by rw [eP hlt];exact hbx)
  have HBY:=aa (show gz w n (k:Int)=by' from by rw [eP hlt];exact hby)
  have aaA:=aa hbx
  have aaB:=aa hby
  clear hbx hby
  go_region_held3 (fun w'=>w'.cell? ⟨W.heap.size,0,none⟩=some (.int .i64 (w:Int))∧w'.cell? ⟨W.heap.size,1,none⟩=some (.slice a1 (nw w) c1)∧w'.cell? ⟨W.heap.size+1,0,none⟩=some (.int .i64 (w:Int))∧w'.cell? ⟨W.heap.size+1,1,none⟩=some (.slice a2 (nw w) c2)∧Ext No wr w')
   ((go_split_ands;refine ⟨?_,?_,?_,?_,?_⟩<;>(repeat (first|(with_reducible assumption)|(with_reducible exact Ext.refl _ _)|(with_reducible refine keepD ?_)|(with_reducible refine aO ?_)|(with_reducible refine Ext.drew ?_)|(with_reducible refine Ext.alloc ?_ _)|(with_reducible refine bY.drew ?_)|(with_reducible refine bY.alloc ?_ _)|(with_reducible refine bY.set ?_ _ _)|((with_reducible refine kX ?_ ?_);(first|(with_reducible assumption)|omega|(simp;omega)|(exact Nat.le_refl _)))|(with_reducible refine Ext.setAt ?_ _ _)|((with_reducible refine Ext.own ?_ ?_ _);rotate_left;(first|(with_reducible assumption)|omega|(simp;omega)|(exact Nat.le_refl _)))|(with_reducible refine bf aF ?_)|(with_reducible refine Ext.af ?_ aF)|(with_reducible refine bY.ext ?_ aF)))))
   (first
    |((go_at_call 133);(try go_split_ands);(with_reducible refine (nP w m bx _ (k:Int) _ HBX.out (HH1.out.aj ?_)).mono ?_);(with_reducible assumption);(rintro e4 w4 ⟨rfl,aF⟩);(have hx4:=Ext.af (show Ext No wr _ from by with_reducible assumption) aF))
    |((go_at_call 133);(try go_split_ands);(with_reducible refine (nP w n by' _ (k:Int) _ HBY.out (HH2.out.aj ?_)).mono ?_);(with_reducible assumption);(rintro e5 w5 ⟨rfl,aF⟩);(have hx5:=Ext.af (show Ext No wr _ from by with_reducible assumption) aF)))
  have hm2:=aa (hm.aC hx5)
  clear hm
  have hbx:=aaA.out
  have hby:=aaB.out
  clear HBX HBY aaA aaB HH1 HH2
  cases bx<;>cases by'
  ·have HF:Hid (VG (m.testBit k) (n.testBit k)=false):=aa (by rw [hbx,hby];rfl)
   clear hbx hby
   have HV:=aa (UR (w:=w) HF)
   go_wp2_with fail
   go_roundw
   case rel=>exact ⟨k+1,_,_,by omega,HKK,by rw [HV];exact hm2⟩
   case measure=>simp [intOf];omega
  ·exact yB
  ·exact yB
  exact yB
 obtain rfl:k=w:=by omega
 have hge:¬(k:Int) < (k:Int):=by omega
 have cD:=cellOf hm.dB
 have cC:=cellOf hm.bV
 have fC:=aH hm.bV
 have hne:¬W.heap.size+2=D:=by have:=hm.big;omega
 go_wp2_with fail
 have hE:Ext (At (W.heap.size+2)) wr ((wr.setCell ⟨W.heap.size+2,0,none⟩ (.int .i64 (k:Int))).setCell ⟨W.heap.size+2,1,none⟩ (.slice ao (nw k) co)):=((Ext.refl (At (W.heap.size+2)) _).setAt _ _).setAt _ _
 have hbF:=(az (j:=1) (u:= .slice ao (nw k) co) (az (j:=0) (u:= .int .i64 (k:Int)) hm.bV)).trans rfl
 clear cA cD cC fC
 generalize World.setCell (World.setCell wr _ _) _ _=WF at*
 have cF:=cellOf hbF
 refine aW rfl ?_
 simp [results,Tryz.results135,go_sem,cF]
 rw [UT H1.hm H2.hm] at hm
 exact tq
set_option maxHeartbeats 1000000 in
theorem LX (M:Nat→Prop) (w m n:Nat) (s1 s2:Value) (W:World) (hM:∀b,M b→b < W.heap.size) (h1:aG No W s1 w m) (h2:aG No W s2 w n):
  Calls Tryz.prog 104 #[.agg #[.int .i64 (w:Int),s1],.agg #[.int .i64 (w:Int),s2]] W (iq M w (gP m n) W):=by
 have H1:=aa h1
 have H2:=aa h2
 have HM:=aa hM
 obtain ⟨a1,c1,rfl⟩:=h1.slice
 obtain ⟨a2,c2,rfl⟩:=h2.slice
 clear h1 h2 hM
 go_enter Tryz.func104,Tryz.ntmps104
 go_wp2_with fail
 have hx0:Ext No W (((W.alloc (.cells #[.int .i64 (w:Int),.slice a1 (nw w) c1] 44)).alloc (.cells #[.int .i64 (w:Int),.slice a2 (nw w) c2] 44)).alloc (.cells #[.int .i64 0,.slice none 0 0] 44)):=(((Ext.refl _ _).alloc _).alloc _).alloc _
 have hC:(((W.alloc (.cells #[.int .i64 (w:Int),.slice a1 (nw w) c1] 44)).alloc (.cells #[.int .i64 (w:Int),.slice a2 (nw w) c2] 44)).alloc (.cells #[.int .i64 0,.slice none 0 0] 44)).heap[W.heap.size+2]? =some (.cells #[.int .i64 0,.slice none 0 0] 44 (0,0)):=ah (by simp)
 generalize World.alloc (World.alloc (World.alloc W _) _) _=W2 at*
 have zO:=lt_of_block hC
 refine (OP (fun b=>M b∨b=W.heap.size+2) w m n _ _ _ (fun b hb=>?_) (H1.aj hx0) (H2.aj hx0)).mono ?_
 ·exact tH
 rintro e1 w1 ⟨a,c,rfl,hs,hx1⟩
 have hC2:=hx1.blk hC ax
 have cC:=cellOf hC2
 have fC:=aH hC2
 have hxa:=hx0.af hx1
 clear hx0 hx1 hC zO
 go_wp2_with fail
 have hE:Ext (At (W.heap.size+2)) w1 ((w1.setCell ⟨W.heap.size+2,0,none⟩ (.int .i64 (w:Int))).setCell ⟨W.heap.size+2,1,none⟩ (.slice a (nw w) c)):=((Ext.refl (At (W.heap.size+2)) _).setAt _ _).setAt _ _
 have hbF:=(az (j:=1) (u:= .slice a (nw w) c) (az (j:=0) (u:= .int .i64 (w:Int)) hC2)).trans rfl
 clear cC fC
 generalize World.setCell (World.setCell w1 _ _) _ _=WF at*
 have cF:=cellOf hbF
 refine aW rfl ?_
 simp [results,Tryz.results104,go_sem,cF]
 exact ⟨_,_,rfl,(hs.ext hE (fun i _ e=> .inr e)).mono (fun i _ e=> .inl e),hxa.aJ hE (fun i hi e=>by unfold At at e;omega)⟩
set_option maxHeartbeats 1000000 in
theorem oV (M:Nat→Prop) (w m n:Nat) (s1 s2:Value) (W:World) (hM:∀b,M b→b < W.heap.size) (h1:aG No W s1 w m) (h2:aG No W s2 w n):
  Calls Tryz.prog 71 #[.agg #[.int .i64 (w:Int),s1],.agg #[.int .i64 (w:Int),s2]] W (jA M w (gP m n) W):=by
 have H1:=aa h1
 have H2:=aa h2
 have HM:=aa hM
 obtain ⟨a1,c1,rfl⟩:=h1.slice
 obtain ⟨a2,c2,rfl⟩:=h2.slice
 clear h1 h2 hM
 go_enter Tryz.func71,Tryz.ntmps71
 go_wp2_with fail
 have hx0:Ext No W (((W.alloc (.cells #[.int .i64 (w:Int),.slice a1 (nw w) c1] 44)).alloc (.cells #[.int .i64 (w:Int),.slice a2 (nw w) c2] 44)).alloc (.cells #[.int .i64 0,.slice none 0 0] 44)):=(((Ext.refl _ _).alloc _).alloc _).alloc _
 have hC:(((W.alloc (.cells #[.int .i64 (w:Int),.slice a1 (nw w) c1] 44)).alloc (.cells #[.int .i64 (w:Int),.slice a2 (nw w) c2] 44)).alloc (.cells #[.int .i64 0,.slice none 0 0] 44)).heap[W.heap.size+2]? =some (.cells #[.int .i64 0,.slice none 0 0] 44 (0,0)):=ah (by simp)
 generalize World.alloc (World.alloc (World.alloc W _) _) _=W2 at*
 have zO:=lt_of_block hC
 refine (LX (fun b=>M b∨b=W.heap.size+2) w m n _ _ _ (fun b hb=>?_) (H1.aj hx0) (H2.aj hx0)).mono ?_
 ·exact tH
 rintro e1 w1 ⟨a,c,rfl,hs,hx1⟩
 have hy:Ext No w1 (w1.alloc (.cells #[.int .i64 (w:Int),.slice a (nw w) c] 44)):=(Ext.refl _ _).alloc _
 have hC2:=hy.blk (hx1.blk hC ax) ax
 have hD2:=ah (w:=w1) (o:= .cells #[.int .i64 (w:Int),.slice a (nw w) c] 44) rfl
 have cC:=cellOf hC2
 have fC:=aH hC2
 have cD:=cellOf hD2
 have hxa:=(hx0.af hx1).af hy
 have hs2:=aa (hs.aj hy)
 have hne:¬W.heap.size+2=w1.heap.size:=by have:=lt_of_block (hx1.blk hC ax);omega
 clear hx0 hx1 hC zO hs hy
 go_wp2_with fail
 generalize World.alloc w1 _=w2 at*
 have hE:Ext (At (W.heap.size+2)) w2 ((w2.setCell ⟨W.heap.size+2,0,none⟩ (.int .i64 (w:Int))).setCell ⟨W.heap.size+2,1,none⟩ (.slice a (nw w) c)):=((Ext.refl (At (W.heap.size+2)) _).setAt _ _).setAt _ _
 have hbF:=(az (j:=1) (u:= .slice a (nw w) c) (az (j:=0) (u:= .int .i64 (w:Int)) hC2)).trans rfl
 clear cC fC cD
 generalize World.setCell (World.setCell w2 _ _) _ _=WF at*
 have cF:=cellOf hbF
 refine aW rfl ?_
 simp [results,Tryz.results71,go_sem,cF]
 exact ⟨_,_,rfl,(hs2.ext hE (fun i _ e=> .inr e)).mono (fun i _ e=> .inl e),hxa.aJ hE (fun i hi e=>by unfold At at e;omega)⟩
end Go.Proofs.YtmddchceacmopaaGreatDoor

namespace Go.Proofs.YtmddchceacmopaaGreatDoor
open Go Go.RowKit
theorem qo {β:Type} (K:EK β) (p:β):∀(L:List β) (i n:Nat),i < L.length→((L.set i p).flatMap K.cells)[n]? =if i*K.s≤n∧n < i*K.s+K.s then (K.cells p)[n - i*K.s]? else (L.flatMap K.cells)[n]?
 |[],_,_,h=>absurd h (Nat.not_lt_zero _)
 |q::L,0,n,_=>by
  rw [List.set_cons_zero,List.flatMap_cons,List.flatMap_cons,List.getElem?_append,List.getElem?_append,K.len,K.len]
  by_cases h:n < K.s
  ·rw [if_pos h,if_pos ⟨by omega,by omega⟩];simp
  rw [if_neg h,if_neg (by omega),if_neg h]
 |q::L,i+1,n,h=>by
  have ih:=qo K p L i (n - K.s) (by simpa using h)
  rw [List.set_cons_succ,List.flatMap_cons,List.flatMap_cons,List.getElem?_append,List.getElem?_append,K.len]
  have e:(i+1)*K.s=i*K.s+K.s:=Nat.succ_mul _ _
  by_cases h2:n < K.s
  ·rw [if_pos h2,if_pos h2,if_neg (by omega)]
  rw [if_neg h2,if_neg h2,ih]
  by_cases h3:i*K.s≤n - K.s∧n - K.s < i*K.s+K.s
  ·rw [if_pos h3,if_pos (by omega),e,show n - K.s - i*K.s=n - (i*K.s+K.s) by omega]
  rw [if_neg h3,if_neg (by omega)]
def uY (xs:List Value) (o:Nat):List Value→List Value
 |[]=>xs
 |u::us=>uY (xs.set o u) (o+1) us
theorem vg:∀(us xs:List Value) (o n:Nat),o+us.length≤xs.length→(uY xs o us)[n]? =if o≤n∧n < o+us.length then us[n - o]? else xs[n]?
 |[],xs,o,n,_=>by rw [uY,if_neg (by simp)]
 |u::us,xs,o,n,h=>by
  simp only [List.length_cons] at h ⊢
  rw [uY,vg us (xs.set o u) (o+1) n (by rw [List.length_set];omega)]
  by_cases h1:o+1≤n∧n < o+1+us.length
  ·rw [if_pos h1,if_pos (by omega),show n - o=(n - (o+1))+1 by omega,List.getElem?_cons_succ]
  rw [if_neg h1]
  by_cases h2:n=o
  ·subst h2
   rw [if_pos (by omega),List.getElem?_set_self (by omega)];simp
  rw [if_neg (by omega),List.getElem?_set_ne (by omega)]
theorem lD {β:Type} (K:EK β):∀L:List β,(L.flatMap K.cells).length=L.length*K.s
 |[]=>by simp
 |q::L=>by rw [List.flatMap_cons,List.length_append,K.len,lD K L,List.length_cons,Nat.succ_mul];omega
theorem QN {i n s:Nat} (hi:i < n):i*s+s≤n*s:=by
 have:=Nat.mul_le_mul_right s (Nat.succ_le_of_lt hi)
 rwa [Nat.succ_mul] at this
theorem J8 {β:Type} (K:EK β) (L:List β) (i:Nat) (p:β) (hi:i < L.length):uY (L.flatMap K.cells) (i*K.s) (K.cells p)=(L.set i p).flatMap K.cells:=by
 refine List.ext_getElem? (fun n=>?_)
 rw [qo K p L i n hi,vg _ _ _ _ (by rw [K.len,lD];exact QN hi),K.len]
def storeAll (w:World) (g o:Nat):List Value→World
 |[]=>w
 |u::us=>storeAll (w.setCell ⟨g,o,none⟩ u) g (o+1) us
theorem xh:∀(us:List Value) (w:World) (g o:Nat),Ext (At g) w (storeAll w g o us)
 |[],w,g,o=>Ext.refl _ _
 |u::us,w,g,o=>((Ext.refl (At g) w).setAt o u).trans (xh us _ g (o+1))
theorem qm {e:TypeId} {size n base g cap:Nat}:∀(us xs:List Value) (w:World) (o:Nat),w.ownsRow base e size (.slice (some ⟨g,0,none⟩) n cap) n xs→(storeAll w g o us).ownsRow base e size (.slice (some ⟨g,0,none⟩) n cap) n (uY xs o us)
 |[],_,_,_,h=>h
 |u::us,xs,w,o,h=>qm us _ _ (o+1) (World.ownsRow.stored (w:=w) h o u).1
section
variable {β:Type} {K:EK β} {A:Nat→Prop} {w:World} {base g cap:Nat} {v:Value} {L:List β}
theorem cZ.shape (h:cZ K A w base v L) (hn:L.length≠0):∃g cap,v= .slice (some ⟨g,0,none⟩) L.length cap∧base≤g∧g < w.heap.size:=by
 obtain ⟨h1,h2⟩:=h.own
 rcases h2 with ⟨_,h3⟩|⟨g,cap,cur,rfl,hb,hg,_⟩
 ·exact absurd h3 hn
 exact ⟨g,cap,rfl,hb,lt_of_block hg⟩
theorem cZ.cellAt (h:cZ K A w base (.slice (some ⟨g,0,none⟩) L.length cap) L) {i j:Nat} (hi:i < L.length) (hj:j < K.s) {u:Value} (hu:(K.cells L[i])[j]? =some u):w.cell? ⟨g,i*K.s+j,none⟩=some u:=by
 have:=QN (s:=K.s) hi
 rw [World.ownsRow.cellAt h.own _ (by omega),rV K L i j hi hj];exact hu
theorem cZ.QF (h:cZ K A w base (.slice (some ⟨g,0,none⟩) L.length cap) L) {i:Nat} (hi:i < L.length) {p:β} (hp:K.ok (fun b=>A b∨b=g) w p):cZ K A (storeAll w g (i*K.s) (K.cells p)) base (.slice (some ⟨g,0,none⟩) L.length cap) (L.set i p):=by
 refine ⟨?_,fun q hq=>?_⟩
 ·rw [List.length_set,←J8 K L i p hi]
  exact qm _ _ _ _ h.own
 have hq2:K.ok (fun b=>A b∨b=g) w q:=by
  rcases List.mem_or_eq_of_mem_set hq with hq|rfl
  ·exact K.mono (h.ok q hq) (fun i _ e=>by
    rcases e with e|rfl
    ·exact .inl e
    exact .inr rfl)
  exact hp
 refine K.mono (K.ext hq2 (xh _ w g _) (fun i _ e=> .inr e)) (fun i _ e=>?_)
 rcases e with e|e
 ·exact .inl e
 simp only [Value.ownBlock,Option.some.injEq] at e;exact .inr e.symm
end
end Go.Proofs.YtmddchceacmopaaGreatDoor

namespace Go.Proofs.YtmddchceacmopaaGreatDoor.Tj
def upd {α:Type} (f:Nat→α) (n:Nat) (v:α):Nat→α:=fun i=>if i=n then v else f i
structure TS where
 idx:Nat→Nat
 low:Nat→Nat
 out:Nat→Int
 path:List Nat
 cnt:Nat
def start (s:TS) (n:Nat):TS:={ s with idx:=upd s.idx n (s.cnt+1),low:=upd s.low n (s.cnt+1),path:=s.path++[n],cnt:=s.cnt+1 }
end Go.Proofs.YtmddchceacmopaaGreatDoor.Tj

namespace Go.Proofs.YtmddchceacmopaaGreatDoor
open Go Go.RowKit Tj
theorem RB {l:List Nat} {i:Nat} (hi:i < l.length):(dh l)[i]'(by simpa [dh] using hi)=((l[i]:Nat):Int):=by simp [dh]
theorem nQ (l:List Nat):(dh l).length=l.length:=by simp [dh]
theorem CK.at {M:Nat→Prop} {w:World} {sl:Value} {l:List Nat} (h:Ints M w .i64 sl (dh l)) {i:Nat} (hi:i < l.length):∃b off cap,sl= .slice (some ⟨b,off,none⟩) l.length cap∧b < w.heap.size∧¬M b∧
  ∀k (hk:k < l.length),w.cell? ⟨b,off+k,none⟩=some (.int .i64 ((l[k]:Nat):Int)):=by
 obtain ⟨b,off,cap,h1,h2,h3,h4⟩:=Ints.at h (i:=i) (by rw [nQ];exact hi)
 rw [nQ] at h1
 exact ⟨b,off,cap,h1,h2,h3,fun k hk=>by rw [h4 k (by rw [nQ];exact hk),RB hk]⟩
theorem CK.slice {M:Nat→Prop} {w:World} {sl:Value} {l:List Nat} (h:Ints M w .i64 sl (dh l)):∃a c,sl= .slice a l.length c:=by
 obtain ⟨a,c,e⟩:=Row.slice h
 exact ⟨a,c,by rw [e,nQ]⟩
theorem CK.len {M:Nat→Prop} {w:World} {sl:Value} {l:List Nat} (h:Ints M w .i64 sl (dh l)):l.length≤9223372036854775807:=by
 have:=h.2.1
 rw [nQ] at this
 exact this
theorem CK.drop {M:Nat→Prop} {w:World} {b off n cap k:Nat} {p l:List Nat} (h:Ints M w .i64 (.slice (some ⟨b,off,none⟩) n cap) (dh (p++l))) (hk:k=p.length) (hn:n=k+l.length):
  Ints M w .i64 (.slice (some ⟨b,off+k,none⟩) l.length (cap - k)) (dh l):=by
 subst hn
 subst hk
 have h1:Row M w 1 (.slice (some ⟨b,off,none⟩) (p.length+l.length) cap) (p.length+l.length) ((dh (p++l)).map (.int .i64)):=by
  have h:=h
  unfold Ints at h
  rw [nQ,List.length_append] at h
  exact h
 have h2:=h1.drop (k:=p.length) (by omega)
 unfold Ints
 rw [nQ]
 have e:((dh (p++l)).map (Value.int .i64)).drop (p.length*1)=(dh l).map (.int .i64):=by simp [dh,List.drop_append]
 rw [e,Nat.mul_one,show p.length+l.length - p.length=l.length from by omega] at h2
 exact h2
end Go.Proofs.YtmddchceacmopaaGreatDoor

namespace Go.Proofs.YtmddchceacmopaaGreatDoor
open Go Go.RowKit
theorem M4 {W wr w':World} {o:Obj} {v:Value} {base:Nat} (hx:Ext No W wr) (hg:(wr.alloc o).grownBy w' v.ownBlock) (hl:∀b,v.ownBlock=some b→base≤b) (hb:W.heap.size≤base):Ext No W w':=
 (hx.aJ (((Ext.refl (fun k=>v.ownBlock=some k) wr).alloc o).grown hg (fun k hk _=>hk)) (fun i hi e=>by have:=hl i e;omega))
end Go.Proofs.YtmddchceacmopaaGreatDoor

namespace Go.Proofs.YtmddchceacmopaaGreatDoor
open Go Go.RowKit
def kG (z:Value) (E:Int) (W:World) (e:Ending) (w':World):Prop:=e= .returned (.tuple #[z,.int .i64 E])∧Ext No W w'
theorem Ct (S:mU) (vd vt vb:Value) (W:World) (h:ja No W vd vt vb S):
  Calls Tryz.prog 62 #[.agg #[.int .i64 (S.w:Int),vd,vt,vb]] W (bZ true W):=by
 obtain ⟨Ld,Lt,Lb,h1,h2⟩:=h.vs
 refine (Cu _ _ _ _ Ld Lt Lb W h1).mono ?_
 rintro e w' ⟨b,rfl,hb,hx⟩
 exact ⟨by rw [mM hb h2],hx⟩
end Go.Proofs.YtmddchceacmopaaGreatDoor

namespace Go.Proofs.YtmddchceacmopaaGreatDoor
open Go Go.RowKit Tj
set_option maxRecDepth 100000 in
set_option maxHeartbeats 2000000 in
theorem OB (sl:Value) (l:List Nat) (n:Nat) (W:World) (h:Ints No W .i64 sl (dh l)):
  Calls Tryz.prog 15 #[sl,.int .i64 (n:Int)] W (bZ (decide (n∈l)) W):=by
 have H:=aa h
 obtain ⟨a,cap,rfl⟩:=CK.slice h
 have hlen:=CK.len h
 clear h
 go_enter Tryz.func15,Tryz.ntmps15
 go_wp2_with fail
 go_loopw [5] (fun i wr=>∃k:Nat,i= .int .i64 k∧k≤l.length∧Hid (Ext No W wr)∧Hid (∀j (hj:j < l.length),j < k→l[j]≠n)) (fun i _=>l.length - (intOf i).toNat)
 case atStart=>exact si
 obtain ⟨k,rfl,hk,hx,hm⟩:=hrel
 rename World=>wr
 by_cases hkl:k < l.length
 ·have hlz:(k:Int) < (l.length:Int):=by omega
  have HKK:Hid (Value.int .i64 ((k:Int)+1)= .int .i64 ((k+1:Nat):Int)):=aa (by rw [show ((k+1:Nat):Int)=(k:Int)+1 from by omega])
  obtain ⟨b,off,cap',hsl,hb1,_,hcell⟩:=CK.at H.out hkl
  simp only [Value.slice.injEq] at hsl
  obtain ⟨rfl,_,rfl⟩:=hsl
  have q0:=hx.keep (hcell k hkl)
  obtain ⟨y,hy⟩:∃y,y=l[k]:=⟨_,rfl⟩
  rw [←hy] at q0
  have HY:=aa hy
  clear hcell hb1 hy
  by_cases he:y=n
  ·have he1:((y:Int)==(n:Int))=true:=by simp [he]
   have he2:(y:Int)=(n:Int):=by omega
   have HE:=aa he
   clear he
   go_wp2_with fail
   go_ret
   refine ⟨?_,hx⟩
   rw [decide_eq_true (show n∈l from by rw [←HE,HY];exact List.getElem_mem hkl)]
   rfl
  have he1:((y:Int)==(n:Int))=false:=by simp;omega
  have he2:¬((y:Int)=(n:Int)):=by omega
  have HE:=aa he
  clear he
  go_wp2_with fail
  go_roundw
  case rel=>exact ⟨k+1,HKK,by omega,hx,aa (fun j hj hjk=>by
   by_cases e:j=k
   ·subst e;rw [←HY];exact HE
   exact hm j hj (by omega))⟩
  case measure=>simp [intOf];omega
 have hge:¬(k:Int) < (l.length:Int):=by omega
 go_wp2_with fail
 go_ret
 refine ⟨?_,hx⟩
 rw [decide_eq_false (show ¬n∈l from fun hc=>by
  obtain ⟨j,hj,e⟩:=List.getElem_of_mem hc
  exact absurd e (hm j hj (by omega)))]
 rfl
end Go.Proofs.YtmddchceacmopaaGreatDoor

namespace Go.Proofs.YtmddchceacmopaaGreatDoor
open Go Go.RowKit
theorem Jz (w m k:Nat) (u v:Value) (W:World) (hs:aG No W u w m) (ht:aG No W v w k):Calls Tryz.prog 41 #[.agg #[.int .i64 (w:Int),u],.agg #[.int .i64 (w:Int),v]] W (bZ (decide (m=k)) W):=by
 exact Fa
theorem UU {us vs:List Nat} (hl:us.length=vs.length) (h:∀j,j < us.length→dA us j=dA vs j):us=vs:=by
 refine List.ext_getElem hl (fun i h1 h2=>?_)
 have:=h i h1
 rwa [kI h1,kI h2] at this
set_option maxRecDepth 100000 in
set_option maxHeartbeats 4000000 in
theorem uR (w:Nat) (us vs:List Nat) (s1 s2:Value) (W:World) (h1:fM No W s1 w us) (h2:fM No W s2 w vs) (hb:us.length≤1048576):
  Calls Tryz.prog 16 #[s1,s2] W (bZ (decide (us=vs)) W):=by
 have H1:=aa h1
 have H2:=aa h2
 obtain ⟨a1,c1,rfl⟩:=h1.slice
 obtain ⟨a2,c2,rfl⟩:=h2.slice
 clear h1 h2
 by_cases hl:us.length=vs.length
 ·have HL:=aa hl
  obtain ⟨n,hn⟩:∃n,n=us.length:=⟨_,rfl⟩
  have HN:=aa hn
  have BK:vs.length=n:=by omega
  rw [BK]
  rw [show us.length=n from hn.symm] at hb ⊢
  clear hl hn BK
  go_enter Tryz.func16,Tryz.ntmps16
  go_wp2_with fail
  go_loopw [5] (fun s5 wr=>∃k:Nat,s5= .int .i64 k∧k≤n∧Hid (Ext No W wr)∧Hid (∀j,j < k→dA us j=dA vs j)) (fun s5 _=>n - (intOf s5).toNat)
  case atStart=>exact ⟨0,rfl,Nat.zero_le _,Ext.refl _ _,aa (fun j h=>absurd h (Nat.not_lt_zero _))⟩
  obtain ⟨k,rfl,hk,hx,hm⟩:=hrel
  rename World=>wr
  by_cases hlt:k < n
  ·have hlz:(k:Int) < (n:Int):=by omega
   obtain ⟨o1,o2,o3,o4,o5,kC,aaC,hq1⟩:=(H1.aj hx).cells (i:=k) (by rw [←HN];exact hlt)
   rw [←HN] at kC
   simp only [Value.slice.injEq] at kC
   obtain ⟨rfl,-,rfl⟩:=kC
   obtain ⟨p1,p2,p3,p4,p5,kC,TR,hq2⟩:=(H2.aj hx).cells (i:=k) (by rw [←HL,←HN];exact hlt)
   rw [←HL,←HN] at kC
   simp only [Value.slice.injEq] at kC
   obtain ⟨rfl,-,rfl⟩:=kC
   have Sd:=aa aaC
   have WG:=aa TR
   clear aaC TR
   by_cases he:dA us k=dA vs k
   ·have hdec:decide (dA us k=dA vs k)=true:=decide_eq_true he
    have HE:=aa he
    clear he
    go_upto_region 6 with (fail)
    refine uW (fun w'=>Ext No wr w') aS fun hHeld=>?_
    refine uO [0,1,2,3,4,5,6,7] ?_
    iterate 7 refine uT ?_ (hy:=E5)
    refine uT ?_ (hy:=E8)
    refine uZ ?_
    refine hHc 8 fun K hK=>?_
    ((have eX:Ext No wr _:=hHeld);go_simp;(go_at_call 41);(refine (Jz w (dA us k) (dA vs k) _ _ _ (hq1.out.aj eX) (hq2.out.aj eX)).mono ?_);(rintro e9 w9 ⟨rfl,aF⟩);(rw [hdec]);go_simp)
    refine uK hK dX ?_
    clear hK K hHeld
    intro hHeld
    refine uA 9 ?_
    refine uD ?_
    have eX:Ext No wr _:=hHeld
    go_wp2_with fail
    go_roundw
    case rel=>exact ⟨k+1,by go_num,by omega,hx.af eX,aa (fun j hj=>by
     by_cases e:j=k
     ·subst e;exact HE
     exact hm j (by omega))⟩
    case measure=>simp [intOf];omega
   have hdec:decide (dA us k=dA vs k)=false:=decide_eq_false he
   have HE:=aa he
   clear he
   go_upto_region 6 with (fail)
   refine uW (fun w'=>Ext No wr w') aS fun hHeld=>?_
   refine uO [0,1,2,3,4,5,6,7] ?_
   iterate 7 refine uT ?_ (hy:=E5)
   refine uT ?_ (hy:=E8)
   refine uZ ?_
   refine hHc 8 fun K hK=>?_
   ((have eX:Ext No wr _:=hHeld);go_simp;(go_at_call 41);(refine (Jz w (dA us k) (dA vs k) _ _ _ (hq1.out.aj eX) (hq2.out.aj eX)).mono ?_);(rintro e9 w9 ⟨rfl,aF⟩);(rw [hdec]);go_simp)
   refine uK hK dX ?_
   clear hK K hHeld
   intro hHeld
   refine uA 9 ?_
   refine uD ?_
   have eX:Ext No wr _:=hHeld
   go_wp2_with fail
   go_ret
   exact ⟨by rw [decide_eq_false (fun e=>HE (by rw [e]))];rfl,hx.af eX⟩
  have hge:¬(k:Int) < (n:Int):=by omega
  have hkn:k=n:=by omega
  subst hkn
  go_wp2_with fail
  go_ret
  exact ⟨by rw [decide_eq_true (UU HL (by rw [←HN];exact hm))];rfl,hx⟩
 have hne:((us.length:Int) != (vs.length:Int))=true:=by simp;omega
 have hne2:¬((us.length:Int)=(vs.length:Int)):=by omega
 have HL:=aa hl
 clear hl
 go_enter Tryz.func16,Tryz.ntmps16
 go_wp2_with fail
 go_ret
 exact ⟨by rw [decide_eq_false (fun e=>HL (by rw [e]))];rfl,Ext.refl _ _⟩


import Derived.Test.YtmddchceacmopaaGreatDoorTr30
set_option linter.unusedVariables false
set_option linter.unusedSimpArgs false
namespace Go.Proofs.YtmddchceacmopaaGreatDoor
open Go Go.RowKit
theorem Pg {p:Prop} (h:p:=by (go_split_ands;refine ⟨?_,?_,?_,?_,?_⟩;((with_reducible refine Ext.oK Oc ?_ ?_);rotate_left;(first|exact hv4|exact TJ);(repeat (first|(with_reducible assumption)|(with_reducible exact Ext.refl _ _)|(with_reducible refine keepD ?_)|(with_reducible refine aO ?_)|(with_reducible refine Ext.drew ?_)|(with_reducible refine Ext.alloc ?_ _)|(with_reducible refine bY.drew ?_)|(with_reducible refine bY.alloc ?_ _)|(with_reducible refine bY.set ?_ _ _)|((with_reducible refine kX ?_ ?_);(first|(with_reducible assumption)|omega|(simp;omega)|(exact Nat.le_refl _)))|(with_reducible refine Ext.setAt ?_ _ _)|((with_reducible refine Ext.own ?_ ?_ _);rotate_left;(first|(with_reducible assumption)|omega|(simp;omega)|(exact Nat.le_refl _)))|(with_reducible refine bf aF ?_)|(with_reducible refine Ext.af ?_ aF)|(with_reducible refine bY.ext ?_ aF))));((with_reducible refine Ext.oK Oc ?_ ?_);rotate_left;(first|exact hv4|exact TJ);(repeat (first|(with_reducible assumption)|(with_reducible exact Ext.refl _ _)|(with_reducible refine keepD ?_)|(with_reducible refine aO ?_)|(with_reducible refine Ext.drew ?_)|(with_reducible refine Ext.alloc ?_ _)|(with_reducible refine bY.drew ?_)|(with_reducible refine bY.alloc ?_ _)|(with_reducible refine bY.set ?_ _ _)|((with_reducible refine kX ?_ ?_);(first|(with_reducible assumption)|omega|(simp;omega)|(exact Nat.le_refl _)))|(with_reducible refine Ext.setAt ?_ _ _)|((with_reducible refine Ext.own ?_ ?_ _);rotate_left;(first|(with_reducible assumption)|omega|(simp;omega)|(exact Nat.le_refl _)))|(with_reducible refine bf aF ?_)|(with_reducible refine Ext.af ?_ aF)|(with_reducible refine bY.ext ?_ aF))));((with_reducible refine Ext.oK Oc ?_ ?_);rotate_left;(first|exact hv4|exact TJ);(repeat (first|(with_reducible assumption)|(with_reducible exact Ext.refl _ _)|(with_reducible refine keepD ?_)|(with_reducible refine aO ?_)|(with_reducible refine Ext.drew ?_)|(with_reducible refine Ext.alloc ?_ _)|(with_reducible refine bY.drew ?_)|(with_reducible refine bY.alloc ?_ _)|(with_reducible refine bY.set ?_ _ _)|((with_reducible refine kX ?_ ?_);(first|(with_reducible assumption)|omega|(simp;omega)|(exact Nat.le_refl _)))|(with_reducible refine Ext.setAt ?_ _ _)|((with_reducible refine Ext.own ?_ ?_ _);rotate_left;(first|(with_reducible assumption)|omega|(simp;omega)|(exact Nat.le_refl _)))|(with_reducible refine bf aF ?_)|(with_reducible refine Ext.af ?_ aF)|(with_reducible refine bY.ext ?_ aF))));((with_reducible refine Ext.oK Oc ?_ ?_);rotate_left;(first|exact hv4|exact TJ);(repeat (first|(with_reducible assumption)|(with_reducible exact Ext.refl _ _)|(with_reducible refine keepD ?_)|(with_reducible refine aO ?_)|(with_reducible refine Ext.drew ?_)|(with_reducible refine Ext.alloc ?_ _)|(with_reducible refine bY.drew ?_)|(with_reducible refine bY.alloc ?_ _)|(with_reducible refine bY.set ?_ _ _)|((with_reducible refine kX ?_ ?_);(first|(with_reducible assumption)|omega|(simp;omega)|(exact Nat.le_refl _)))|(with_reducible refine Ext.setAt ?_ _ _)|((with_reducible refine Ext.own ?_ ?_ _);rotate_left;(first|(with_reducible assumption)|omega|(simp;omega)|(exact Nat.le_refl _)))|(with_reducible refine bf aF ?_)|(with_reducible refine Ext.af ?_ aF)|(with_reducible refine bY.ext ?_ aF))));((with_reducible refine Ext.oK Oc ?_ ?_);rotate_left;(first|exact hv4|exact TJ);(repeat (first|(with_reducible assumption)|(with_reducible exact Ext.refl _ _)|(with_reducible refine keepD ?_)|(with_reducible refine aO ?_)|(with_reducible refine Ext.drew ?_)|(with_reducible refine Ext.alloc ?_ _)|(with_reducible refine bY.drew ?_)|(with_reducible refine bY.alloc ?_ _)|(with_reducible refine bY.set ?_ _ _)|((with_reducible refine kX ?_ ?_);(first|(with_reducible assumption)|omega|(simp;omega)|(exact Nat.le_refl _)))|(with_reducible refine Ext.setAt ?_ _ _)|((with_reducible refine Ext.own ?_ ?_ _);rotate_left;(first|(with_reducible assumption)|omega|(simp;omega)|(exact Nat.le_refl _)))|(with_reducible refine bf aF ?_)|(with_reducible refine Ext.af ?_ aF)|(with_reducible refine bY.ext ?_ aF)))))):p:=h
theorem Gw {p:Prop} (h:p:=by
 refine hHc 6 fun K hK=>?_
 ((refine jY _ (.tmp 36) (.tmp 40) 23 rfl (X+1) 44 i0 _ 2 32 Tryz.underlying23 hi0 hz0 hz1 hz2 rfl (by omega) (.slice av L.length cv) L.length (jy L) rfl (dG hm.s.own ((Ext.refl No _).alloc _) (fun _ _ x=>x)) No (some ⟨w8.heap.size,0,none⟩) 1 1 [.int .i64 (t.w:Int),.slice a8 (nw t.w) c8] rfl (Row.block (ah rfl) rfl ax (by omega)) (by simp [Value.oneCell']) (by omega) (by omega) (by simp;exact Nat.le_of_lt (lt_of_block hm.out.dU)) ?_);(intro v1 w9 hown1 hg1 hv1);(have aaL:Ext (fun k=>(Value.slice av L.length cv).ownBlock=some k) w8 w9:=((Ext.refl _ w8).alloc _).grown hg1 (fun k hk _=>hk));(have Oc:Ext (fun k=>(Value.slice av L.length cv).ownBlock=some k) (w8.alloc (.cells #[.int .i64 (t.w:Int),.slice a8 (nw t.w) c8] 44)) w9:=(Ext.refl _ _).grown hg1 (fun k hk _=>hk));(obtain ⟨lg,Sl⟩:=hm.app (p:=(bJ t.w (gQ (aI t t.w t.copies.length) t.w (2 ^ k)),.slice a8 (nw t.w) c8)) (nR _ _ _ _ _ _ _ _ _ _ _) vK.words hown1 hg1 hv1);(have WS:=aa lg);(have I7:=aa Sl);(have Tz:=aa (hT.xz aaL (fun e=>by have h1:=(hm.s.lt _ e).1;omega)));(obtain ⟨a9,c9,Qp⟩:=lg.s.slice);(subst Qp);(clear lg Sl hown1 hg1 hv1))
 refine uK hK Pg ?_
 clear hK K hHeld
 intro hHeld
 clear Oc aaL hm hT
 refine uA 7 ?_ (hy:=aM)
 refine hHc 8 fun K hK=>?_
 ((have cX:=cellOf I7.out);(have fX:=aH I7.out);go_simp;(clear cX fX))
 refine uK hK dH ?_
 clear hK K hHeld
 intro hHeld
 clear I7
 refine uD ?_
 go_wp2_with fail
 have TB:=aa (Tz.xz ((Ext.refl (At X) w9).setAt 2 (Value.slice a9 (L++[(bJ t.w (gQ (aI t t.w t.copies.length) t.w (2 ^ k)),Value.slice a8 (nw t.w) c8)]).length c9)) (fun e=>by unfold At at e;omega))
 simp only [List.length_append,List.length_cons,List.length_nil] at TB
 go_roundw
 case rel=>exact ⟨k+1,a9,c9,L++[(bJ t.w (gQ (aI t t.w t.copies.length) t.w (2 ^ k)),.slice a8 (nw t.w) c8)],by omega,HKK,aa (by rw [List.map_append,HL,Tp,List.map_append];rfl),TB,by have:=WS;simp only [List.length_append,List.length_cons,List.length_nil] at this ⊢;exact this⟩
 case measure=>simp [intOf];omega):p:=h
theorem Gx {p:Prop} (h:p:=by
 refine hHc 5 fun K hK=>?_
 go_simp
 refine uK hK dH ?_
 clear hK K hHeld
 intro hHeld
 have _hb:=vK
 exact Gw):p:=h
structure SI (M:Nat→Prop) (W wr:World) (w g X:Nat) (s1 v:Value) (L:List (bC×Value)) (R2:(Nat→Prop)→World→Prop):Prop where
 ext:Ext No W wr
 dU:wr.heap[X]? =some (.cells #[.int .i64 (w:Int),s1,v] 131 (0,0))
 gen:aG (fun b=>M b∨b=X∨X < b) wr s1 w g
 s:dm (fun b=>M b∨b=X) wr (X+1) v L
 r2:R2 (fun b=>b=X∨X < b) wr
 low:W.heap.size≤X
section
variable {M:Nat→Prop} {W wr w':World} {w g X:Nat} {s1 v v':Value} {L:List (bC×Value)} {R2:(Nat→Prop)→World→Prop} {p:bC×Value}
theorem SI.aC (h:SI M W wr w g X s1 v L R2) (k:dx R2) (hx:Ext No wr w'):SI M W w' w g X s1 v L R2:=
 ⟨h.ext.af hx,hx.blk h.dU ax,h.gen.aj hx,h.s.aj hx,k.ext h.r2 hx (fun _ _ x=>x.elim),h.low⟩
theorem SI.hM (hM:∀b,M b→b < wr.heap.size) (h:SI M W wr w g X s1 v L R2):∀b,((M b∨b=X)∨v.ownBlock=some b)→b < wr.heap.size:=fun b hb=>by
 rcases hb with (hb|rfl)|hb
 ·exact hM b hb
 ·exact lt_of_block h.dU
 exact (h.s.lt b hb).2
theorem SI.app {o:Obj} (h:SI M W wr w g X s1 v L R2) (k:dx R2) (hp:aU (fun b=>(M b∨b=X)∨v.ownBlock=some b) wr p.2 p.1.words) (hown:w'.ownsRow (X+1) 44 2 v' (L.length+1) (jy L++pR p))
  (hg:(wr.alloc o).grownBy w' v.ownBlock) (hv:v'.ownBlock=v.ownBlock∨v'.ownBlock=some (wr.alloc o).heap.size):
  SI M W (w'.setCell ⟨X,2,none⟩ v') w g X s1 v' (L++[p]) R2∧w'.heap[X]? =some (.cells #[.int .i64 (w:Int),s1,v] 131 (0,0)):=by
 obtain ⟨h1,hE⟩:=h.s.app hp hown hg hv
 have hl:=h.low
 have hne:∀k,k≤X→¬v.ownBlock=some k:=fun k hk e=>by have:=(h.s.lt k e).1;omega
 have hE2:Ext (At X) w' (w'.setCell ⟨X,2,none⟩ v'):=(Ext.refl (At X) _).setAt _ _
 have hX:=hE.blk h.dU (hne X (Nat.le_refl _))
 have hgt:∀i,v.ownBlock=some i→X < i:=fun i e=>by have:=(h.s.lt i e).1;omega
 refine ⟨⟨?_,(az (j:=2) hX).trans rfl,(h.gen.ext hE (fun i _ e=> .inr (.inr (hgt i e)))).ext hE2 (fun i _ e=> .inr (.inl e)),h1.ext hE2 (fun i hi e=>by unfold At at e;omega) (fun i e=> .inr e),k.ext (k.ext h.r2 hE (fun i _ e=> .inr (hgt i e))) hE2 (fun i _ e=> .inl e),hl⟩,hX⟩
 exact FP
end
def StR (A C D w g:Nat) (rs:List Nat) (sg so sk sc s0:Value) (M:Nat→Prop) (W:World):Prop:=
 (W.heap[A]? =some (.cells #[.int .i64 (w:Int),s0,.int .i64 (w:Int),sk,sc] 47 (0,0))∧¬M A)∧(W.heap[C]? =some (.cells #[.int .i64 0,.slice none 0 0,.int .i64 0,.slice none 0 0,.slice none 0 0] 47 (0,0))∧¬M C)∧vZ D w g rs sg so M W
theorem nR (A C D w g:Nat) (rs:List Nat) (sg so sk sc s0:Value):dx (StR A C D w g rs sg so sk sc s0):=
 ⟨fun h hx hm=>⟨⟨hx.blk h.1.1 (fun e=>h.1.2 (hm _ (lt_of_block h.1.1) e)),h.1.2⟩,⟨hx.blk h.2.1.1 (fun e=>h.2.1.2 (hm _ (lt_of_block h.2.1.1) e)),h.2.1.2⟩,(jv D w g rs sg so).ext h.2.2 hx hm⟩,
  fun h hm=>⟨⟨h.1.1,fun e=>h.1.2 (hm _ (lt_of_block h.1.1) e)⟩,⟨h.2.1.1,fun e=>h.2.1.2 (hm _ (lt_of_block h.2.1.1) e)⟩,(jv D w g rs sg so).mono h.2.2 hm⟩⟩
set_option maxRecDepth 100000 in
set_option maxHeartbeats 8000000 in
theorem RG (M:Nat→Prop) (t:cK) (g1 k1 c1:Value) (W:World) (hM:∀b,M b→b < W.heap.size) (hT:iQ W) (h:dF No W g1 k1 c1 t):
  Calls Tryz.prog 97 #[.agg #[.int .i64 (t.w:Int),g1,.int .i64 (t.w:Int),k1,c1]] W (iF M t.w (gQ (aI t t.w t.copies.length) t.w t.gen) (fV t.w (aI t t.w t.copies.length) t.w) W):=by
 have H:=aa h
 have HM:=aa hM
 have HT:=aa hT
 obtain ⟨ag,cg,rfl⟩:=h.gen.slice
 obtain ⟨ak,ck,rfl⟩:=h.kill.slice
 obtain ⟨ac,cc,rfl⟩:=Row.slice h.copies
 have hw:=h.ok.w
 obtain ⟨i0,hi0,hz0,hz1,hz2⟩:=info_parts yZ
 clear h hM hT
 go_enter Tryz.func97,Tryz.ntmps97
 go_wp2_with fail
 have hx0:Ext No W ((W.alloc (.cells #[.int .i64 (t.w:Int),.slice ag (nw t.w) cg,.int .i64 (t.w:Int),.slice ak (nw t.w) ck,.slice ac t.copies.length cc] 47)).alloc (.cells #[.int .i64 0,.slice none 0 0,.int .i64 0,.slice none 0 0,.slice none 0 0] 47)):=((Ext.refl _ _).alloc _).alloc _
 have hA:((W.alloc (.cells #[.int .i64 (t.w:Int),.slice ag (nw t.w) cg,.int .i64 (t.w:Int),.slice ak (nw t.w) ck,.slice ac t.copies.length cc] 47)).alloc (.cells #[.int .i64 0,.slice none 0 0,.int .i64 0,.slice none 0 0,.slice none 0 0] 47)).heap[W.heap.size]? =some (.cells #[.int .i64 (t.w:Int),.slice ag (nw t.w) cg,.int .i64 (t.w:Int),.slice ak (nw t.w) ck,.slice ac t.copies.length cc] 47 (0,0)):=ay (ah rfl)
 have hC:((W.alloc (.cells #[.int .i64 (t.w:Int),.slice ag (nw t.w) cg,.int .i64 (t.w:Int),.slice ak (nw t.w) ck,.slice ac t.copies.length cc] 47)).alloc (.cells #[.int .i64 0,.slice none 0 0,.int .i64 0,.slice none 0 0,.slice none 0 0] 47)).heap[W.heap.size+1]? =some (.cells #[.int .i64 0,.slice none 0 0,.int .i64 0,.slice none 0 0,.slice none 0 0] 47 (0,0)):=ah (by simp)
 generalize World.alloc (World.alloc W _) _=W2 at*
 refine (zF t _ _ _ _ (H.aj hx0)).mono ?_
 rintro e1 w1 ⟨rfl,hx1⟩
 have hx:=aa (hx0.af hx1)
 have HA:=aa (hx1.blk hA ax)
 have HC:=aa (hx1.blk hC ax)
 clear hx0 hx1 hA hC
 have cA:=cellOf HA.out
 go_wp2_with fail
 refine (JF (fun b=>M b∨b=W.heap.size+1) t _ _ _ _ (fun b hb=>?_) (H.aj hx)).mono ?_
 ·rcases hb with hb|rfl
  ·exact Nat.lt_of_lt_of_le (HM b hb) hx.size
  exact lt_of_block HC.out
 rintro e2 w2 ⟨a2,c2,b2,d2,rfl,hrows,hx2⟩
 have uf:=aa (hx.af hx2)
 have HCC:=aa (hx2.blk HC ax)
 have HAA:=aa (hx2.blk HA ax)
 have hb4:(w2.alloc (.cells #[.int .i64 (t.w:Int),.slice a2 (nw t.w) c2,.slice b2 (aI t t.w t.copies.length).length d2] 131)).heap[w2.heap.size]? =some (.cells #[.int .i64 (t.w:Int),.slice a2 (nw t.w) c2,.slice b2 (aI t t.w t.copies.length).length d2] 131 (0,0)):=ah rfl
 have hx4:Ext No w2 (w2.alloc (.cells #[.int .i64 (t.w:Int),.slice a2 (nw t.w) c2,.slice b2 (aI t t.w t.copies.length).length d2] 131)):=(Ext.refl _ _).alloc _
 have qG:=aa hb4
 have qO:=aa (uf.af hx4)
 have KV:=aa (hx4.blk HAA ax)
 have IE:=aa (hx4.blk HCC ax)
 have HR4:=aa (hrows.aj hx4)
 have NN:=aa (HT.ext qO)
 have cB:=cellOf hb4
 clear hx2 HC hrows cA HA hx HAA HCC hb4 hx4 uf
 go_wp2_with fail
 generalize World.alloc w2 _=W4 at*
 generalize w2.heap.size=D4 at*
 clear cB
 refine (rA (fun b=>M b∨b=W.heap.size+1) t.w t.gen (aI t t.w t.copies.length) _ _ _ _ (fun b hb=>?_) NN (rG _ _ _) HR4.sets.no (gU _ _ _) HR4.set).mono ?_
 ·rcases hb with hb|rfl
  ·exact Nat.lt_of_lt_of_le (HM b hb) qO.size
  exact lt_of_block IE.out
 rintro e5 w5 ⟨a5,c5,rfl,hs5,hx5⟩
 have aaM:=lt_of_block (hx5.blk IE ax)
 have Qr:=lt_of_block (hx5.blk KV ax)
 have acC:=lt_of_block (hx5.blk qG ax)
 have hx6:Ext No w5 (w5.alloc (.cells #[.int .i64 (t.w:Int),.slice a5 (nw t.w) c5,.slice none 0 0] 131)):=(Ext.refl _ _).alloc _
 have hm:=aa (show SI (fun b=>M b∨b=W.heap.size+1) W (w5.alloc (.cells #[.int .i64 (t.w:Int),.slice a5 (nw t.w) c5,.slice none 0 0] 131)) t.w (gQ (aI t t.w t.copies.length) t.w t.gen) w5.heap.size (.slice a5 (nw t.w) c5) (.slice none 0 0) [] (StR W.heap.size (W.heap.size+1) D4 t.w t.gen (aI t t.w t.copies.length) (.slice a2 (nw t.w) c2) (.slice b2 (aI t t.w t.copies.length).length d2) (.slice ak (nw t.w) ck) (.slice ac t.copies.length cc) (.slice ag (nw t.w) cg)) from
  ⟨(qO.af hx5).alloc _,ah rfl,(hs5.mono (fun i hi e=>by
   rcases e with e|e|e
   ·exact e
   ·omega
   ·omega)).aj hx6,dm.nil _ _ _,⟨⟨ay (hx5.blk KV ax),by omega⟩,⟨ay (hx5.blk IE ax),by omega⟩,ay (hx5.blk qG ax),by omega,((HR4.aj hx5).mono (fun i hi e=>by
   rcases e with e|e
   ·omega
   omega)).aj hx6⟩,by omega⟩)
 have HT6:=aa ((NN.ext hx5).ext hx6)
 have hCX:W.heap.size+1 < w5.heap.size:=aaM
 clear hx5 hx6 hs5 KV qG IE HR4 NN qO aaM Qr acC HT
 have cA:=cellOf hm.r2.1.1
 go_wp2_with fail
 clear cA
 generalize World.alloc w5 _=W6 at*
 generalize w5.heap.size=X at*
 have hwl:(t.w:Int)≤256:=by omega
 go_loopw [23] (fun i wr=>∃(k:Nat) (av:Option Addr) (cv:Nat) (L:List (bC×Value)),k≤t.w∧i= .int .i64 k∧Hid (L.map Prod.fst=(fV t.w (aI t t.w t.copies.length) k).map (bJ t.w))∧Hid (iQ wr)∧Hid (SI (fun b=>M b∨b=W.heap.size+1) W wr t.w (gQ (aI t t.w t.copies.length) t.w t.gen) X (.slice a5 (nw t.w) c5) (.slice av L.length cv) L (StR W.heap.size (W.heap.size+1) D4 t.w t.gen (aI t t.w t.copies.length) (.slice a2 (nw t.w) c2) (.slice b2 (aI t t.w t.copies.length).length d2) (.slice ak (nw t.w) ck) (.slice ac t.copies.length cc) (.slice ag (nw t.w) cg)))) (fun i _=>t.w - (intOf i).toNat)
 case atStart=>exact ⟨0,none,0,[],Nat.zero_le _,rfl,rfl,HT6,hm⟩
 clear hm HT6
 obtain ⟨k,av,cv,L,hk,rfl,HL,hT,hm⟩:=hrel
 rename World=>wr
 have hpos:(0:Int)≤(k:Int):=by omega
 have hLn:L.length≤256:=by have:=congrArg List.length HL.out;simp [fV] at this;omega
 by_cases hlt:k < t.w
 ·have HKK:Hid (Value.int .i64 ((k:Int)+1)= .int .i64 ((k+1:Nat):Int)):=aa (by rw [show ((k+1:Nat):Int)=(k:Int)+1 from by omega])
  have cA:=cellOf hm.r2.1.1
  have hx1:Ext No wr (wr.alloc (.cells #[.int .i64 (k:Int)] 3)):=(Ext.refl _ _).alloc _
  have hm1:=aa (hm.aC (nR _ _ _ _ _ _ _ _ _ _ _) hx1)
  have hT1:=aa (hT.ext hx1)
  have hrow:Row No (wr.alloc (.cells #[.int .i64 (k:Int)] 3)) 1 (.slice (some ⟨wr.heap.size,0,none⟩) 1 1) 1 (ints [(k:Int)]):=Row.block (ah rfl) rfl ax (by omega)
  have Ny:=aa hrow
  clear hm hT hx1 hrow
  go_wp2_with fail
  clear cA
  generalize World.alloc wr _=Wk at*
  refine (X0 (fun b=>((M b∨b=W.heap.size+1)∨b=X)∨(Value.slice av L.length cv).ownBlock=some b) t.w [(k:Int)] _ _ (hm1.hM (fun b hb=>?_)) hw Ny (fun x hx=>?_)).mono ?_
  ·rcases hb with hb|rfl
   ·exact Nat.lt_of_lt_of_le (HM b hb) hm1.ext.size
   exact lt_of_block hm1.r2.2.1.1
  ·rw [List.mem_singleton.1 hx];omega
  rintro e7 w7 ⟨a7,c7,rfl,hs7,hx7⟩
  rw [U9] at hs7
  have hbS:(w7.alloc (.cells #[.int .i64 (t.w:Int),.slice a7 (nw t.w) c7] 44)).heap[w7.heap.size]? =some (.cells #[.int .i64 (t.w:Int),.slice a7 (nw t.w) c7] 44 (0,0)):=ah rfl
  have vJ:Ext No w7 (w7.alloc (.cells #[.int .i64 (t.w:Int),.slice a7 (nw t.w) c7] 44)):=(Ext.refl _ _).alloc _
  have He:=hm1.aC (nR _ _ _ _ _ _ _ _ _ _ _) hx7
  have hSX:w7.heap.size≠X:=fun e=>by have:=lt_of_block He.dU;omega
  have TJ:¬(Value.slice av L.length cv).ownBlock=some w7.heap.size:=fun e=>by have:=(He.s.lt _ e).2;omega
  have hm:=aa (He.aC (nR _ _ _ _ _ _ _ _ _ _ _) vJ)
  have hT:=aa ((hT1.ext hx7).ext vJ)
  have hset:=aa (hs7.aj vJ)
  have NZ:=aa hbS
  clear hm1 hT1 hx7 vJ He hs7 hbS Ny
  go_wp2_with fail
  generalize World.alloc w7 _=Vr at*
  generalize w7.heap.size=Sb at*
  have NE:=cellOf hm.r2.2.2.1
  have cSb:=cellOf NZ.out
  have l0:Vr.cell? ⟨D4,0,none⟩=some (.int .i64 (t.w:Int)):=NE 0
  have l1:Vr.cell? ⟨D4,1,none⟩=some (.slice a2 (nw t.w) c2):=NE 1
  have l2:Vr.cell? ⟨D4,2,none⟩=some (.slice b2 (aI t t.w t.copies.length).length d2):=NE 2
  have l3:Vr.cell? ⟨Sb,0,none⟩=some (.int .i64 (t.w:Int)):=cSb 0
  have l4:Vr.cell? ⟨Sb,1,none⟩=some (.slice a7 (nw t.w) c7):=cSb 1
  have n1:D4≠X:=fun e=>hm.r2.2.2.2.1 (.inl e)
  have hv4:¬(Value.slice av L.length cv).ownBlock=some D4:=fun e=>hm.r2.2.2.2.1 (.inr (by have:=(hm.s.lt _ e).1;omega))
  have n2:Sb≠X:=hSX
  have Tp:Hid (fV t.w (aI t t.w t.copies.length) (k+1)=fV t.w (aI t t.w t.copies.length) k++[gQ (aI t t.w t.copies.length) t.w (2 ^ k)]):=aa (Cx _ _ _)
  clear NE cSb hSX
  refine uW (fun w'=>w'.cell? ⟨D4,0,none⟩=some (.int .i64 (t.w:Int))∧w'.cell? ⟨D4,1,none⟩=some (.slice a2 (nw t.w) c2)∧w'.cell? ⟨D4,2,none⟩=some (.slice b2 (aI t t.w t.copies.length).length d2)∧w'.cell? ⟨Sb,0,none⟩=some (.int .i64 (t.w:Int))∧w'.cell? ⟨Sb,1,none⟩=some (.slice a7 (nw t.w) c7)) dH fun hHeld=>?_
  replace hm:=aa (hm.aC (nR _ _ _ _ _ _ _ _ _ _ _) (Ext.refl No Vr).drew)
  replace hT:=aa (hT.ext (Ext.refl No Vr).drew)
  replace hset:=aa (hset.aj (Ext.refl No Vr).drew)
  clear NZ
  generalize Vr.drew=v0 at*
  refine uO [0,2,3] ?_
  iterate 3 refine uT ?_ (hy:=aM)
  refine uZ ?_
  refine aN (i:=1) (j:=4) (by kernel_rfl) (aD.mk rfl rfl (fun K hK=>?_)) (aD.mk rfl rfl (fun K hK=>?_))
  ·((have cX:=cellOf hm.dU);go_simp;(clear cX))
   refine uK hK dH ?_
   clear hK K hHeld
   intro hHeld
   skip
   refine hHc 4 fun K hK=>?_
   (go_simp;go_at_call 130;(with_reducible refine (rA (fun b=>((M b∨b=W.heap.size+1)∨b=X)∨(Value.slice av L.length cv).ownBlock=some b) t.w (2 ^ k) (aI t t.w t.copies.length) _ _ _ _ ?_ ?_ (rG _ _ _) ?_ (gU _ _ _) ?_).mono ?_);(exact hm.hM (fun b hb=>by rcases hb with hb|rfl;exact Nat.lt_of_lt_of_le (HM b hb) hm.ext.size;exact lt_of_block hm.r2.2.1.1));(exact hT);(exact hm.r2.2.2.2.2.sets.no);(exact hset);(rintro e8 w8 ⟨a8,c8,rfl,BM,aF⟩);go_simp)
   refine uK hK dH ?_
   clear hK K hHeld
   intro hHeld
   replace hm:=aa (hm.aC (nR _ _ _ _ _ _ _ _ _ _ _) aF)
   replace hT:=aa (hT.ext aF)
   have vK:=aa BM.out
   clear aF hset BM
   exact Gx
  (go_simp;go_at_call 130;(with_reducible refine (rA (fun b=>((M b∨b=W.heap.size+1)∨b=X)∨(Value.slice av L.length cv).ownBlock=some b) t.w (2 ^ k) (aI t t.w t.copies.length) _ _ _ _ ?_ ?_ (rG _ _ _) ?_ (gU _ _ _) ?_).mono ?_);(exact hm.hM (fun b hb=>by rcases hb with hb|rfl;exact Nat.lt_of_lt_of_le (HM b hb) hm.ext.size;exact lt_of_block hm.r2.2.1.1));(exact hT);(exact hm.r2.2.2.2.2.sets.no);(exact hset);(rintro e8 w8 ⟨a8,c8,rfl,BM,aF⟩);go_simp)
  refine uK hK dH ?_
  clear hK K hHeld
  intro hHeld
  replace hm:=aa (hm.aC (nR _ _ _ _ _ _ _ _ _ _ _) aF)
  replace hT:=aa (hT.ext aF)
  have vK:=aa BM.out
  clear aF hset BM
  refine aN (i:=1) (j:=5) (by kernel_rfl) (aD.mk rfl rfl (fun K hK=>?_)) (aD.mk rfl rfl (fun K hK=>?_))
  ·((have cX:=cellOf hm.dU);go_simp;(clear cX))
   refine uK hK dH ?_
   clear hK K hHeld
   intro hHeld
   skip
   exact Gx
  go_simp
  refine uK hK dH ?_
  clear hK K hHeld
  intro hHeld
  have _hb:=vK
  refine hHc 1 fun K hK=>?_
  ((have cX:=cellOf hm.dU);(have ZL:=cellOf (ay (o:= .cells #[.int .i64 (t.w:Int),.slice a8 (nw t.w) c8] 44) hm.dU));go_simp;(clear cX ZL))
  refine uK hK dH ?_
  clear hK K hHeld
  intro hHeld
  skip
  exact Gw
 obtain rfl:k=t.w:=by omega
 have cX:=cellOf hm.dU
 have VM:=aa (show L.length=(fV t.w (aI t t.w t.copies.length) t.w).length by have:=congrArg List.length HL.out;simpa using this)
 have Ce:Hid (∀m∈aI t t.w t.copies.length,m < 2 ^ t.w):=aa (hm.r2.2.2.2.2.hm)
 have ZP:=aa (show fM No wr (.slice av L.length cv) t.w (fV t.w (aI t t.w t.copies.length) t.w) from ⟨⟨L,hm.s.sets (M:=No) (fun _ _ x=>x) (fun _ x=>x.elim),HL⟩,hw,fun m hmm=>by
  obtain ⟨b,hb,rfl⟩:=List.mem_map.1 hmm
  exact (jE Ce (eZ (List.mem_range.1 hb))).lt⟩)
 clear hLn
 go_wp2_with fail
 refine (yV (fun b=>M b∨b=W.heap.size+1) t.w (gQ (aI t t.w t.copies.length) t.w t.gen) (fV t.w (aI t t.w t.copies.length) t.w) _ _ _ (fun b hb=>?_) hT (hm.gen.mono (fun i _ e=> .inl e)) ZP (xq _ _ _)).mono ?_
 ·exact FQ
 rintro e6 w6 hpost
 have uf:=aa hm.ext
 have Iz:Hid (∀(w':World),Ext No wr w'→w'.heap[W.heap.size+1]? =some (.cells #[.int .i64 0,.slice none 0 0,.int .i64 0,.slice none 0 0,.slice none 0 0] 47 (0,0))):=aa (fun w' hx=>hx.blk hm.r2.2.1.1 ax)
 clear hm hT cX ZP
 by_cases hc:(fu t.w (gQ (aI t t.w t.copies.length) t.w t.gen) (fV t.w (aI t t.w t.copies.length) t.w) t.w).length≤64
 ·have hp1:=hpost.1 hc
  generalize htr:jc t.w (gQ (aI t t.w t.copies.length) t.w t.gen) (fV t.w (aI t t.w t.copies.length) t.w)=tr at hp1
  obtain ⟨fg,eg,fk,ek,fc,ec,rfl,hTr,hx6⟩:=hp1
  have jW:=Iz.out _ hx6
  have cC:=cellOf jW
  have fC:=aH jW
  have uh:=aa jW
  have BF:=aa htr
  clear hpost jW htr
  go_wp2_with fail
  have hfin:=bY.qy ⟨_,rfl,uh⟩ (.int .i64 (tr.w:Int)) (.slice fg (nw tr.w) eg) (.int .i64 (tr.w:Int)) (.slice fk (nw tr.w) ek) (.slice fc tr.copies.length ec)
  have hE:=pF w6 (W.heap.size+1) (.int .i64 (tr.w:Int)) (.slice fg (nw tr.w) eg) (.int .i64 (tr.w:Int)) (.slice fk (nw tr.w) ek) (.slice fc tr.copies.length ec)
  clear cC fC
  generalize World.setCell (World.setCell (World.setCell (World.setCell (World.setCell w6 _ _) _ _) _ _) _ _) _ _=WF at*
  have cF:=cellOf hfin
  refine aW rfl ?_
  simp [results,Tryz.results97,go_sem,cF]
  exact mW
 obtain ⟨rfl,hx6⟩:=hpost.2 (by omega)
 have jW:=Iz.out _ hx6
 have cC:=cellOf jW
 have fC:=aH jW
 have uh:=aa jW
 clear hpost jW
 go_wp2_with fail
 have hfin:=bY.qy ⟨_,rfl,uh⟩ (.int .i64 0) (.slice none 0 0) (.int .i64 0) (.slice none 0 0) (.slice none 0 0)
 have hE:=pF w6 (W.heap.size+1) (.int .i64 0) (.slice none 0 0) (.int .i64 0) (.slice none 0 0) (.slice none 0 0)
 clear cC fC
 generalize World.setCell (World.setCell (World.setCell (World.setCell (World.setCell w6 _ _) _ _) _ _) _ _) _ _=WF at*
 have cF:=cellOf hfin
 refine aW rfl ?_
 simp [results,Tryz.results97,go_sem,cF]
 exact mX
